/-
  A row of floats of the call's own, in one block from its beginning on.
-/
import Derived.Test.YtkjhacbkgnjilaaSortLaw
import Derived.Test.YtkjhacbkgnjilaaSide
import Derived.Test.YtkjhacbkgnjilaaWords2
namespace Go.Proofs.Ytkjhacbkgnjilaa
open Go.RowKit
namespace Sorts
def RowF (w : World) (g n c : Nat) (L : List Nat) : Prop := L.length = n ∧ ∃ cur, w.heap[g]? = some (.cells cur 22 (0, 0)) ∧ cur.size = c ∧ n ≤ c ∧ cur.toList.take n = L.map (Value.float .f64)
section
variable {w w' : World} {g n c : Nat} {L : List Nat}
theorem RowF.len (h : RowF w g n c L) : L.length = n := h.1
theorem RowF.lt (h : RowF w g n c L) : g < w.heap.size := by
  obtain ⟨_, cur, hh, _⟩ := h
  exact Blk.lt hh
theorem RowF.block (h : RowF w g n c L) (hk : w'.heap[g]? = w.heap[g]?) : RowF w' g n c L := by
  obtain ⟨hl, cur, hh, h2⟩ := h
  exact ⟨hl, cur, hk.trans hh, h2⟩
theorem RowF.fr (h : RowF w g n c L) (i : Nat) : w.frozen? ⟨g, i, none⟩ = false := by
  obtain ⟨_, cur, hh, _⟩ := h
  exact Blk.frozen hh i
theorem RowF.get (h : RowF w g n c L) {i : Nat} (hi : i < n) : w.cell? ⟨g, i, none⟩ = some (.float .f64 (L.getD i 0)) := by
  obtain ⟨hl, cur, hh, hs, hn, hc⟩ := h
  rw [Blk.cell hh]
  have e : cur.toList[i]? = some (.float .f64 (L.getD i 0)) := by
    have h1 : (cur.toList.take n)[i]? = cur.toList[i]? := by rw [List.getElem?_take, if_pos hi]
    rw [← h1, hc, List.getElem?_map, List.getD_eq_getElem?_getD, List.getElem?_eq_getElem (by omega)]
    rfl
  simpa using e
theorem RowF.set (h : RowF w g n c L) {i : Nat} (_hi : i < n) (v : Nat) : RowF (w.setCell ⟨g, i, none⟩ (.float .f64 v)) g n c (L.set i v) := by
  obtain ⟨hl, cur, hh, hs, hn, hc⟩ := h
  refine ⟨by simp [hl], _, Blk.set_ hh _ _, by simp [hs], hn, ?_⟩
  rw [Array.toList_setIfInBounds, List.take_set, hc, List.map_set]
/-- Two places changed what they had: the cells are written one behind the other. -/
theorem RowF.swap (h : RowF w g n c L) {i j : Nat} (hi : i < n) (hj : j < n) : RowF ((w.setCell ⟨g, i, none⟩ (.float .f64 (L.getD j 0))).setCell ⟨g, j, none⟩ (.float .f64 (L.getD i 0))) g n c (swp L i j) := (h.set hi _).set hj _
end
end Sorts
end Go.Proofs.Ytkjhacbkgnjilaa
