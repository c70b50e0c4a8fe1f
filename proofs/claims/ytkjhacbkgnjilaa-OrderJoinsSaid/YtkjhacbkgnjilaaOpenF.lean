/-
  An argument that is a slice of floats, opened.
-/
import Derived.Test.YtkjhacbkgnjilaaOrderRow
namespace Go.Proofs.Ytkjhacbkgnjilaa
open Go.RowKit Go.ChangeShapes Go.WideShapes
section
variable {H : Type} {enc : TypeId × Value → H} {P : Program} {w : World} {base : Nat} {spare : Nat → Bool} {held : Bool}
theorem trod_float1 {t : TypeId} {n : Nat} {v : Value} {x : DataW H × List MemPlace} (ht : P.underlying t = some (.float .f64)) (h : DataW.trod enc P w base spare held n t [v] = some x) :
    ∃ b, v = .float .f64 b ∧ (Lit.float .f64 b).wf = true := by
  cases n with
  | zero => simp [DataW.trod] at h
  | succ n =>
    simp only [DataW.trod, ht] at h
    cases v with
    | float k b =>
      cases k
      · simp at h
      · by_cases hw : (Lit.float .f64 b).wf = true
        · exact ⟨b, rfl, hw⟩
        · simp [hw] at h
    | _ => simp at h
def bitsOf (v : Value) : Nat := match v with | .float _ b => b | _ => 0
theorem open_row_float {t e : TypeId} {r : Reach} {b0 : Nat} {w : World} {v : Value} {d : DataW H} {ps : List MemPlace} (ht : P.underlying t = some (.slice e)) (he : P.underlying e = some (.float .f64)) (hC : P.cellsOf e = 1)
    (hv : Value.okWide P w r b0 t v) (h : DataW.Trod enc P w 0 (fun _ => true) true t v d ps) :
    ∃ (A : Option Addr) (n c : Nat) (L : List Nat), v = .slice A n c ∧ Sorts.okF L ∧ Reads w w.heap.size 1 A n (Sorts.Fs L) ∧ n ≤ c ∧ c ≤ maxLen := by
  obtain ⟨A, n, c, rfl⟩ := okWide_slice ht hv
  obtain ⟨fuel, hf⟩ := h
  rcases Go.Deep.open_slice1 ht hC hf with ⟨hcs, _⟩ | ⟨a, len, cap, m, k, V, D, Pl, hcs, _, hl, hm, hmm, _, hx⟩
  · simp [Value.cells] at hcs
    obtain ⟨rfl, rfl, rfl⟩ := hcs
    exact ⟨none, 0, 0, [], rfl, fun x hx => by simp at hx, Reads.none_, Nat.le_refl _, by simp [maxLen]⟩
  · simp [Value.cells] at hcs
    obtain ⟨rfl, rfl, rfl⟩ := hcs
    simp at hmm
    have hV : ∀ i, i < n → V i = .float .f64 (bitsOf (V i)) ∧ bitsOf (V i) < 18446744073709551616 ∧ w.cell? (a.add i) = some (V i) := fun i hi => by
      obtain ⟨h1, h2⟩ := hx i (by omega)
      obtain ⟨b, hb, hw⟩ := trod_float1 he h2
      rw [hb] at h1 ⊢
      exact ⟨rfl, Fl.wf_lt hw, h1⟩
    refine ⟨some a, n, c, (List.range n).map (fun i => bitsOf (V i)), rfl, fun x hx => ?_, ⟨by simp [Sorts.Fs], fun hn => ⟨a, rfl, ?_, fun j u hu => ?_⟩⟩, hl, hm⟩
    · obtain ⟨i, hi, rfl⟩ := List.mem_map.1 hx
      exact (hV i (by simpa using hi)).2.1
    · have := lt_of_cell (hV 0 hn).2.2
      rwa [block_of_add] at this
    · obtain ⟨hj, rfl⟩ := List.getElem?_eq_some_iff.1 hu
      simp [Sorts.Fs] at hj
      rw [(hV j hj).2.2]
      simp only [Sorts.Fs, List.getElem_map, List.getElem_range]
      exact congrArg some (hV j hj).1
end
end Go.Proofs.Ytkjhacbkgnjilaa
