/-
  An argument that is a slice of arrays of two ints, opened to a list of pairs.
-/
import Derived.Test.YteejgejeggackaaOpen
import Derived.OpenShut
namespace Go.Proofs.Yteejgejeggackaa
open Go.RowKit Go.ChangeShapes Go.WideShapes Go.Deep
theorem flat_take {α : Type} (c : α → List Value) (m : Nat) (hm : ∀ x, (c x).length = m) : ∀ (l : List α) (k : Nat), (l.flatMap c).take (k * m) = (l.take k).flatMap c
  | [], k => by simp
  | y :: l, 0 => by simp
  | y :: l, k + 1 => by
    have hy : (c y).length = m := hm y
    rw [List.take_succ_cons, List.flatMap_cons, List.flatMap_cons, ← flat_take c m hm l k, Nat.succ_mul, List.take_append, hy, List.take_of_length_le (by omega), Nat.add_sub_cancel]
section
variable {H : Type} {enc : TypeId × Value → H} {P : Program}
theorem open_row_two {t e ei : TypeId} {r : Reach} {b0 : Nat} {w : World} {v : Value} {d : DataW H} {ps : List MemPlace} (ht : P.underlying t = some (.slice e)) (he : P.underlying e = some (.array 2 ei)) (hi : P.underlying ei = some (.int .i64))
    (hC : P.cellsOf e = 2) (hCi : P.cellsOf ei = 1)
    (hv : Value.okWide P w r b0 t v) (h : DataW.Trod enc P w 0 (fun _ => true) true t v d ps) :
    ∃ (A : Option Addr) (n c : Nat) (gs : List (Int × Int)), v = .slice A n c ∧ (∀ g ∈ gs, (Lit.int .i64 g.1).wf = true ∧ (Lit.int .i64 g.2).wf = true) ∧ Reads w w.heap.size 2 A n (gs.flatMap fun g => [.int .i64 g.1, .int .i64 g.2]) ∧ n ≤ c ∧ c ≤ maxLen := by
  obtain ⟨A, n, c, rfl⟩ := okWide_slice ht hv
  obtain ⟨fuel, hf⟩ := h
  rcases open_slice ht hf with ⟨hcs, _⟩ | ⟨a, len, cap, m, k, D, Pl, hcs, _, hl, hm, hmm, _, hel⟩
  · simp [Value.cells] at hcs
    obtain ⟨rfl, rfl, rfl⟩ := hcs
    exact ⟨none, 0, 0, [], rfl, by simp, Reads.none_, Nat.le_refl _, by simp [maxLen]⟩
  · simp [Value.cells] at hcs
    obtain ⟨rfl, rfl, rfl⟩ := hcs
    simp at hmm
    obtain ⟨gs, hgl, hg⟩ := list_of (P := fun i (g : Int × Int) => w.cell? (a.add (i * 2)) = some (.int .i64 g.1) ∧ w.cell? (a.add (i * 2 + 1)) = some (.int .i64 g.2) ∧ (Lit.int .i64 g.1).wf = true ∧ (Lit.int .i64 g.2).wf = true) n (fun i hi' => by
      obtain ⟨cs', hc, ht'⟩ := hel i (by omega)
      rw [hC] at hc
      obtain ⟨ys, n', _, _, _, hyl, hf⟩ := DataW.trod_array he ht'
      obtain ⟨_, hcl, hat⟩ := World.cells?_some hc
      have e0 := hf 0 (by omega)
      have e1 := hf 1 (by omega)
      rw [hCi] at e0 e1
      obtain ⟨x, y, rfl⟩ : ∃ x y, cs' = [x, y] := by
        match cs', hcl with
        | [x, y], _ => exact ⟨x, y, rfl⟩
      rw [List.getElem?_eq_getElem (by omega)] at e0 e1
      obtain ⟨s0, q0, _, w0⟩ := DataW.trod_int hi e0
      obtain ⟨s1, q1, _, w1⟩ := DataW.trod_int hi e1
      simp at q0 q1
      subst q0 q1
      have k0 := hat 0 (by omega)
      have k1 := hat 1 (by omega)
      rw [Go.Deep.add_add] at k0 k1
      exact ⟨(s0, s1), by simpa using k0, by simpa using k1, w0, w1⟩)
    refine ⟨some a, n, c, gs, rfl, fun g hgm => ?_, Reads.mk_flat (fun g : Int × Int => [.int .i64 g.1, .int .i64 g.2]) (fun _ => rfl) (by omega) gs hgl (fun i x hx r u hu => ?_) (fun hn => ?_), hl, hm⟩
    · obtain ⟨i, hi⟩ := List.getElem?_of_mem hgm
      exact (hg i g hi).2.2
    · obtain ⟨k0, k1, _⟩ := hg i x hx
      match r, hu with
      | 0, hu => simp at hu; subst hu; simpa using k0
      | 1, hu => simp at hu; subst hu; exact k1
      | r + 2, hu => simp at hu
    · have hx : gs[0]? = some gs[0] := List.getElem?_eq_getElem (by omega)
      have := lt_of_cell (hg 0 _ hx).1
      rwa [block_of_add] at this
end
end Go.Proofs.Yteejgejeggackaa
