/-
  Sums of floats, as plain relations: what one more comes to, what all come to; that two such are alike. The least and the greatest of some.
-/
import Derived.Test.YtkjhacbkgnjilaaOrderRef
import Derived.Test.YtkjhacbkgnjilaaOrderShare
import Derived.Test.YtkjhacbkgnjilaaSortCmp
namespace Go.Proofs.Ytkjhacbkgnjilaa
open Go.RowKit
namespace Fl
def same (a b : Nat) : Prop := a = b ∨ (nan a = true ∧ nan b = true)
theorem same_rank {a b : Nat} (h : same a b) : rank a = rank b := by
  rcases h with rfl | ⟨h1, h2⟩
  · rfl
  · simp [rank, h1, h2]
theorem alike_of {a b : Nat} (h : rank a = rank b) : alike a b = true := decide_eq_true h
theorem add_nan {x y : Nat} (h : nan x = true ∨ nan y = true) : floatBits .add .f64 x y = none := by
  show Ieee.double.add x y = none
  unfold Ieee.Format.add
  rcases h with h | h
  · obtain ⟨f, hf⟩ := read_nan (b := x) (by simpa [nan] using h)
    rw [hf]
    rfl
  · obtain ⟨f, hf⟩ := read_nan (b := y) (by simpa [nan] using h)
    rw [hf]
    cases Ieee.double.read x <;> rfl
/-- What one more comes to: the sum, or any that is no number. -/
def addOf (a x m : Nat) : Prop := m < 18446744073709551616 ∧ (∀ q, floatBits .add .f64 a x = some q → m = q) ∧ (floatBits .add .f64 a x = none → nan m = true)
theorem addOf_some {a x q : Nat} (h : floatBits .add .f64 a x = some q) : addOf a x q := ⟨bits_lt h, fun p hp => by rw [h] at hp; exact Option.some.inj hp, fun hn => by rw [h] at hn; cases hn⟩
theorem addOf_none {a x : Nat} (h : floatBits .add .f64 a x = none) (n : Nat) : addOf a x (anyNan n) := ⟨anyNan_lt n, fun p hp => by (rw [h] at hp; cases hp), fun _ => anyNan_nan n⟩
theorem addOf_same {a b x m k : Nat} (h : same a b) (h1 : addOf a x m) (h2 : addOf b x k) : same m k := by
  rcases h with rfl | ⟨n1, n2⟩
  · cases hb : floatBits .add .f64 a x with
    | some q => exact .inl ((h1.2.1 q hb).trans (h2.2.1 q hb).symm)
    | none => exact .inr ⟨h1.2.2 hb, h2.2.2 hb⟩
  · exact .inr ⟨h1.2.2 (add_nan (.inl n1)), h2.2.2 (add_nan (.inl n2))⟩
def sumR (a : Nat) : List Nat → Nat → Prop
  | [], r => r = a
  | x :: xs, r => ∃ m, sumR a xs m ∧ addOf m x r
theorem sumR_same {a : Nat} : ∀ {L : List Nat} {r s : Nat}, sumR a L r → sumR a L s → same r s
  | [], _, _, h1, h2 => .inl (h1.trans h2.symm)
  | _ :: _, _, _, ⟨_, h1, k1⟩, ⟨_, h2, k2⟩ => addOf_same (sumR_same h1 h2) k1 k2
def sumOf (a : Nat) (L : List Nat) (r : Nat) : Prop := sumR a L.reverse r
theorem sumOf_nil (a : Nat) : sumOf a [] a := rfl
theorem sumOf_more {a x m r : Nat} {L : List Nat} (h : sumOf a L m) (k : addOf m x r) : sumOf a (L ++ [x]) r := by
  unfold sumOf
  rw [List.reverse_append]
  exact ⟨m, h, k⟩
theorem sumOf_last {a x r : Nat} {L : List Nat} (h : sumOf a (L ++ [x]) r) : ∃ m, sumOf a L m ∧ addOf m x r := by
  unfold sumOf at h
  rw [List.reverse_append] at h
  exact h
theorem sumOf_same {a r s : Nat} {L : List Nat} (h : sumOf a L r) (k : sumOf a L s) : same r s := sumR_same h k
theorem sumR_lt {a : Nat} (ha : a < 18446744073709551616) : ∀ {L : List Nat} {r : Nat}, sumR a L r → r < 18446744073709551616
  | [], _, h => by rw [show _ = a from h]; exact ha
  | _ :: _, _, ⟨_, _, k⟩ => k.1
/-- What some come to: the least, the greatest, the sum. -/
structure AllOf (L : List Nat) (mn mx sm : Nat) : Prop where
  inn : mn ∈ L
  low : ∀ x ∈ L, rank mn ≤ rank x
  inx : mx ∈ L
  high : ∀ x ∈ L, rank x ≤ rank mx
  sum : sumOf (L.getD 0 0) L.tail sm
section
variable {L A B : List Nat} {mn mx sm mn' mx' sm' a b c : Nat}
theorem allOf_alike (h : AllOf L mn mx sm) (k : AllOf L mn' mx' sm') : rank mn = rank mn' ∧ rank mx = rank mx' ∧ rank sm = rank sm' :=
  ⟨Int.le_antisymm (h.low _ k.inn) (k.low _ h.inn), Int.le_antisymm (k.high _ h.inx) (h.high _ k.inx), same_rank (sumOf_same h.sum k.sum)⟩
theorem allOf_of {D : List Nat} (hs : Sorts.Srt rank D) (hp : D.Perm L) (h0 : 0 < L.length) (hsum : sumOf (L.getD 0 0) L.tail sm) : AllOf L (D.getD 0 0) (D.getD (L.length - 1) 0) sm := by
  have hl := hp.length_eq
  have hg : ∀ i, i < D.length → D.getD i 0 ∈ D := fun i hi => by
    rw [List.getD_eq_getElem?_getD, List.getElem?_eq_getElem hi]
    exact List.getElem_mem hi
  have hord : ∀ i j, i ≤ j → j < D.length → rank (D.getD i 0) ≤ rank (D.getD j 0) := fun i j hij hj => by
    rw [List.getD_eq_getElem?_getD, List.getElem?_eq_getElem (by omega), List.getD_eq_getElem?_getD, List.getElem?_eq_getElem hj]
    rcases Nat.lt_or_eq_of_le hij with h | h
    · exact List.pairwise_iff_getElem.1 hs i j (by omega) hj h
    · subst h; exact Int.le_refl _
  have hof : ∀ x ∈ L, ∃ i, i < D.length ∧ D.getD i 0 = x := fun x hx => by
    obtain ⟨i, hi, he⟩ := List.mem_iff_getElem.1 (hp.mem_iff.2 hx)
    exact ⟨i, hi, by rw [List.getD_eq_getElem?_getD, List.getElem?_eq_getElem hi]; exact he⟩
  refine ⟨hp.mem_iff.1 (hg 0 (by omega)), fun x hx => ?_, hp.mem_iff.1 (hg _ (by omega)), fun x hx => ?_, hsum⟩
  · obtain ⟨i, hi, rfl⟩ := hof x hx
    exact hord 0 i (by omega) hi
  · obtain ⟨i, hi, rfl⟩ := hof x hx
    exact hord i _ (by omega) (by omega)
theorem allOf_least (h : AllOf A mn mx sm) (k : AllOf B mn' mx' sm') (j : AllOf (A ++ B) a b c) : rank a = rank (if ahead mn' mn then mn' else mn) := by
  have h1 := j.low mn (List.mem_append_left _ h.inn)
  have h2 := j.low mn' (List.mem_append_right _ k.inn)
  have h3 : rank mn ≤ rank a ∨ rank mn' ≤ rank a := by
    rcases List.mem_append.1 j.inn with q | q
    · exact .inl (h.low _ q)
    · exact .inr (k.low _ q)
  by_cases hq : rank mn' < rank mn
  · rw [if_pos (show ahead mn' mn = true from decide_eq_true hq)]; omega
  · rw [if_neg (by rw [show ahead mn' mn = false from decide_eq_false hq]; simp)]; omega
theorem allOf_greatest (h : AllOf A mn mx sm) (k : AllOf B mn' mx' sm') (j : AllOf (A ++ B) a b c) : rank b = rank (if ahead mx mx' then mx' else mx) := by
  have h1 := j.high mx (List.mem_append_left _ h.inx)
  have h2 := j.high mx' (List.mem_append_right _ k.inx)
  have h3 : rank b ≤ rank mx ∨ rank b ≤ rank mx' := by
    rcases List.mem_append.1 j.inx with q | q
    · exact .inl (h.high _ q)
    · exact .inr (k.high _ q)
  by_cases hq : rank mx < rank mx'
  · rw [if_pos (show ahead mx mx' = true from decide_eq_true hq)]; omega
  · rw [if_neg (by rw [show ahead mx mx' = false from decide_eq_false hq]; simp)]; omega
theorem allOf_more {x r : Nat} (h0 : A ≠ []) (h : AllOf A mn mx sm) (j : AllOf (A ++ [x]) a b c) (k : addOf sm x r) : rank c = rank r := by
  cases A with
  | nil => exact absurd rfl h0
  | cons y ys =>
    have h1 := h.sum
    have h2 : sumOf y (ys ++ [x]) c := j.sum
    exact same_rank (sumOf_same h2 (sumOf_more (show sumOf y ys sm from h1) k))
end
/-- As often among some as among the others. -/
def often (f : Nat) (L : List Nat) (k : Nat) : Nat := (L.take k).countP (alike f)
theorem often_perm {f : Nat} {D L : List Nat} (h : D.Perm L) {k : Nat} (hk : k = L.length) : often f D k = often f L k := by
  unfold often
  rw [List.take_of_length_le (by have := h.length_eq; omega), List.take_of_length_le (by omega)]
  exact h.countP_eq _
theorem often_succ (f : Nat) (L : List Nat) {k : Nat} (hk : k < L.length) : often f L (k + 1) = often f L k + if alike f (L.getD k 0) then 1 else 0 := by
  unfold often
  rw [List.take_succ_eq_append_getElem hk, List.countP_append, List.getD_eq_getElem?_getD, List.getElem?_eq_getElem hk]
  simp [List.countP_cons]
theorem often_le (f : Nat) (L : List Nat) (k : Nat) : often f L k ≤ k := by
  unfold often
  exact Nat.le_trans List.countP_le_length (by rw [List.length_take]; omega)
end Fl
end Go.Proofs.Ytkjhacbkgnjilaa
