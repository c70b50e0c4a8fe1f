/-
  The plain law of FairMore: windows of rows, no program.
-/
import Derived.Test.YteejgejeggackaaFairLive
namespace Go.Proofs.Yteejgejeggackaa
namespace Fair
open Script
def okW (mw zw : List Int) (q : Int) : Bool := (List.range 8).all fun who => !((allOf mw).testBit who) || run who q 0 zw
theorem run_app (who q : Int) : ∀ (xs ys : List Int) (n : Int), run who q n xs = true → run who q n (xs ++ ys) = true
  | [], _, _, h => by simp [run] at h
  | x :: xs, ys, n, h => by
    rw [List.cons_append]
    unfold run at h ⊢
    split at h
    · rw [if_pos ‹_›]
      split at h
      · rw [if_pos ‹_›]
      · rw [if_neg ‹_›]; exact run_app who q xs ys _ h
    · rw [if_neg ‹_›]; exact run_app who q xs ys _ h
theorem run_less (who q q' : Int) (hq : q' ≤ q) : ∀ (xs : List Int) (n : Int), run who q n xs = true → run who q' n xs = true
  | [], _, h => by simp [run] at h
  | x :: xs, n, h => by
    unfold run at h ⊢
    split at h
    · rw [if_pos ‹_›]
      split
      · rfl
      · rw [if_neg (by omega)] at h; exact run_less who q q' hq xs _ h
    · rw [if_neg ‹_›]; exact run_less who q q' hq xs _ h
theorem bit_fold (i : Nat) : ∀ (xs : List Int) (a : Nat), (xs.foldl (fun a m => a &&& m.toNat) a).testBit i = true → a.testBit i = true
  | [], _, h => h
  | x :: xs, a, h => by
    have := bit_fold i xs _ h
    rw [Nat.testBit_and, Bool.and_eq_true] at this
    exact this.1
theorem bit_app (i : Nat) (xs ys : List Int) (h : (allOf (xs ++ ys)).testBit i = true) : (allOf xs).testBit i = true := by
  unfold allOf at h ⊢
  rw [List.foldl_append] at h
  exact bit_fold i ys _ h
theorem okW_app {xs zs ys us : List Int} {q : Int} (h : okW xs zs q = true) : okW (xs ++ ys) (zs ++ us) q = true := by
  unfold okW at h ⊢
  rw [List.all_eq_true] at h ⊢
  intro who hw
  have := h who hw
  cases hb : (allOf (xs ++ ys)).testBit who with
  | false => rfl
  | true =>
    rw [bit_app who xs ys hb] at this
    simp only [Bool.not_true, Bool.false_or] at this ⊢
    exact run_app _ _ _ _ _ this
theorem okW_less {xs zs : List Int} {q q' : Int} (hq : q' ≤ q) (h : okW xs zs q = true) : okW xs zs q' = true := by
  unfold okW at h ⊢
  rw [List.all_eq_true] at h ⊢
  intro who hw
  have := h who hw
  cases hb : (allOf xs).testBit who with
  | false => rfl
  | true =>
    rw [hb] at this
    simp only [Bool.not_true, Bool.false_or] at this ⊢
    exact run_less _ _ _ hq _ _ this
theorem okAt_eq (ms zs : List Int) (K : Nat) (q : Int) (i : Nat) : okAt ms zs K q i = okW ((ms.drop i).take K) ((zs.drop i).take K) q := rfl
theorem fair_iff (ms zs : List Int) (K : Nat) (q : Int) : fair ms zs K q = true ↔ ∀ i, i + K ≤ zs.length → okAt ms zs K q i = true := by
  unfold fair
  rw [List.all_eq_true]
  exact ⟨fun h i hi => h i (List.mem_range.2 (by omega)), fun h i hi => h i (by have := List.mem_range.1 hi; omega)⟩
theorem fair_more {ms zs : List Int} {K : Nat} {q : Int} (h : fair ms zs K q = true) : fair ms zs (K + 1) q = true := by
  rw [fair_iff] at h ⊢
  intro i hi
  have := h i (by omega)
  rw [okAt_eq] at this ⊢
  rw [List.take_add, List.take_add]
  exact okW_app this
theorem fair_less {ms zs : List Int} {K : Nat} {q q' : Int} (hq : q' ≤ q) (h : fair ms zs K q = true) : fair ms zs K q' = true := by
  rw [fair_iff] at h ⊢
  intro i hi
  exact okW_less hq (h i hi)
theorem fair_take {ms zs : List Int} {K a : Nat} {q : Int} (h : fair ms zs K q = true) : fair (ms.take a) (zs.take a) K q = true := by
  rw [fair_iff] at h ⊢
  intro i hi
  rw [List.length_take] at hi
  have := h i (by omega)
  rw [okAt_eq] at this ⊢
  rw [List.drop_take, List.drop_take, List.take_take, List.take_take, show min K (a - i) = K by omega]
  exact this
theorem fair_drop {ms zs : List Int} {K a : Nat} {q : Int} (ha : a ≤ zs.length) (h : fair ms zs K q = true) : fair (ms.drop a) (zs.drop a) K q = true := by
  rw [fair_iff] at h ⊢
  intro i hi
  rw [List.length_drop] at hi
  have := h (a + i) (by omega)
  rw [okAt_eq] at this ⊢
  rw [List.drop_drop, List.drop_drop]
  exact this
theorem totFrom_le (zs : List Int) : ∀ (n : Int), n ≤ 4611686018427387904 → n ≤ totFrom n zs ∧ totFrom n zs ≤ 4611686018427387904 := by
  induction zs with
  | nil => exact fun n h => ⟨Int.le_refl _, h⟩
  | cons z zs ih =>
    intro n h
    unfold totFrom
    split
    · have h2 := pick_nonneg z
      have := ih (min (n + (pick z).2) 4611686018427387904) (by omega)
      omega
    · exact ih n h
theorem totFrom_app (xs ys : List Int) : ∀ n : Int, totFrom n (xs ++ ys) = totFrom (totFrom n xs) ys := by
  induction xs with
  | nil => exact fun _ => rfl
  | cons x xs ih =>
    intro n
    rw [List.cons_append, totFrom, totFrom]
    split <;> exact ih _
theorem live_iff (zs : List Int) (K : Nat) (least : Int) : live zs K least = true ↔ ∀ i, i + K ≤ zs.length → least < totFrom 0 ((zs.drop i).take K) := by
  unfold live
  rw [List.all_eq_true]
  exact ⟨fun h i hi => of_decide_eq_true (h i (List.mem_range.2 (by omega))), fun h i hi => decide_eq_true (h i (by have := List.mem_range.1 hi; omega))⟩
theorem live_more {zs : List Int} {K : Nat} {least : Int} (h : live zs K least = true) : live zs (K + 1) least = true := by
  rw [live_iff] at h ⊢
  intro i hi
  have := h i (by omega)
  rw [List.take_add, totFrom_app]
  have h1 := totFrom_le ((zs.drop i).take K) 0 (by omega)
  have h2 := totFrom_le (((zs.drop i).drop K).take 1) (totFrom 0 ((zs.drop i).take K)) h1.2
  omega
theorem live_less {zs : List Int} {K : Nat} {least : Int} (h : live zs K (least + 1) = true) : live zs K least = true := by
  rw [live_iff] at h ⊢
  intro i hi
  have := h i hi
  omega
end Fair
end Go.Proofs.Yteejgejeggackaa
