/-
  What ScriptBack leans on, in plain Lean: picks of what is written, time of two scripts together.
-/
import Derived.Test.YteejgejeggackaaLScriptTells
namespace Go.Proofs.Yteejgejeggackaa
open Go.RowKit in
theorem hold {p : Prop} (h : Hid p) : p := h.out
namespace Script
theorem pick_right (v : Int) : right (pick v).1 (pick v).2 = true := by
  unfold right pick
  by_cases h : 0 ≤ v
  · rw [if_pos h]; simp; omega
  · rw [if_neg h]; simp; omega
theorem pick_wr (v : Int) : pick (wr (pick v).1 (pick v).2) = pick v ∧ -9223372036854775808 ≤ wr (pick v).1 (pick v).2 ∧ wr (pick v).1 (pick v).2 ≤ 9223372036854775807 := by
  by_cases h : 0 ≤ v
  · have e : pick v = (0, v % 16) := by rw [pick, if_pos h]
    rw [e]
    simp only [wr]
    rw [if_neg (by omega)]
    have h0 : 0 ≤ v % 16 := by omega
    refine ⟨?_, by omega, by omega⟩
    rw [pick, if_pos h0]
    congr 1
    omega
  · have e : pick v = (1, min (-v) 4611686018427387904) := by rw [pick, if_neg h]
    rw [e]
    simp only [wr, if_true]
    refine ⟨?_, by omega, by omega⟩
    rw [pick, if_neg (by omega)]
    congr 1
    omega
theorem pick_sign (v : Int) : (decide (0 ≤ v) : Bool) = ((pick v).1 == 0) := by
  by_cases h : 0 ≤ v
  · rw [pick, if_pos h]; simp [h]
  · rw [pick, if_neg h]; simp; omega
theorem share_append (who : Int) (xs ys : List Int) : share who (xs ++ ys) = share who xs + share who ys := by
  unfold share
  rw [List.countP_append]
theorem snoc_induct {α : Type} {P : List α → Prop} (h0 : P []) (hs : ∀ l x, P l → P (l ++ [x])) (l : List α) : P l := by
  have h : ∀ l : List α, P l.reverse := by
    intro l
    induction l with
    | nil => exact h0
    | cons x l ih => rw [List.reverse_cons]; exact hs _ _ ih
  have := h l.reverse
  rwa [List.reverse_reverse] at this
theorem fold_from (s : Int) (h0 : 0 ≤ s) (h1 : s ≤ 4611686018427387904) (ys : List Int) : (∀ t, timeOf ys = some t → 0 ≤ t) ∧ ys.foldl tstep (some s) = (timeOf ys).bind fun t => if s + t ≤ 4611686018427387904 then some (s + t) else none := by
  refine snoc_induct (P := fun ys => (∀ t, timeOf ys = some t → 0 ≤ t) ∧ ys.foldl tstep (some s) = (timeOf ys).bind fun t => if s + t ≤ 4611686018427387904 then some (s + t) else none) ?_ ?_ ys
  · refine ⟨fun t ht => by simp [timeOf] at ht; omega, ?_⟩
    simp [timeOf, h1]
  · rintro l x ⟨hp, ih⟩
    rw [timeOf_snoc, List.foldl_append, ih]
    have hb := pick_bd x
    simp only [List.foldl_cons, List.foldl_nil]
    cases h : timeOf l with
    | none => exact ⟨by intro t ht; simp [tstep] at ht, by simp [tstep]⟩
    | some t =>
      have ht := hp t h
      simp only [Option.bind_some, tstep]
      generalize (pick x).2 = d at *
      generalize (pick x).1 = k at *
      refine ⟨?_, ?_⟩
      · intro u hu
        split at hu
        · split at hu
          · have := Option.some.inj hu; omega
          · cases hu
        · have := Option.some.inj hu; omega
      · by_cases hk : k = 1
        · simp only [hk, if_true]
          by_cases h2 : t + d ≤ 4611686018427387904
          · rw [if_pos h2]
            by_cases h3 : s + t ≤ 4611686018427387904
            · rw [if_pos h3]
              simp only [Option.bind_some]
              rw [show s + (t + d) = s + t + d by omega]
            · rw [if_neg h3]
              simp only [Option.bind_some, Option.bind_none]
              rw [if_neg (by omega)]
          · rw [if_neg h2]
            by_cases h3 : s + t ≤ 4611686018427387904
            · rw [if_pos h3]
              simp only [Option.bind_some, Option.bind_none]
              rw [if_neg (by omega)]
            · rw [if_neg h3]
              rfl
        · simp only [if_neg hk, Option.bind_some]
          by_cases h3 : s + t ≤ 4611686018427387904
          · rw [if_pos h3]; simp
          · rw [if_neg h3]; rfl
/-- The time of two scripts, one behind the other. -/
theorem time_append (xs ys : List Int) (hp : ∀ t, timeOf xs = some t → 0 ≤ t ∧ t ≤ 4611686018427387904) : timeOf (xs ++ ys) = (timeOf xs).bind fun s => (timeOf ys).bind fun t => if s + t ≤ 4611686018427387904 then some (s + t) else none := by
  unfold timeOf
  rw [List.foldl_append]
  show ys.foldl tstep (timeOf xs) = _
  cases h : timeOf xs with
  | none => rw [show xs.foldl tstep (some 0) = none from h, fold_none]; rfl
  | some s =>
    obtain ⟨h0, h1⟩ := hp s h
    rw [show xs.foldl tstep (some 0) = some s from h]
    exact (fold_from s h0 h1 ys).2
end Script
end Go.Proofs.Yteejgejeggackaa
