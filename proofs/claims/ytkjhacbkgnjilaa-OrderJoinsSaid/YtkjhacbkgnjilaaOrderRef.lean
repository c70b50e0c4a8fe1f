/-
  The contracts of the reference of layer 5 (but its sort): a float's class, which comes ahead, are two alike.
-/
import Derived.Test.YtkjhacbkgnjilaaOrder
namespace Go.Proofs.Ytkjhacbkgnjilaa
open Go.RowKit
attribute [local go_sem] Fl.order_lt Fl.order_gt Fl.order_is Fl.order_ne
namespace Fl
def alike (a b : Nat) : Bool := decide (rank a = rank b)
theorem alike_eq (a b : Nat) : alike a b = (!ahead a b && !ahead b a) := by
  rw [Bool.eq_iff_iff]
  simp [alike, ahead]
  omega
theorem key_zero {b : Nat} (h : key b = 0) : rung b = 0 := by
  unfold key at h
  split at h <;> omega
theorem lt_word (s : Bool) : lt (Ieee.double.word s 9218868437227405312) 0 = s := by
  rw [lt_zero (nan_word s (by omega)), key_word s (by omega)]
  cases s <;> rfl
theorem key_inf {b : Nat} (hn : nan b = false) : rung b = 9218868437227405312 ∨ rung b < 9218868437227405312 := by
  simp [nan] at hn
  omega
theorem nan_c1 : nan 4607182418800017408 = false := by decide
theorem key_c1 : key 4607182418800017408 = 4607182418800017408 := by decide
theorem nan_m1 : nan 13830554455654793216 = false := by decide
theorem key_m1 : key 13830554455654793216 = -4607182418800017408 := by decide
theorem lt_m1 {b : Nat} (h : nan b = false) : lt b 13830554455654793216 = decide (key b < -4607182418800017408) := by rw [lt, h, nan_m1, key_m1]; simp
theorem c1_lt {b : Nat} (h : nan b = false) : lt 4607182418800017408 b = decide (4607182418800017408 < key b) := by rw [lt, h, nan_c1, key_c1]; simp
end Fl
namespace OrderRef
theorem class_ (b : Nat) (w : World) : Calls Try.prog 20 #[.float .f64 b] w fun e w' => e = .returned (.int .i64 (Fl.cls b)) ∧ w = w' := by
  have hs := Fl.eq_self b
  cases hn : Fl.nan b
  · have hc : Fl.cls b = if Fl.key b = -9218868437227405312 then 0 else if Fl.key b = 9218868437227405312 then 5 else if Fl.key b < 0 then 1 else if 0 < Fl.key b then 4 else if Fl.sgn b then 2 else 3 := by rw [Fl.cls, hn]; rfl
    rw [hn] at hs
    have h0 := Fl.eq_zero hn
    have h1 := Fl.lt_zero hn
    have hl := Fl.lt_m1 hn
    have hg := Fl.c1_lt hn
    by_cases k0 : Fl.key b = 0
    · have hd : ∀ w, (binOp .quo 22 (.float .f64 4607182418800017408) (.float .f64 b)).run Try.prog w = .ok (.float .f64 (Ieee.double.word (Fl.sgn b) 9218868437227405312)) w := fun w =>
        run_float_arith w .quo _ .f64 _ _ _ (Fl.div_one_zero (Fl.key_zero k0))
      have hz := Fl.lt_word (Fl.sgn b)
      cases k5 : Fl.sgn b
      · rw [k5] at hd hz hc
        have HC : Hid (Fl.cls b = 3) := by unfold Hid; rw [hc, k0]; rfl
        clear hc
        go_enter Try.func20, Try.ntmps20
        go_wp2_with fail
        go_ret
        exact ⟨ret_int HC.out.symm, rfl⟩
      · rw [k5] at hd hz hc
        have HC : Hid (Fl.cls b = 2) := by unfold Hid; rw [hc, k0]; rfl
        clear hc
        go_enter Try.func20, Try.ntmps20
        go_wp2_with fail
        go_ret
        exact ⟨ret_int HC.out.symm, rfl⟩
    · have hq : ∃ r, Ieee.double.div b 4611686018427387904 = some r ∧ (Fl.key b < -4607182418800017408 ∨ 4607182418800017408 < Fl.key b → Fl.eq r b = decide (Fl.key b = -9218868437227405312 ∨ Fl.key b = 9218868437227405312)) := by
        rcases Fl.key_inf hn with hi | hi
        · refine ⟨_, Fl.div_two_inf hi, fun _ => ?_⟩
          rw [Fl.eq, Fl.nan_word _ (by omega), hn, Fl.key_word _ (by omega), Fl.key_eq b, hi]
          cases Fl.sgn b <;> simp [Fl.sg]
        · obtain ⟨r, hr, hk⟩ := Fl.div_two_fin hi
          refine ⟨r, hr, fun hb => ?_⟩
          obtain ⟨n1, n2⟩ := hk (by rw [Fl.key_eq, Fl.sg] at hb; split at hb <;> omega)
          rw [Fl.eq, n1, hn, decide_eq_false n2]
          have hi2 : Fl.key b ≠ -9218868437227405312 ∧ Fl.key b ≠ 9218868437227405312 := by rw [Fl.key_eq, Fl.sg]; split <;> omega
          simp [hi2.1, hi2.2]
      obtain ⟨r, hr, hk⟩ := hq
      have hd : ∀ w, (binOp .quo 22 (.float .f64 b) (.float .f64 4611686018427387904)).run Try.prog w = .ok (.float .f64 r) w := fun w =>
        run_float_arith w .quo _ .f64 _ _ _ hr
      have HC := Lib.hid hc
      have HK := Lib.hid hk
      clear hc hk hr
      have hb := Fl.key_bd hn
      by_cases k1 : Fl.key b < 0
      · by_cases k2 : Fl.key b = -9218868437227405312
        · have he : Fl.eq r b = true := by rw [HK.out (by omega)]; simp [k2]
          go_enter Try.func20, Try.ntmps20
          go_wp2_with fail
          go_ret
          exact ⟨ret_int (by rw [HC.out, if_pos k2]), rfl⟩
        · have hR : Hid (Fl.cls b = 1) := by unfold Hid; rw [HC.out, if_neg k2, if_neg (by omega), if_pos k1]
          by_cases k3 : Fl.key b < -4607182418800017408
          · have he : Fl.eq r b = false := by rw [HK.out (.inl k3)]; simp; omega
            go_enter Try.func20, Try.ntmps20
            go_wp2_with fail
            go_ret
            exact ⟨ret_int hR.out.symm, rfl⟩
          · cases he : Fl.eq r b
            all_goals
              go_enter Try.func20, Try.ntmps20
              go_wp2_with fail
              go_ret
              exact ⟨ret_int hR.out.symm, rfl⟩
      · by_cases k2 : Fl.key b = 9218868437227405312
        · have he : Fl.eq r b = true := by rw [HK.out (by omega)]; simp [k2]
          go_enter Try.func20, Try.ntmps20
          go_wp2_with fail
          go_ret
          exact ⟨ret_int (by rw [HC.out, if_neg (by omega), if_pos k2]), rfl⟩
        · have hR : Hid (Fl.cls b = 4) := by unfold Hid; rw [HC.out, if_neg (by omega), if_neg k2, if_neg k1, if_pos (by omega)]
          by_cases k3 : 4607182418800017408 < Fl.key b
          · have he : Fl.eq r b = false := by rw [HK.out (.inr k3)]; simp; omega
            go_enter Try.func20, Try.ntmps20
            go_wp2_with fail
            go_ret
            exact ⟨ret_int hR.out.symm, rfl⟩
          · cases he : Fl.eq r b
            all_goals
              go_enter Try.func20, Try.ntmps20
              go_wp2_with fail
              go_ret
              exact ⟨ret_int hR.out.symm, rfl⟩
  · have hc : Fl.cls b = 6 := by rw [Fl.cls, hn]; rfl
    rw [hn] at hs
    go_enter Try.func20, Try.ntmps20
    go_wp2_with fail
    go_ret
    exact ⟨ret_int hc.symm, rfl⟩

theorem lt_in {a b : Nat} (h : Fl.cls a = Fl.cls b) : Fl.lt a b = (decide (Fl.cls a = 1 ∨ Fl.cls a = 4) && Fl.lt a b) := by
  by_cases k : Fl.cls a = 1 ∨ Fl.cls a = 4
  · simp [k]
  · rw [decide_eq_false k, Bool.false_and]
    cases ha : Fl.nan a
    · cases hb : Fl.nan b
      · rw [Fl.lt, ha, hb]
        simp only [Fl.cls, ha, hb, Bool.false_eq_true, if_false] at h k
        simp only [Bool.not_false, Bool.true_and, decide_eq_false_iff_not]
        repeat' split at h
        all_goals simp_all
        all_goals omega
      · simp [Fl.lt, hb]
    · simp [Fl.lt, ha]

theorem ahead_ (a b : Nat) (w : World) : Calls Try.prog 21 #[.float .f64 a, .float .f64 b] w fun e w' => e = .returned (.bool (Fl.ahead a b)) ∧ w = w' := by
  have hc := Lib.hid (Fl.ahead_eq a b)
  have hin := Lib.hid (fun h => lt_in (a := a) (b := b) h)
  obtain ⟨x, hx⟩ : ∃ x, Fl.cls a = x := ⟨_, rfl⟩
  obtain ⟨y, hy⟩ : ∃ y, Fl.cls b = y := ⟨_, rfl⟩
  rw [hx, hy] at hc hin
  have HX := Lib.hid hx
  have HY := Lib.hid hy
  clear hx hy
  go_enter Try.func21, Try.ntmps21
  go_wp2_with fail
  refine (class_ a _).mono ?_
  rintro e w1 ⟨rfl, rfl⟩
  go_wp2_with fail
  refine (class_ b _).mono ?_
  rintro e w1 ⟨rfl, rfl⟩
  rw [HX.out, HY.out]
  by_cases k1 : x = y
  · subst k1
    have hE : Hid (Fl.ahead a b = (decide (x = 1 ∨ x = 4) && Fl.lt a b)) := by unfold Hid; rw [hc.out, ← hin.out rfl]; simp
    clear hc hin HX HY
    by_cases k2 : x = 1
    · subst k2
      go_wp2_with fail
      go_ret
      exact ⟨ret_bool (by rw [hE.out]; simp), rfl⟩
    by_cases k3 : x = 4
    · subst k3
      go_wp2_with fail
      go_ret
      exact ⟨ret_bool (by rw [hE.out]; simp), rfl⟩
    · go_wp2_with fail
      go_ret
      exact ⟨ret_bool (by rw [hE.out]; simp [k2, k3]), rfl⟩
  · by_cases k2 : x < y
    · go_wp2_with fail
      go_ret
      exact ⟨ret_bool (by rw [hc.out]; simp [k2]), rfl⟩
    · go_wp2_with fail
      go_ret
      exact ⟨ret_bool (by rw [hc.out]; simp only [decide_eq_false (show ¬ x < y by omega), decide_eq_false k1, Bool.false_and, Bool.or_false]), rfl⟩

theorem alike_ (a b : Nat) (w : World) : Calls Try.prog 16 #[.float .f64 a, .float .f64 b] w fun e w' => e = .returned (.bool (Fl.alike a b)) ∧ w = w' := by
  have hc := Lib.hid (Fl.alike_eq a b)
  obtain ⟨x, hx⟩ : ∃ x, Fl.ahead a b = x := ⟨_, rfl⟩
  obtain ⟨y, hy⟩ : ∃ y, Fl.ahead b a = y := ⟨_, rfl⟩
  rw [hx, hy] at hc
  have HX := Lib.hid hx
  have HY := Lib.hid hy
  clear hx hy
  go_enter Try.func16, Try.ntmps16
  go_wp2_with fail
  refine (ahead_ a b _).mono ?_
  rintro e w1 ⟨rfl, rfl⟩
  rw [HX.out]
  cases x
  · go_wp2_with fail
    refine (ahead_ b a _).mono ?_
    rintro e w1 ⟨rfl, rfl⟩
    rw [HY.out]
    go_wp2_with fail
    go_ret
    exact ⟨ret_bool (by rw [hc.out]; rfl), rfl⟩
  · go_wp2_with fail
    go_ret
    exact ⟨ret_bool (by rw [hc.out]; rfl), rfl⟩
end OrderRef
end Go.Proofs.Ytkjhacbkgnjilaa
