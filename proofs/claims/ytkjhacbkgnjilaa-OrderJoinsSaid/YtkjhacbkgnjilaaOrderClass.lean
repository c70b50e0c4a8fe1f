/-
  The contract of order.Class: what a float's class is.
-/
import Derived.Test.YtkjhacbkgnjilaaBase
import Derived.Test.YtkjhacbkgnjilaaFloat2
import Derived.Laws.Externs
namespace Go.Proofs.Ytkjhacbkgnjilaa
open Go.RowKit

attribute [local go_sem] Fl.order_lt Fl.order_gt Fl.order_is Fl.order_ne
@[go_sem] theorem Fl.fmt : FloatKind.f64.format = Ieee.double := rfl

@[go_sem] theorem Fl.run_neg (b : Nat) : Op.unary .neg (.float .f64 b) = pure (.float .f64 (Op.negFloat .f64 b)) := rfl
theorem Fl.bits (b : Nat) (w : World) : (callFunc 75 #[.float .f64 b]).run Try.prog w = .ok (.value (.int .u64 b)) w := by
  rw [run_callFunc_extern Try.func75 (by kernel_rfl) (by kernel_rfl) (by kernel_rfl) (e := Extern.MathFloatBits.float64bits) (by kernel_rfl)]
  rfl

namespace Fl
theorem nan_c0 : nan 0 = false := by decide
theorem key_c0 : key 0 = 0 := by decide
theorem nan_max : nan 9218868437227405311 = false := by decide
theorem key_max : key 9218868437227405311 = 9218868437227405311 := by decide
theorem inf_neg {b : Nat} (hb : b < 18446744073709551616) (h : nan b = false) : lt 9218868437227405311 (Op.negFloat .f64 b) = decide (key b = -9218868437227405312) := by
  have := key_bd h
  rw [lt, neg_nan b hb, neg_key b hb, h, nan_max, key_max, Bool.eq_iff_iff]
  simp
  omega
theorem inf_pos {b : Nat} (h : nan b = false) : lt 9218868437227405311 b = decide (key b = 9218868437227405312) := by
  have := key_bd h
  rw [lt, h, nan_max, key_max, Bool.eq_iff_iff]
  simp
  omega
theorem lt_zero {b : Nat} (h : nan b = false) : lt b 0 = decide (key b < 0) := by rw [lt, h, nan_c0, key_c0]; simp
theorem zero_lt {b : Nat} (h : nan b = false) : lt 0 b = decide (0 < key b) := by rw [lt, h, nan_c0, key_c0]; simp
theorem eq_self (b : Nat) : eq b b = !nan b := by simp [eq]
theorem eq_zero {b : Nat} (h : nan b = false) : eq b 0 = decide (key b = 0) := by rw [eq, h, nan_c0, key_c0]; simp
theorem sign_int {b : Nat} (_ : b < 18446744073709551616) : decide (wrap64 (b : Int) < 0) = sgn b := by
  rw [Bool.eq_iff_iff]
  unfold wrap64 sgn
  simp
  omega
end Fl

namespace Order
theorem isNaN (b : Nat) (w : World) : Calls Try.prog 50 #[.float .f64 b] w fun e w' => e = .returned (.bool (Fl.nan b)) ∧ w = w' := by
  go_enter Try.func50, Try.ntmps50
  go_wp2_with fail
  go_ret
  exact ⟨ret_bool (by simp [Fl.eq_self]), rfl⟩
theorem isInf_neg (b : Nat) (hb : b < 18446744073709551616) (h : Fl.nan b = false) (w : World) : Calls Try.prog 51 #[.float .f64 b, .int .i64 (-1)] w fun e w' => e = .returned (.bool (decide (Fl.key b = -9218868437227405312))) ∧ w = w' := by
  go_enter Try.func51, Try.ntmps51
  go_wp2_with fail
  go_ret
  exact ⟨ret_bool (Fl.inf_neg hb h), rfl⟩
theorem isInf_pos (b : Nat) (h : Fl.nan b = false) (w : World) : Calls Try.prog 51 #[.float .f64 b, .int .i64 1] w fun e w' => e = .returned (.bool (decide (Fl.key b = 9218868437227405312))) ∧ w = w' := by
  go_enter Try.func51, Try.ntmps51
  go_wp2_with fail
  go_ret
  exact ⟨ret_bool (Fl.inf_pos h), rfl⟩
theorem signbit (b : Nat) (hb : b < 18446744073709551616) (w : World) : Calls Try.prog 52 #[.float .f64 b] w fun e w' => e = .returned (.bool (Fl.sgn b)) ∧ w = w' := by
  have hd := Fl.bits b
  go_enter Try.func52, Try.ntmps52
  go_wp2_with fail
  go_ret
  exact ⟨ret_bool (Fl.sign_int hb), rfl⟩
theorem class_ (b : Nat) (hb : b < 18446744073709551616) (w : World) : Calls Try.prog 14 #[.float .f64 b] w fun e w' => e = .returned (.int .i64 (Fl.cls b)) ∧ w = w' := by
  cases hn : Fl.nan b
  · have hc : Fl.cls b = if Fl.key b = -9218868437227405312 then 0 else if Fl.key b = 9218868437227405312 then 5 else if Fl.key b < 0 then 1 else if 0 < Fl.key b then 4 else if Fl.sgn b then 2 else 3 := by rw [Fl.cls, hn]; rfl
    have h0 := Fl.lt_zero hn
    have h1 := Fl.zero_lt hn
    go_enter Try.func14, Try.ntmps14
    go_wp2_with fail
    refine (isNaN b _).mono ?_
    rintro e w1 ⟨rfl, rfl⟩
    rw [hn]
    go_wp2_with fail
    refine (isInf_neg b hb hn _).mono ?_
    rintro e w1 ⟨rfl, rfl⟩
    by_cases k1 : Fl.key b = -9218868437227405312
    · go_wp2_with fail
      go_ret
      exact ⟨ret_int (by rw [hc, if_pos k1]), rfl⟩
    go_wp2_with fail
    refine (isInf_pos b hn _).mono ?_
    rintro e w1 ⟨rfl, rfl⟩
    by_cases k2 : Fl.key b = 9218868437227405312
    · go_wp2_with fail
      go_ret
      exact ⟨ret_int (by rw [hc, if_neg k1, if_pos k2]), rfl⟩
    by_cases k3 : Fl.key b < 0
    · go_wp2_with fail
      go_ret
      exact ⟨ret_int (by rw [hc, if_neg k1, if_neg k2, if_pos k3]), rfl⟩
    by_cases k4 : 0 < Fl.key b
    · go_wp2_with fail
      go_ret
      exact ⟨ret_int (by rw [hc, if_neg k1, if_neg k2, if_neg (by omega : ¬ Fl.key b < 0), if_pos k4]), rfl⟩
    go_wp2_with fail
    refine (signbit b hb _).mono ?_
    rintro e w1 ⟨rfl, rfl⟩
    rw [if_neg k1, if_neg k2, if_neg (by omega : ¬ Fl.key b < 0), if_neg (by omega : ¬ 0 < Fl.key b)] at hc
    cases k5 : Fl.sgn b
    · rw [k5] at hc
      go_wp2_with fail
      go_ret
      exact ⟨ret_int (by rw [hc]; rfl), rfl⟩
    · rw [k5] at hc
      go_wp2_with fail
      go_ret
      exact ⟨ret_int (by rw [hc]; rfl), rfl⟩
  · have hc : Fl.cls b = 6 := by rw [Fl.cls, hn]; rfl
    go_enter Try.func14, Try.ntmps14
    go_wp2_with fail
    refine (isNaN b _).mono ?_
    rintro e w1 ⟨rfl, rfl⟩
    rw [hn]
    go_wp2_with fail
    go_ret
    exact ⟨ret_int hc.symm, rfl⟩
end Order
end Go.Proofs.Ytkjhacbkgnjilaa
