/-
  The contract of order.Ahead: which of two floats comes ahead.
-/
import Derived.Test.YtkjhacbkgnjilaaOrderClass
namespace Go.Proofs.Ytkjhacbkgnjilaa
open Go.RowKit
attribute [local go_sem] Fl.order_lt Fl.order_gt Fl.order_is Fl.order_ne
namespace Order
theorem ahead_ (a b : Nat) (ha : a < 18446744073709551616) (hb : b < 18446744073709551616) (w : World) : Calls Try.prog 17 #[.float .f64 a, .float .f64 b] w fun e w' => e = .returned (.bool (Fl.ahead a b)) ∧ w = w' := by
  have hc := Lib.hid (Fl.ahead_eq a b)
  obtain ⟨x, hx⟩ : ∃ x, Fl.cls a = x := ⟨_, rfl⟩
  obtain ⟨y, hy⟩ : ∃ y, Fl.cls b = y := ⟨_, rfl⟩
  rw [hx, hy] at hc
  have HX := Lib.hid hx
  have HY := Lib.hid hy
  clear hx hy
  go_enter Try.func17, Try.ntmps17
  go_wp2_with fail
  refine (class_ a ha _).mono ?_
  rintro e w1 ⟨rfl, rfl⟩
  go_wp2_with fail
  refine (class_ b hb _).mono ?_
  rintro e w1 ⟨rfl, rfl⟩
  rw [HX.out, HY.out]
  by_cases k1 : x < y
  · go_wp2_with fail
    go_ret
    exact ⟨ret_bool (by rw [hc.out]; simp [k1]), rfl⟩
  by_cases k2 : x = y
  · subst k2
    go_wp2_with fail
    go_ret
    exact ⟨ret_bool (by rw [hc.out]; simp), rfl⟩
  · go_wp2_with fail
    go_ret
    exact ⟨ret_bool (by rw [hc.out]; simp only [decide_eq_false (show ¬ x < y by omega), decide_eq_false k2, Bool.false_and, Bool.or_false]), rfl⟩
end Order
end Go.Proofs.Ytkjhacbkgnjilaa
