/-
  The walks of the statements of layer 4: what the law's own text comes to, out of the contracts of package clock.
-/
import Derived.Test.YteejgejeggackaaBase
import Derived.Test.YteejgejeggackaaClock
namespace Go.Proofs.Yteejgejeggackaa
open Go.RowKit

theorem Clock.alive (w : World) : Calls Try.prog 17 #[] w fun e w' => e = .returned (.bool true) ∧ Below w.heap.size w w' := by
  go_enter Try.func17, Try.ntmps17
  go_wp2_with fail
  refine (Clock.late_yes 1000000 0 (by rfl) (by rfl) _).mono ?_
  rintro e w1 ⟨rfl, hb1⟩
  go_wp2_with fail
  refine (Clock.late_yes 1000001 0 (by rfl) (by rfl) _).mono ?_
  rintro e w2 ⟨rfl, hb2⟩
  go_wp2_with fail
  go_ret
  exact ⟨rfl, bthen hb1 hb2⟩

namespace clockLate
theorem walk (a b c : Int) (w : World) (_ : (Lit.int .i64 a).wf = true) (_ : (Lit.int .i64 b).wf = true) (_ : (Lit.int .i64 c).wf = true) :
    Calls Try.prog 3 #[.int .i64 a, .int .i64 b, .int .i64 c] w fun e w' => e = .returned (.bool true) ∧ Below w.heap.size w w' := by
  obtain ⟨A, hA, hA0, hA1⟩ := mod60 a
  obtain ⟨B, hB, hB0, hB1⟩ := mod60 b
  obtain ⟨C, hC, hC0, hC1⟩ := mod60 c
  have hRA : Hid (Clock.right A = true) := Clock.right_of (by omega) (by omega)
  have hRB : Hid (Clock.right B = true) := Clock.right_of (by omega) (by omega)
  have hRBC : Hid (Clock.right (B + C) = true) := Clock.right_of (by omega) (by omega)
  have hRAC : Hid (Clock.right (A + C) = true) := Clock.right_of (by omega) (by omega)
  have k2 : Hid (max (A + C - (B + C)) 0 = max (A - B) 0) := by unfold Hid; rw [show A + C - (B + C) = A - B by omega]
  go_enter Try.func3, Try.ntmps3
  go_wp2_with fail
  rw [hA, hB, hC]
  clear hA hB hC
  refine (Clock.late_yes A B hRA.out hRB.out _).mono ?_
  rintro e w1 ⟨rfl, hb1⟩
  go_wp2_with fail
  refine (Clock.since_yes A B hRA.out hRB.out _).mono ?_
  rintro e w2 ⟨rfl, hb2⟩
  go_wp2_with fail
  refine (Clock.late_yes A (B + C) hRA.out hRBC.out _).mono ?_
  rintro e w3 ⟨rfl, hb3⟩
  go_wp2_with fail
  refine (Clock.late_yes (A + C) (B + C) hRAC.out hRBC.out _).mono ?_
  rintro e w4 ⟨rfl, hb4⟩
  rw [k2.out]
  go_wp2_with fail
  refine (Clock.alive _).mono ?_
  rintro e w5 ⟨rfl, hb5⟩
  by_cases h1 : 1000000 < max (A - (B + C)) 0
  · have h2 : 1000000 < max (A - B) 0 := by omega
    go_wp2_with fail
    go_ret
    exact ⟨ret_bool (by simp), bthen (bthen (bthen (bthen hb1 hb2) hb3) hb4) hb5⟩
  · go_wp2_with fail
    go_ret
    exact ⟨ret_bool (by simp), bthen (bthen (bthen (bthen hb1 hb2) hb3) hb4) hb5⟩
end clockLate
end Go.Proofs.Yteejgejeggackaa
