/-
  The document's own functions of layer 4 (clock): Right, Since, Late.
-/
import Derived.Test.YtkjhacbkgnjilaaClockB
namespace Go.Proofs.Ytkjhacbkgnjilaa
open Go.RowKit
namespace Clock
theorem refRight_any (t : Int) (w : World) : Calls Try.prog 45 #[.int .i64 t] w fun e w' => e = .returned (.bool (right t)) ∧ w = w' := by
  unfold right
  by_cases h0 : 0 ≤ t
  · have h2 : decide (0 ≤ t) = true := by simpa using h0
    by_cases h1 : t ≤ 4611686018427387904
    · have h3 : decide (t ≤ 4611686018427387904) = true := by simpa using h1
      rw [decide_eq_true (show 0 ≤ t ∧ t ≤ 4611686018427387904 from ⟨h0, h1⟩)]
      go_enter Try.func45, Try.ntmps45
      go_wp2
      go_ret
      exact ⟨rfl, rfl⟩
    · have h3 : decide (t ≤ 4611686018427387904) = false := by simpa using h1
      rw [decide_eq_false (show ¬ (0 ≤ t ∧ t ≤ 4611686018427387904) from fun h => h1 h.2)]
      go_enter Try.func45, Try.ntmps45
      go_wp2
      go_ret
      exact ⟨rfl, rfl⟩
  · have h2 : decide (0 ≤ t) = false := by simpa using h0
    rw [decide_eq_false (show ¬ (0 ≤ t ∧ t ≤ 4611686018427387904) from fun h => h0 h.1)]
    go_enter Try.func45, Try.ntmps45
    go_wp2
    go_ret
    exact ⟨rfl, rfl⟩

theorem refSince_any (a b : Int) (ha : right a = true) (hb : right b = true) (w : World) :
    Calls Try.prog 82 #[.int .i64 a, .int .i64 b] w fun e w' => e = .returned (.int .i64 (max (a - b) 0)) ∧ w = w' := by
  obtain ⟨a0, a1⟩ := right_bd ha
  obtain ⟨b0, b1⟩ := right_bd hb
  by_cases h2 : 0 ≤ a - b
  all_goals
    go_enter Try.func82, Try.ntmps82
    go_wp2_with fail
    go_ret
    refine ⟨?_, rfl⟩
    first | (rw [Int.max_eq_left (by omega)]; rfl) | (rw [Int.max_eq_right (by omega)]; rfl)

theorem refLate_any (a b : Int) (ha : right a = true) (hb : right b = true) (w : World) :
    Calls Try.prog 72 #[.int .i64 a, .int .i64 b] w fun e w' => e = .returned (.bool (decide (1000000 < max (a - b) 0))) ∧ w = w' := by
  go_enter Try.func72, Try.ntmps72
  go_wp2_with fail
  refine (refSince_any a b ha hb _).mono ?_
  rintro e w' ⟨rfl, rfl⟩
  go_wp2_with fail
  go_ret
  exact ⟨rfl, rfl⟩

end Clock
end Go.Proofs.Ytkjhacbkgnjilaa
