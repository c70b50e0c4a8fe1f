/-
  The document's own functions of layer 3 (flags): Word, Unpack, Pack.
-/
import Derived.Test.YtkjhacbkgnjilaaFlags
import Derived.Deep.QuietTactic
import Derived.BigQuiet
namespace Go.Proofs.Ytkjhacbkgnjilaa
open Go.RowKit
namespace Ref03
theorem fld0 (a b c : Bool) (d : Int) (w : World) : (Instr.field 48 (.agg #[.bool a, .bool b, .bool c, .int .i64 d]) 0).run Try.prog w = .ok (.bool a) w := by kernel_rfl
theorem fld2 (a b c : Bool) (d : Int) (w : World) : (Instr.field 48 (.agg #[.bool a, .bool b, .bool c, .int .i64 d]) 2).run Try.prog w = .ok (.bool c) w := by kernel_rfl

theorem refWord_any (t : Int) (w : World) : Calls Try.prog 47 #[.int .i64 t] w fun e w' => e = .returned (.bool (Flags.isWord t)) ∧ w = w' := by
  unfold Flags.isWord
  by_cases h0 : 0 ≤ t
  · have h2 : decide (0 ≤ t) = true := by simpa using h0
    by_cases h1 : t < 2147483648
    · have h3 : decide (t < 2147483648) = true := by simpa using h1
      rw [decide_eq_true (show 0 ≤ t ∧ t < 2147483648 from ⟨h0, h1⟩)]
      go_enter Try.func47, Try.ntmps47
      go_wp2
      go_ret
      exact ⟨rfl, rfl⟩
    · have h3 : decide (t < 2147483648) = false := by simpa using h1
      rw [decide_eq_false (show ¬ (0 ≤ t ∧ t < 2147483648) from fun h => h1 h.2)]
      go_enter Try.func47, Try.ntmps47
      go_wp2
      go_ret
      exact ⟨rfl, rfl⟩
  · have h2 : decide (0 ≤ t) = false := by simpa using h0
    rw [decide_eq_false (show ¬ (0 ≤ t ∧ t < 2147483648) from fun h => h0 h.1)]
    go_enter Try.func47, Try.ntmps47
    go_wp2
    go_ret
    exact ⟨rfl, rfl⟩

theorem refUnpack_any (t : Int) (h0 : 0 ≤ t) (h1 : t < 2147483648) (w : World) :
    Calls Try.prog 68 #[.int .i64 t] w fun e w' => e = .returned (.agg #[.bool (Flags.has t 0), .bool (Flags.has t 1), .bool (Flags.has t 2), .int .i64 (t / 8)]) ∧ Below w.heap.size w w' := by
  have e0 : (t % 2 == 1) = Flags.has t 0 := by unfold Flags.has; simp; by_cases h : t % 2 = 1 <;> simp [h]
  have e1 : (t / 2 % 2 == 1) = Flags.has t 1 := by unfold Flags.has; simp; by_cases h : t / 2 % 2 = 1 <;> simp [h]
  have e2 : (t / 4 % 2 == 1) = Flags.has t 2 := by unfold Flags.has; simp; by_cases h : t / 4 % 2 = 1 <;> simp [h]
  go_enter Try.func68, Try.ntmps68
  go_wp2_with fail
  exact bodyPost_ret (v := .agg #[.bool (Flags.has t 0), .bool (Flags.has t 1), .bool (Flags.has t 2), .int .i64 (t / 8)]) (by simp [results, Try.results68, go_sem]) rfl ⟨rfl, (Below.refl _ _).alloc (Nat.le_refl _) _⟩

theorem refBit_any (b : Bool) (n : Int) (w : World) : Calls Try.prog 81 #[.bool b, .int .i64 n] w fun e w' => e = .returned (.int .i64 (if b then n else 0)) ∧ w = w' := by
  cases b
  all_goals
    go_enter Try.func81, Try.ntmps81
    go_wp2_with fail
    go_ret
    exact ⟨rfl, rfl⟩

theorem refPack_any (l k s : Bool) (n : Int) (h0 : 0 ≤ n) (h1 : n ≤ 268435455) (w : World) :
    Calls Try.prog 71 #[.agg #[.bool l, .bool k, .bool s, .int .i64 n]] w fun e w' => e = .returned (.int .i64 (Flags.word l k s n)) ∧ Below w.heap.size w w' := by
  cases l <;> cases k <;> cases s
  all_goals
    go_enter Try.func71, Try.ntmps71
    go_wp2_with fail
    go_quiet ((go_at_call 81; refine Calls.quiet_of ((refBit_any _ _ _).mono fun _ _ ⟨he, hw⟩ => ⟨he, 0, hw.symm⟩)))
    go_wp2
    go_ret
    refine ⟨ret_int ?_, below_drewN ((Below.refl _ _).alloc (Nat.le_refl _) _) _⟩
    simp [Flags.word]
    try omega

theorem refMay_any (l k s : Bool) (n : Int) (w : World) : Calls Try.prog 70 #[.agg #[.bool l, .bool k, .bool s, .int .i64 n]] w fun e w' => e = .returned (.bool (decide (0 ≤ n) && decide (n < 268435456))) ∧ Below w.heap.size w w' := by
  have hb0 := (Below.refl w.heap.size w).alloc (Nat.le_refl _) (.cells #[.bool l, .bool k, .bool s, .int .i64 n] 48)
  have HB0 := Lib.hid hb0
  clear hb0
  by_cases h0 : 0 ≤ n
  · have d0 : decide (0 ≤ n) = true := decide_eq_true h0
    by_cases h1 : n < 268435456
    · have d1 : decide (n < 268435456) = true := decide_eq_true h1
      go_enter Try.func70, Try.ntmps70
      go_wp2_with fail
      go_ret
      exact ⟨by simp [h0, h1], HB0.out⟩
    · have d1 : decide (n < 268435456) = false := decide_eq_false h1
      go_enter Try.func70, Try.ntmps70
      go_wp2_with fail
      go_ret
      exact ⟨by simp, HB0.out⟩
  · have d0 : decide (0 ≤ n) = false := decide_eq_false h0
    go_enter Try.func70, Try.ntmps70
    go_wp2_with fail
    go_ret
    exact ⟨by simp, HB0.out⟩
end Ref03
end Go.Proofs.Ytkjhacbkgnjilaa
