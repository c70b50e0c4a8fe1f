/-
  The contracts of script.Right, script.Write and of the document's own functions of layer 13.
-/
import Derived.Test.YteejgejeggackaaScript3
namespace Go.Proofs.Yteejgejeggackaa
open Go.RowKit Go.Shelf
namespace Script
def right (k n : Int) : Bool := (k == 0 && decide (0 ≤ n ∧ n < 16)) || (k == 1 && decide (0 < n ∧ n ≤ 4611686018427387904))
def wr (k n : Int) : Int := if k = 1 then -n else n

theorem right_any (k n : Int) (w : World) : Calls Try.prog 55 #[.agg #[.int .i64 k, .int .i64 n]] w fun e w' => e = .returned (.bool (right k n)) ∧ Below w.heap.size w w' := by
  by_cases h0 : k = 0
  · subst h0
    have hr : Hid (right 0 n = decide (0 ≤ n ∧ n < 16)) := by unfold Hid; simp [right]
    by_cases h1 : 0 ≤ n
    · by_cases h2 : n < 16
      · go_enter Try.func55, Try.ntmps55
        go_wp2_with fail
        go_ret
        exact ⟨ret_bool (by rw [hr.out]; simp [h1, h2]), (Below.refl _ _).alloc (Nat.le_refl _) _⟩
      · go_enter Try.func55, Try.ntmps55
        go_wp2_with fail
        go_ret
        exact ⟨ret_bool (by rw [hr.out]; simp; omega), (Below.refl _ _).alloc (Nat.le_refl _) _⟩
    · go_enter Try.func55, Try.ntmps55
      go_wp2_with fail
      go_ret
      exact ⟨ret_bool (by rw [hr.out]; simp; omega), (Below.refl _ _).alloc (Nat.le_refl _) _⟩
  · by_cases h0 : k = 1
    · subst h0
      have hr : Hid (right 1 n = decide (0 < n ∧ n ≤ 4611686018427387904)) := by unfold Hid; simp [right]
      by_cases h1 : 0 < n
      · have hc : Hid (Clock.right n = decide (0 < n ∧ n ≤ 4611686018427387904)) := by unfold Hid; rw [Clock.right, Bool.eq_iff_iff]; simp; omega
        go_enter Try.func55, Try.ntmps55
        go_wp2_with fail
        refine (Clock.right_any n _).mono ?_
        rintro e w1 ⟨rfl, rfl⟩
        go_wp2_with fail
        go_ret
        exact ⟨ret_bool (by rw [hr.out, hc.out]), (Below.refl _ _).alloc (Nat.le_refl _) _⟩
      · go_enter Try.func55, Try.ntmps55
        go_wp2_with fail
        go_ret
        exact ⟨ret_bool (by rw [hr.out]; simp; omega), (Below.refl _ _).alloc (Nat.le_refl _) _⟩
    · have hr : Hid (right k n = false) := by unfold Hid; simp [right]; omega
      go_enter Try.func55, Try.ntmps55
      go_wp2_with fail
      go_ret
      exact ⟨ret_bool hr.out.symm, (Below.refl _ _).alloc (Nat.le_refl _) _⟩

theorem write_no (k n : Int) (h : right k n = false) (w : World) : Calls Try.prog 50 #[.agg #[.int .i64 k, .int .i64 n]] w fun e w' => e = .returned (.tuple #[.int .i64 0, .int .i64 1]) ∧ Below w.heap.size w w' := by
  have H := Lib.hid h
  clear h
  go_enter Try.func50, Try.ntmps50
  go_wp2_with fail
  refine (right_any k n _).mono ?_
  rintro e w1 ⟨rfl, hb1⟩
  rw [H.out]
  go_wp2_with fail
  go_ret2
  exact ⟨rfl, ((Below.refl _ _).alloc (Nat.le_refl _) _).trans (hb1.mono (by simp))⟩
theorem write_yes (k n : Int) (h : right k n = true) (w : World) : Calls Try.prog 50 #[.agg #[.int .i64 k, .int .i64 n]] w fun e w' => e = .returned (.tuple #[.int .i64 (wr k n), .int .i64 0]) ∧ Below w.heap.size w w' := by
  have hk : (k = 0 ∧ 0 ≤ n ∧ n < 16) ∨ (k = 1 ∧ 0 < n ∧ n ≤ 4611686018427387904) := by simpa [right] using h
  have H := Lib.hid h
  clear h
  rcases hk with ⟨rfl, h1, h2⟩ | ⟨rfl, h1, h2⟩
  all_goals
    go_enter Try.func50, Try.ntmps50
    go_wp2_with fail
    refine (right_any _ n _).mono ?_
    rintro e w1 ⟨rfl, hb1⟩
    rw [H.out]
    have c0 := (hb1.cell (p := ⟨w.heap.size, 0, none⟩) (by simp))
    have c1 := (hb1.cell (p := ⟨w.heap.size, 1, none⟩) (by simp))
    have HB := Lib.hid hb1
    clear hb1
    go_wp2_with fail
    go_ret2
    exact ⟨rfl, ((Below.refl _ _).alloc (Nat.le_refl _) _).trans (HB.out.mono (by simp))⟩
end Script

namespace ScriptRef
open Script
theorem read_any (v : Int) (h0 : -9223372036854775808 ≤ v) (h1 : v ≤ 9223372036854775807) (w : World) :
    Calls Try.prog 54 #[.int .i64 v] w fun e w' => e = .returned (val (pick v)) ∧ Below w.heap.size w w' := by
  by_cases h : 0 ≤ v
  · have e1 : v.tmod 16 = v % 16 := Int.tmod_eq_emod_of_nonneg h
    have hp : Hid (pick v = (0, v % 16)) := by unfold Hid; rw [pick, if_pos h]
    go_enter Try.func54, Try.ntmps54
    go_wp2_with fail
    refine bodyPost_ret (v := val (0, v % 16)) (by simp [results, Try.results54, val, go_sem]) rfl ⟨by rw [hp.out], (Below.refl _ _).alloc (Nat.le_refl _) _⟩
  · by_cases h2 : v < -4611686018427387904
    · have hp : Hid (pick v = (1, 4611686018427387904)) := by unfold Hid; rw [pick, if_neg h]; simp; omega
      go_enter Try.func54, Try.ntmps54
      go_wp2_with fail
      refine bodyPost_ret (v := val (1, 4611686018427387904)) (by simp [results, Try.results54, val, go_sem]) rfl ⟨by rw [hp.out], (Below.refl _ _).alloc (Nat.le_refl _) _⟩
    · have hp : Hid (pick v = (1, -v)) := by unfold Hid; rw [pick, if_neg h]; simp; omega
      go_enter Try.func54, Try.ntmps54
      go_wp2_with fail
      refine bodyPost_ret (v := val (1, -v)) (by simp [results, Try.results54, val, go_sem]) rfl ⟨by rw [hp.out], (Below.refl _ _).alloc (Nat.le_refl _) _⟩
theorem right_any (k n : Int) (w : World) : Calls Try.prog 56 #[.agg #[.int .i64 k, .int .i64 n]] w fun e w' => e = .returned (.bool (right k n)) ∧ Below w.heap.size w w' := by
  by_cases h0 : k = 0
  · subst h0
    have hr : Hid (right 0 n = decide (0 ≤ n ∧ n < 16)) := by unfold Hid; simp [right]
    by_cases h1 : 0 ≤ n
    · go_enter Try.func56, Try.ntmps56
      go_wp2_with fail
      go_ret
      exact ⟨ret_bool (by rw [hr.out, Bool.eq_iff_iff]; simp; omega), (Below.refl _ _).alloc (Nat.le_refl _) _⟩
    · go_enter Try.func56, Try.ntmps56
      go_wp2_with fail
      go_ret
      exact ⟨ret_bool (by rw [hr.out]; simp; omega), (Below.refl _ _).alloc (Nat.le_refl _) _⟩
  · by_cases h0 : k = 1
    · subst h0
      have hr : Hid (right 1 n = decide (0 < n ∧ n ≤ 4611686018427387904)) := by unfold Hid; simp [right]
      by_cases h1 : 1 ≤ n
      · go_enter Try.func56, Try.ntmps56
        go_wp2_with fail
        go_ret
        exact ⟨ret_bool (by rw [hr.out, Bool.eq_iff_iff]; simp; omega), (Below.refl _ _).alloc (Nat.le_refl _) _⟩
      · go_enter Try.func56, Try.ntmps56
        go_wp2_with fail
        go_ret
        exact ⟨ret_bool (by rw [hr.out]; simp; omega), (Below.refl _ _).alloc (Nat.le_refl _) _⟩
    · have hr : Hid (right k n = false) := by unfold Hid; simp [right]; omega
      go_enter Try.func56, Try.ntmps56
      go_wp2_with fail
      go_ret
      exact ⟨ret_bool hr.out.symm, (Below.refl _ _).alloc (Nat.le_refl _) _⟩
theorem write_yes (k n : Int) (h : right k n = true) (w : World) : Calls Try.prog 60 #[.agg #[.int .i64 k, .int .i64 n]] w fun e w' => e = .returned (.int .i64 (wr k n)) ∧ Below w.heap.size w w' := by
  have hk : (k = 0 ∧ 0 ≤ n ∧ n < 16) ∨ (k = 1 ∧ 0 < n ∧ n ≤ 4611686018427387904) := by simpa [right] using h
  clear h
  rcases hk with ⟨rfl, h1, h2⟩ | ⟨rfl, h1, h2⟩
  all_goals
    go_enter Try.func60, Try.ntmps60
    go_wp2_with fail
    go_ret
    exact ⟨rfl, (Below.refl _ _).alloc (Nat.le_refl _) _⟩
end ScriptRef
end Go.Proofs.Yteejgejeggackaa
