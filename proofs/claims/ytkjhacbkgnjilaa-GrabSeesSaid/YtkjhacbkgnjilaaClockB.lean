/-
  The contracts of package clock (layer 4) but Tick's: what each of its functions comes to, whatever the world.
-/
import Derived.Test.YtkjhacbkgnjilaaProg
import Derived.WalkKit
import Derived.WalkSpells
import Derived.WalkLawsBesides
import Derived.Lib.Hide
import Derived.Laws.StructEq
namespace Go.Proofs.Ytkjhacbkgnjilaa
open Go.RowKit

namespace Clock

/-- Right, as a function. -/
def right (t : Int) : Bool := decide (0 ≤ t ∧ t ≤ 4611686018427387904)

theorem right_yes (t : Int) (h0 : 0 ≤ t) (h1 : t ≤ 4611686018427387904) (w : World) :
    Calls Try.prog 67 #[.int .i64 t] w fun e w' => e = .returned (.bool true) ∧ w = w' := by
  have h2 : decide (0 ≤ t) = true := by simpa using h0
  have h3 : decide (t ≤ 4611686018427387904) = true := by simpa using h1
  go_enter Try.func67, Try.ntmps67
  go_wp2
  go_ret
  exact ⟨rfl, rfl⟩

theorem right_no (t : Int) (h : t < 0 ∨ 4611686018427387904 < t) (w : World) :
    Calls Try.prog 67 #[.int .i64 t] w fun e w' => e = .returned (.bool false) ∧ w = w' := by
  rcases h with h | h
  · have h2 : decide (0 ≤ t) = false := by simp; omega
    go_enter Try.func67, Try.ntmps67
    go_wp2
    go_ret
    exact ⟨rfl, rfl⟩
  · have h2 : decide (0 ≤ t) = true := by simp; omega
    have h3 : decide (t ≤ 4611686018427387904) = false := by simp; omega
    go_enter Try.func67, Try.ntmps67
    go_wp2
    go_ret
    exact ⟨rfl, rfl⟩

/-- What 'Right' comes to at any number. -/
theorem right_any (t : Int) (w : World) : Calls Try.prog 67 #[.int .i64 t] w fun e w' => e = .returned (.bool (right t)) ∧ w = w' := by
  unfold right
  by_cases h : 0 ≤ t ∧ t ≤ 4611686018427387904
  · rw [decide_eq_true h]
    exact right_yes t h.1 h.2 w
  · rw [decide_eq_false h]
    exact right_no t (by omega) w

theorem pairOf_yes (a b : Int) (ha : right a = true) (hb : right b = true) (w : World) :
    Calls Try.prog 83 #[.int .i64 a, .int .i64 b] w fun e w' => e = .returned (.agg #[.int .i64 a, .int .i64 b]) ∧ w.alloc (.cells #[.int .i64 a, .int .i64 b] 91) = w' := by
  go_enter Try.func83, Try.ntmps83
  go_wp2_with fail
  refine (right_any a _).mono ?_
  rintro e w' ⟨rfl, rfl⟩
  go_wp2_with fail
  refine (right_any b _).mono ?_
  rintro e w' ⟨rfl, rfl⟩
  go_wp2_with fail
  exact bodyPost_ret (v := .agg #[.int .i64 a, .int .i64 b]) (by simp [results, Try.results83, go_sem]) rfl ⟨rfl, rfl⟩

theorem pairOf_no (a b : Int) (h : (right a && right b) = false) (w : World) :
    Calls Try.prog 83 #[.int .i64 a, .int .i64 b] w fun e w' => e = .returned (.agg #[.int .i64 (-1), .int .i64 (-1)]) ∧ w.alloc (.cells #[.int .i64 (-1), .int .i64 (-1)] 91) = w' := by
  cases ha : right a with
  | false =>
    go_enter Try.func83, Try.ntmps83
    go_wp2_with fail
    refine (right_any a _).mono ?_
    rintro e w' ⟨rfl, rfl⟩
    go_wp2_with fail
    exact bodyPost_ret (v := .agg #[.int .i64 (-1), .int .i64 (-1)]) (by simp [results, Try.results83, go_sem]) rfl ⟨rfl, rfl⟩
  | true =>
    have hb : right b = false := by simpa [ha] using h
    clear h
    go_enter Try.func83, Try.ntmps83
    go_wp2_with fail
    refine (right_any a _).mono ?_
    rintro e w' ⟨rfl, rfl⟩
    go_wp2_with fail
    refine (right_any b _).mono ?_
    rintro e w' ⟨rfl, rfl⟩
    go_wp2_with fail
    exact bodyPost_ret (v := .agg #[.int .i64 (-1), .int .i64 (-1)]) (by simp [results, Try.results83, go_sem]) rfl ⟨rfl, rfl⟩

theorem eqIn (k : Nat) (a b c d : Int) (w : World) : (Op.equalIn (k + 2) 91 (.agg #[.int .i64 a, .int .i64 b]) (.agg #[.int .i64 c, .int .i64 d])).run Try.prog w = .ok (a == c && b == d) w := by
  rw [Op.equalIn]
  have hs := Try.sizeOf3
  have hu := Try.underlying3
  simp only [Sem.run_bind, run_underlying Try.underlying91, Result.andThen_ok]
  go_simp
  have ha := Try.isAgg3
  rw [show List.range' 0 2 = [0, 1] from rfl]
  simp only [List.forIn_cons, List.forIn_nil]
  by_cases h1 : a = c
  · subst h1
    by_cases h2 : b = d
    · subst h2
      simp [ha, run_equalIn_int _ _ _ _ _ _ _ hu]
    · simp [ha, run_equalIn_int _ _ _ _ _ _ _ hu, h2]
  · simp [ha, run_equalIn_int _ _ _ _ _ _ _ hu, h1]

theorem eql (a b c d : Int) (w : World) : (binOp .eql 91 (.agg #[.int .i64 a, .int .i64 b]) (.agg #[.int .i64 c, .int .i64 d])).run Try.prog w = .ok (.bool (a == c && b == d)) w := by
  rw [run_eql_struct, show (10000 : Nat) = 9998 + 2 from rfl, eqIn]
  rfl

theorem guard (x y : Operand) (a b c d : Int) (w : World) : (eqGuard .eql 91 x y (.agg #[.int .i64 a, .int .i64 b]) (.agg #[.int .i64 c, .int .i64 d])).run Try.prog w = .ok () w := by
  exact run_eqGuard_agg w _ _ _ _ _ _ (by kernel_rfl)

theorem wrong_any (a b : Int) (w : World) :
    Calls Try.prog 84 #[.agg #[.int .i64 a, .int .i64 b]] w fun e w' => e = .returned (.bool (a == -1 && b == -1)) ∧ w.alloc (.cells #[.int .i64 a, .int .i64 b] 91) = w' := by
  have he := eql a b (-1) (-1)
  have hg := fun x y => guard x y a b (-1) (-1)
  go_enter Try.func84, Try.ntmps84
  go_wp2_with fail
  go_ret
  exact ⟨rfl, rfl⟩

theorem right_bd {a : Int} (h : right a = true) : 0 ≤ a ∧ a ≤ 4611686018427387904 := of_decide_eq_true h
theorem right_of {a : Int} (h0 : 0 ≤ a) (h1 : a ≤ 4611686018427387904) : right a = true := decide_eq_true ⟨h0, h1⟩

theorem since_yes (a b : Int) (ha : right a = true) (hb : right b = true) (w : World) :
    Calls Try.prog 73 #[.int .i64 a, .int .i64 b] w fun e w' => e = .returned (.tuple #[.int .i64 (max (a - b) 0), .int .i64 0]) ∧ Below w.heap.size w w' := by
  obtain ⟨a0, a1⟩ := right_bd ha
  obtain ⟨b0, b1⟩ := right_bd hb
  have h1 : (a == -1 && b == -1) = false := by simp; omega
  by_cases h2 : 0 ≤ a - b
  all_goals
    go_enter Try.func73, Try.ntmps73
    go_wp2_with fail
    refine (pairOf_yes a b ha hb _).mono ?_
    rintro e w' ⟨rfl, rfl⟩
    go_wp2_with fail
    refine (wrong_any a b _).mono ?_
    rintro e w' ⟨rfl, rfl⟩
    go_wp2_with fail
    go_ret2
    refine ⟨?_, (((Below.refl _ _).alloc (Nat.le_refl _) _).alloc (by simp) _).alloc (by simp; omega) _⟩
    first | (rw [Int.max_eq_left (by omega)]; rfl) | (rw [Int.max_eq_right (by omega)]; rfl)

theorem since_no (a b : Int) (h : (right a && right b) = false) (w : World) :
    Calls Try.prog 73 #[.int .i64 a, .int .i64 b] w fun e w' => e = .returned (.tuple #[.int .i64 0, .int .i64 1]) ∧ Below w.heap.size w w' := by
  go_enter Try.func73, Try.ntmps73
  go_wp2_with fail
  refine (pairOf_no a b h _).mono ?_
  rintro e w' ⟨rfl, rfl⟩
  go_wp2_with fail
  refine (wrong_any (-1) (-1) _).mono ?_
  rintro e w' ⟨rfl, rfl⟩
  go_wp2_with fail
  go_ret2
  exact ⟨rfl, (((Below.refl _ _).alloc (Nat.le_refl _) _).alloc (by simp) _).alloc (by simp; omega) _⟩

theorem late_yes (a b : Int) (ha : right a = true) (hb : right b = true) (w : World) :
    Calls Try.prog 49 #[.int .i64 a, .int .i64 b] w fun e w' => e = .returned (.tuple #[.bool (decide (1000000 < max (a - b) 0)), .int .i64 0]) ∧ Below w.heap.size w w' := by
  go_enter Try.func49, Try.ntmps49
  go_wp2_with fail
  refine (since_yes a b ha hb _).mono ?_
  rintro e w' ⟨rfl, hb⟩
  go_wp2_with fail
  go_ret2
  exact ⟨rfl, hb⟩

theorem late_no (a b : Int) (h : (right a && right b) = false) (w : World) :
    Calls Try.prog 49 #[.int .i64 a, .int .i64 b] w fun e w' => e = .returned (.tuple #[.bool false, .int .i64 1]) ∧ Below w.heap.size w w' := by
  go_enter Try.func49, Try.ntmps49
  go_wp2_with fail
  refine (since_no a b h _).mono ?_
  rintro e w' ⟨rfl, hb⟩
  go_wp2_with fail
  go_ret2
  exact ⟨rfl, hb⟩
end Clock
end Go.Proofs.Ytkjhacbkgnjilaa
