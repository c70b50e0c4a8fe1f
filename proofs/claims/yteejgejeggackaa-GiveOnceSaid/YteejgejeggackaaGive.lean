/-
  The contracts of package give (layer 15), and of the document's own functions for layers 3 and 15.
-/
import Derived.Test.YteejgejeggackaaFlags
import Derived.Deep.QuietTactic
import Derived.BigQuiet
namespace Go.Proofs.Yteejgejeggackaa
open Go.RowKit
namespace Give

theorem bit_any (b : Bool) (w : World) : Calls Try.prog 91 #[.bool b] w fun e w' => e = .returned (.int .i64 (if b then 1 else 0)) ∧ w = w' := by
  cases b
  all_goals
    go_enter Try.func91, Try.ntmps91
    go_wp2_with fail
    go_ret
    exact ⟨rfl, rfl⟩

/-- What is to be done with a word: 0 a fault, 1 nothing, 2 hand on, 3 look. -/
def kind (l s : Bool) : Int := if l then 0 else if s then 2 else 3

theorem kind_any (l k s : Bool) (n : Int) (w : World) : Calls Try.prog 71 #[.agg #[.bool l, .bool k, .bool s, .int .i64 n]] w fun e w' => e = .returned (.int .i64 (kind l s)) ∧ Below w.heap.size w w' := by
  have i0 : ∀ w, (Instr.index 51 (.agg #[.int .i64 3, .int .i64 0]) (.int .i64 0)).run Try.prog w = .ok (.int .i64 3) w := fun _ => by kernel_rfl
  have i1 : ∀ w, (Instr.index 51 (.agg #[.int .i64 3, .int .i64 0]) (.int .i64 1)).run Try.prog w = .ok (.int .i64 0) w := fun _ => by kernel_rfl
  have j0 : ∀ w, (Instr.index 104 (.agg #[.int .i64 0, .int .i64 (-1), .int .i64 0, .int .i64 0]) (.int .i64 0)).run Try.prog w = .ok (.agg #[.int .i64 0, .int .i64 (-1)]) w := fun _ => by kernel_rfl
  have j1 : ∀ w, (Instr.index 104 (.agg #[.int .i64 0, .int .i64 (-1), .int .i64 0, .int .i64 0]) (.int .i64 1)).run Try.prog w = .ok (.agg #[.int .i64 0, .int .i64 0]) w := fun _ => by kernel_rfl
  have k0 : ∀ w, (Instr.index 51 (.agg #[.int .i64 0, .int .i64 (-1)]) (.int .i64 0)).run Try.prog w = .ok (.int .i64 0) w := fun _ => by kernel_rfl
  have k1 : ∀ w, (Instr.index 51 (.agg #[.int .i64 0, .int .i64 (-1)]) (.int .i64 1)).run Try.prog w = .ok (.int .i64 (-1)) w := fun _ => by kernel_rfl
  have l0 : ∀ w, (Instr.index 51 (.agg #[.int .i64 0, .int .i64 0]) (.int .i64 0)).run Try.prog w = .ok (.int .i64 0) w := fun _ => by kernel_rfl
  have l1 : ∀ w, (Instr.index 51 (.agg #[.int .i64 0, .int .i64 0]) (.int .i64 1)).run Try.prog w = .ok (.int .i64 0) w := fun _ => by kernel_rfl
  cases l <;> cases s
  all_goals
    go_enter Try.func71, Try.ntmps71
    go_wp2_with fail
    go_quiet ((go_at_call 91; refine Calls.quiet_of ((bit_any _ _).mono fun _ _ ⟨he, hw⟩ => ⟨he, 0, hw.symm⟩)))
    go_wp2
    go_ret
    exact ⟨rfl, below_drewN ((Below.refl _ _).alloc (Nat.le_refl _) _) _⟩

theorem left_low (t : Int) (h : t < -1) (w : World) : Calls Try.prog 26 #[.int .i64 t] w fun e w' => e = .returned (.tuple #[.bool false, .bool false, .int .i64 1]) ∧ Below w.heap.size w w' := by
  go_enter Try.func26, Try.ntmps26
  go_wp2_with fail
  refine (Flags.unpack_yes 0 (by omega) (by omega) _).mono ?_
  rintro e w1 ⟨rfl, hb1⟩
  go_wp2_with fail
  refine (kind_any _ _ _ _ _).mono ?_
  rintro e w2 ⟨rfl, hb2⟩
  go_wp2_with fail
  go_ret3
  exact ⟨rfl, bthen (hb1.alloc hb1.size _) hb2⟩

theorem left_high (t : Int) (h : 2147483648 ≤ t) (w : World) : Calls Try.prog 26 #[.int .i64 t] w fun e w' => e = .returned (.tuple #[.bool false, .bool false, .int .i64 1]) ∧ Below w.heap.size w w' := by
  go_enter Try.func26, Try.ntmps26
  go_wp2_with fail
  refine (Flags.unpack_no t (Or.inr h) _).mono ?_
  rintro e w1 ⟨rfl, hb1⟩
  go_wp2_with fail
  refine (kind_any _ _ _ _ _).mono ?_
  rintro e w2 ⟨rfl, hb2⟩
  go_wp2_with fail
  go_ret3
  exact ⟨rfl, bthen (hb1.alloc hb1.size _) hb2⟩

theorem left_minus (w : World) : Calls Try.prog 26 #[.int .i64 (-1)] w fun e w' => e = .returned (.tuple #[.bool false, .bool false, .int .i64 11]) ∧ Below w.heap.size w w' := by
  go_enter Try.func26, Try.ntmps26
  go_wp2_with fail
  refine (Flags.unpack_yes 0 (by omega) (by omega) _).mono ?_
  rintro e w1 ⟨rfl, hb1⟩
  go_wp2_with fail
  refine (kind_any _ _ _ _ _).mono ?_
  rintro e w2 ⟨rfl, hb2⟩
  go_wp2_with fail
  go_ret3
  exact ⟨rfl, bthen (hb1.alloc hb1.size _) hb2⟩

theorem left_zero (w : World) : Calls Try.prog 26 #[.int .i64 0] w fun e w' => e = .returned (.tuple #[.bool true, .bool false, .int .i64 0]) ∧ Below w.heap.size w w' := by
  go_enter Try.func26, Try.ntmps26
  go_wp2_with fail
  refine (Flags.unpack_yes 0 (by omega) (by omega) _).mono ?_
  rintro e w1 ⟨rfl, hb1⟩
  go_wp2_with fail
  refine (kind_any _ _ _ _ _).mono ?_
  rintro e w2 ⟨rfl, hb2⟩
  go_wp2_with fail
  go_ret3
  exact ⟨rfl, bthen (hb1.alloc hb1.size _) hb2⟩

theorem left_locked (t : Int) (h0 : 1 ≤ t) (h1 : t < 2147483648) (hl : Flags.has t 0 = true) (w : World) : Calls Try.prog 26 #[.int .i64 t] w fun e w' => e = .returned (.tuple #[.bool false, .bool false, .int .i64 11]) ∧ Below w.heap.size w w' := by
  have hk : kind (Flags.has t 0) (Flags.has t 2) = 0 := by rw [hl]; rfl
  have hz : (t == 0) = false := by simp; omega
  clear hl
  go_enter Try.func26, Try.ntmps26
  go_wp2_with fail
  refine (Flags.unpack_yes t (by omega) (by omega) _).mono ?_
  rintro e w1 ⟨rfl, hb1⟩
  go_wp2_with fail
  refine (kind_any _ _ _ _ _).mono ?_
  rintro e w2 ⟨rfl, hb2⟩
  rw [hk]
  go_wp2_with fail
  go_ret3
  exact ⟨rfl, bthen (hb1.alloc hb1.size _) hb2⟩

theorem left_free (t : Int) (h0 : 1 ≤ t) (h1 : t < 2147483648) (hl : Flags.has t 0 = false) (w : World) : Calls Try.prog 26 #[.int .i64 t] w fun e w' => e = .returned (.tuple #[.bool false, .bool (Flags.has t 2), .int .i64 0]) ∧ Below w.heap.size w w' := by
  have hz : (t == 0) = false := by simp; omega
  cases hs : Flags.has t 2
  · have hk : kind (Flags.has t 0) (Flags.has t 2) = 3 := by rw [hl, hs]; rfl
    have HS := Lib.hid hs
    clear hs hl
    go_enter Try.func26, Try.ntmps26
    go_wp2_with fail
    refine (Flags.unpack_yes t (by omega) (by omega) _).mono ?_
    rintro e w1 ⟨rfl, hb1⟩
    go_wp2_with fail
    refine (kind_any _ _ _ _ _).mono ?_
    rintro e w2 ⟨rfl, hb2⟩
    rw [hk]
    go_wp2_with fail
    go_ret3
    exact ⟨rfl, bthen (hb1.alloc hb1.size _) hb2⟩
  · have hk : kind (Flags.has t 0) (Flags.has t 2) = 2 := by rw [hl, hs]; rfl
    have HS := Lib.hid hs
    clear hs hl
    go_enter Try.func26, Try.ntmps26
    go_wp2_with fail
    refine (Flags.unpack_yes t (by omega) (by omega) _).mono ?_
    rintro e w1 ⟨rfl, hb1⟩
    go_wp2_with fail
    refine (kind_any _ _ _ _ _).mono ?_
    rintro e w2 ⟨rfl, hb2⟩
    rw [hk]
    go_wp2_with fail
    go_ret3
    exact ⟨rfl, bthen (hb1.alloc hb1.size _) hb2⟩

theorem wakes_arg (t : Int) (h : t < 0 ∨ 2147483648 ≤ t) (w : World) : Calls Try.prog 27 #[.int .i64 t] w fun e w' => e = .returned (.tuple #[.bool false, .int .i64 0, .int .i64 1]) ∧ Below w.heap.size w w' := by
  go_enter Try.func27, Try.ntmps27
  go_wp2_with fail
  refine (Flags.unpack_no t h _).mono ?_
  rintro e w1 ⟨rfl, hb1⟩
  go_wp2_with fail
  go_ret3
  exact ⟨rfl, hb1.alloc hb1.size _⟩

/-- Is somebody to be woken? -/
def wakes (t : Int) : Bool := !(decide (t / 8 = 0) || Flags.has t 0 || Flags.has t 1 || Flags.has t 2)

theorem wakes_no (t : Int) (h0 : 0 ≤ t) (h1 : t < 2147483648) (h : wakes t = false) (w : World) : Calls Try.prog 27 #[.int .i64 t] w fun e w' => e = .returned (.tuple #[.bool false, .int .i64 0, .int .i64 0]) ∧ Below w.heap.size w w' := by
  have hq : ((t / 8 == 0) = true) ∨ ((t / 8 == 0) = false ∧ Flags.has t 0 = true) ∨ ((t / 8 == 0) = false ∧ Flags.has t 0 = false ∧ Flags.has t 1 = true) ∨ ((t / 8 == 0) = false ∧ Flags.has t 0 = false ∧ Flags.has t 1 = false ∧ Flags.has t 2 = true) := by
    unfold wakes at h
    by_cases hz : t / 8 = 0 <;> cases ha : Flags.has t 0 <;> cases hb : Flags.has t 1 <;> cases hc : Flags.has t 2 <;> simp_all
  clear h
  rcases hq with a | ⟨a, b⟩ | ⟨a, b, c⟩ | ⟨a, b, c, d⟩
  all_goals
    go_enter Try.func27, Try.ntmps27
    go_wp2_with fail
    refine (Flags.unpack_yes t h0 h1 _).mono ?_
    rintro e w1 ⟨rfl, hb1⟩
    go_wp2_with fail
    go_ret3
    exact ⟨rfl, hb1.alloc hb1.size _⟩

theorem wakes_yes (t : Int) (h0 : 0 ≤ t) (h1 : t < 2147483648) (h : wakes t = true) (w : World) :
    Calls Try.prog 27 #[.int .i64 t] w fun e w' => e = .returned (.tuple #[.bool true, .int .i64 (Flags.word false true false (t / 8 - 1)), .int .i64 0]) ∧ Below w.heap.size w w' := by
  obtain ⟨a, b, c, d⟩ : (t / 8 == 0) = false ∧ Flags.has t 0 = false ∧ Flags.has t 1 = false ∧ Flags.has t 2 = false := by
    unfold wakes at h
    by_cases hz : t / 8 = 0 <;> cases ha : Flags.has t 0 <;> cases hb : Flags.has t 1 <;> cases hc : Flags.has t 2 <;> simp_all
  clear h
  have hn : 1 ≤ t / 8 := by have := ne_of_beq_false a; omega
  go_enter Try.func27, Try.ntmps27
  go_wp2_with fail
  refine (Flags.unpack_yes t h0 h1 _).mono ?_
  rintro e w1 ⟨rfl, hb1⟩
  go_wp2_with fail
  refine (Flags.pack_yes false true false (t / 8 - 1) (by omega) (by omega) _).mono ?_
  rintro e w2 ⟨rfl, hb2⟩
  go_wp2_with fail
  go_ret3
  exact ⟨rfl, bthen (hb1.alloc hb1.size _) hb2⟩

/-! ### The document's own functions. -/

theorem fld0 (a b c : Bool) (d : Int) (w : World) : (Instr.field 46 (.agg #[.bool a, .bool b, .bool c, .int .i64 d]) 0).run Try.prog w = .ok (.bool a) w := by kernel_rfl
theorem fld2 (a b c : Bool) (d : Int) (w : World) : (Instr.field 46 (.agg #[.bool a, .bool b, .bool c, .int .i64 d]) 2).run Try.prog w = .ok (.bool c) w := by kernel_rfl

theorem refWord_any (t : Int) (w : World) : Calls Try.prog 30 #[.int .i64 t] w fun e w' => e = .returned (.bool (Flags.isWord t)) ∧ w = w' := by
  unfold Flags.isWord
  by_cases h0 : 0 ≤ t
  · have h2 : decide (0 ≤ t) = true := by simpa using h0
    by_cases h1 : t < 2147483648
    · have h3 : decide (t < 2147483648) = true := by simpa using h1
      rw [decide_eq_true (show 0 ≤ t ∧ t < 2147483648 from ⟨h0, h1⟩)]
      go_enter Try.func30, Try.ntmps30
      go_wp2
      go_ret
      exact ⟨rfl, rfl⟩
    · have h3 : decide (t < 2147483648) = false := by simpa using h1
      rw [decide_eq_false (show ¬ (0 ≤ t ∧ t < 2147483648) from fun h => h1 h.2)]
      go_enter Try.func30, Try.ntmps30
      go_wp2
      go_ret
      exact ⟨rfl, rfl⟩
  · have h2 : decide (0 ≤ t) = false := by simpa using h0
    rw [decide_eq_false (show ¬ (0 ≤ t ∧ t < 2147483648) from fun h => h0 h.1)]
    go_enter Try.func30, Try.ntmps30
    go_wp2
    go_ret
    exact ⟨rfl, rfl⟩

theorem refUnpack_any (t : Int) (h0 : 0 ≤ t) (h1 : t < 2147483648) (w : World) :
    Calls Try.prog 73 #[.int .i64 t] w fun e w' => e = .returned (.agg #[.bool (Flags.has t 0), .bool (Flags.has t 1), .bool (Flags.has t 2), .int .i64 (t / 8)]) ∧ Below w.heap.size w w' := by
  have e0 : (t % 2 == 1) = Flags.has t 0 := by unfold Flags.has; simp; by_cases h : t % 2 = 1 <;> simp [h]
  have e1 : (t / 2 % 2 == 1) = Flags.has t 1 := by unfold Flags.has; simp; by_cases h : t / 2 % 2 = 1 <;> simp [h]
  have e2 : (t / 4 % 2 == 1) = Flags.has t 2 := by unfold Flags.has; simp; by_cases h : t / 4 % 2 = 1 <;> simp [h]
  go_enter Try.func73, Try.ntmps73
  go_wp2_with fail
  exact bodyPost_ret (v := .agg #[.bool (Flags.has t 0), .bool (Flags.has t 1), .bool (Flags.has t 2), .int .i64 (t / 8)]) (by simp [results, Try.results73, go_sem]) rfl ⟨rfl, (Below.refl _ _).alloc (Nat.le_refl _) _⟩

theorem refBit_any (b : Bool) (n : Int) (w : World) : Calls Try.prog 92 #[.bool b, .int .i64 n] w fun e w' => e = .returned (.int .i64 (if b then n else 0)) ∧ w = w' := by
  cases b
  all_goals
    go_enter Try.func92, Try.ntmps92
    go_wp2_with fail
    go_ret
    exact ⟨rfl, rfl⟩

theorem refPack_any (l k s : Bool) (n : Int) (h0 : 0 ≤ n) (h1 : n ≤ 268435455) (w : World) :
    Calls Try.prog 74 #[.agg #[.bool l, .bool k, .bool s, .int .i64 n]] w fun e w' => e = .returned (.int .i64 (Flags.word l k s n)) ∧ Below w.heap.size w w' := by
  cases l <;> cases k <;> cases s
  all_goals
    go_enter Try.func74, Try.ntmps74
    go_wp2_with fail
    go_quiet ((go_at_call 92; refine Calls.quiet_of ((refBit_any _ _ _).mono fun _ _ ⟨he, hw⟩ => ⟨he, 0, hw.symm⟩)))
    go_wp2
    go_ret
    refine ⟨ret_int ?_, below_drewN ((Below.refl _ _).alloc (Nat.le_refl _) _) _⟩
    simp [Flags.word]
    try omega

theorem refLeft_low (t : Int) (h : t < -1 ∨ 2147483648 ≤ t) (w : World) : Calls Try.prog 28 #[.int .i64 t] w fun e w' => e = .returned (.tuple #[.bool false, .bool false, .int .i64 1]) ∧ Below w.heap.size w w' := by
  have h2 : (t != -1) = true := by simp; omega
  have h3 : Flags.isWord t = false := decide_eq_false (by omega)
  go_enter Try.func28, Try.ntmps28
  go_wp2_with fail
  refine (refWord_any t _).mono ?_
  rintro e w1 ⟨rfl, rfl⟩
  go_wp2_with fail
  go_ret3
  exact ⟨rfl, Below.refl _ _⟩

theorem refLeft_minus (w : World) : Calls Try.prog 28 #[.int .i64 (-1)] w fun e w' => e = .returned (.tuple #[.bool false, .bool false, .int .i64 11]) ∧ Below w.heap.size w w' := by
  go_enter Try.func28, Try.ntmps28
  go_wp2_with fail
  go_ret3
  exact ⟨rfl, Below.refl _ _⟩

theorem refLeft_locked (t : Int) (h0 : 0 ≤ t) (h1 : t < 2147483648) (hl : Flags.has t 0 = true) (w : World) : Calls Try.prog 28 #[.int .i64 t] w fun e w' => e = .returned (.tuple #[.bool false, .bool false, .int .i64 11]) ∧ Below w.heap.size w w' := by
  have f0 := fld0
  have f2 := fld2
  have h2 : (t != -1) = true := by simp; omega
  have h4 : (t == -1) = false := by simp; omega
  have h3 : Flags.isWord t = true := decide_eq_true ⟨h0, h1⟩
  go_enter Try.func28, Try.ntmps28
  go_wp2_with fail
  refine (refWord_any t _).mono ?_
  rintro e w1 ⟨rfl, rfl⟩
  go_wp2_with fail
  refine (refUnpack_any t h0 h1 _).mono ?_
  rintro e w1 ⟨rfl, hb1⟩
  go_wp2_with fail
  go_ret3
  exact ⟨rfl, hb1⟩

theorem refLeft_free (t : Int) (h0 : 0 ≤ t) (h1 : t < 2147483648) (hl : Flags.has t 0 = false) (w : World) : Calls Try.prog 28 #[.int .i64 t] w fun e w' => e = .returned (.tuple #[.bool (t == 0), .bool (Flags.has t 2), .int .i64 0]) ∧ Below w.heap.size w w' := by
  have f0 := fld0
  have f2 := fld2
  have h2 : (t != -1) = true := by simp; omega
  have h4 : (t == -1) = false := by simp; omega
  have h3 : Flags.isWord t = true := decide_eq_true ⟨h0, h1⟩
  go_enter Try.func28, Try.ntmps28
  go_wp2_with fail
  refine (refWord_any t _).mono ?_
  rintro e w1 ⟨rfl, rfl⟩
  go_wp2_with fail
  refine (refUnpack_any t h0 h1 _).mono ?_
  rintro e w1 ⟨rfl, hb1⟩
  go_wp2_with fail
  refine (refUnpack_any t h0 h1 _).mono ?_
  rintro e w2 ⟨rfl, hb2⟩
  go_wp2_with fail
  go_ret3
  exact ⟨rfl, bthen hb1 hb2⟩

theorem refWakes_no (t : Int) (h0 : 0 ≤ t) (h1 : t < 2147483648) (h : wakes t = false) (w : World) : Calls Try.prog 31 #[.int .i64 t] w fun e w' => e = .returned (.tuple #[.bool false, .int .i64 0]) ∧ Below w.heap.size w w' := by
  have hq : ((t / 8 == 0) = true) ∨ ((t / 8 == 0) = false ∧ Flags.has t 0 = true) ∨ ((t / 8 == 0) = false ∧ Flags.has t 0 = false ∧ Flags.has t 1 = true) ∨ ((t / 8 == 0) = false ∧ Flags.has t 0 = false ∧ Flags.has t 1 = false ∧ Flags.has t 2 = true) := by
    unfold wakes at h
    by_cases hz : t / 8 = 0 <;> cases ha : Flags.has t 0 <;> cases hb : Flags.has t 1 <;> cases hc : Flags.has t 2 <;> simp_all
  clear h
  rcases hq with a | ⟨a, b⟩ | ⟨a, b, c⟩ | ⟨a, b, c, d⟩
  all_goals
    go_enter Try.func31, Try.ntmps31
    go_wp2_with fail
    refine (refUnpack_any t h0 h1 _).mono ?_
    rintro e w1 ⟨rfl, hb1⟩
    go_wp2_with fail
    go_ret2
    exact ⟨rfl, hb1.alloc hb1.size _⟩

theorem refWakes_yes (t : Int) (h0 : 0 ≤ t) (h1 : t < 2147483648) (h : wakes t = true) (w : World) :
    Calls Try.prog 31 #[.int .i64 t] w fun e w' => e = .returned (.tuple #[.bool true, .int .i64 (Flags.word false true false (t / 8 - 1))]) ∧ Below w.heap.size w w' := by
  obtain ⟨a, b, c, d⟩ : (t / 8 == 0) = false ∧ Flags.has t 0 = false ∧ Flags.has t 1 = false ∧ Flags.has t 2 = false := by
    unfold wakes at h
    by_cases hz : t / 8 = 0 <;> cases ha : Flags.has t 0 <;> cases hb : Flags.has t 1 <;> cases hc : Flags.has t 2 <;> simp_all
  clear h
  have hn : 1 ≤ t / 8 := by have := ne_of_beq_false a; omega
  go_enter Try.func31, Try.ntmps31
  go_wp2_with fail
  refine (refUnpack_any t h0 h1 _).mono ?_
  rintro e w1 ⟨rfl, hb1⟩
  go_wp2_with fail
  refine (refPack_any false true false (t / 8 - 1) (by omega) (by omega) _).mono ?_
  rintro e w2 ⟨rfl, hb2⟩
  go_wp2_with fail
  go_ret2
  exact ⟨rfl, bthen (hb1.alloc hb1.size _) hb2⟩
end Give
end Go.Proofs.Yteejgejeggackaa
