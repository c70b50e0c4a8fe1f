/-
  The walks of the statements of layer 15: GiveTells, GiveOnce.
-/
import Derived.Test.YteejgejeggackaaGive
namespace Go.Proofs.Yteejgejeggackaa
open Go.RowKit

theorem Give.alive (w : World) : Calls Try.prog 29 #[] w fun e w' => e = .returned (.bool true) ∧ Below w.heap.size w w' := by
  have h : Flags.has 20 2 = true := by decide
  have h2 : Flags.word false true false (16 / 8 - 1) = 10 := by decide
  go_enter Try.func29, Try.ntmps29
  go_wp2_with fail
  refine (Give.left_free 20 (by omega) (by omega) (by decide) _).mono ?_
  rintro e w1 ⟨rfl, hb1⟩
  rw [h]
  go_wp2_with fail
  refine (Give.wakes_yes 16 (by omega) (by omega) (by decide) _).mono ?_
  rintro e w2 ⟨rfl, hb2⟩
  rw [h2]
  go_wp2_with fail
  go_ret
  exact ⟨rfl, (bthen hb1 hb2)⟩

namespace giveTells
set_option maxHeartbeats 1000000 in
theorem low (t : Int) (h : t < -1) (w : World) :
    Calls Try.prog 6 #[.int .i64 t] w fun e w' => e = .returned (.bool true) ∧ Below w.heap.size w w' := by
  have hw : Flags.isWord t = false := decide_eq_false (by omega)
  go_enter Try.func6, Try.ntmps6
  go_wp2_with fail
  refine (Give.left_low t h _).mono ?_
  rintro e w1 ⟨rfl, hb1⟩
  go_wp2_with fail
  refine (Give.wakes_arg t (by omega) _).mono ?_
  rintro e w2 ⟨rfl, hb2⟩
  go_wp2_with fail
  refine (Give.refLeft_low t (by omega) _).mono ?_
  rintro e w3 ⟨rfl, hb3⟩
  go_wp2_with fail
  refine (Give.alive _).mono ?_
  rintro e w4 ⟨rfl, hb4⟩
  go_wp2_with fail
  refine (Give.refWord_any t _).mono ?_
  rintro e w' ⟨rfl, rfl⟩
  go_wp2_with fail
  go_ret
  exact ⟨rfl, (bthen (bthen (bthen hb1 hb2) hb3) hb4)⟩

set_option maxHeartbeats 1000000 in
theorem high (t : Int) (h : 2147483648 ≤ t) (w : World) :
    Calls Try.prog 6 #[.int .i64 t] w fun e w' => e = .returned (.bool true) ∧ Below w.heap.size w w' := by
  have hw : Flags.isWord t = false := decide_eq_false (by omega)
  go_enter Try.func6, Try.ntmps6
  go_wp2_with fail
  refine (Give.left_high t h _).mono ?_
  rintro e w1 ⟨rfl, hb1⟩
  go_wp2_with fail
  refine (Give.wakes_arg t (by omega) _).mono ?_
  rintro e w2 ⟨rfl, hb2⟩
  go_wp2_with fail
  refine (Give.refLeft_low t (by omega) _).mono ?_
  rintro e w3 ⟨rfl, hb3⟩
  go_wp2_with fail
  refine (Give.alive _).mono ?_
  rintro e w4 ⟨rfl, hb4⟩
  go_wp2_with fail
  refine (Give.refWord_any t _).mono ?_
  rintro e w' ⟨rfl, rfl⟩
  go_wp2_with fail
  go_ret
  exact ⟨rfl, (bthen (bthen (bthen hb1 hb2) hb3) hb4)⟩

theorem minus (w : World) :
    Calls Try.prog 6 #[.int .i64 (-1)] w fun e w' => e = .returned (.bool true) ∧ Below w.heap.size w w' := by
  have hw : Flags.isWord (-1) = false := by decide
  go_enter Try.func6, Try.ntmps6
  go_wp2_with fail
  refine (Give.left_minus _).mono ?_
  rintro e w1 ⟨rfl, hb1⟩
  go_wp2_with fail
  refine (Give.wakes_arg (-1) (by omega) _).mono ?_
  rintro e w2 ⟨rfl, hb2⟩
  go_wp2_with fail
  refine (Give.refLeft_minus _).mono ?_
  rintro e w3 ⟨rfl, hb3⟩
  go_wp2_with fail
  refine (Give.alive _).mono ?_
  rintro e w4 ⟨rfl, hb4⟩
  go_wp2_with fail
  refine (Give.refWord_any (-1) _).mono ?_
  rintro e w' ⟨rfl, rfl⟩
  go_wp2_with fail
  go_ret
  exact ⟨rfl, (bthen (bthen (bthen hb1 hb2) hb3) hb4)⟩

theorem zero (w : World) :
    Calls Try.prog 6 #[.int .i64 0] w fun e w' => e = .returned (.bool true) ∧ Below w.heap.size w w' := by
  have hw : Flags.isWord 0 = true := by decide
  have h2 : Flags.has 0 2 = false := by decide
  go_enter Try.func6, Try.ntmps6
  go_wp2_with fail
  refine (Give.left_zero _).mono ?_
  rintro e w1 ⟨rfl, hb1⟩
  go_wp2_with fail
  refine (Give.wakes_no 0 (by omega) (by omega) (by decide) _).mono ?_
  rintro e w2 ⟨rfl, hb2⟩
  go_wp2_with fail
  refine (Give.refLeft_free 0 (by omega) (by omega) (by decide) _).mono ?_
  rintro e w3 ⟨rfl, hb3⟩
  go_wp2_with fail
  refine (Give.alive _).mono ?_
  rintro e w4 ⟨rfl, hb4⟩
  go_wp2_with fail
  refine (Give.refWord_any 0 _).mono ?_
  rintro e w' ⟨rfl, rfl⟩
  go_wp2_with fail
  refine (Give.refWakes_no 0 (by omega) (by omega) (by decide) _).mono ?_
  rintro e w5 ⟨rfl, hb5⟩
  go_wp2_with fail
  go_ret
  exact ⟨rfl, (bthen (bthen (bthen (bthen hb1 hb2) hb3) hb4) hb5)⟩

set_option maxHeartbeats 1000000 in
theorem locked (t : Int) (h0 : 1 ≤ t) (h1 : t < 2147483648) (hl : Flags.has t 0 = true) (w : World) :
    Calls Try.prog 6 #[.int .i64 t] w fun e w' => e = .returned (.bool true) ∧ Below w.heap.size w w' := by
  have hw : Flags.isWord t = true := decide_eq_true ⟨by omega, h1⟩
  have hn : Give.wakes t = false := by unfold Give.wakes; rw [hl]; simp
  have HL := Lib.hid hl
  clear hl
  have HN := Lib.hid hn
  clear hn
  go_enter Try.func6, Try.ntmps6
  go_wp2_with fail
  refine (Give.left_locked t h0 h1 HL.out _).mono ?_
  rintro e w1 ⟨rfl, hb1⟩
  go_wp2_with fail
  refine (Give.wakes_no t (by omega) h1 HN.out _).mono ?_
  rintro e w2 ⟨rfl, hb2⟩
  go_wp2_with fail
  refine (Give.refLeft_locked t (by omega) h1 HL.out _).mono ?_
  rintro e w3 ⟨rfl, hb3⟩
  go_wp2_with fail
  refine (Give.alive _).mono ?_
  rintro e w4 ⟨rfl, hb4⟩
  go_wp2_with fail
  refine (Give.refWord_any t _).mono ?_
  rintro e w' ⟨rfl, rfl⟩
  go_wp2_with fail
  refine (Give.refWakes_no t (by omega) h1 HN.out _).mono ?_
  rintro e w5 ⟨rfl, hb5⟩
  go_wp2_with fail
  go_ret
  exact ⟨rfl, (bthen (bthen (bthen (bthen hb1 hb2) hb3) hb4) hb5)⟩

set_option maxHeartbeats 1000000 in
theorem freeno (t : Int) (h0 : 1 ≤ t) (h1 : t < 2147483648) (hl : Flags.has t 0 = false) (hn : Give.wakes t = false) (s : Bool) (hs : Flags.has t 2 = s) (w : World) :
    Calls Try.prog 6 #[.int .i64 t] w fun e w' => e = .returned (.bool true) ∧ Below w.heap.size w w' := by
  have hw : Flags.isWord t = true := decide_eq_true ⟨by omega, h1⟩
  have hz : (t == 0) = false := by simp; omega
  have HL := Lib.hid hl
  clear hl
  have HN := Lib.hid hn
  clear hn
  have HS := Lib.hid hs
  clear hs
  go_enter Try.func6, Try.ntmps6
  go_wp2_with fail
  refine (Give.left_free t h0 h1 HL.out _).mono ?_
  rintro e w1 ⟨rfl, hb1⟩
  rw [HS.out]
  go_wp2_with fail
  refine (Give.wakes_no t (by omega) h1 HN.out _).mono ?_
  rintro e w2 ⟨rfl, hb2⟩
  go_wp2_with fail
  refine (Give.refLeft_free t (by omega) h1 HL.out _).mono ?_
  rintro e w3 ⟨rfl, hb3⟩
  rw [HS.out]
  skip
  go_wp2_with fail
  refine (Give.alive _).mono ?_
  rintro e w4 ⟨rfl, hb4⟩
  go_wp2_with fail
  refine (Give.refWord_any t _).mono ?_
  rintro e w' ⟨rfl, rfl⟩
  go_wp2_with fail
  refine (Give.refWakes_no t (by omega) h1 HN.out _).mono ?_
  rintro e w5 ⟨rfl, hb5⟩
  go_wp2_with fail
  go_ret
  exact ⟨rfl, (bthen (bthen (bthen (bthen hb1 hb2) hb3) hb4) hb5)⟩

set_option maxHeartbeats 1000000 in
theorem freeyes (t : Int) (h0 : 1 ≤ t) (h1 : t < 2147483648) (hl : Flags.has t 0 = false) (hn : Give.wakes t = true) (s : Bool) (hs : Flags.has t 2 = s) (w : World) :
    Calls Try.prog 6 #[.int .i64 t] w fun e w' => e = .returned (.bool true) ∧ Below w.heap.size w w' := by
  have hw : Flags.isWord t = true := decide_eq_true ⟨by omega, h1⟩
  have hz : (t == 0) = false := by simp; omega
  have HL := Lib.hid hl
  clear hl
  have HN := Lib.hid hn
  clear hn
  have HS := Lib.hid hs
  clear hs
  go_enter Try.func6, Try.ntmps6
  go_wp2_with fail
  refine (Give.left_free t h0 h1 HL.out _).mono ?_
  rintro e w1 ⟨rfl, hb1⟩
  rw [HS.out]
  go_wp2_with fail
  refine (Give.wakes_yes t (by omega) h1 HN.out _).mono ?_
  rintro e w2 ⟨rfl, hb2⟩
  go_wp2_with fail
  refine (Give.refLeft_free t (by omega) h1 HL.out _).mono ?_
  rintro e w3 ⟨rfl, hb3⟩
  rw [HS.out]
  skip
  go_wp2_with fail
  refine (Give.alive _).mono ?_
  rintro e w4 ⟨rfl, hb4⟩
  go_wp2_with fail
  refine (Give.refWord_any t _).mono ?_
  rintro e w' ⟨rfl, rfl⟩
  go_wp2_with fail
  refine (Give.refWakes_yes t (by omega) h1 HN.out _).mono ?_
  rintro e w5 ⟨rfl, hb5⟩
  go_wp2_with fail
  go_ret
  exact ⟨rfl, (bthen (bthen (bthen (bthen hb1 hb2) hb3) hb4) hb5)⟩

theorem walk (t : Int) (w : World) (_ : (Lit.int .i64 t).wf = true) :
    Calls Try.prog 6 #[.int .i64 t] w fun e w' => e = .returned (.bool true) ∧ Below w.heap.size w w' := by
  by_cases h1 : t < -1
  · exact low t h1 w
  · by_cases h2 : 2147483648 ≤ t
    · exact high t h2 w
    · by_cases h3 : t = -1
      · subst h3
        exact minus w
      · by_cases h4 : t = 0
        · subst h4
          exact zero w
        · cases hl : Flags.has t 0
          · cases hn : Give.wakes t
            · exact freeno t (by omega) (by omega) hl hn _ rfl w
            · exact freeyes t (by omega) (by omega) hl hn _ rfl w
          · exact locked t (by omega) (by omega) hl w
end giveTells
end Go.Proofs.Yteejgejeggackaa
