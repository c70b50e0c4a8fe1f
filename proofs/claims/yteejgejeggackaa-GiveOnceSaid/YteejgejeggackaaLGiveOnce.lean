/-
  The walk of GiveOnce (layer 15).
-/
import Derived.Test.YteejgejeggackaaLGiveTells
namespace Go.Proofs.Yteejgejeggackaa
open Go.RowKit
namespace giveOnce

theorem has0 (t : Int) : Flags.has t 0 = decide (t % 2 = 1) := by unfold Flags.has; simp
theorem has1 (t : Int) : Flags.has t 1 = decide (t / 2 % 2 = 1) := by unfold Flags.has; simp
theorem has2 (t : Int) : Flags.has t 2 = decide (t / 4 % 2 = 1) := by unfold Flags.has; simp
theorem odd_of {t : Int} (h : Flags.has t 0 = true) : t % 2 = 1 := by rw [has0] at h; simpa using h
theorem even_of {t : Int} (h : Flags.has t 0 = false) : t % 2 = 0 := by rw [has0] at h; simp at h; omega
theorem less_locked {t : Int} (h : Flags.has t 0 = true) : Flags.has (t - 1) 0 = false := by have := odd_of h; rw [has0]; simp; omega
theorem less_free {t : Int} (h : Flags.has t 0 = false) : Flags.has (t - 1) 0 = true := by have := even_of h; rw [has0]; simp; omega
theorem less_starving {t : Int} (h : Flags.has t 0 = true) : Flags.has (t - 1) 2 = Flags.has t 2 := by
  have := odd_of h
  rw [has2, has2, show (t - 1) / 4 = t / 4 by omega]

set_option maxRecDepth 100000 in
set_option maxHeartbeats 1000000 in
theorem bad (t : Int) (h : t < 0 ∨ 2147483648 ≤ t) (w : World) :
    Calls Try.prog 7 #[.int .i64 t] w fun e w' => e = .returned (.bool true) ∧ Below w.heap.size w w' := by
  go_enter Try.func7, Try.ntmps7
  go_wp2_with fail
  refine (Give.wakes_arg t h _).mono ?_
  rintro e w1 ⟨rfl, hb1⟩
  go_wp2_with fail
  refine (Give.alive _).mono ?_
  rintro e w2 ⟨rfl, hb2⟩
  go_wp2_with fail
  go_ret
  exact ⟨rfl, (bthen hb1 hb2)⟩


/-- A variable's block is laid between two calls. -/
theorem step_alloc {w a b : World} (h : Below w.heap.size w a) (o : Obj) (k : Below (a.alloc o).heap.size (a.alloc o) b) : Below w.heap.size w b :=
  (h.alloc h.size o).trans (k.mono (by have := h.size; simp; omega))
set_option maxRecDepth 100000 in
set_option maxHeartbeats 2000000 in
theorem zero  (w : World) :
    Calls Try.prog 7 #[.int .i64 0] w fun e w' => e = .returned (.bool true) ∧ Below w.heap.size w w' := by
  have f0 : Flags.has 0 0 = false := by decide
  have f1 : Flags.has 0 1 = false := by decide
  have f2 : Flags.has 0 2 = false := by decide
  go_enter Try.func7, Try.ntmps7
  go_wp2_with fail
  refine (Give.wakes_no 0 (by omega) (by omega) (by decide) _).mono ?_
  rintro e w1 ⟨rfl, hb1⟩
  have HC1 := Lib.hid hb1
  clear hb1
  go_wp2_with fail
  refine (Flags.unpack_yes 0 (by omega) (by omega) _).mono ?_
  rintro e w2 ⟨rfl, hb2⟩
  have HC2 := Lib.hid (bthen HC1.out hb2)
  clear hb2
  go_wp2_with fail
  refine (Give.left_minus _).mono ?_
  rintro e w3 ⟨rfl, hb3⟩
  have HC3 := Lib.hid (step_alloc HC2.out _ hb3)
  have B2_3 := (Blk.new w2 46 #[.bool false, .bool false, .bool false, .int .i64 0]).below hb3 (by simp)
  have cB2_3_0 : w3.cell? ⟨w2.heap.size, 0, none⟩ = some (.bool false) := by have := B2_3.cell 0; simpa using this
  have cB2_3_1 : w3.cell? ⟨w2.heap.size, 1, none⟩ = some (.bool false) := by have := B2_3.cell 1; simpa using this
  have cB2_3_2 : w3.cell? ⟨w2.heap.size, 2, none⟩ = some (.bool false) := by have := B2_3.cell 2; simpa using this
  have cB2_3_3 : w3.cell? ⟨w2.heap.size, 3, none⟩ = some (.int .i64 0) := by have := B2_3.cell 3; simpa using this
  have B2x_3 := Lib.hid B2_3
  clear hb3
  go_wp2_with fail
  refine (Give.alive _).mono ?_
  rintro e w4 ⟨rfl, hb4⟩
  have HC4 := Lib.hid (bthen HC3.out hb4)
  have B2_4 := B2_3.below hb4 B2_3.lt
  have cB2_4_0 : w4.cell? ⟨w2.heap.size, 0, none⟩ = some (.bool false) := by have := B2_4.cell 0; simpa using this
  have cB2_4_1 : w4.cell? ⟨w2.heap.size, 1, none⟩ = some (.bool false) := by have := B2_4.cell 1; simpa using this
  have cB2_4_2 : w4.cell? ⟨w2.heap.size, 2, none⟩ = some (.bool false) := by have := B2_4.cell 2; simpa using this
  have cB2_4_3 : w4.cell? ⟨w2.heap.size, 3, none⟩ = some (.int .i64 0) := by have := B2_4.cell 3; simpa using this
  have B2x_4 := Lib.hid B2_4
  clear hb4
  clear cB2_3_0 cB2_3_1 cB2_3_2 cB2_3_3
  go_wp2_with fail
  all_goals go_ret
  all_goals exact ⟨rfl, HC4.out⟩

set_option maxRecDepth 100000 in
set_option maxHeartbeats 2000000 in
theorem one  (w : World) :
    Calls Try.prog 7 #[.int .i64 1] w fun e w' => e = .returned (.bool true) ∧ Below w.heap.size w w' := by
  have f0 : Flags.has 1 0 = true := by decide
  have f1 : Flags.has 1 1 = false := by decide
  have f2 : Flags.has 1 2 = false := by decide
  go_enter Try.func7, Try.ntmps7
  go_wp2_with fail
  refine (Give.wakes_no 1 (by omega) (by omega) (by decide) _).mono ?_
  rintro e w1 ⟨rfl, hb1⟩
  have HC1 := Lib.hid hb1
  clear hb1
  go_wp2_with fail
  refine (Flags.unpack_yes 1 (by omega) (by omega) _).mono ?_
  rintro e w2 ⟨rfl, hb2⟩
  have HC2 := Lib.hid (bthen HC1.out hb2)
  clear hb2
  go_wp2_with fail
  refine (Give.left_zero _).mono ?_
  rintro e w3 ⟨rfl, hb3⟩
  have HC3 := Lib.hid (step_alloc HC2.out _ hb3)
  have B2_3 := (Blk.new w2 46 #[.bool true, .bool false, .bool false, .int .i64 0]).below hb3 (by simp)
  have cB2_3_0 : w3.cell? ⟨w2.heap.size, 0, none⟩ = some (.bool true) := by have := B2_3.cell 0; simpa using this
  have cB2_3_1 : w3.cell? ⟨w2.heap.size, 1, none⟩ = some (.bool false) := by have := B2_3.cell 1; simpa using this
  have cB2_3_2 : w3.cell? ⟨w2.heap.size, 2, none⟩ = some (.bool false) := by have := B2_3.cell 2; simpa using this
  have cB2_3_3 : w3.cell? ⟨w2.heap.size, 3, none⟩ = some (.int .i64 0) := by have := B2_3.cell 3; simpa using this
  have B2x_3 := Lib.hid B2_3
  clear hb3
  go_wp2_with fail
  refine (Give.alive _).mono ?_
  rintro e w4 ⟨rfl, hb4⟩
  have HC4 := Lib.hid (bthen HC3.out hb4)
  have B2_4 := B2_3.below hb4 B2_3.lt
  have cB2_4_0 : w4.cell? ⟨w2.heap.size, 0, none⟩ = some (.bool true) := by have := B2_4.cell 0; simpa using this
  have cB2_4_1 : w4.cell? ⟨w2.heap.size, 1, none⟩ = some (.bool false) := by have := B2_4.cell 1; simpa using this
  have cB2_4_2 : w4.cell? ⟨w2.heap.size, 2, none⟩ = some (.bool false) := by have := B2_4.cell 2; simpa using this
  have cB2_4_3 : w4.cell? ⟨w2.heap.size, 3, none⟩ = some (.int .i64 0) := by have := B2_4.cell 3; simpa using this
  have B2x_4 := Lib.hid B2_4
  clear hb4
  clear cB2_3_0 cB2_3_1 cB2_3_2 cB2_3_3
  go_wp2_with fail
  refine (Give.left_zero _).mono ?_
  rintro e w5 ⟨rfl, hb5⟩
  have HC5 := Lib.hid (bthen HC4.out hb5)
  have B2_5 := B2_4.below hb5 B2_4.lt
  have cB2_5_0 : w5.cell? ⟨w2.heap.size, 0, none⟩ = some (.bool true) := by have := B2_5.cell 0; simpa using this
  have cB2_5_1 : w5.cell? ⟨w2.heap.size, 1, none⟩ = some (.bool false) := by have := B2_5.cell 1; simpa using this
  have cB2_5_2 : w5.cell? ⟨w2.heap.size, 2, none⟩ = some (.bool false) := by have := B2_5.cell 2; simpa using this
  have cB2_5_3 : w5.cell? ⟨w2.heap.size, 3, none⟩ = some (.int .i64 0) := by have := B2_5.cell 3; simpa using this
  have B2x_5 := Lib.hid B2_5
  clear hb5
  clear cB2_4_0 cB2_4_1 cB2_4_2 cB2_4_3
  go_wp2_with fail
  refine (Give.wakes_no 0 (by omega) (by omega) (by decide) _).mono ?_
  rintro e w6 ⟨rfl, hb6⟩
  have HC6 := Lib.hid (bthen HC5.out hb6)
  have B2_6 := B2_5.below hb6 B2_5.lt
  have cB2_6_0 : w6.cell? ⟨w2.heap.size, 0, none⟩ = some (.bool true) := by have := B2_6.cell 0; simpa using this
  have cB2_6_1 : w6.cell? ⟨w2.heap.size, 1, none⟩ = some (.bool false) := by have := B2_6.cell 1; simpa using this
  have cB2_6_2 : w6.cell? ⟨w2.heap.size, 2, none⟩ = some (.bool false) := by have := B2_6.cell 2; simpa using this
  have cB2_6_3 : w6.cell? ⟨w2.heap.size, 3, none⟩ = some (.int .i64 0) := by have := B2_6.cell 3; simpa using this
  have B2x_6 := Lib.hid B2_6
  clear hb6
  clear cB2_5_0 cB2_5_1 cB2_5_2 cB2_5_3
  go_wp2_with fail
  all_goals go_ret
  all_goals exact ⟨rfl, HC6.out⟩

set_option maxRecDepth 100000 in
set_option maxHeartbeats 2000000 in
theorem lockedS (t : Int) (h0 : 2 ≤ t) (h1 : t < 2147483648) (hl : Flags.has t 0 = true) (hs : Flags.has t 2 = true) (w : World) :
    Calls Try.prog 7 #[.int .i64 t] w fun e w' => e = .returned (.bool true) ∧ Below w.heap.size w w' := by
  have hz : (t == 1) = false := by simp; omega
  have hn : Give.wakes t = false := by unfold Give.wakes; rw [hl]; simp
  have hm := less_locked hl
  have ht : Flags.has (t - 1) 2 = true := by rw [less_starving hl, hs]
  have hv : Give.wakes (t - 1) = false := by unfold Give.wakes; rw [ht]; simp
  obtain ⟨q, hq⟩ : ∃ q, Flags.has t 1 = q := ⟨_, rfl⟩
  have HL := Lib.hid hl
  clear hl
  have HS := Lib.hid hs
  clear hs
  have HN := Lib.hid hn
  clear hn
  have HM := Lib.hid hm
  clear hm
  have HT := Lib.hid ht
  clear ht
  have HV := Lib.hid hv
  clear hv
  have HQ := Lib.hid hq
  clear hq
  go_enter Try.func7, Try.ntmps7
  go_wp2_with fail
  refine (Give.wakes_no t (by omega) h1 HN.out _).mono ?_
  rintro e w1 ⟨rfl, hb1⟩
  have HC1 := Lib.hid hb1
  clear hb1
  go_wp2_with fail
  refine (Flags.unpack_yes t (by omega) (by omega) _).mono ?_
  rintro e w2 ⟨rfl, hb2⟩
  have HC2 := Lib.hid (bthen HC1.out hb2)
  clear hb2
  rw [HL.out, HS.out, HQ.out]
  go_wp2_with fail
  refine (Give.left_free (t - 1) (by omega) (by omega) HM.out _).mono ?_
  rintro e w3 ⟨rfl, hb3⟩
  have HC3 := Lib.hid (step_alloc HC2.out _ hb3)
  have B2_3 := (Blk.new w2 46 #[.bool true, .bool q, .bool true, .int .i64 (t / 8)]).below hb3 (by simp)
  have cB2_3_0 : w3.cell? ⟨w2.heap.size, 0, none⟩ = some (.bool true) := by have := B2_3.cell 0; simpa using this
  have cB2_3_1 : w3.cell? ⟨w2.heap.size, 1, none⟩ = some (.bool q) := by have := B2_3.cell 1; simpa using this
  have cB2_3_2 : w3.cell? ⟨w2.heap.size, 2, none⟩ = some (.bool true) := by have := B2_3.cell 2; simpa using this
  have cB2_3_3 : w3.cell? ⟨w2.heap.size, 3, none⟩ = some (.int .i64 (t / 8)) := by have := B2_3.cell 3; simpa using this
  have B2x_3 := Lib.hid B2_3
  clear hb3
  rw [HT.out]
  go_wp2_with fail
  refine (Give.alive _).mono ?_
  rintro e w4 ⟨rfl, hb4⟩
  have HC4 := Lib.hid (bthen HC3.out hb4)
  have B2_4 := B2_3.below hb4 B2_3.lt
  have cB2_4_0 : w4.cell? ⟨w2.heap.size, 0, none⟩ = some (.bool true) := by have := B2_4.cell 0; simpa using this
  have cB2_4_1 : w4.cell? ⟨w2.heap.size, 1, none⟩ = some (.bool q) := by have := B2_4.cell 1; simpa using this
  have cB2_4_2 : w4.cell? ⟨w2.heap.size, 2, none⟩ = some (.bool true) := by have := B2_4.cell 2; simpa using this
  have cB2_4_3 : w4.cell? ⟨w2.heap.size, 3, none⟩ = some (.int .i64 (t / 8)) := by have := B2_4.cell 3; simpa using this
  have B2x_4 := Lib.hid B2_4
  clear hb4
  clear cB2_3_0 cB2_3_1 cB2_3_2 cB2_3_3
  go_wp2_with fail
  refine (Give.left_free (t - 1) (by omega) (by omega) HM.out _).mono ?_
  rintro e w5 ⟨rfl, hb5⟩
  have HC5 := Lib.hid (bthen HC4.out hb5)
  have B2_5 := B2_4.below hb5 B2_4.lt
  have cB2_5_0 : w5.cell? ⟨w2.heap.size, 0, none⟩ = some (.bool true) := by have := B2_5.cell 0; simpa using this
  have cB2_5_1 : w5.cell? ⟨w2.heap.size, 1, none⟩ = some (.bool q) := by have := B2_5.cell 1; simpa using this
  have cB2_5_2 : w5.cell? ⟨w2.heap.size, 2, none⟩ = some (.bool true) := by have := B2_5.cell 2; simpa using this
  have cB2_5_3 : w5.cell? ⟨w2.heap.size, 3, none⟩ = some (.int .i64 (t / 8)) := by have := B2_5.cell 3; simpa using this
  have B2x_5 := Lib.hid B2_5
  clear hb5
  clear cB2_4_0 cB2_4_1 cB2_4_2 cB2_4_3
  rw [HT.out]
  go_wp2_with fail
  refine (Give.wakes_no (t - 1) (by omega) (by omega) HV.out _).mono ?_
  rintro e w6 ⟨rfl, hb6⟩
  have HC6 := Lib.hid (bthen HC5.out hb6)
  have B2_6 := B2_5.below hb6 B2_5.lt
  have cB2_6_0 : w6.cell? ⟨w2.heap.size, 0, none⟩ = some (.bool true) := by have := B2_6.cell 0; simpa using this
  have cB2_6_1 : w6.cell? ⟨w2.heap.size, 1, none⟩ = some (.bool q) := by have := B2_6.cell 1; simpa using this
  have cB2_6_2 : w6.cell? ⟨w2.heap.size, 2, none⟩ = some (.bool true) := by have := B2_6.cell 2; simpa using this
  have cB2_6_3 : w6.cell? ⟨w2.heap.size, 3, none⟩ = some (.int .i64 (t / 8)) := by have := B2_6.cell 3; simpa using this
  have B2x_6 := Lib.hid B2_6
  clear hb6
  clear cB2_5_0 cB2_5_1 cB2_5_2 cB2_5_3
  go_wp2_with fail
  all_goals go_ret
  all_goals exact ⟨rfl, HC6.out⟩

set_option maxRecDepth 100000 in
set_option maxHeartbeats 2000000 in
theorem lockedN (t : Int) (h0 : 2 ≤ t) (h1 : t < 2147483648) (hl : Flags.has t 0 = true) (hs : Flags.has t 2 = false) (hv : Give.wakes (t - 1) = false) (w : World) :
    Calls Try.prog 7 #[.int .i64 t] w fun e w' => e = .returned (.bool true) ∧ Below w.heap.size w w' := by
  have hz : (t == 1) = false := by simp; omega
  have hn : Give.wakes t = false := by unfold Give.wakes; rw [hl]; simp
  have hm := less_locked hl
  have ht : Flags.has (t - 1) 2 = false := by rw [less_starving hl, hs]
  obtain ⟨q, hq⟩ : ∃ q, Flags.has t 1 = q := ⟨_, rfl⟩
  have HL := Lib.hid hl
  clear hl
  have HS := Lib.hid hs
  clear hs
  have HN := Lib.hid hn
  clear hn
  have HM := Lib.hid hm
  clear hm
  have HT := Lib.hid ht
  clear ht
  have HV := Lib.hid hv
  clear hv
  have HQ := Lib.hid hq
  clear hq
  go_enter Try.func7, Try.ntmps7
  go_wp2_with fail
  refine (Give.wakes_no t (by omega) h1 HN.out _).mono ?_
  rintro e w1 ⟨rfl, hb1⟩
  have HC1 := Lib.hid hb1
  clear hb1
  go_wp2_with fail
  refine (Flags.unpack_yes t (by omega) (by omega) _).mono ?_
  rintro e w2 ⟨rfl, hb2⟩
  have HC2 := Lib.hid (bthen HC1.out hb2)
  clear hb2
  rw [HL.out, HS.out, HQ.out]
  go_wp2_with fail
  refine (Give.left_free (t - 1) (by omega) (by omega) HM.out _).mono ?_
  rintro e w3 ⟨rfl, hb3⟩
  have HC3 := Lib.hid (step_alloc HC2.out _ hb3)
  have B2_3 := (Blk.new w2 46 #[.bool true, .bool q, .bool false, .int .i64 (t / 8)]).below hb3 (by simp)
  have cB2_3_0 : w3.cell? ⟨w2.heap.size, 0, none⟩ = some (.bool true) := by have := B2_3.cell 0; simpa using this
  have cB2_3_1 : w3.cell? ⟨w2.heap.size, 1, none⟩ = some (.bool q) := by have := B2_3.cell 1; simpa using this
  have cB2_3_2 : w3.cell? ⟨w2.heap.size, 2, none⟩ = some (.bool false) := by have := B2_3.cell 2; simpa using this
  have cB2_3_3 : w3.cell? ⟨w2.heap.size, 3, none⟩ = some (.int .i64 (t / 8)) := by have := B2_3.cell 3; simpa using this
  have B2x_3 := Lib.hid B2_3
  clear hb3
  rw [HT.out]
  go_wp2_with fail
  refine (Give.alive _).mono ?_
  rintro e w4 ⟨rfl, hb4⟩
  have HC4 := Lib.hid (bthen HC3.out hb4)
  have B2_4 := B2_3.below hb4 B2_3.lt
  have cB2_4_0 : w4.cell? ⟨w2.heap.size, 0, none⟩ = some (.bool true) := by have := B2_4.cell 0; simpa using this
  have cB2_4_1 : w4.cell? ⟨w2.heap.size, 1, none⟩ = some (.bool q) := by have := B2_4.cell 1; simpa using this
  have cB2_4_2 : w4.cell? ⟨w2.heap.size, 2, none⟩ = some (.bool false) := by have := B2_4.cell 2; simpa using this
  have cB2_4_3 : w4.cell? ⟨w2.heap.size, 3, none⟩ = some (.int .i64 (t / 8)) := by have := B2_4.cell 3; simpa using this
  have B2x_4 := Lib.hid B2_4
  clear hb4
  clear cB2_3_0 cB2_3_1 cB2_3_2 cB2_3_3
  go_wp2_with fail
  refine (Give.left_free (t - 1) (by omega) (by omega) HM.out _).mono ?_
  rintro e w5 ⟨rfl, hb5⟩
  have HC5 := Lib.hid (bthen HC4.out hb5)
  have B2_5 := B2_4.below hb5 B2_4.lt
  have cB2_5_0 : w5.cell? ⟨w2.heap.size, 0, none⟩ = some (.bool true) := by have := B2_5.cell 0; simpa using this
  have cB2_5_1 : w5.cell? ⟨w2.heap.size, 1, none⟩ = some (.bool q) := by have := B2_5.cell 1; simpa using this
  have cB2_5_2 : w5.cell? ⟨w2.heap.size, 2, none⟩ = some (.bool false) := by have := B2_5.cell 2; simpa using this
  have cB2_5_3 : w5.cell? ⟨w2.heap.size, 3, none⟩ = some (.int .i64 (t / 8)) := by have := B2_5.cell 3; simpa using this
  have B2x_5 := Lib.hid B2_5
  clear hb5
  clear cB2_4_0 cB2_4_1 cB2_4_2 cB2_4_3
  rw [HT.out]
  go_wp2_with fail
  refine (Give.wakes_no (t - 1) (by omega) (by omega) HV.out _).mono ?_
  rintro e w6 ⟨rfl, hb6⟩
  have HC6 := Lib.hid (bthen HC5.out hb6)
  have B2_6 := B2_5.below hb6 B2_5.lt
  have cB2_6_0 : w6.cell? ⟨w2.heap.size, 0, none⟩ = some (.bool true) := by have := B2_6.cell 0; simpa using this
  have cB2_6_1 : w6.cell? ⟨w2.heap.size, 1, none⟩ = some (.bool q) := by have := B2_6.cell 1; simpa using this
  have cB2_6_2 : w6.cell? ⟨w2.heap.size, 2, none⟩ = some (.bool false) := by have := B2_6.cell 2; simpa using this
  have cB2_6_3 : w6.cell? ⟨w2.heap.size, 3, none⟩ = some (.int .i64 (t / 8)) := by have := B2_6.cell 3; simpa using this
  have B2x_6 := Lib.hid B2_6
  clear hb6
  clear cB2_5_0 cB2_5_1 cB2_5_2 cB2_5_3
  go_wp2_with fail
  all_goals go_ret
  all_goals exact ⟨rfl, HC6.out⟩

set_option maxRecDepth 100000 in
set_option maxHeartbeats 2000000 in
theorem lockedY (t : Int) (h0 : 2 ≤ t) (h1 : t < 2147483648) (hl : Flags.has t 0 = true) (hs : Flags.has t 2 = false) (hv : Give.wakes (t - 1) = true) (w : World) :
    Calls Try.prog 7 #[.int .i64 t] w fun e w' => e = .returned (.bool true) ∧ Below w.heap.size w w' := by
  have hz : (t == 1) = false := by simp; omega
  have hn : Give.wakes t = false := by unfold Give.wakes; rw [hl]; simp
  have hm := less_locked hl
  have ht : Flags.has (t - 1) 2 = false := by rw [less_starving hl, hs]
  obtain ⟨q, hq⟩ : ∃ q, Flags.has t 1 = q := ⟨_, rfl⟩
  have HL := Lib.hid hl
  clear hl
  have HS := Lib.hid hs
  clear hs
  have HN := Lib.hid hn
  clear hn
  have HM := Lib.hid hm
  clear hm
  have HT := Lib.hid ht
  clear ht
  have HV := Lib.hid hv
  clear hv
  have HQ := Lib.hid hq
  clear hq
  go_enter Try.func7, Try.ntmps7
  go_wp2_with fail
  refine (Give.wakes_no t (by omega) h1 HN.out _).mono ?_
  rintro e w1 ⟨rfl, hb1⟩
  have HC1 := Lib.hid hb1
  clear hb1
  go_wp2_with fail
  refine (Flags.unpack_yes t (by omega) (by omega) _).mono ?_
  rintro e w2 ⟨rfl, hb2⟩
  have HC2 := Lib.hid (bthen HC1.out hb2)
  clear hb2
  rw [HL.out, HS.out, HQ.out]
  go_wp2_with fail
  refine (Give.left_free (t - 1) (by omega) (by omega) HM.out _).mono ?_
  rintro e w3 ⟨rfl, hb3⟩
  have HC3 := Lib.hid (step_alloc HC2.out _ hb3)
  have B2_3 := (Blk.new w2 46 #[.bool true, .bool q, .bool false, .int .i64 (t / 8)]).below hb3 (by simp)
  have cB2_3_0 : w3.cell? ⟨w2.heap.size, 0, none⟩ = some (.bool true) := by have := B2_3.cell 0; simpa using this
  have cB2_3_1 : w3.cell? ⟨w2.heap.size, 1, none⟩ = some (.bool q) := by have := B2_3.cell 1; simpa using this
  have cB2_3_2 : w3.cell? ⟨w2.heap.size, 2, none⟩ = some (.bool false) := by have := B2_3.cell 2; simpa using this
  have cB2_3_3 : w3.cell? ⟨w2.heap.size, 3, none⟩ = some (.int .i64 (t / 8)) := by have := B2_3.cell 3; simpa using this
  have B2x_3 := Lib.hid B2_3
  clear hb3
  rw [HT.out]
  go_wp2_with fail
  refine (Give.alive _).mono ?_
  rintro e w4 ⟨rfl, hb4⟩
  have HC4 := Lib.hid (bthen HC3.out hb4)
  have B2_4 := B2_3.below hb4 B2_3.lt
  have cB2_4_0 : w4.cell? ⟨w2.heap.size, 0, none⟩ = some (.bool true) := by have := B2_4.cell 0; simpa using this
  have cB2_4_1 : w4.cell? ⟨w2.heap.size, 1, none⟩ = some (.bool q) := by have := B2_4.cell 1; simpa using this
  have cB2_4_2 : w4.cell? ⟨w2.heap.size, 2, none⟩ = some (.bool false) := by have := B2_4.cell 2; simpa using this
  have cB2_4_3 : w4.cell? ⟨w2.heap.size, 3, none⟩ = some (.int .i64 (t / 8)) := by have := B2_4.cell 3; simpa using this
  have B2x_4 := Lib.hid B2_4
  clear hb4
  clear cB2_3_0 cB2_3_1 cB2_3_2 cB2_3_3
  go_wp2_with fail
  refine (Give.left_free (t - 1) (by omega) (by omega) HM.out _).mono ?_
  rintro e w5 ⟨rfl, hb5⟩
  have HC5 := Lib.hid (bthen HC4.out hb5)
  have B2_5 := B2_4.below hb5 B2_4.lt
  have cB2_5_0 : w5.cell? ⟨w2.heap.size, 0, none⟩ = some (.bool true) := by have := B2_5.cell 0; simpa using this
  have cB2_5_1 : w5.cell? ⟨w2.heap.size, 1, none⟩ = some (.bool q) := by have := B2_5.cell 1; simpa using this
  have cB2_5_2 : w5.cell? ⟨w2.heap.size, 2, none⟩ = some (.bool false) := by have := B2_5.cell 2; simpa using this
  have cB2_5_3 : w5.cell? ⟨w2.heap.size, 3, none⟩ = some (.int .i64 (t / 8)) := by have := B2_5.cell 3; simpa using this
  have B2x_5 := Lib.hid B2_5
  clear hb5
  clear cB2_4_0 cB2_4_1 cB2_4_2 cB2_4_3
  rw [HT.out]
  go_wp2_with fail
  refine (Give.wakes_yes (t - 1) (by omega) (by omega) HV.out _).mono ?_
  rintro e w6 ⟨rfl, hb6⟩
  have HC6 := Lib.hid (bthen HC5.out hb6)
  have B2_6 := B2_5.below hb6 B2_5.lt
  have cB2_6_0 : w6.cell? ⟨w2.heap.size, 0, none⟩ = some (.bool true) := by have := B2_6.cell 0; simpa using this
  have cB2_6_1 : w6.cell? ⟨w2.heap.size, 1, none⟩ = some (.bool q) := by have := B2_6.cell 1; simpa using this
  have cB2_6_2 : w6.cell? ⟨w2.heap.size, 2, none⟩ = some (.bool false) := by have := B2_6.cell 2; simpa using this
  have cB2_6_3 : w6.cell? ⟨w2.heap.size, 3, none⟩ = some (.int .i64 (t / 8)) := by have := B2_6.cell 3; simpa using this
  have B2x_6 := Lib.hid B2_6
  clear hb6
  clear cB2_5_0 cB2_5_1 cB2_5_2 cB2_5_3
  go_wp2_with fail
  all_goals go_ret
  all_goals exact ⟨rfl, HC6.out⟩

set_option maxRecDepth 100000 in
set_option maxHeartbeats 2000000 in
theorem freeno0 (t : Int) (h0 : 2 ≤ t) (h1 : t < 2147483648) (hl : Flags.has t 0 = false) (ha : (t / 8 == 0) = true) (w : World) :
    Calls Try.prog 7 #[.int .i64 t] w fun e w' => e = .returned (.bool true) ∧ Below w.heap.size w w' := by
  have hn : Give.wakes t = false := by unfold Give.wakes; simp_all
  have hm := less_free hl
  obtain ⟨k, hk⟩ : ∃ k, Flags.has t 1 = k := ⟨_, rfl⟩
  obtain ⟨s, hs⟩ : ∃ s, Flags.has t 2 = s := ⟨_, rfl⟩
  have HL := Lib.hid hl
  clear hl
  have HN := Lib.hid hn
  clear hn
  have HM := Lib.hid hm
  clear hm
  have HK := Lib.hid hk
  clear hk
  have HS := Lib.hid hs
  clear hs
  go_enter Try.func7, Try.ntmps7
  go_wp2_with fail
  refine (Give.wakes_no t (by omega) h1 HN.out _).mono ?_
  rintro e w1 ⟨rfl, hb1⟩
  have HC1 := Lib.hid hb1
  clear hb1
  go_wp2_with fail
  refine (Flags.unpack_yes t (by omega) (by omega) _).mono ?_
  rintro e w2 ⟨rfl, hb2⟩
  have HC2 := Lib.hid (bthen HC1.out hb2)
  clear hb2
  rw [HL.out, HK.out, HS.out]
  go_wp2_with fail
  refine (Give.left_locked (t - 1) (by omega) (by omega) HM.out _).mono ?_
  rintro e w3 ⟨rfl, hb3⟩
  have HC3 := Lib.hid (step_alloc HC2.out _ hb3)
  have B2_3 := (Blk.new w2 46 #[.bool false, .bool k, .bool s, .int .i64 (t / 8)]).below hb3 (by simp)
  have cB2_3_0 : w3.cell? ⟨w2.heap.size, 0, none⟩ = some (.bool false) := by have := B2_3.cell 0; simpa using this
  have cB2_3_1 : w3.cell? ⟨w2.heap.size, 1, none⟩ = some (.bool k) := by have := B2_3.cell 1; simpa using this
  have cB2_3_2 : w3.cell? ⟨w2.heap.size, 2, none⟩ = some (.bool s) := by have := B2_3.cell 2; simpa using this
  have cB2_3_3 : w3.cell? ⟨w2.heap.size, 3, none⟩ = some (.int .i64 (t / 8)) := by have := B2_3.cell 3; simpa using this
  have B2x_3 := Lib.hid B2_3
  clear hb3
  go_wp2_with fail
  refine (Give.alive _).mono ?_
  rintro e w4 ⟨rfl, hb4⟩
  have HC4 := Lib.hid (bthen HC3.out hb4)
  have B2_4 := B2_3.below hb4 B2_3.lt
  have cB2_4_0 : w4.cell? ⟨w2.heap.size, 0, none⟩ = some (.bool false) := by have := B2_4.cell 0; simpa using this
  have cB2_4_1 : w4.cell? ⟨w2.heap.size, 1, none⟩ = some (.bool k) := by have := B2_4.cell 1; simpa using this
  have cB2_4_2 : w4.cell? ⟨w2.heap.size, 2, none⟩ = some (.bool s) := by have := B2_4.cell 2; simpa using this
  have cB2_4_3 : w4.cell? ⟨w2.heap.size, 3, none⟩ = some (.int .i64 (t / 8)) := by have := B2_4.cell 3; simpa using this
  have B2x_4 := Lib.hid B2_4
  clear hb4
  clear cB2_3_0 cB2_3_1 cB2_3_2 cB2_3_3
  go_wp2_with fail
  all_goals go_ret
  all_goals exact ⟨rfl, HC4.out⟩

set_option maxRecDepth 100000 in
set_option maxHeartbeats 2000000 in
theorem freeno1 (t : Int) (h0 : 2 ≤ t) (h1 : t < 2147483648) (hl : Flags.has t 0 = false) (ha : (t / 8 == 0) = false) (hk : Flags.has t 1 = true) (w : World) :
    Calls Try.prog 7 #[.int .i64 t] w fun e w' => e = .returned (.bool true) ∧ Below w.heap.size w w' := by
  have hn : Give.wakes t = false := by unfold Give.wakes; simp_all
  have hm := less_free hl
  obtain ⟨s, hs⟩ : ∃ s, Flags.has t 2 = s := ⟨_, rfl⟩
  have HL := Lib.hid hl
  clear hl
  have HN := Lib.hid hn
  clear hn
  have HM := Lib.hid hm
  clear hm
  have HK := Lib.hid hk
  clear hk
  have HS := Lib.hid hs
  clear hs
  go_enter Try.func7, Try.ntmps7
  go_wp2_with fail
  refine (Give.wakes_no t (by omega) h1 HN.out _).mono ?_
  rintro e w1 ⟨rfl, hb1⟩
  have HC1 := Lib.hid hb1
  clear hb1
  go_wp2_with fail
  refine (Flags.unpack_yes t (by omega) (by omega) _).mono ?_
  rintro e w2 ⟨rfl, hb2⟩
  have HC2 := Lib.hid (bthen HC1.out hb2)
  clear hb2
  rw [HL.out, HK.out, HS.out]
  go_wp2_with fail
  refine (Give.left_locked (t - 1) (by omega) (by omega) HM.out _).mono ?_
  rintro e w3 ⟨rfl, hb3⟩
  have HC3 := Lib.hid (step_alloc HC2.out _ hb3)
  have B2_3 := (Blk.new w2 46 #[.bool false, .bool true, .bool s, .int .i64 (t / 8)]).below hb3 (by simp)
  have cB2_3_0 : w3.cell? ⟨w2.heap.size, 0, none⟩ = some (.bool false) := by have := B2_3.cell 0; simpa using this
  have cB2_3_1 : w3.cell? ⟨w2.heap.size, 1, none⟩ = some (.bool true) := by have := B2_3.cell 1; simpa using this
  have cB2_3_2 : w3.cell? ⟨w2.heap.size, 2, none⟩ = some (.bool s) := by have := B2_3.cell 2; simpa using this
  have cB2_3_3 : w3.cell? ⟨w2.heap.size, 3, none⟩ = some (.int .i64 (t / 8)) := by have := B2_3.cell 3; simpa using this
  have B2x_3 := Lib.hid B2_3
  clear hb3
  go_wp2_with fail
  refine (Give.alive _).mono ?_
  rintro e w4 ⟨rfl, hb4⟩
  have HC4 := Lib.hid (bthen HC3.out hb4)
  have B2_4 := B2_3.below hb4 B2_3.lt
  have cB2_4_0 : w4.cell? ⟨w2.heap.size, 0, none⟩ = some (.bool false) := by have := B2_4.cell 0; simpa using this
  have cB2_4_1 : w4.cell? ⟨w2.heap.size, 1, none⟩ = some (.bool true) := by have := B2_4.cell 1; simpa using this
  have cB2_4_2 : w4.cell? ⟨w2.heap.size, 2, none⟩ = some (.bool s) := by have := B2_4.cell 2; simpa using this
  have cB2_4_3 : w4.cell? ⟨w2.heap.size, 3, none⟩ = some (.int .i64 (t / 8)) := by have := B2_4.cell 3; simpa using this
  have B2x_4 := Lib.hid B2_4
  clear hb4
  clear cB2_3_0 cB2_3_1 cB2_3_2 cB2_3_3
  go_wp2_with fail
  all_goals go_ret
  all_goals exact ⟨rfl, HC4.out⟩

set_option maxRecDepth 100000 in
set_option maxHeartbeats 2000000 in
theorem freeno2 (t : Int) (h0 : 2 ≤ t) (h1 : t < 2147483648) (hl : Flags.has t 0 = false) (ha : (t / 8 == 0) = false) (hk : Flags.has t 1 = false) (hs : Flags.has t 2 = true) (w : World) :
    Calls Try.prog 7 #[.int .i64 t] w fun e w' => e = .returned (.bool true) ∧ Below w.heap.size w w' := by
  have hn : Give.wakes t = false := by unfold Give.wakes; simp_all
  have hm := less_free hl
  have HL := Lib.hid hl
  clear hl
  have HN := Lib.hid hn
  clear hn
  have HM := Lib.hid hm
  clear hm
  have HK := Lib.hid hk
  clear hk
  have HS := Lib.hid hs
  clear hs
  go_enter Try.func7, Try.ntmps7
  go_wp2_with fail
  refine (Give.wakes_no t (by omega) h1 HN.out _).mono ?_
  rintro e w1 ⟨rfl, hb1⟩
  have HC1 := Lib.hid hb1
  clear hb1
  go_wp2_with fail
  refine (Flags.unpack_yes t (by omega) (by omega) _).mono ?_
  rintro e w2 ⟨rfl, hb2⟩
  have HC2 := Lib.hid (bthen HC1.out hb2)
  clear hb2
  rw [HL.out, HK.out, HS.out]
  go_wp2_with fail
  refine (Give.left_locked (t - 1) (by omega) (by omega) HM.out _).mono ?_
  rintro e w3 ⟨rfl, hb3⟩
  have HC3 := Lib.hid (step_alloc HC2.out _ hb3)
  have B2_3 := (Blk.new w2 46 #[.bool false, .bool false, .bool true, .int .i64 (t / 8)]).below hb3 (by simp)
  have cB2_3_0 : w3.cell? ⟨w2.heap.size, 0, none⟩ = some (.bool false) := by have := B2_3.cell 0; simpa using this
  have cB2_3_1 : w3.cell? ⟨w2.heap.size, 1, none⟩ = some (.bool false) := by have := B2_3.cell 1; simpa using this
  have cB2_3_2 : w3.cell? ⟨w2.heap.size, 2, none⟩ = some (.bool true) := by have := B2_3.cell 2; simpa using this
  have cB2_3_3 : w3.cell? ⟨w2.heap.size, 3, none⟩ = some (.int .i64 (t / 8)) := by have := B2_3.cell 3; simpa using this
  have B2x_3 := Lib.hid B2_3
  clear hb3
  go_wp2_with fail
  refine (Give.alive _).mono ?_
  rintro e w4 ⟨rfl, hb4⟩
  have HC4 := Lib.hid (bthen HC3.out hb4)
  have B2_4 := B2_3.below hb4 B2_3.lt
  have cB2_4_0 : w4.cell? ⟨w2.heap.size, 0, none⟩ = some (.bool false) := by have := B2_4.cell 0; simpa using this
  have cB2_4_1 : w4.cell? ⟨w2.heap.size, 1, none⟩ = some (.bool false) := by have := B2_4.cell 1; simpa using this
  have cB2_4_2 : w4.cell? ⟨w2.heap.size, 2, none⟩ = some (.bool true) := by have := B2_4.cell 2; simpa using this
  have cB2_4_3 : w4.cell? ⟨w2.heap.size, 3, none⟩ = some (.int .i64 (t / 8)) := by have := B2_4.cell 3; simpa using this
  have B2x_4 := Lib.hid B2_4
  clear hb4
  clear cB2_3_0 cB2_3_1 cB2_3_2 cB2_3_3
  go_wp2_with fail
  all_goals go_ret
  all_goals exact ⟨rfl, HC4.out⟩

set_option maxRecDepth 100000 in
set_option maxHeartbeats 2000000 in
theorem freeyes (t : Int) (h0 : 2 ≤ t) (h1 : t < 2147483648) (hl : Flags.has t 0 = false) (hn : Give.wakes t = true) (w : World) :
    Calls Try.prog 7 #[.int .i64 t] w fun e w' => e = .returned (.bool true) ∧ Below w.heap.size w w' := by
  obtain ⟨ha, hk, hs⟩ : (t / 8 == 0) = false ∧ Flags.has t 1 = false ∧ Flags.has t 2 = false := by
    have hn' := hn
    unfold Give.wakes at hn'
    by_cases hz : t / 8 = 0 <;> cases hb : Flags.has t 1 <;> cases hc : Flags.has t 2 <;> simp_all
  have hp : 1 ≤ t / 8 := by have := ne_of_beq_false ha; omega
  have hm := less_free hl
  obtain ⟨n, he, n0, n1, n2, hd⟩ : ∃ n, Flags.word false true false (t / 8 - 1) = n ∧ 0 ≤ n ∧ n < 2147483648 ∧ n = 2 + 8 * (t / 8 - 1) ∧ n / 8 = t / 8 - 1 := ⟨_, rfl, by simp [Flags.word]; omega, by simp [Flags.word]; omega, by simp [Flags.word], by simp [Flags.word]; omega⟩
  have g0 : Flags.has n 0 = false := by rw [has0]; simp; omega
  have g1 : Flags.has n 1 = true := by rw [has1]; simp; omega
  have g2 : Flags.has n 2 = false := by rw [has2]; simp; omega
  have hv : Give.wakes n = false := by unfold Give.wakes; rw [g1]; simp
  have HL := Lib.hid hl
  clear hl
  have HN := Lib.hid hn
  clear hn
  have HM := Lib.hid hm
  clear hm
  have HK := Lib.hid hk
  clear hk
  have HS := Lib.hid hs
  clear hs
  have HA := Lib.hid ha
  clear ha
  have HE := Lib.hid he
  clear he
  have G0 := Lib.hid g0
  clear g0
  have G1 := Lib.hid g1
  clear g1
  have G2 := Lib.hid g2
  clear g2
  have HV := Lib.hid hv
  clear hv
  have HD := Lib.hid hd
  clear hd
  have N2 := Lib.hid n2
  clear n2
  go_enter Try.func7, Try.ntmps7
  go_wp2_with fail
  refine (Give.wakes_yes t (by omega) h1 HN.out _).mono ?_
  rintro e w1 ⟨rfl, hb1⟩
  have HC1 := Lib.hid hb1
  clear hb1
  rw [HE.out]
  go_wp2_with fail
  refine (Flags.unpack_yes t (by omega) (by omega) _).mono ?_
  rintro e w2 ⟨rfl, hb2⟩
  have HC2 := Lib.hid (bthen HC1.out hb2)
  clear hb2
  rw [HL.out, HK.out, HS.out]
  go_wp2_with fail
  refine (Give.left_locked (t - 1) (by omega) (by omega) HM.out _).mono ?_
  rintro e w3 ⟨rfl, hb3⟩
  have HC3 := Lib.hid (step_alloc HC2.out _ hb3)
  have B2_3 := (Blk.new w2 46 #[.bool false, .bool false, .bool false, .int .i64 (t / 8)]).below hb3 (by simp)
  have cB2_3_0 : w3.cell? ⟨w2.heap.size, 0, none⟩ = some (.bool false) := by have := B2_3.cell 0; simpa using this
  have cB2_3_1 : w3.cell? ⟨w2.heap.size, 1, none⟩ = some (.bool false) := by have := B2_3.cell 1; simpa using this
  have cB2_3_2 : w3.cell? ⟨w2.heap.size, 2, none⟩ = some (.bool false) := by have := B2_3.cell 2; simpa using this
  have cB2_3_3 : w3.cell? ⟨w2.heap.size, 3, none⟩ = some (.int .i64 (t / 8)) := by have := B2_3.cell 3; simpa using this
  have B2x_3 := Lib.hid B2_3
  clear hb3
  go_wp2_with fail
  refine (Give.alive _).mono ?_
  rintro e w4 ⟨rfl, hb4⟩
  have HC4 := Lib.hid (bthen HC3.out hb4)
  have B2_4 := B2_3.below hb4 B2_3.lt
  have cB2_4_0 : w4.cell? ⟨w2.heap.size, 0, none⟩ = some (.bool false) := by have := B2_4.cell 0; simpa using this
  have cB2_4_1 : w4.cell? ⟨w2.heap.size, 1, none⟩ = some (.bool false) := by have := B2_4.cell 1; simpa using this
  have cB2_4_2 : w4.cell? ⟨w2.heap.size, 2, none⟩ = some (.bool false) := by have := B2_4.cell 2; simpa using this
  have cB2_4_3 : w4.cell? ⟨w2.heap.size, 3, none⟩ = some (.int .i64 (t / 8)) := by have := B2_4.cell 3; simpa using this
  have B2x_4 := Lib.hid B2_4
  clear hb4
  clear cB2_3_0 cB2_3_1 cB2_3_2 cB2_3_3
  go_wp2_with fail
  refine (Flags.unpack_yes n n0 n1 _).mono ?_
  rintro e w5 ⟨rfl, hb5⟩
  have HC5 := Lib.hid (bthen HC4.out hb5)
  have B2_5 := B2_4.below hb5 B2_4.lt
  have cB2_5_0 : w5.cell? ⟨w2.heap.size, 0, none⟩ = some (.bool false) := by have := B2_5.cell 0; simpa using this
  have cB2_5_1 : w5.cell? ⟨w2.heap.size, 1, none⟩ = some (.bool false) := by have := B2_5.cell 1; simpa using this
  have cB2_5_2 : w5.cell? ⟨w2.heap.size, 2, none⟩ = some (.bool false) := by have := B2_5.cell 2; simpa using this
  have cB2_5_3 : w5.cell? ⟨w2.heap.size, 3, none⟩ = some (.int .i64 (t / 8)) := by have := B2_5.cell 3; simpa using this
  have B2x_5 := Lib.hid B2_5
  clear hb5
  clear cB2_4_0 cB2_4_1 cB2_4_2 cB2_4_3
  rw [G0.out, G1.out, G2.out, HD.out]
  go_wp2_with fail
  refine (Give.wakes_no n n0 n1 HV.out _).mono ?_
  rintro e w6 ⟨rfl, hb6⟩
  have HC6 := Lib.hid (step_alloc HC5.out _ hb6)
  have B2_6 := (B2_5.alloc _).below hb6 (by have := B2_5.lt; simp; omega)
  have B5_6 := (Blk.new w5 46 #[.bool false, .bool true, .bool false, .int .i64 (t / 8 - 1)]).below hb6 (by simp)
  have cB2_6_0 : w6.cell? ⟨w2.heap.size, 0, none⟩ = some (.bool false) := by have := B2_6.cell 0; simpa using this
  have cB2_6_1 : w6.cell? ⟨w2.heap.size, 1, none⟩ = some (.bool false) := by have := B2_6.cell 1; simpa using this
  have cB2_6_2 : w6.cell? ⟨w2.heap.size, 2, none⟩ = some (.bool false) := by have := B2_6.cell 2; simpa using this
  have cB2_6_3 : w6.cell? ⟨w2.heap.size, 3, none⟩ = some (.int .i64 (t / 8)) := by have := B2_6.cell 3; simpa using this
  have B2x_6 := Lib.hid B2_6
  have cB5_6_0 : w6.cell? ⟨w5.heap.size, 0, none⟩ = some (.bool false) := by have := B5_6.cell 0; simpa using this
  have cB5_6_1 : w6.cell? ⟨w5.heap.size, 1, none⟩ = some (.bool true) := by have := B5_6.cell 1; simpa using this
  have cB5_6_2 : w6.cell? ⟨w5.heap.size, 2, none⟩ = some (.bool false) := by have := B5_6.cell 2; simpa using this
  have cB5_6_3 : w6.cell? ⟨w5.heap.size, 3, none⟩ = some (.int .i64 (t / 8 - 1)) := by have := B5_6.cell 3; simpa using this
  have B5x_6 := Lib.hid B5_6
  clear hb6
  clear cB2_5_0 cB2_5_1 cB2_5_2 cB2_5_3
  go_wp2_with fail
  all_goals go_ret
  all_goals exact ⟨rfl, HC6.out⟩

theorem walk (t : Int) (w : World) (_ : (Lit.int .i64 t).wf = true) :
    Calls Try.prog 7 #[.int .i64 t] w fun e w' => e = .returned (.bool true) ∧ Below w.heap.size w w' := by
  by_cases h1 : t < 0 ∨ 2147483648 ≤ t
  · exact bad t h1 w
  · by_cases h2 : t = 0
    · subst h2
      exact zero w
    · by_cases h3 : t = 1
      · subst h3
        exact one w
      · have a0 : 2 ≤ t := by omega
        have a1 : t < 2147483648 := by omega
        cases hl : Flags.has t 0
        · cases hn : Give.wakes t
          · by_cases ha : t / 8 = 0
            · exact freeno0 t a0 a1 hl (by simpa using ha) w
            · cases hk : Flags.has t 1
              · cases hs : Flags.has t 2
                · unfold Give.wakes at hn
                  simp_all
                · exact freeno2 t a0 a1 hl (by simpa using ha) hk hs w
              · exact freeno1 t a0 a1 hl (by simpa using ha) hk w
          · exact freeyes t a0 a1 hl hn w
        · cases hs : Flags.has t 2
          · cases hv : Give.wakes (t - 1)
            · exact lockedN t a0 a1 hl hs hv w
            · exact lockedY t a0 a1 hl hs hv w
          · exact lockedS t a0 a1 hl hs w
end giveOnce
end Go.Proofs.Yteejgejeggackaa
