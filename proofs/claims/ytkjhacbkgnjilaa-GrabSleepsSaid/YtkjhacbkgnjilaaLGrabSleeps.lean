/-
  The walk of GrabSleeps. Printed by gen_lgrabsleeps.py.
-/
import Derived.Test.YtkjhacbkgnjilaaGrabRef
import Derived.Test.YtkjhacbkgnjilaaLGrabWaits
namespace Go.Proofs.Ytkjhacbkgnjilaa
open Go.RowKit
namespace grabSleeps
open Grab
theorem sleep_refused (si : Int) (st aw : Bool) (ro ol now : Int) (w : World) (h : (right si ro ol && Clock.right now) = false) :
    Calls Try.prog 43 #[.agg #[.int .i64 si, .bool st, .bool aw, .int .i64 ro, .int .i64 ol], .int .i64 now] w fun e w' => e = .returned (.tuple #[.agg #[.int .i64 0, .bool false, .bool false, .int .i64 0, .int .i64 0], .bool false, .int .i64 1]) ∧ Below w.heap.size w w' := by
  cases h1 : right si ro ol with
  | false => exact sleep_no si st aw ro ol now w h1
  | true => exact sleep_out si st aw ro ol now w h1 (by rw [h1] at h; simpa using h)
theorem wake_refused (si : Int) (st aw : Bool) (ro ol now wd : Int) (w : World) (h : (Flags.isWord wd && (right si ro ol && Clock.right now)) = false) :
    Calls Try.prog 44 #[.agg #[.int .i64 si, .bool st, .bool aw, .int .i64 ro, .int .i64 ol], .int .i64 now, .int .i64 wd] w fun e w' => e = .returned (.tuple #[.agg #[.int .i64 0, .bool false, .bool false, .int .i64 0, .int .i64 0], .bool false, .int .i64 1]) ∧ Below w.heap.size w w' := by
  by_cases hw : 0 ≤ wd ∧ wd < 2147483648
  · rw [show Flags.isWord wd = true from decide_eq_true hw, Bool.true_and] at h
    cases h1 : right si ro ol with
    | false => exact wake_no si st aw ro ol now wd w hw h1
    | true => exact wake_out si st aw ro ol now wd w hw h1 (by rw [h1] at h; simpa using h)
  · exact wake_bad si st aw ro ol now wd w (by omega)
set_option maxRecDepth 100000 in
set_option maxHeartbeats 16000000 in
theorem refused_right (si : Int) (st aw : Bool) (ro ol now wd : Int) (w : World) (h : right si ro ol = false) :
    Calls Try.prog 11 #[.agg #[.int .i64 si, .bool st, .bool aw, .int .i64 ro, .int .i64 ol], .int .i64 now, .int .i64 wd] w fun e w' => e = .returned (.bool true) ∧ Below w.heap.size w w' := by
  have H_h := Lib.hid h
  clear h
  have hx := Blk.new w 42 #[.int .i64 si, .bool st, .bool aw, .int .i64 ro, .int .i64 ol]
  have hb0 := (Below.refl w.heap.size w).alloc (Nat.le_refl _) (.cells #[.int .i64 si, .bool st, .bool aw, .int .i64 ro, .int .i64 ol] 42)
  go_enter Try.func11, Try.ntmps11
  go_wp2_with fail
  obtain ⟨W0, hW⟩ : ∃ W0, w.alloc (.cells #[.int .i64 si, .bool st, .bool aw, .int .i64 ro, .int .i64 ol] 42) = W0 := ⟨_, rfl⟩
  rw [hW] at hx hb0 ⊢
  obtain ⟨o, ho⟩ : ∃ o, w.heap.size = o := ⟨_, rfl⟩
  have hb1 : Below w.heap.size w W0 := hb0
  rw [ho] at hx ⊢
  have Ho_0 := Lib.hid hx
  have HB_0 := Lib.hid hb1
  clear hW hx hb0 hb1 ho
  have HR := Lib.hid (show (right si ro ol && Clock.right now) = false by rw [H_h.out]; rfl)
  have HR2 := Lib.hid (show (Flags.isWord wd && (right si ro ol && Clock.right now)) = false by rw [HR.out, Bool.and_false])
  refine (sleep_refused si st aw ro ol now _ HR.out).mono ?_
  rintro e w1 ⟨rfl, hb1⟩
  have Ho_1 := Lib.hid (Ho_0.out.below hb1 Ho_0.out.lt)
  have HB_1 := Lib.hid (bthen HB_0.out hb1)
  clear hb1
  obtain ⟨ro00_2, ro01_2, ro02_2, ro03_2, ro04_2⟩ := Ho_1.out.at5
  obtain ⟨ro10_2, ro11_2, ro12_2, ro13_2, ro14_2⟩ := (Ho_1.out.alloc (.cells #[.int .i64 0, .bool false, .bool false, .int .i64 0, .int .i64 0] 42)).at5
  go_wp2_with fail
  clear ro00_2 ro01_2 ro02_2 ro03_2 ro04_2 ro10_2 ro11_2 ro12_2 ro13_2 ro14_2
  have hB2 := (HB_1.out.alloc (by have := HB_1.out.size; simp; try omega) (.cells #[.int .i64 0, .bool false, .bool false, .int .i64 0, .int .i64 0] 42))
  have ho2 := (Ho_1.out.alloc (.cells #[.int .i64 0, .bool false, .bool false, .int .i64 0, .int .i64 0] 42))
  have ha2 := (Blk.new w1 42 #[.int .i64 0, .bool false, .bool false, .int .i64 0, .int .i64 0])
  obtain ⟨W2, hW2⟩ : ∃ W2, (w1.alloc (.cells #[.int .i64 0, .bool false, .bool false, .int .i64 0, .int .i64 0] 42)) = W2 := ⟨_, rfl⟩
  rw [hW2] at hB2 ho2 ha2 ⊢
  obtain ⟨a, haa⟩ : ∃ a, w1.heap.size = a := ⟨_, rfl⟩
  rw [haa] at ha2 ⊢
  clear hW2 haa
  have HB_2 := Lib.hid hB2
  have Ho_2 := Lib.hid ho2
  have Ha_2 := Lib.hid ha2
  clear hB2 ho2 ha2
  refine (wake_refused si st aw ro ol now wd _ HR2.out).mono ?_
  rintro e w3 ⟨rfl, hb3⟩
  have Ho_3 := Lib.hid (Ho_2.out.below hb3 Ho_2.out.lt)
  have Ha_3 := Lib.hid (Ha_2.out.below hb3 Ha_2.out.lt)
  have HB_3 := Lib.hid (bthen HB_2.out hb3)
  clear hb3
  obtain ⟨ro00_4, ro01_4, ro02_4, ro03_4, ro04_4⟩ := Ho_3.out.at5
  obtain ⟨ro10_4, ro11_4, ro12_4, ro13_4, ro14_4⟩ := (Ho_3.out.alloc (.cells #[.int .i64 0, .bool false, .bool false, .int .i64 0, .int .i64 0] 42)).at5
  obtain ⟨ro20_4, ro21_4, ro22_4, ro23_4, ro24_4⟩ := ((Ho_3.out.alloc (.cells #[.int .i64 0, .bool false, .bool false, .int .i64 0, .int .i64 0] 42)).alloc (.cells #[.int .i64 0, .bool false, .bool false, .int .i64 0, .int .i64 0] 42)).at5
  go_wp2_with fail
  clear ro00_4 ro01_4 ro02_4 ro03_4 ro04_4 ro10_4 ro11_4 ro12_4 ro13_4 ro14_4 ro20_4 ro21_4 ro22_4 ro23_4 ro24_4
  have hB4 := ((HB_3.out.alloc (by have := HB_3.out.size; simp; try omega) (.cells #[.int .i64 0, .bool false, .bool false, .int .i64 0, .int .i64 0] 42)).alloc (by have := HB_3.out.size; simp; try omega) (.cells #[.int .i64 0, .bool false, .bool false, .int .i64 0, .int .i64 0] 42))
  have ho4 := ((Ho_3.out.alloc (.cells #[.int .i64 0, .bool false, .bool false, .int .i64 0, .int .i64 0] 42)).alloc (.cells #[.int .i64 0, .bool false, .bool false, .int .i64 0, .int .i64 0] 42))
  have ha4 := ((Ha_3.out.alloc (.cells #[.int .i64 0, .bool false, .bool false, .int .i64 0, .int .i64 0] 42)).alloc (.cells #[.int .i64 0, .bool false, .bool false, .int .i64 0, .int .i64 0] 42))
  have hb4 := ((Blk.new w3 42 #[.int .i64 0, .bool false, .bool false, .int .i64 0, .int .i64 0]).alloc (.cells #[.int .i64 0, .bool false, .bool false, .int .i64 0, .int .i64 0] 42))
  have hz4 := (Blk.new (w3.alloc (.cells #[.int .i64 0, .bool false, .bool false, .int .i64 0, .int .i64 0] 42)) 42 #[.int .i64 0, .bool false, .bool false, .int .i64 0, .int .i64 0])
  simp only [World.size_alloc] at hz4
  obtain ⟨W4, hW4⟩ : ∃ W4, ((w3.alloc (.cells #[.int .i64 0, .bool false, .bool false, .int .i64 0, .int .i64 0] 42)).alloc (.cells #[.int .i64 0, .bool false, .bool false, .int .i64 0, .int .i64 0] 42)) = W4 := ⟨_, rfl⟩
  rw [hW4] at hB4 ho4 ha4 hb4 hz4 ⊢
  obtain ⟨b, hab⟩ : ∃ b, w3.heap.size = b := ⟨_, rfl⟩
  rw [hab] at hb4 hz4 ⊢
  obtain ⟨z, haz⟩ : ∃ z, b + 1 = z := ⟨_, rfl⟩
  rw [haz] at hz4 ⊢
  clear hW4 hab haz
  have HB_4 := Lib.hid hB4
  have Ho_4 := Lib.hid ho4
  have Ha_4 := Lib.hid ha4
  have Hb_4 := Lib.hid hb4
  have Hz_4 := Lib.hid hz4
  clear hB4 ho4 ha4 hb4 hz4
  refine (refRight_any si st aw ro ol _).mono ?_
  rintro e w5 ⟨rfl, hb5⟩
  rw [H_h.out]
  have Ho_5 := Lib.hid (Ho_4.out.below hb5 Ho_4.out.lt)
  have Ha_5 := Lib.hid (Ha_4.out.below hb5 Ha_4.out.lt)
  have Hb_5 := Lib.hid (Hb_4.out.below hb5 Hb_4.out.lt)
  have Hz_5 := Lib.hid (Hz_4.out.below hb5 Hz_4.out.lt)
  have HB_5 := Lib.hid (bthen HB_4.out hb5)
  clear hb5
  go_wp2_with fail
  refine (alive_any _).mono ?_
  rintro e w7 ⟨rfl, hb7⟩
  have Ho_7 := Lib.hid (Ho_5.out.below hb7 Ho_5.out.lt)
  have Ha_7 := Lib.hid (Ha_5.out.below hb7 Ha_5.out.lt)
  have Hb_7 := Lib.hid (Hb_5.out.below hb7 Hb_5.out.lt)
  have Hz_7 := Lib.hid (Hz_5.out.below hb7 Hz_5.out.lt)
  have HB_7 := Lib.hid (bthen HB_5.out hb7)
  clear hb7
  have nq := own_eql 0 0 false false false false 0 0 0 0
  have gq := fun x y w => own_guard .eql x y 0 0 false false false false 0 0 0 0 w
  obtain ⟨ra00_8, ra01_8, ra02_8, ra03_8, ra04_8⟩ := Ha_7.out.at5
  obtain ⟨rb00_8, rb01_8, rb02_8, rb03_8, rb04_8⟩ := Hb_7.out.at5
  obtain ⟨rz00_8, rz01_8, rz02_8, rz03_8, rz04_8⟩ := Hz_7.out.at5
  go_wp2_with fail
  clear ra00_8 ra01_8 ra02_8 ra03_8 ra04_8 rb00_8 rb01_8 rb02_8 rb03_8 rb04_8 rz00_8 rz01_8 rz02_8 rz03_8 rz04_8
  go_ret
  exact ⟨rfl, HB_7.out⟩
set_option maxRecDepth 100000 in
set_option maxHeartbeats 16000000 in
theorem refused_time (si : Int) (st aw : Bool) (ro ol now wd : Int) (w : World) (h : right si ro ol = true) (hn : Clock.right now = false) :
    Calls Try.prog 11 #[.agg #[.int .i64 si, .bool st, .bool aw, .int .i64 ro, .int .i64 ol], .int .i64 now, .int .i64 wd] w fun e w' => e = .returned (.bool true) ∧ Below w.heap.size w w' := by
  have H_h := Lib.hid h
  clear h
  have H_hn := Lib.hid hn
  clear hn
  have hx := Blk.new w 42 #[.int .i64 si, .bool st, .bool aw, .int .i64 ro, .int .i64 ol]
  have hb0 := (Below.refl w.heap.size w).alloc (Nat.le_refl _) (.cells #[.int .i64 si, .bool st, .bool aw, .int .i64 ro, .int .i64 ol] 42)
  go_enter Try.func11, Try.ntmps11
  go_wp2_with fail
  obtain ⟨W0, hW⟩ : ∃ W0, w.alloc (.cells #[.int .i64 si, .bool st, .bool aw, .int .i64 ro, .int .i64 ol] 42) = W0 := ⟨_, rfl⟩
  rw [hW] at hx hb0 ⊢
  obtain ⟨o, ho⟩ : ∃ o, w.heap.size = o := ⟨_, rfl⟩
  have hb1 : Below w.heap.size w W0 := hb0
  rw [ho] at hx ⊢
  have Ho_0 := Lib.hid hx
  have HB_0 := Lib.hid hb1
  clear hW hx hb0 hb1 ho
  have HR := Lib.hid (show (right si ro ol && Clock.right now) = false by rw [H_h.out]; simpa using H_hn.out)
  have HR2 := Lib.hid (show (Flags.isWord wd && (right si ro ol && Clock.right now)) = false by rw [HR.out, Bool.and_false])
  refine (sleep_refused si st aw ro ol now _ HR.out).mono ?_
  rintro e w1 ⟨rfl, hb1⟩
  have Ho_1 := Lib.hid (Ho_0.out.below hb1 Ho_0.out.lt)
  have HB_1 := Lib.hid (bthen HB_0.out hb1)
  clear hb1
  obtain ⟨ro00_2, ro01_2, ro02_2, ro03_2, ro04_2⟩ := Ho_1.out.at5
  obtain ⟨ro10_2, ro11_2, ro12_2, ro13_2, ro14_2⟩ := (Ho_1.out.alloc (.cells #[.int .i64 0, .bool false, .bool false, .int .i64 0, .int .i64 0] 42)).at5
  go_wp2_with fail
  clear ro00_2 ro01_2 ro02_2 ro03_2 ro04_2 ro10_2 ro11_2 ro12_2 ro13_2 ro14_2
  have hB2 := (HB_1.out.alloc (by have := HB_1.out.size; simp; try omega) (.cells #[.int .i64 0, .bool false, .bool false, .int .i64 0, .int .i64 0] 42))
  have ho2 := (Ho_1.out.alloc (.cells #[.int .i64 0, .bool false, .bool false, .int .i64 0, .int .i64 0] 42))
  have ha2 := (Blk.new w1 42 #[.int .i64 0, .bool false, .bool false, .int .i64 0, .int .i64 0])
  obtain ⟨W2, hW2⟩ : ∃ W2, (w1.alloc (.cells #[.int .i64 0, .bool false, .bool false, .int .i64 0, .int .i64 0] 42)) = W2 := ⟨_, rfl⟩
  rw [hW2] at hB2 ho2 ha2 ⊢
  obtain ⟨a, haa⟩ : ∃ a, w1.heap.size = a := ⟨_, rfl⟩
  rw [haa] at ha2 ⊢
  clear hW2 haa
  have HB_2 := Lib.hid hB2
  have Ho_2 := Lib.hid ho2
  have Ha_2 := Lib.hid ha2
  clear hB2 ho2 ha2
  refine (wake_refused si st aw ro ol now wd _ HR2.out).mono ?_
  rintro e w3 ⟨rfl, hb3⟩
  have Ho_3 := Lib.hid (Ho_2.out.below hb3 Ho_2.out.lt)
  have Ha_3 := Lib.hid (Ha_2.out.below hb3 Ha_2.out.lt)
  have HB_3 := Lib.hid (bthen HB_2.out hb3)
  clear hb3
  obtain ⟨ro00_4, ro01_4, ro02_4, ro03_4, ro04_4⟩ := Ho_3.out.at5
  obtain ⟨ro10_4, ro11_4, ro12_4, ro13_4, ro14_4⟩ := (Ho_3.out.alloc (.cells #[.int .i64 0, .bool false, .bool false, .int .i64 0, .int .i64 0] 42)).at5
  obtain ⟨ro20_4, ro21_4, ro22_4, ro23_4, ro24_4⟩ := ((Ho_3.out.alloc (.cells #[.int .i64 0, .bool false, .bool false, .int .i64 0, .int .i64 0] 42)).alloc (.cells #[.int .i64 0, .bool false, .bool false, .int .i64 0, .int .i64 0] 42)).at5
  go_wp2_with fail
  clear ro00_4 ro01_4 ro02_4 ro03_4 ro04_4 ro10_4 ro11_4 ro12_4 ro13_4 ro14_4 ro20_4 ro21_4 ro22_4 ro23_4 ro24_4
  have hB4 := ((HB_3.out.alloc (by have := HB_3.out.size; simp; try omega) (.cells #[.int .i64 0, .bool false, .bool false, .int .i64 0, .int .i64 0] 42)).alloc (by have := HB_3.out.size; simp; try omega) (.cells #[.int .i64 0, .bool false, .bool false, .int .i64 0, .int .i64 0] 42))
  have ho4 := ((Ho_3.out.alloc (.cells #[.int .i64 0, .bool false, .bool false, .int .i64 0, .int .i64 0] 42)).alloc (.cells #[.int .i64 0, .bool false, .bool false, .int .i64 0, .int .i64 0] 42))
  have ha4 := ((Ha_3.out.alloc (.cells #[.int .i64 0, .bool false, .bool false, .int .i64 0, .int .i64 0] 42)).alloc (.cells #[.int .i64 0, .bool false, .bool false, .int .i64 0, .int .i64 0] 42))
  have hb4 := ((Blk.new w3 42 #[.int .i64 0, .bool false, .bool false, .int .i64 0, .int .i64 0]).alloc (.cells #[.int .i64 0, .bool false, .bool false, .int .i64 0, .int .i64 0] 42))
  have hz4 := (Blk.new (w3.alloc (.cells #[.int .i64 0, .bool false, .bool false, .int .i64 0, .int .i64 0] 42)) 42 #[.int .i64 0, .bool false, .bool false, .int .i64 0, .int .i64 0])
  simp only [World.size_alloc] at hz4
  obtain ⟨W4, hW4⟩ : ∃ W4, ((w3.alloc (.cells #[.int .i64 0, .bool false, .bool false, .int .i64 0, .int .i64 0] 42)).alloc (.cells #[.int .i64 0, .bool false, .bool false, .int .i64 0, .int .i64 0] 42)) = W4 := ⟨_, rfl⟩
  rw [hW4] at hB4 ho4 ha4 hb4 hz4 ⊢
  obtain ⟨b, hab⟩ : ∃ b, w3.heap.size = b := ⟨_, rfl⟩
  rw [hab] at hb4 hz4 ⊢
  obtain ⟨z, haz⟩ : ∃ z, b + 1 = z := ⟨_, rfl⟩
  rw [haz] at hz4 ⊢
  clear hW4 hab haz
  have HB_4 := Lib.hid hB4
  have Ho_4 := Lib.hid ho4
  have Ha_4 := Lib.hid ha4
  have Hb_4 := Lib.hid hb4
  have Hz_4 := Lib.hid hz4
  clear hB4 ho4 ha4 hb4 hz4
  refine (refRight_any si st aw ro ol _).mono ?_
  rintro e w5 ⟨rfl, hb5⟩
  rw [H_h.out]
  have Ho_5 := Lib.hid (Ho_4.out.below hb5 Ho_4.out.lt)
  have Ha_5 := Lib.hid (Ha_4.out.below hb5 Ha_4.out.lt)
  have Hb_5 := Lib.hid (Hb_4.out.below hb5 Hb_4.out.lt)
  have Hz_5 := Lib.hid (Hz_4.out.below hb5 Hz_4.out.lt)
  have HB_5 := Lib.hid (bthen HB_4.out hb5)
  clear hb5
  go_wp2_with fail
  refine (Clock.refRight_any now _).mono ?_
  rintro e w7 ⟨rfl, rfl⟩
  rw [H_hn.out]
  go_wp2_with fail
  refine (alive_any _).mono ?_
  rintro e w9 ⟨rfl, hb9⟩
  have Ho_9 := Lib.hid (Ho_5.out.below hb9 Ho_5.out.lt)
  have Ha_9 := Lib.hid (Ha_5.out.below hb9 Ha_5.out.lt)
  have Hb_9 := Lib.hid (Hb_5.out.below hb9 Hb_5.out.lt)
  have Hz_9 := Lib.hid (Hz_5.out.below hb9 Hz_5.out.lt)
  have HB_9 := Lib.hid (bthen HB_5.out hb9)
  clear hb9
  have nq := own_eql 0 0 false false false false 0 0 0 0
  have gq := fun x y w => own_guard .eql x y 0 0 false false false false 0 0 0 0 w
  obtain ⟨ra00_10, ra01_10, ra02_10, ra03_10, ra04_10⟩ := Ha_9.out.at5
  obtain ⟨rb00_10, rb01_10, rb02_10, rb03_10, rb04_10⟩ := Hb_9.out.at5
  obtain ⟨rz00_10, rz01_10, rz02_10, rz03_10, rz04_10⟩ := Hz_9.out.at5
  go_wp2_with fail
  clear ra00_10 ra01_10 ra02_10 ra03_10 ra04_10 rb00_10 rb01_10 rb02_10 rb03_10 rb04_10 rz00_10 rz01_10 rz02_10 rz03_10 rz04_10
  go_ret
  exact ⟨rfl, HB_9.out⟩
set_option maxRecDepth 100000 in
set_option maxHeartbeats 16000000 in
theorem first_bad (si : Int) (st aw : Bool) (ro ol now wd : Int) (w : World) (h : right si ro ol = true) (hn : Clock.right now = true) (hs : si = -1) (hw : ¬ (0 ≤ wd ∧ wd < 2147483648)) :
    Calls Try.prog 11 #[.agg #[.int .i64 si, .bool st, .bool aw, .int .i64 ro, .int .i64 ol], .int .i64 now, .int .i64 wd] w fun e w' => e = .returned (.bool true) ∧ Below w.heap.size w w' := by
  have H_h := Lib.hid h
  clear h
  have H_hn := Lib.hid hn
  clear hn
  have H_hs := Lib.hid hs
  clear hs
  have H_hw := Lib.hid hw
  clear hw
  have hx := Blk.new w 42 #[.int .i64 si, .bool st, .bool aw, .int .i64 ro, .int .i64 ol]
  have hb0 := (Below.refl w.heap.size w).alloc (Nat.le_refl _) (.cells #[.int .i64 si, .bool st, .bool aw, .int .i64 ro, .int .i64 ol] 42)
  go_enter Try.func11, Try.ntmps11
  go_wp2_with fail
  obtain ⟨W0, hW⟩ : ∃ W0, w.alloc (.cells #[.int .i64 si, .bool st, .bool aw, .int .i64 ro, .int .i64 ol] 42) = W0 := ⟨_, rfl⟩
  rw [hW] at hx hb0 ⊢
  obtain ⟨o, ho⟩ : ∃ o, w.heap.size = o := ⟨_, rfl⟩
  have hb1 : Below w.heap.size w W0 := hb0
  rw [ho] at hx ⊢
  have Ho_0 := Lib.hid hx
  have HB_0 := Lib.hid hb1
  clear hW hx hb0 hb1 ho
  refine (sleep_first si st aw ro ol now _ H_h.out H_hn.out H_hs.out).mono ?_
  rintro e w1 ⟨rfl, hb1⟩
  have Ho_1 := Lib.hid (Ho_0.out.below hb1 Ho_0.out.lt)
  have HB_1 := Lib.hid (bthen HB_0.out hb1)
  clear hb1
  obtain ⟨ro00_2, ro01_2, ro02_2, ro03_2, ro04_2⟩ := Ho_1.out.at5
  obtain ⟨ro10_2, ro11_2, ro12_2, ro13_2, ro14_2⟩ := (Ho_1.out.alloc (.cells #[.int .i64 now, .bool st, .bool aw, .int .i64 ro, .int .i64 ol] 42)).at5
  go_wp2_with fail
  clear ro00_2 ro01_2 ro02_2 ro03_2 ro04_2 ro10_2 ro11_2 ro12_2 ro13_2 ro14_2
  have hB2 := (HB_1.out.alloc (by have := HB_1.out.size; simp; try omega) (.cells #[.int .i64 now, .bool st, .bool aw, .int .i64 ro, .int .i64 ol] 42))
  have ho2 := (Ho_1.out.alloc (.cells #[.int .i64 now, .bool st, .bool aw, .int .i64 ro, .int .i64 ol] 42))
  have ha2 := (Blk.new w1 42 #[.int .i64 now, .bool st, .bool aw, .int .i64 ro, .int .i64 ol])
  obtain ⟨W2, hW2⟩ : ∃ W2, (w1.alloc (.cells #[.int .i64 now, .bool st, .bool aw, .int .i64 ro, .int .i64 ol] 42)) = W2 := ⟨_, rfl⟩
  rw [hW2] at hB2 ho2 ha2 ⊢
  obtain ⟨a, haa⟩ : ∃ a, w1.heap.size = a := ⟨_, rfl⟩
  rw [haa] at ha2 ⊢
  clear hW2 haa
  have HB_2 := Lib.hid hB2
  have Ho_2 := Lib.hid ho2
  have Ha_2 := Lib.hid ha2
  clear hB2 ho2 ha2
  refine (wake_bad si st aw ro ol now wd _ (by have := H_hw.out; omega)).mono ?_
  rintro e w3 ⟨rfl, hb3⟩
  have Ho_3 := Lib.hid (Ho_2.out.below hb3 Ho_2.out.lt)
  have Ha_3 := Lib.hid (Ha_2.out.below hb3 Ha_2.out.lt)
  have HB_3 := Lib.hid (bthen HB_2.out hb3)
  clear hb3
  obtain ⟨ro00_4, ro01_4, ro02_4, ro03_4, ro04_4⟩ := Ho_3.out.at5
  obtain ⟨ro10_4, ro11_4, ro12_4, ro13_4, ro14_4⟩ := (Ho_3.out.alloc (.cells #[.int .i64 0, .bool false, .bool false, .int .i64 0, .int .i64 0] 42)).at5
  obtain ⟨ro20_4, ro21_4, ro22_4, ro23_4, ro24_4⟩ := ((Ho_3.out.alloc (.cells #[.int .i64 0, .bool false, .bool false, .int .i64 0, .int .i64 0] 42)).alloc (.cells #[.int .i64 0, .bool false, .bool false, .int .i64 0, .int .i64 0] 42)).at5
  go_wp2_with fail
  clear ro00_4 ro01_4 ro02_4 ro03_4 ro04_4 ro10_4 ro11_4 ro12_4 ro13_4 ro14_4 ro20_4 ro21_4 ro22_4 ro23_4 ro24_4
  have hB4 := ((HB_3.out.alloc (by have := HB_3.out.size; simp; try omega) (.cells #[.int .i64 0, .bool false, .bool false, .int .i64 0, .int .i64 0] 42)).alloc (by have := HB_3.out.size; simp; try omega) (.cells #[.int .i64 0, .bool false, .bool false, .int .i64 0, .int .i64 0] 42))
  have ho4 := ((Ho_3.out.alloc (.cells #[.int .i64 0, .bool false, .bool false, .int .i64 0, .int .i64 0] 42)).alloc (.cells #[.int .i64 0, .bool false, .bool false, .int .i64 0, .int .i64 0] 42))
  have ha4 := ((Ha_3.out.alloc (.cells #[.int .i64 0, .bool false, .bool false, .int .i64 0, .int .i64 0] 42)).alloc (.cells #[.int .i64 0, .bool false, .bool false, .int .i64 0, .int .i64 0] 42))
  have hb4 := ((Blk.new w3 42 #[.int .i64 0, .bool false, .bool false, .int .i64 0, .int .i64 0]).alloc (.cells #[.int .i64 0, .bool false, .bool false, .int .i64 0, .int .i64 0] 42))
  have hz4 := (Blk.new (w3.alloc (.cells #[.int .i64 0, .bool false, .bool false, .int .i64 0, .int .i64 0] 42)) 42 #[.int .i64 0, .bool false, .bool false, .int .i64 0, .int .i64 0])
  simp only [World.size_alloc] at hz4
  obtain ⟨W4, hW4⟩ : ∃ W4, ((w3.alloc (.cells #[.int .i64 0, .bool false, .bool false, .int .i64 0, .int .i64 0] 42)).alloc (.cells #[.int .i64 0, .bool false, .bool false, .int .i64 0, .int .i64 0] 42)) = W4 := ⟨_, rfl⟩
  rw [hW4] at hB4 ho4 ha4 hb4 hz4 ⊢
  obtain ⟨b, hab⟩ : ∃ b, w3.heap.size = b := ⟨_, rfl⟩
  rw [hab] at hb4 hz4 ⊢
  obtain ⟨z, haz⟩ : ∃ z, b + 1 = z := ⟨_, rfl⟩
  rw [haz] at hz4 ⊢
  clear hW4 hab haz
  have HB_4 := Lib.hid hB4
  have Ho_4 := Lib.hid ho4
  have Ha_4 := Lib.hid ha4
  have Hb_4 := Lib.hid hb4
  have Hz_4 := Lib.hid hz4
  clear hB4 ho4 ha4 hb4 hz4
  refine (refRight_any si st aw ro ol _).mono ?_
  rintro e w5 ⟨rfl, hb5⟩
  rw [H_h.out]
  have Ho_5 := Lib.hid (Ho_4.out.below hb5 Ho_4.out.lt)
  have Ha_5 := Lib.hid (Ha_4.out.below hb5 Ha_4.out.lt)
  have Hb_5 := Lib.hid (Hb_4.out.below hb5 Hb_4.out.lt)
  have Hz_5 := Lib.hid (Hz_4.out.below hb5 Hz_4.out.lt)
  have HB_5 := Lib.hid (bthen HB_4.out hb5)
  clear hb5
  obtain ⟨ro00_6, ro01_6, ro02_6, ro03_6, ro04_6⟩ := Ho_5.out.at5
  go_wp2_with fail
  clear ro00_6 ro01_6 ro02_6 ro03_6 ro04_6
  refine (Clock.refRight_any now _).mono ?_
  rintro e w7 ⟨rfl, rfl⟩
  rw [H_hn.out]
  obtain ⟨ro00_8, ro01_8, ro02_8, ro03_8, ro04_8⟩ := Ho_5.out.at5
  go_wp2_with fail
  clear ro00_8 ro01_8 ro02_8 ro03_8 ro04_8
  refine (refSleep_first si st aw ro ol now _ H_hs.out).mono ?_
  rintro e w9 ⟨rfl, hb9⟩
  have Ho_9 := Lib.hid (Ho_5.out.below hb9 Ho_5.out.lt)
  have Ha_9 := Lib.hid (Ha_5.out.below hb9 Ha_5.out.lt)
  have Hb_9 := Lib.hid (Hb_5.out.below hb9 Hb_5.out.lt)
  have Hz_9 := Lib.hid (Hz_5.out.below hb9 Hz_5.out.lt)
  have HB_9 := Lib.hid (bthen HB_5.out hb9)
  clear hb9
  have nq := own_neq now now st aw st aw ro ol ro ol
  have gq := fun x y w => own_guard .neq x y now now st aw st aw ro ol ro ol w
  simp only [beq_self_eq_true, Bool.and_self, Bool.not_true] at nq
  obtain ⟨ra00_10, ra01_10, ra02_10, ra03_10, ra04_10⟩ := Ha_9.out.at5
  obtain ⟨ra10_10, ra11_10, ra12_10, ra13_10, ra14_10⟩ := (Ha_9.out.alloc (.cells #[.int .i64 now, .bool st, .bool aw, .int .i64 ro, .int .i64 ol] 42)).at5
  go_wp2_with fail
  clear ra00_10 ra01_10 ra02_10 ra03_10 ra04_10 ra10_10 ra11_10 ra12_10 ra13_10 ra14_10
  have hB10 := (HB_9.out.alloc (by have := HB_9.out.size; simp; try omega) (.cells #[.int .i64 now, .bool st, .bool aw, .int .i64 ro, .int .i64 ol] 42))
  have ho10 := (Ho_9.out.alloc (.cells #[.int .i64 now, .bool st, .bool aw, .int .i64 ro, .int .i64 ol] 42))
  have ha10 := (Ha_9.out.alloc (.cells #[.int .i64 now, .bool st, .bool aw, .int .i64 ro, .int .i64 ol] 42))
  have hb10 := (Hb_9.out.alloc (.cells #[.int .i64 now, .bool st, .bool aw, .int .i64 ro, .int .i64 ol] 42))
  have hz10 := (Hz_9.out.alloc (.cells #[.int .i64 now, .bool st, .bool aw, .int .i64 ro, .int .i64 ol] 42))
  have hx10 := (Blk.new w9 42 #[.int .i64 now, .bool st, .bool aw, .int .i64 ro, .int .i64 ol])
  obtain ⟨W10, hW10⟩ : ∃ W10, (w9.alloc (.cells #[.int .i64 now, .bool st, .bool aw, .int .i64 ro, .int .i64 ol] 42)) = W10 := ⟨_, rfl⟩
  rw [hW10] at hB10 ho10 ha10 hb10 hz10 hx10 ⊢
  obtain ⟨x, hax⟩ : ∃ x, w9.heap.size = x := ⟨_, rfl⟩
  rw [hax] at hx10 ⊢
  clear hW10 hax
  have HB_10 := Lib.hid hB10
  have Ho_10 := Lib.hid ho10
  have Ha_10 := Lib.hid ha10
  have Hb_10 := Lib.hid hb10
  have Hz_10 := Lib.hid hz10
  have Hx_10 := Lib.hid hx10
  clear hB10 ho10 ha10 hb10 hz10 hx10
  clear nq gq
  refine (alive_any _).mono ?_
  rintro e w11 ⟨rfl, hb11⟩
  have Ho_11 := Lib.hid (Ho_10.out.below hb11 Ho_10.out.lt)
  have Ha_11 := Lib.hid (Ha_10.out.below hb11 Ha_10.out.lt)
  have Hb_11 := Lib.hid (Hb_10.out.below hb11 Hb_10.out.lt)
  have Hz_11 := Lib.hid (Hz_10.out.below hb11 Hz_10.out.lt)
  have Hx_11 := Lib.hid (Hx_10.out.below hb11 Hx_10.out.lt)
  have HB_11 := Lib.hid (bthen HB_10.out hb11)
  clear hb11
  go_wp2_with fail
  refine (Ref03.refWord_any wd _).mono ?_
  rintro e w13 ⟨rfl, rfl⟩
  rw [show Flags.isWord wd = false from decide_eq_false H_hw.out]
  have nq := own_eql 0 0 false false false false 0 0 0 0
  have gq := fun x y w => own_guard .eql x y 0 0 false false false false 0 0 0 0 w
  obtain ⟨rb00_14, rb01_14, rb02_14, rb03_14, rb04_14⟩ := Hb_11.out.at5
  obtain ⟨rz00_14, rz01_14, rz02_14, rz03_14, rz04_14⟩ := Hz_11.out.at5
  go_wp2_with fail
  clear rb00_14 rb01_14 rb02_14 rb03_14 rb04_14 rz00_14 rz01_14 rz02_14 rz03_14 rz04_14
  go_ret
  exact ⟨rfl, HB_11.out⟩
set_option maxRecDepth 100000 in
set_option maxHeartbeats 16000000 in
theorem again_bad (si : Int) (st aw : Bool) (ro ol now wd : Int) (w : World) (h : right si ro ol = true) (hn : Clock.right now = true) (hs : si ≠ -1) (hw : ¬ (0 ≤ wd ∧ wd < 2147483648)) :
    Calls Try.prog 11 #[.agg #[.int .i64 si, .bool st, .bool aw, .int .i64 ro, .int .i64 ol], .int .i64 now, .int .i64 wd] w fun e w' => e = .returned (.bool true) ∧ Below w.heap.size w w' := by
  have H_h := Lib.hid h
  clear h
  have H_hn := Lib.hid hn
  clear hn
  have H_hs := Lib.hid hs
  clear hs
  have H_hw := Lib.hid hw
  clear hw
  have hx := Blk.new w 42 #[.int .i64 si, .bool st, .bool aw, .int .i64 ro, .int .i64 ol]
  have hb0 := (Below.refl w.heap.size w).alloc (Nat.le_refl _) (.cells #[.int .i64 si, .bool st, .bool aw, .int .i64 ro, .int .i64 ol] 42)
  go_enter Try.func11, Try.ntmps11
  go_wp2_with fail
  obtain ⟨W0, hW⟩ : ∃ W0, w.alloc (.cells #[.int .i64 si, .bool st, .bool aw, .int .i64 ro, .int .i64 ol] 42) = W0 := ⟨_, rfl⟩
  rw [hW] at hx hb0 ⊢
  obtain ⟨o, ho⟩ : ∃ o, w.heap.size = o := ⟨_, rfl⟩
  have hb1 : Below w.heap.size w W0 := hb0
  rw [ho] at hx ⊢
  have Ho_0 := Lib.hid hx
  have HB_0 := Lib.hid hb1
  clear hW hx hb0 hb1 ho
  refine (sleep_again si st aw ro ol now _ H_h.out H_hn.out H_hs.out).mono ?_
  rintro e w1 ⟨rfl, hb1⟩
  have Ho_1 := Lib.hid (Ho_0.out.below hb1 Ho_0.out.lt)
  have HB_1 := Lib.hid (bthen HB_0.out hb1)
  clear hb1
  obtain ⟨ro00_2, ro01_2, ro02_2, ro03_2, ro04_2⟩ := Ho_1.out.at5
  obtain ⟨ro10_2, ro11_2, ro12_2, ro13_2, ro14_2⟩ := (Ho_1.out.alloc (.cells #[.int .i64 si, .bool st, .bool aw, .int .i64 ro, .int .i64 ol] 42)).at5
  go_wp2_with fail
  clear ro00_2 ro01_2 ro02_2 ro03_2 ro04_2 ro10_2 ro11_2 ro12_2 ro13_2 ro14_2
  have hB2 := (HB_1.out.alloc (by have := HB_1.out.size; simp; try omega) (.cells #[.int .i64 si, .bool st, .bool aw, .int .i64 ro, .int .i64 ol] 42))
  have ho2 := (Ho_1.out.alloc (.cells #[.int .i64 si, .bool st, .bool aw, .int .i64 ro, .int .i64 ol] 42))
  have ha2 := (Blk.new w1 42 #[.int .i64 si, .bool st, .bool aw, .int .i64 ro, .int .i64 ol])
  obtain ⟨W2, hW2⟩ : ∃ W2, (w1.alloc (.cells #[.int .i64 si, .bool st, .bool aw, .int .i64 ro, .int .i64 ol] 42)) = W2 := ⟨_, rfl⟩
  rw [hW2] at hB2 ho2 ha2 ⊢
  obtain ⟨a, haa⟩ : ∃ a, w1.heap.size = a := ⟨_, rfl⟩
  rw [haa] at ha2 ⊢
  clear hW2 haa
  have HB_2 := Lib.hid hB2
  have Ho_2 := Lib.hid ho2
  have Ha_2 := Lib.hid ha2
  clear hB2 ho2 ha2
  refine (wake_bad si st aw ro ol now wd _ (by have := H_hw.out; omega)).mono ?_
  rintro e w3 ⟨rfl, hb3⟩
  have Ho_3 := Lib.hid (Ho_2.out.below hb3 Ho_2.out.lt)
  have Ha_3 := Lib.hid (Ha_2.out.below hb3 Ha_2.out.lt)
  have HB_3 := Lib.hid (bthen HB_2.out hb3)
  clear hb3
  obtain ⟨ro00_4, ro01_4, ro02_4, ro03_4, ro04_4⟩ := Ho_3.out.at5
  obtain ⟨ro10_4, ro11_4, ro12_4, ro13_4, ro14_4⟩ := (Ho_3.out.alloc (.cells #[.int .i64 0, .bool false, .bool false, .int .i64 0, .int .i64 0] 42)).at5
  obtain ⟨ro20_4, ro21_4, ro22_4, ro23_4, ro24_4⟩ := ((Ho_3.out.alloc (.cells #[.int .i64 0, .bool false, .bool false, .int .i64 0, .int .i64 0] 42)).alloc (.cells #[.int .i64 0, .bool false, .bool false, .int .i64 0, .int .i64 0] 42)).at5
  go_wp2_with fail
  clear ro00_4 ro01_4 ro02_4 ro03_4 ro04_4 ro10_4 ro11_4 ro12_4 ro13_4 ro14_4 ro20_4 ro21_4 ro22_4 ro23_4 ro24_4
  have hB4 := ((HB_3.out.alloc (by have := HB_3.out.size; simp; try omega) (.cells #[.int .i64 0, .bool false, .bool false, .int .i64 0, .int .i64 0] 42)).alloc (by have := HB_3.out.size; simp; try omega) (.cells #[.int .i64 0, .bool false, .bool false, .int .i64 0, .int .i64 0] 42))
  have ho4 := ((Ho_3.out.alloc (.cells #[.int .i64 0, .bool false, .bool false, .int .i64 0, .int .i64 0] 42)).alloc (.cells #[.int .i64 0, .bool false, .bool false, .int .i64 0, .int .i64 0] 42))
  have ha4 := ((Ha_3.out.alloc (.cells #[.int .i64 0, .bool false, .bool false, .int .i64 0, .int .i64 0] 42)).alloc (.cells #[.int .i64 0, .bool false, .bool false, .int .i64 0, .int .i64 0] 42))
  have hb4 := ((Blk.new w3 42 #[.int .i64 0, .bool false, .bool false, .int .i64 0, .int .i64 0]).alloc (.cells #[.int .i64 0, .bool false, .bool false, .int .i64 0, .int .i64 0] 42))
  have hz4 := (Blk.new (w3.alloc (.cells #[.int .i64 0, .bool false, .bool false, .int .i64 0, .int .i64 0] 42)) 42 #[.int .i64 0, .bool false, .bool false, .int .i64 0, .int .i64 0])
  simp only [World.size_alloc] at hz4
  obtain ⟨W4, hW4⟩ : ∃ W4, ((w3.alloc (.cells #[.int .i64 0, .bool false, .bool false, .int .i64 0, .int .i64 0] 42)).alloc (.cells #[.int .i64 0, .bool false, .bool false, .int .i64 0, .int .i64 0] 42)) = W4 := ⟨_, rfl⟩
  rw [hW4] at hB4 ho4 ha4 hb4 hz4 ⊢
  obtain ⟨b, hab⟩ : ∃ b, w3.heap.size = b := ⟨_, rfl⟩
  rw [hab] at hb4 hz4 ⊢
  obtain ⟨z, haz⟩ : ∃ z, b + 1 = z := ⟨_, rfl⟩
  rw [haz] at hz4 ⊢
  clear hW4 hab haz
  have HB_4 := Lib.hid hB4
  have Ho_4 := Lib.hid ho4
  have Ha_4 := Lib.hid ha4
  have Hb_4 := Lib.hid hb4
  have Hz_4 := Lib.hid hz4
  clear hB4 ho4 ha4 hb4 hz4
  refine (refRight_any si st aw ro ol _).mono ?_
  rintro e w5 ⟨rfl, hb5⟩
  rw [H_h.out]
  have Ho_5 := Lib.hid (Ho_4.out.below hb5 Ho_4.out.lt)
  have Ha_5 := Lib.hid (Ha_4.out.below hb5 Ha_4.out.lt)
  have Hb_5 := Lib.hid (Hb_4.out.below hb5 Hb_4.out.lt)
  have Hz_5 := Lib.hid (Hz_4.out.below hb5 Hz_4.out.lt)
  have HB_5 := Lib.hid (bthen HB_4.out hb5)
  clear hb5
  obtain ⟨ro00_6, ro01_6, ro02_6, ro03_6, ro04_6⟩ := Ho_5.out.at5
  go_wp2_with fail
  clear ro00_6 ro01_6 ro02_6 ro03_6 ro04_6
  refine (Clock.refRight_any now _).mono ?_
  rintro e w7 ⟨rfl, rfl⟩
  rw [H_hn.out]
  obtain ⟨ro00_8, ro01_8, ro02_8, ro03_8, ro04_8⟩ := Ho_5.out.at5
  go_wp2_with fail
  clear ro00_8 ro01_8 ro02_8 ro03_8 ro04_8
  refine (refSleep_again si st aw ro ol now _ H_hs.out).mono ?_
  rintro e w9 ⟨rfl, hb9⟩
  have Ho_9 := Lib.hid (Ho_5.out.below hb9 Ho_5.out.lt)
  have Ha_9 := Lib.hid (Ha_5.out.below hb9 Ha_5.out.lt)
  have Hb_9 := Lib.hid (Hb_5.out.below hb9 Hb_5.out.lt)
  have Hz_9 := Lib.hid (Hz_5.out.below hb9 Hz_5.out.lt)
  have HB_9 := Lib.hid (bthen HB_5.out hb9)
  clear hb9
  have nq := own_neq si si st aw st aw ro ol ro ol
  have gq := fun x y w => own_guard .neq x y si si st aw st aw ro ol ro ol w
  simp only [beq_self_eq_true, Bool.and_self, Bool.not_true] at nq
  obtain ⟨ra00_10, ra01_10, ra02_10, ra03_10, ra04_10⟩ := Ha_9.out.at5
  obtain ⟨ra10_10, ra11_10, ra12_10, ra13_10, ra14_10⟩ := (Ha_9.out.alloc (.cells #[.int .i64 si, .bool st, .bool aw, .int .i64 ro, .int .i64 ol] 42)).at5
  go_wp2_with fail
  clear ra00_10 ra01_10 ra02_10 ra03_10 ra04_10 ra10_10 ra11_10 ra12_10 ra13_10 ra14_10
  have hB10 := (HB_9.out.alloc (by have := HB_9.out.size; simp; try omega) (.cells #[.int .i64 si, .bool st, .bool aw, .int .i64 ro, .int .i64 ol] 42))
  have ho10 := (Ho_9.out.alloc (.cells #[.int .i64 si, .bool st, .bool aw, .int .i64 ro, .int .i64 ol] 42))
  have ha10 := (Ha_9.out.alloc (.cells #[.int .i64 si, .bool st, .bool aw, .int .i64 ro, .int .i64 ol] 42))
  have hb10 := (Hb_9.out.alloc (.cells #[.int .i64 si, .bool st, .bool aw, .int .i64 ro, .int .i64 ol] 42))
  have hz10 := (Hz_9.out.alloc (.cells #[.int .i64 si, .bool st, .bool aw, .int .i64 ro, .int .i64 ol] 42))
  have hx10 := (Blk.new w9 42 #[.int .i64 si, .bool st, .bool aw, .int .i64 ro, .int .i64 ol])
  obtain ⟨W10, hW10⟩ : ∃ W10, (w9.alloc (.cells #[.int .i64 si, .bool st, .bool aw, .int .i64 ro, .int .i64 ol] 42)) = W10 := ⟨_, rfl⟩
  rw [hW10] at hB10 ho10 ha10 hb10 hz10 hx10 ⊢
  obtain ⟨x, hax⟩ : ∃ x, w9.heap.size = x := ⟨_, rfl⟩
  rw [hax] at hx10 ⊢
  clear hW10 hax
  have HB_10 := Lib.hid hB10
  have Ho_10 := Lib.hid ho10
  have Ha_10 := Lib.hid ha10
  have Hb_10 := Lib.hid hb10
  have Hz_10 := Lib.hid hz10
  have Hx_10 := Lib.hid hx10
  clear hB10 ho10 ha10 hb10 hz10 hx10
  clear nq gq
  refine (alive_any _).mono ?_
  rintro e w11 ⟨rfl, hb11⟩
  have Ho_11 := Lib.hid (Ho_10.out.below hb11 Ho_10.out.lt)
  have Ha_11 := Lib.hid (Ha_10.out.below hb11 Ha_10.out.lt)
  have Hb_11 := Lib.hid (Hb_10.out.below hb11 Hb_10.out.lt)
  have Hz_11 := Lib.hid (Hz_10.out.below hb11 Hz_10.out.lt)
  have Hx_11 := Lib.hid (Hx_10.out.below hb11 Hx_10.out.lt)
  have HB_11 := Lib.hid (bthen HB_10.out hb11)
  clear hb11
  go_wp2_with fail
  refine (Ref03.refWord_any wd _).mono ?_
  rintro e w13 ⟨rfl, rfl⟩
  rw [show Flags.isWord wd = false from decide_eq_false H_hw.out]
  have nq := own_eql 0 0 false false false false 0 0 0 0
  have gq := fun x y w => own_guard .eql x y 0 0 false false false false 0 0 0 0 w
  obtain ⟨rb00_14, rb01_14, rb02_14, rb03_14, rb04_14⟩ := Hb_11.out.at5
  obtain ⟨rz00_14, rz01_14, rz02_14, rz03_14, rz04_14⟩ := Hz_11.out.at5
  go_wp2_with fail
  clear rb00_14 rb01_14 rb02_14 rb03_14 rb04_14 rz00_14 rz01_14 rz02_14 rz03_14 rz04_14
  go_ret
  exact ⟨rfl, HB_11.out⟩
set_option maxRecDepth 100000 in
set_option maxHeartbeats 16000000 in
theorem first_word (si : Int) (st aw : Bool) (ro ol now wd : Int) (w : World) (h : right si ro ol = true) (hn : Clock.right now = true) (hs : si = -1) (hw : 0 ≤ wd ∧ wd < 2147483648) :
    Calls Try.prog 11 #[.agg #[.int .i64 si, .bool st, .bool aw, .int .i64 ro, .int .i64 ol], .int .i64 now, .int .i64 wd] w fun e w' => e = .returned (.bool true) ∧ Below w.heap.size w w' := by
  have H_h := Lib.hid h
  clear h
  have H_hn := Lib.hid hn
  clear hn
  have H_hs := Lib.hid hs
  clear hs
  have H_hw := Lib.hid hw
  clear hw
  have hx := Blk.new w 42 #[.int .i64 si, .bool st, .bool aw, .int .i64 ro, .int .i64 ol]
  have hb0 := (Below.refl w.heap.size w).alloc (Nat.le_refl _) (.cells #[.int .i64 si, .bool st, .bool aw, .int .i64 ro, .int .i64 ol] 42)
  go_enter Try.func11, Try.ntmps11
  go_wp2_with fail
  obtain ⟨W0, hW⟩ : ∃ W0, w.alloc (.cells #[.int .i64 si, .bool st, .bool aw, .int .i64 ro, .int .i64 ol] 42) = W0 := ⟨_, rfl⟩
  rw [hW] at hx hb0 ⊢
  obtain ⟨o, ho⟩ : ∃ o, w.heap.size = o := ⟨_, rfl⟩
  have hb1 : Below w.heap.size w W0 := hb0
  rw [ho] at hx ⊢
  have Ho_0 := Lib.hid hx
  have HB_0 := Lib.hid hb1
  clear hW hx hb0 hb1 ho
  have HSI := Lib.hid (show si = -1 ∨ Clock.right si = true from .inl H_hs.out)
  refine (sleep_first si st aw ro ol now _ H_h.out H_hn.out H_hs.out).mono ?_
  rintro e w1 ⟨rfl, hb1⟩
  have Ho_1 := Lib.hid (Ho_0.out.below hb1 Ho_0.out.lt)
  have HB_1 := Lib.hid (bthen HB_0.out hb1)
  clear hb1
  obtain ⟨ro00_2, ro01_2, ro02_2, ro03_2, ro04_2⟩ := Ho_1.out.at5
  obtain ⟨ro10_2, ro11_2, ro12_2, ro13_2, ro14_2⟩ := (Ho_1.out.alloc (.cells #[.int .i64 now, .bool st, .bool aw, .int .i64 ro, .int .i64 ol] 42)).at5
  go_wp2_with fail
  clear ro00_2 ro01_2 ro02_2 ro03_2 ro04_2 ro10_2 ro11_2 ro12_2 ro13_2 ro14_2
  have hB2 := (HB_1.out.alloc (by have := HB_1.out.size; simp; try omega) (.cells #[.int .i64 now, .bool st, .bool aw, .int .i64 ro, .int .i64 ol] 42))
  have ho2 := (Ho_1.out.alloc (.cells #[.int .i64 now, .bool st, .bool aw, .int .i64 ro, .int .i64 ol] 42))
  have ha2 := (Blk.new w1 42 #[.int .i64 now, .bool st, .bool aw, .int .i64 ro, .int .i64 ol])
  obtain ⟨W2, hW2⟩ : ∃ W2, (w1.alloc (.cells #[.int .i64 now, .bool st, .bool aw, .int .i64 ro, .int .i64 ol] 42)) = W2 := ⟨_, rfl⟩
  rw [hW2] at hB2 ho2 ha2 ⊢
  obtain ⟨a, haa⟩ : ∃ a, w1.heap.size = a := ⟨_, rfl⟩
  rw [haa] at ha2 ⊢
  clear hW2 haa
  have HB_2 := Lib.hid hB2
  have Ho_2 := Lib.hid ho2
  have Ha_2 := Lib.hid ha2
  clear hB2 ho2 ha2
  obtain ⟨c1, hc1⟩ : ∃ c1, wst st si now = c1 := ⟨_, rfl⟩
  obtain ⟨c2, hc2⟩ : ∃ c2, (aw || !Flags.has wd 2) = c2 := ⟨_, rfl⟩
  obtain ⟨c3, hc3⟩ : ∃ c3, wro ro wd = c3 := ⟨_, rfl⟩
  obtain ⟨S, hS⟩ : ∃ S, Flags.has wd 2 = S := ⟨_, rfl⟩
  have HC1 := Lib.hid hc1
  have HC2 := Lib.hid hc2
  have HC3 := Lib.hid hc3
  have HS := Lib.hid hS
  clear hc1 hc2 hc3 hS
  refine (wake_yes si st aw ro ol now wd _ H_hw.out H_h.out H_hn.out).mono ?_
  rintro e w3 ⟨rfl, hb3⟩
  rw [HC1.out, HC2.out, HC3.out, HS.out]
  have Ho_3 := Lib.hid (Ho_2.out.below hb3 Ho_2.out.lt)
  have Ha_3 := Lib.hid (Ha_2.out.below hb3 Ha_2.out.lt)
  have HB_3 := Lib.hid (bthen HB_2.out hb3)
  clear hb3
  obtain ⟨ro00_4, ro01_4, ro02_4, ro03_4, ro04_4⟩ := Ho_3.out.at5
  obtain ⟨ro10_4, ro11_4, ro12_4, ro13_4, ro14_4⟩ := (Ho_3.out.alloc (.cells #[.int .i64 si, .bool c1, .bool c2, .int .i64 c3, .int .i64 wd] 42)).at5
  obtain ⟨ro20_4, ro21_4, ro22_4, ro23_4, ro24_4⟩ := ((Ho_3.out.alloc (.cells #[.int .i64 si, .bool c1, .bool c2, .int .i64 c3, .int .i64 wd] 42)).alloc (.cells #[.int .i64 0, .bool false, .bool false, .int .i64 0, .int .i64 0] 42)).at5
  go_wp2_with fail
  clear ro00_4 ro01_4 ro02_4 ro03_4 ro04_4 ro10_4 ro11_4 ro12_4 ro13_4 ro14_4 ro20_4 ro21_4 ro22_4 ro23_4 ro24_4
  have hB4 := ((HB_3.out.alloc (by have := HB_3.out.size; simp; try omega) (.cells #[.int .i64 si, .bool c1, .bool c2, .int .i64 c3, .int .i64 wd] 42)).alloc (by have := HB_3.out.size; simp; try omega) (.cells #[.int .i64 0, .bool false, .bool false, .int .i64 0, .int .i64 0] 42))
  have ho4 := ((Ho_3.out.alloc (.cells #[.int .i64 si, .bool c1, .bool c2, .int .i64 c3, .int .i64 wd] 42)).alloc (.cells #[.int .i64 0, .bool false, .bool false, .int .i64 0, .int .i64 0] 42))
  have ha4 := ((Ha_3.out.alloc (.cells #[.int .i64 si, .bool c1, .bool c2, .int .i64 c3, .int .i64 wd] 42)).alloc (.cells #[.int .i64 0, .bool false, .bool false, .int .i64 0, .int .i64 0] 42))
  have hb4 := ((Blk.new w3 42 #[.int .i64 si, .bool c1, .bool c2, .int .i64 c3, .int .i64 wd]).alloc (.cells #[.int .i64 0, .bool false, .bool false, .int .i64 0, .int .i64 0] 42))
  have hz4 := (Blk.new (w3.alloc (.cells #[.int .i64 si, .bool c1, .bool c2, .int .i64 c3, .int .i64 wd] 42)) 42 #[.int .i64 0, .bool false, .bool false, .int .i64 0, .int .i64 0])
  simp only [World.size_alloc] at hz4
  obtain ⟨W4, hW4⟩ : ∃ W4, ((w3.alloc (.cells #[.int .i64 si, .bool c1, .bool c2, .int .i64 c3, .int .i64 wd] 42)).alloc (.cells #[.int .i64 0, .bool false, .bool false, .int .i64 0, .int .i64 0] 42)) = W4 := ⟨_, rfl⟩
  rw [hW4] at hB4 ho4 ha4 hb4 hz4 ⊢
  obtain ⟨b, hab⟩ : ∃ b, w3.heap.size = b := ⟨_, rfl⟩
  rw [hab] at hb4 hz4 ⊢
  obtain ⟨z, haz⟩ : ∃ z, b + 1 = z := ⟨_, rfl⟩
  rw [haz] at hz4 ⊢
  clear hW4 hab haz
  have HB_4 := Lib.hid hB4
  have Ho_4 := Lib.hid ho4
  have Ha_4 := Lib.hid ha4
  have Hb_4 := Lib.hid hb4
  have Hz_4 := Lib.hid hz4
  clear hB4 ho4 ha4 hb4 hz4
  refine (refRight_any si st aw ro ol _).mono ?_
  rintro e w5 ⟨rfl, hb5⟩
  rw [H_h.out]
  have Ho_5 := Lib.hid (Ho_4.out.below hb5 Ho_4.out.lt)
  have Ha_5 := Lib.hid (Ha_4.out.below hb5 Ha_4.out.lt)
  have Hb_5 := Lib.hid (Hb_4.out.below hb5 Hb_4.out.lt)
  have Hz_5 := Lib.hid (Hz_4.out.below hb5 Hz_4.out.lt)
  have HB_5 := Lib.hid (bthen HB_4.out hb5)
  clear hb5
  obtain ⟨ro00_6, ro01_6, ro02_6, ro03_6, ro04_6⟩ := Ho_5.out.at5
  go_wp2_with fail
  clear ro00_6 ro01_6 ro02_6 ro03_6 ro04_6
  refine (Clock.refRight_any now _).mono ?_
  rintro e w7 ⟨rfl, rfl⟩
  rw [H_hn.out]
  obtain ⟨ro00_8, ro01_8, ro02_8, ro03_8, ro04_8⟩ := Ho_5.out.at5
  go_wp2_with fail
  clear ro00_8 ro01_8 ro02_8 ro03_8 ro04_8
  refine (refSleep_first si st aw ro ol now _ H_hs.out).mono ?_
  rintro e w9 ⟨rfl, hb9⟩
  have Ho_9 := Lib.hid (Ho_5.out.below hb9 Ho_5.out.lt)
  have Ha_9 := Lib.hid (Ha_5.out.below hb9 Ha_5.out.lt)
  have Hb_9 := Lib.hid (Hb_5.out.below hb9 Hb_5.out.lt)
  have Hz_9 := Lib.hid (Hz_5.out.below hb9 Hz_5.out.lt)
  have HB_9 := Lib.hid (bthen HB_5.out hb9)
  clear hb9
  have nq := own_neq now now st aw st aw ro ol ro ol
  have gq := fun x y w => own_guard .neq x y now now st aw st aw ro ol ro ol w
  simp only [beq_self_eq_true, Bool.and_self, Bool.not_true] at nq
  obtain ⟨ra00_10, ra01_10, ra02_10, ra03_10, ra04_10⟩ := Ha_9.out.at5
  obtain ⟨ra10_10, ra11_10, ra12_10, ra13_10, ra14_10⟩ := (Ha_9.out.alloc (.cells #[.int .i64 now, .bool st, .bool aw, .int .i64 ro, .int .i64 ol] 42)).at5
  go_wp2_with fail
  clear ra00_10 ra01_10 ra02_10 ra03_10 ra04_10 ra10_10 ra11_10 ra12_10 ra13_10 ra14_10
  have hB10 := (HB_9.out.alloc (by have := HB_9.out.size; simp; try omega) (.cells #[.int .i64 now, .bool st, .bool aw, .int .i64 ro, .int .i64 ol] 42))
  have ho10 := (Ho_9.out.alloc (.cells #[.int .i64 now, .bool st, .bool aw, .int .i64 ro, .int .i64 ol] 42))
  have ha10 := (Ha_9.out.alloc (.cells #[.int .i64 now, .bool st, .bool aw, .int .i64 ro, .int .i64 ol] 42))
  have hb10 := (Hb_9.out.alloc (.cells #[.int .i64 now, .bool st, .bool aw, .int .i64 ro, .int .i64 ol] 42))
  have hz10 := (Hz_9.out.alloc (.cells #[.int .i64 now, .bool st, .bool aw, .int .i64 ro, .int .i64 ol] 42))
  have hx10 := (Blk.new w9 42 #[.int .i64 now, .bool st, .bool aw, .int .i64 ro, .int .i64 ol])
  obtain ⟨W10, hW10⟩ : ∃ W10, (w9.alloc (.cells #[.int .i64 now, .bool st, .bool aw, .int .i64 ro, .int .i64 ol] 42)) = W10 := ⟨_, rfl⟩
  rw [hW10] at hB10 ho10 ha10 hb10 hz10 hx10 ⊢
  obtain ⟨x, hax⟩ : ∃ x, w9.heap.size = x := ⟨_, rfl⟩
  rw [hax] at hx10 ⊢
  clear hW10 hax
  have HB_10 := Lib.hid hB10
  have Ho_10 := Lib.hid ho10
  have Ha_10 := Lib.hid ha10
  have Hb_10 := Lib.hid hb10
  have Hz_10 := Lib.hid hz10
  have Hx_10 := Lib.hid hx10
  clear hB10 ho10 ha10 hb10 hz10 hx10
  clear nq gq
  refine (alive_any _).mono ?_
  rintro e w11 ⟨rfl, hb11⟩
  have Ho_11 := Lib.hid (Ho_10.out.below hb11 Ho_10.out.lt)
  have Ha_11 := Lib.hid (Ha_10.out.below hb11 Ha_10.out.lt)
  have Hb_11 := Lib.hid (Hb_10.out.below hb11 Hb_10.out.lt)
  have Hz_11 := Lib.hid (Hz_10.out.below hb11 Hz_10.out.lt)
  have Hx_11 := Lib.hid (Hx_10.out.below hb11 Hx_10.out.lt)
  have HB_11 := Lib.hid (bthen HB_10.out hb11)
  clear hb11
  go_wp2_with fail
  refine (Ref03.refWord_any wd _).mono ?_
  rintro e w13 ⟨rfl, rfl⟩
  rw [show Flags.isWord wd = true from decide_eq_true H_hw.out]
  obtain ⟨ro00_14, ro01_14, ro02_14, ro03_14, ro04_14⟩ := Ho_11.out.at5
  go_wp2_with fail
  clear ro00_14 ro01_14 ro02_14 ro03_14 ro04_14
  refine (refWake_any si st aw ro ol now wd _ H_hw.out HSI.out H_hn.out).mono ?_
  rintro e w15 ⟨rfl, hb15⟩
  rw [HC1.out, HC2.out, HC3.out, HS.out]
  have Ho_15 := Lib.hid (Ho_11.out.below hb15 Ho_11.out.lt)
  have Ha_15 := Lib.hid (Ha_11.out.below hb15 Ha_11.out.lt)
  have Hb_15 := Lib.hid (Hb_11.out.below hb15 Hb_11.out.lt)
  have Hz_15 := Lib.hid (Hz_11.out.below hb15 Hz_11.out.lt)
  have Hx_15 := Lib.hid (Hx_11.out.below hb15 Hx_11.out.lt)
  have HB_15 := Lib.hid (bthen HB_11.out hb15)
  clear hb15
  have nq := own_eql si si c1 c2 c1 c2 c3 wd c3 wd
  have gq := fun x y w => own_guard .eql x y si si c1 c2 c1 c2 c3 wd c3 wd w
  simp only [beq_self_eq_true, Bool.and_self] at nq
  have hBe := HB_15.out.alloc (by have := HB_15.out.size; omega) (.cells #[.int .i64 si, .bool c1, .bool c2, .int .i64 c3, .int .i64 wd] 42)
  have HBE := Lib.hid hBe
  clear hBe
  obtain ⟨b0, b1, b2, b3, b4⟩ := Hb_15.out.at5
  obtain ⟨d0, d1, d2, d3, d4⟩ := (Hb_15.out.alloc (.cells #[.int .i64 si, .bool c1, .bool c2, .int .i64 c3, .int .i64 wd] 42)).at5
  go_wp2_with fail
  go_ret
  exact ⟨rfl, HBE.out⟩
set_option maxRecDepth 100000 in
set_option maxHeartbeats 16000000 in
theorem again_word (si : Int) (st aw : Bool) (ro ol now wd : Int) (w : World) (h : right si ro ol = true) (hn : Clock.right now = true) (hs : si ≠ -1) (hw : 0 ≤ wd ∧ wd < 2147483648) :
    Calls Try.prog 11 #[.agg #[.int .i64 si, .bool st, .bool aw, .int .i64 ro, .int .i64 ol], .int .i64 now, .int .i64 wd] w fun e w' => e = .returned (.bool true) ∧ Below w.heap.size w w' := by
  have H_h := Lib.hid h
  clear h
  have H_hn := Lib.hid hn
  clear hn
  have H_hs := Lib.hid hs
  clear hs
  have H_hw := Lib.hid hw
  clear hw
  have hx := Blk.new w 42 #[.int .i64 si, .bool st, .bool aw, .int .i64 ro, .int .i64 ol]
  have hb0 := (Below.refl w.heap.size w).alloc (Nat.le_refl _) (.cells #[.int .i64 si, .bool st, .bool aw, .int .i64 ro, .int .i64 ol] 42)
  go_enter Try.func11, Try.ntmps11
  go_wp2_with fail
  obtain ⟨W0, hW⟩ : ∃ W0, w.alloc (.cells #[.int .i64 si, .bool st, .bool aw, .int .i64 ro, .int .i64 ol] 42) = W0 := ⟨_, rfl⟩
  rw [hW] at hx hb0 ⊢
  obtain ⟨o, ho⟩ : ∃ o, w.heap.size = o := ⟨_, rfl⟩
  have hb1 : Below w.heap.size w W0 := hb0
  rw [ho] at hx ⊢
  have Ho_0 := Lib.hid hx
  have HB_0 := Lib.hid hb1
  clear hW hx hb0 hb1 ho
  have HSI := Lib.hid (show si = -1 ∨ Clock.right si = true by
    have h1 := H_h.out
    unfold right at h1
    simp only [Bool.and_eq_true, Bool.or_eq_true] at h1
    rcases h1.1.2 with h | h
    · exact .inl (by simpa using h)
    · exact .inr h)
  refine (sleep_again si st aw ro ol now _ H_h.out H_hn.out H_hs.out).mono ?_
  rintro e w1 ⟨rfl, hb1⟩
  have Ho_1 := Lib.hid (Ho_0.out.below hb1 Ho_0.out.lt)
  have HB_1 := Lib.hid (bthen HB_0.out hb1)
  clear hb1
  obtain ⟨ro00_2, ro01_2, ro02_2, ro03_2, ro04_2⟩ := Ho_1.out.at5
  obtain ⟨ro10_2, ro11_2, ro12_2, ro13_2, ro14_2⟩ := (Ho_1.out.alloc (.cells #[.int .i64 si, .bool st, .bool aw, .int .i64 ro, .int .i64 ol] 42)).at5
  go_wp2_with fail
  clear ro00_2 ro01_2 ro02_2 ro03_2 ro04_2 ro10_2 ro11_2 ro12_2 ro13_2 ro14_2
  have hB2 := (HB_1.out.alloc (by have := HB_1.out.size; simp; try omega) (.cells #[.int .i64 si, .bool st, .bool aw, .int .i64 ro, .int .i64 ol] 42))
  have ho2 := (Ho_1.out.alloc (.cells #[.int .i64 si, .bool st, .bool aw, .int .i64 ro, .int .i64 ol] 42))
  have ha2 := (Blk.new w1 42 #[.int .i64 si, .bool st, .bool aw, .int .i64 ro, .int .i64 ol])
  obtain ⟨W2, hW2⟩ : ∃ W2, (w1.alloc (.cells #[.int .i64 si, .bool st, .bool aw, .int .i64 ro, .int .i64 ol] 42)) = W2 := ⟨_, rfl⟩
  rw [hW2] at hB2 ho2 ha2 ⊢
  obtain ⟨a, haa⟩ : ∃ a, w1.heap.size = a := ⟨_, rfl⟩
  rw [haa] at ha2 ⊢
  clear hW2 haa
  have HB_2 := Lib.hid hB2
  have Ho_2 := Lib.hid ho2
  have Ha_2 := Lib.hid ha2
  clear hB2 ho2 ha2
  obtain ⟨c1, hc1⟩ : ∃ c1, wst st si now = c1 := ⟨_, rfl⟩
  obtain ⟨c2, hc2⟩ : ∃ c2, (aw || !Flags.has wd 2) = c2 := ⟨_, rfl⟩
  obtain ⟨c3, hc3⟩ : ∃ c3, wro ro wd = c3 := ⟨_, rfl⟩
  obtain ⟨S, hS⟩ : ∃ S, Flags.has wd 2 = S := ⟨_, rfl⟩
  have HC1 := Lib.hid hc1
  have HC2 := Lib.hid hc2
  have HC3 := Lib.hid hc3
  have HS := Lib.hid hS
  clear hc1 hc2 hc3 hS
  refine (wake_yes si st aw ro ol now wd _ H_hw.out H_h.out H_hn.out).mono ?_
  rintro e w3 ⟨rfl, hb3⟩
  rw [HC1.out, HC2.out, HC3.out, HS.out]
  have Ho_3 := Lib.hid (Ho_2.out.below hb3 Ho_2.out.lt)
  have Ha_3 := Lib.hid (Ha_2.out.below hb3 Ha_2.out.lt)
  have HB_3 := Lib.hid (bthen HB_2.out hb3)
  clear hb3
  obtain ⟨ro00_4, ro01_4, ro02_4, ro03_4, ro04_4⟩ := Ho_3.out.at5
  obtain ⟨ro10_4, ro11_4, ro12_4, ro13_4, ro14_4⟩ := (Ho_3.out.alloc (.cells #[.int .i64 si, .bool c1, .bool c2, .int .i64 c3, .int .i64 wd] 42)).at5
  obtain ⟨ro20_4, ro21_4, ro22_4, ro23_4, ro24_4⟩ := ((Ho_3.out.alloc (.cells #[.int .i64 si, .bool c1, .bool c2, .int .i64 c3, .int .i64 wd] 42)).alloc (.cells #[.int .i64 0, .bool false, .bool false, .int .i64 0, .int .i64 0] 42)).at5
  go_wp2_with fail
  clear ro00_4 ro01_4 ro02_4 ro03_4 ro04_4 ro10_4 ro11_4 ro12_4 ro13_4 ro14_4 ro20_4 ro21_4 ro22_4 ro23_4 ro24_4
  have hB4 := ((HB_3.out.alloc (by have := HB_3.out.size; simp; try omega) (.cells #[.int .i64 si, .bool c1, .bool c2, .int .i64 c3, .int .i64 wd] 42)).alloc (by have := HB_3.out.size; simp; try omega) (.cells #[.int .i64 0, .bool false, .bool false, .int .i64 0, .int .i64 0] 42))
  have ho4 := ((Ho_3.out.alloc (.cells #[.int .i64 si, .bool c1, .bool c2, .int .i64 c3, .int .i64 wd] 42)).alloc (.cells #[.int .i64 0, .bool false, .bool false, .int .i64 0, .int .i64 0] 42))
  have ha4 := ((Ha_3.out.alloc (.cells #[.int .i64 si, .bool c1, .bool c2, .int .i64 c3, .int .i64 wd] 42)).alloc (.cells #[.int .i64 0, .bool false, .bool false, .int .i64 0, .int .i64 0] 42))
  have hb4 := ((Blk.new w3 42 #[.int .i64 si, .bool c1, .bool c2, .int .i64 c3, .int .i64 wd]).alloc (.cells #[.int .i64 0, .bool false, .bool false, .int .i64 0, .int .i64 0] 42))
  have hz4 := (Blk.new (w3.alloc (.cells #[.int .i64 si, .bool c1, .bool c2, .int .i64 c3, .int .i64 wd] 42)) 42 #[.int .i64 0, .bool false, .bool false, .int .i64 0, .int .i64 0])
  simp only [World.size_alloc] at hz4
  obtain ⟨W4, hW4⟩ : ∃ W4, ((w3.alloc (.cells #[.int .i64 si, .bool c1, .bool c2, .int .i64 c3, .int .i64 wd] 42)).alloc (.cells #[.int .i64 0, .bool false, .bool false, .int .i64 0, .int .i64 0] 42)) = W4 := ⟨_, rfl⟩
  rw [hW4] at hB4 ho4 ha4 hb4 hz4 ⊢
  obtain ⟨b, hab⟩ : ∃ b, w3.heap.size = b := ⟨_, rfl⟩
  rw [hab] at hb4 hz4 ⊢
  obtain ⟨z, haz⟩ : ∃ z, b + 1 = z := ⟨_, rfl⟩
  rw [haz] at hz4 ⊢
  clear hW4 hab haz
  have HB_4 := Lib.hid hB4
  have Ho_4 := Lib.hid ho4
  have Ha_4 := Lib.hid ha4
  have Hb_4 := Lib.hid hb4
  have Hz_4 := Lib.hid hz4
  clear hB4 ho4 ha4 hb4 hz4
  refine (refRight_any si st aw ro ol _).mono ?_
  rintro e w5 ⟨rfl, hb5⟩
  rw [H_h.out]
  have Ho_5 := Lib.hid (Ho_4.out.below hb5 Ho_4.out.lt)
  have Ha_5 := Lib.hid (Ha_4.out.below hb5 Ha_4.out.lt)
  have Hb_5 := Lib.hid (Hb_4.out.below hb5 Hb_4.out.lt)
  have Hz_5 := Lib.hid (Hz_4.out.below hb5 Hz_4.out.lt)
  have HB_5 := Lib.hid (bthen HB_4.out hb5)
  clear hb5
  obtain ⟨ro00_6, ro01_6, ro02_6, ro03_6, ro04_6⟩ := Ho_5.out.at5
  go_wp2_with fail
  clear ro00_6 ro01_6 ro02_6 ro03_6 ro04_6
  refine (Clock.refRight_any now _).mono ?_
  rintro e w7 ⟨rfl, rfl⟩
  rw [H_hn.out]
  obtain ⟨ro00_8, ro01_8, ro02_8, ro03_8, ro04_8⟩ := Ho_5.out.at5
  go_wp2_with fail
  clear ro00_8 ro01_8 ro02_8 ro03_8 ro04_8
  refine (refSleep_again si st aw ro ol now _ H_hs.out).mono ?_
  rintro e w9 ⟨rfl, hb9⟩
  have Ho_9 := Lib.hid (Ho_5.out.below hb9 Ho_5.out.lt)
  have Ha_9 := Lib.hid (Ha_5.out.below hb9 Ha_5.out.lt)
  have Hb_9 := Lib.hid (Hb_5.out.below hb9 Hb_5.out.lt)
  have Hz_9 := Lib.hid (Hz_5.out.below hb9 Hz_5.out.lt)
  have HB_9 := Lib.hid (bthen HB_5.out hb9)
  clear hb9
  have nq := own_neq si si st aw st aw ro ol ro ol
  have gq := fun x y w => own_guard .neq x y si si st aw st aw ro ol ro ol w
  simp only [beq_self_eq_true, Bool.and_self, Bool.not_true] at nq
  obtain ⟨ra00_10, ra01_10, ra02_10, ra03_10, ra04_10⟩ := Ha_9.out.at5
  obtain ⟨ra10_10, ra11_10, ra12_10, ra13_10, ra14_10⟩ := (Ha_9.out.alloc (.cells #[.int .i64 si, .bool st, .bool aw, .int .i64 ro, .int .i64 ol] 42)).at5
  go_wp2_with fail
  clear ra00_10 ra01_10 ra02_10 ra03_10 ra04_10 ra10_10 ra11_10 ra12_10 ra13_10 ra14_10
  have hB10 := (HB_9.out.alloc (by have := HB_9.out.size; simp; try omega) (.cells #[.int .i64 si, .bool st, .bool aw, .int .i64 ro, .int .i64 ol] 42))
  have ho10 := (Ho_9.out.alloc (.cells #[.int .i64 si, .bool st, .bool aw, .int .i64 ro, .int .i64 ol] 42))
  have ha10 := (Ha_9.out.alloc (.cells #[.int .i64 si, .bool st, .bool aw, .int .i64 ro, .int .i64 ol] 42))
  have hb10 := (Hb_9.out.alloc (.cells #[.int .i64 si, .bool st, .bool aw, .int .i64 ro, .int .i64 ol] 42))
  have hz10 := (Hz_9.out.alloc (.cells #[.int .i64 si, .bool st, .bool aw, .int .i64 ro, .int .i64 ol] 42))
  have hx10 := (Blk.new w9 42 #[.int .i64 si, .bool st, .bool aw, .int .i64 ro, .int .i64 ol])
  obtain ⟨W10, hW10⟩ : ∃ W10, (w9.alloc (.cells #[.int .i64 si, .bool st, .bool aw, .int .i64 ro, .int .i64 ol] 42)) = W10 := ⟨_, rfl⟩
  rw [hW10] at hB10 ho10 ha10 hb10 hz10 hx10 ⊢
  obtain ⟨x, hax⟩ : ∃ x, w9.heap.size = x := ⟨_, rfl⟩
  rw [hax] at hx10 ⊢
  clear hW10 hax
  have HB_10 := Lib.hid hB10
  have Ho_10 := Lib.hid ho10
  have Ha_10 := Lib.hid ha10
  have Hb_10 := Lib.hid hb10
  have Hz_10 := Lib.hid hz10
  have Hx_10 := Lib.hid hx10
  clear hB10 ho10 ha10 hb10 hz10 hx10
  clear nq gq
  refine (alive_any _).mono ?_
  rintro e w11 ⟨rfl, hb11⟩
  have Ho_11 := Lib.hid (Ho_10.out.below hb11 Ho_10.out.lt)
  have Ha_11 := Lib.hid (Ha_10.out.below hb11 Ha_10.out.lt)
  have Hb_11 := Lib.hid (Hb_10.out.below hb11 Hb_10.out.lt)
  have Hz_11 := Lib.hid (Hz_10.out.below hb11 Hz_10.out.lt)
  have Hx_11 := Lib.hid (Hx_10.out.below hb11 Hx_10.out.lt)
  have HB_11 := Lib.hid (bthen HB_10.out hb11)
  clear hb11
  go_wp2_with fail
  refine (Ref03.refWord_any wd _).mono ?_
  rintro e w13 ⟨rfl, rfl⟩
  rw [show Flags.isWord wd = true from decide_eq_true H_hw.out]
  obtain ⟨ro00_14, ro01_14, ro02_14, ro03_14, ro04_14⟩ := Ho_11.out.at5
  go_wp2_with fail
  clear ro00_14 ro01_14 ro02_14 ro03_14 ro04_14
  refine (refWake_any si st aw ro ol now wd _ H_hw.out HSI.out H_hn.out).mono ?_
  rintro e w15 ⟨rfl, hb15⟩
  rw [HC1.out, HC2.out, HC3.out, HS.out]
  have Ho_15 := Lib.hid (Ho_11.out.below hb15 Ho_11.out.lt)
  have Ha_15 := Lib.hid (Ha_11.out.below hb15 Ha_11.out.lt)
  have Hb_15 := Lib.hid (Hb_11.out.below hb15 Hb_11.out.lt)
  have Hz_15 := Lib.hid (Hz_11.out.below hb15 Hz_11.out.lt)
  have Hx_15 := Lib.hid (Hx_11.out.below hb15 Hx_11.out.lt)
  have HB_15 := Lib.hid (bthen HB_11.out hb15)
  clear hb15
  have nq := own_eql si si c1 c2 c1 c2 c3 wd c3 wd
  have gq := fun x y w => own_guard .eql x y si si c1 c2 c1 c2 c3 wd c3 wd w
  simp only [beq_self_eq_true, Bool.and_self] at nq
  have hBe := HB_15.out.alloc (by have := HB_15.out.size; omega) (.cells #[.int .i64 si, .bool c1, .bool c2, .int .i64 c3, .int .i64 wd] 42)
  have HBE := Lib.hid hBe
  clear hBe
  obtain ⟨b0, b1, b2, b3, b4⟩ := Hb_15.out.at5
  obtain ⟨d0, d1, d2, d3, d4⟩ := (Hb_15.out.alloc (.cells #[.int .i64 si, .bool c1, .bool c2, .int .i64 c3, .int .i64 wd] 42)).at5
  go_wp2_with fail
  go_ret
  exact ⟨rfl, HBE.out⟩
theorem walk (si : Int) (st aw : Bool) (ro ol : Int) (now wd : Int) (w : World) (_ : (Lit.int .i64 now).wf = true) (_ : (Lit.int .i64 wd).wf = true) :
    Calls Try.prog 11 #[.agg #[.int .i64 si, .bool st, .bool aw, .int .i64 ro, .int .i64 ol], .int .i64 now, .int .i64 wd] w fun e w' => e = .returned (.bool true) ∧ Below w.heap.size w w' := by
  cases h : right si ro ol with
  | false => exact refused_right si st aw ro ol now wd w h
  | true =>
    cases hn : Clock.right now with
    | false => exact refused_time si st aw ro ol now wd w h hn
    | true =>
      by_cases hs : si = -1
      · by_cases hw : 0 ≤ wd ∧ wd < 2147483648
        · exact first_word si st aw ro ol now wd w h hn hs hw
        · exact first_bad si st aw ro ol now wd w h hn hs hw
      · by_cases hw : 0 ≤ wd ∧ wd < 2147483648
        · exact again_word si st aw ro ol now wd w h hn hs hw
        · exact again_bad si st aw ro ol now wd w h hn hs hw
end grabSleeps
end Go.Proofs.Ytkjhacbkgnjilaa
