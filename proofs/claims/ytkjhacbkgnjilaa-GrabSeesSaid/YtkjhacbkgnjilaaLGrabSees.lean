/-
  The walk of GrabSees. Printed by gen_lgrabsees.py.
-/
import Derived.Test.YtkjhacbkgnjilaaGrabRef3
import Derived.Test.YtkjhacbkgnjilaaLGrabWaits
namespace Go.Proofs.Ytkjhacbkgnjilaa
open Go.RowKit
namespace grabSees
open Grab
set_option maxRecDepth 100000 in
set_option maxHeartbeats 16000000 in
theorem refused (si : Int) (st aw : Bool) (ro ol ru : Int) (w : World) (h : right si ro ol = false) :
    Calls Try.prog 10 #[.agg #[.int .i64 si, .bool st, .bool aw, .int .i64 ro, .int .i64 ol], .int .i64 ru] w fun e w' => e = .returned (.bool true) ∧ Below w.heap.size w w' := by
  have H_h := Lib.hid h
  clear h
  have hx := Blk.new w 42 #[.int .i64 si, .bool st, .bool aw, .int .i64 ro, .int .i64 ol]
  have hb0 := (Below.refl w.heap.size w).alloc (Nat.le_refl _) (.cells #[.int .i64 si, .bool st, .bool aw, .int .i64 ro, .int .i64 ol] 42)
  go_enter Try.func10, Try.ntmps10
  go_wp2_with fail
  obtain ⟨W0, hW⟩ : ∃ W0, w.alloc (.cells #[.int .i64 si, .bool st, .bool aw, .int .i64 ro, .int .i64 ol] 42) = W0 := ⟨_, rfl⟩
  rw [hW] at hx hb0 ⊢
  obtain ⟨o, ho⟩ : ∃ o, w.heap.size = o := ⟨_, rfl⟩
  have hb1 : Below w.heap.size w W0 := hb0
  rw [ho] at hx ⊢
  have Ho_0 := Lib.hid hx
  have HB_0 := Lib.hid hb1
  clear hW hx hb0 hb1 ho
  refine (spins_no si st aw ro ol ru _ H_h.out).mono ?_
  rintro e w1 ⟨rfl, hb1⟩
  have Ho_1 := Lib.hid (Ho_0.out.below hb1 Ho_0.out.lt)
  have HB_1 := Lib.hid (bthen HB_0.out hb1)
  clear hb1
  obtain ⟨ro00_2, ro01_2, ro02_2, ro03_2, ro04_2⟩ := Ho_1.out.at5
  go_wp2_with fail
  clear ro00_2 ro01_2 ro02_2 ro03_2 ro04_2
  refine (wakes_no si st aw ro ol _ H_h.out).mono ?_
  rintro e w3 ⟨rfl, hb3⟩
  have Ho_3 := Lib.hid (Ho_1.out.below hb3 Ho_1.out.lt)
  have HB_3 := Lib.hid (bthen HB_1.out hb3)
  clear hb3
  obtain ⟨ro00_4, ro01_4, ro02_4, ro03_4, ro04_4⟩ := Ho_3.out.at5
  go_wp2_with fail
  clear ro00_4 ro01_4 ro02_4 ro03_4 ro04_4
  refine (wants_no si st aw ro ol _ H_h.out).mono ?_
  rintro e w5 ⟨rfl, hb5⟩
  have Ho_5 := Lib.hid (Ho_3.out.below hb5 Ho_3.out.lt)
  have HB_5 := Lib.hid (bthen HB_3.out hb5)
  clear hb5
  obtain ⟨ro00_6, ro01_6, ro02_6, ro03_6, ro04_6⟩ := Ho_5.out.at5
  go_wp2_with fail
  clear ro00_6 ro01_6 ro02_6 ro03_6 ro04_6
  refine (got_no si st aw ro ol _ H_h.out).mono ?_
  rintro e w7 ⟨rfl, hb7⟩
  have Ho_7 := Lib.hid (Ho_5.out.below hb7 Ho_5.out.lt)
  have HB_7 := Lib.hid (bthen HB_5.out hb7)
  clear hb7
  obtain ⟨ro00_8, ro01_8, ro02_8, ro03_8, ro04_8⟩ := Ho_7.out.at5
  go_wp2_with fail
  clear ro00_8 ro01_8 ro02_8 ro03_8 ro04_8
  refine (handed_no si st aw ro ol _ H_h.out).mono ?_
  rintro e w9 ⟨rfl, hb9⟩
  have Ho_9 := Lib.hid (Ho_7.out.below hb9 Ho_7.out.lt)
  have HB_9 := Lib.hid (bthen HB_7.out hb9)
  clear hb9
  obtain ⟨ro00_10, ro01_10, ro02_10, ro03_10, ro04_10⟩ := Ho_9.out.at5
  go_wp2_with fail
  clear ro00_10 ro01_10 ro02_10 ro03_10 ro04_10
  obtain ⟨c0, c1, c2, c3, c4⟩ := Ho_9.out.at5
  have hD0 := (Below.refl w9.heap.size w9).drew
  have hlo := Ho_9.out.lt
  have nq := own_neq (-1) (-1) false false false false 0 0 0 0
  have gq := fun x y w => own_guard .neq x y (-1) (-1) false false false false 0 0 0 0 w
  simp only [beq_self_eq_true, Bool.and_self, Bool.not_true] at nq
  go_region_held3 (fun w' => Below w9.heap.size w9 w' ∧ w'.cell? ⟨o, 0, none⟩ = some (.int .i64 si) ∧ w'.cell? ⟨o, 1, none⟩ = some (.bool st) ∧ w'.cell? ⟨o, 2, none⟩ = some (.bool aw) ∧ w'.cell? ⟨o, 3, none⟩ = some (.int .i64 ro) ∧ w'.cell? ⟨o, 4, none⟩ = some (.int .i64 ol)) (first | exact ⟨hD0, c0, c1, c2, c3, c4⟩ | exact ⟨by assumption, by assumption, by assumption, by assumption, by assumption, by assumption⟩ | go_keep) ((first | (go_at_call 34; refine (right_any si st aw ro ol _).mono ?_; rintro e w' ⟨rfl, hb⟩; rw [H_h.out]; have hB' := bthen ‹Below w9.heap.size w9 _› hb; have k0 := (hB'.cell (p := ⟨o, 0, none⟩) hlo).trans c0; have k1 := (hB'.cell (p := ⟨o, 1, none⟩) hlo).trans c1; have k2 := (hB'.cell (p := ⟨o, 2, none⟩) hlo).trans c2; have k3 := (hB'.cell (p := ⟨o, 3, none⟩) hlo).trans c3; have k4 := (hB'.cell (p := ⟨o, 4, none⟩) hlo).trans c4; clear hb) | (go_at_call 35; refine (refRight_any si st aw ro ol _).mono ?_; rintro e w' ⟨rfl, hb⟩; rw [H_h.out]; have hB' := bthen ‹Below w9.heap.size w9 _› hb; have k0 := (hB'.cell (p := ⟨o, 0, none⟩) hlo).trans c0; have k1 := (hB'.cell (p := ⟨o, 1, none⟩) hlo).trans c1; have k2 := (hB'.cell (p := ⟨o, 2, none⟩) hlo).trans c2; have k3 := (hB'.cell (p := ⟨o, 3, none⟩) hlo).trans c3; have k4 := (hB'.cell (p := ⟨o, 4, none⟩) hlo).trans c4; clear hb) | (go_at_call 36; refine (fresh_b _).mono ?_; rintro e w' ⟨rfl, hb⟩; have hB' := bthen ‹Below w9.heap.size w9 _› hb; have k0 := (hB'.cell (p := ⟨o, 0, none⟩) hlo).trans c0; have k1 := (hB'.cell (p := ⟨o, 1, none⟩) hlo).trans c1; have k2 := (hB'.cell (p := ⟨o, 2, none⟩) hlo).trans c2; have k3 := (hB'.cell (p := ⟨o, 3, none⟩) hlo).trans c3; have k4 := (hB'.cell (p := ⟨o, 4, none⟩) hlo).trans c4; clear hb) | (go_at_call 37; refine (refFresh_any _).mono ?_; rintro e w' ⟨rfl, hb⟩; have hB' := bthen ‹Below w9.heap.size w9 _› hb; have k0 := (hB'.cell (p := ⟨o, 0, none⟩) hlo).trans c0; have k1 := (hB'.cell (p := ⟨o, 1, none⟩) hlo).trans c1; have k2 := (hB'.cell (p := ⟨o, 2, none⟩) hlo).trans c2; have k3 := (hB'.cell (p := ⟨o, 3, none⟩) hlo).trans c3; have k4 := (hB'.cell (p := ⟨o, 4, none⟩) hlo).trans c4; clear hb) | (go_at_call 29; refine (alive_any _).mono ?_; rintro e w' ⟨rfl, hb⟩; have hB' := bthen ‹Below w9.heap.size w9 _› hb; have k0 := (hB'.cell (p := ⟨o, 0, none⟩) hlo).trans c0; have k1 := (hB'.cell (p := ⟨o, 1, none⟩) hlo).trans c1; have k2 := (hB'.cell (p := ⟨o, 2, none⟩) hlo).trans c2; have k3 := (hB'.cell (p := ⟨o, 3, none⟩) hlo).trans c3; have k4 := (hB'.cell (p := ⟨o, 4, none⟩) hlo).trans c4; clear hb)))
  have Ho_11 := Lib.hid (Ho_9.out.below hB' Ho_9.out.lt)
  have HB_11 := Lib.hid (bthen HB_9.out hB')
  clear hB' hD0 hlo nq gq k0 k1 k2 k3 k4 c0 c1 c2 c3 c4
  obtain ⟨ro00_12, ro01_12, ro02_12, ro03_12, ro04_12⟩ := Ho_11.out.at5
  go_wp2_with fail
  clear ro00_12 ro01_12 ro02_12 ro03_12 ro04_12
  refine (refRight_any si st aw ro ol _).mono ?_
  rintro e w13 ⟨rfl, hb13⟩
  rw [H_h.out]
  have Ho_13 := Lib.hid (Ho_11.out.below hb13 Ho_11.out.lt)
  have HB_13 := Lib.hid (bthen HB_11.out hb13)
  clear hb13
  go_wp2_with fail
  go_ret
  exact ⟨rfl, HB_13.out⟩
set_option maxRecDepth 100000 in
set_option maxHeartbeats 16000000 in
theorem seen_neg (si : Int) (st aw : Bool) (ro ol ru : Int) (w : World) (h : right si ro ol = true) (hu : ru < 0) :
    Calls Try.prog 10 #[.agg #[.int .i64 si, .bool st, .bool aw, .int .i64 ro, .int .i64 ol], .int .i64 ru] w fun e w' => e = .returned (.bool true) ∧ Below w.heap.size w w' := by
  have H_h := Lib.hid h
  clear h
  have hx := Blk.new w 42 #[.int .i64 si, .bool st, .bool aw, .int .i64 ro, .int .i64 ol]
  have hb0 := (Below.refl w.heap.size w).alloc (Nat.le_refl _) (.cells #[.int .i64 si, .bool st, .bool aw, .int .i64 ro, .int .i64 ol] 42)
  go_enter Try.func10, Try.ntmps10
  go_wp2_with fail
  obtain ⟨W0, hW⟩ : ∃ W0, w.alloc (.cells #[.int .i64 si, .bool st, .bool aw, .int .i64 ro, .int .i64 ol] 42) = W0 := ⟨_, rfl⟩
  rw [hW] at hx hb0 ⊢
  obtain ⟨o, ho⟩ : ∃ o, w.heap.size = o := ⟨_, rfl⟩
  have hb1 : Below w.heap.size w W0 := hb0
  rw [ho] at hx ⊢
  have Ho_0 := Lib.hid hx
  have HB_0 := Lib.hid hb1
  clear hW hx hb0 hb1 ho
  have hw := right_word H_h.out
  have d0 : decide (ru < 0) = true := decide_eq_true (by omega)
  obtain ⟨vx, hvx⟩ : ∃ vx : Int, wantN st aw ol = vx := ⟨_, rfl⟩
  have HVx := Lib.hid hvx
  clear hvx
  obtain ⟨ve, hve⟩ : ∃ ve : Int, wantE aw ol = ve := ⟨_, rfl⟩
  have HVe := Lib.hid hve
  clear hve
  obtain ⟨vy, hvy⟩ : ∃ vy : Int, handN st ol = vy := ⟨_, rfl⟩
  have HVy := Lib.hid hvy
  clear hvy
  obtain ⟨vf, hvf⟩ : ∃ vf : Int, handE ol = vf := ⟨_, rfl⟩
  have HVf := Lib.hid hvf
  clear hvf
  obtain ⟨vp, hvp⟩ : ∃ vp : Bool, (decide (ro < 4) && decide (1 < ru) && Flags.has ol 0 && !Flags.has ol 2) = vp := ⟨_, rfl⟩
  have HVp := Lib.hid hvp
  clear hvp
  obtain ⟨vq, hvq⟩ : ∃ vq : Bool, (!aw && !Flags.has ol 1 && decide (0 < ol / 8)) = vq := ⟨_, rfl⟩
  have HVq := Lib.hid hvq
  clear hvq
  obtain ⟨vr, hvr⟩ : ∃ vr : Bool, (!Flags.has ol 0 && !Flags.has ol 2) = vr := ⟨_, rfl⟩
  have HVr := Lib.hid hvr
  clear hvr
  refine (spins_out si st aw ro ol ru _ H_h.out hu).mono ?_
  rintro e w1 ⟨rfl, hb1⟩
  have Ho_1 := Lib.hid (Ho_0.out.below hb1 Ho_0.out.lt)
  have HB_1 := Lib.hid (bthen HB_0.out hb1)
  clear hb1
  obtain ⟨ro00_2, ro01_2, ro02_2, ro03_2, ro04_2⟩ := Ho_1.out.at5
  go_wp2_with fail
  clear ro00_2 ro01_2 ro02_2 ro03_2 ro04_2
  refine (wakes_yes si st aw ro ol _ H_h.out).mono ?_
  rintro e w3 ⟨rfl, hb3⟩
  rw [HVq.out]
  have Ho_3 := Lib.hid (Ho_1.out.below hb3 Ho_1.out.lt)
  have HB_3 := Lib.hid (bthen HB_1.out hb3)
  clear hb3
  obtain ⟨ro00_4, ro01_4, ro02_4, ro03_4, ro04_4⟩ := Ho_3.out.at5
  go_wp2_with fail
  clear ro00_4 ro01_4 ro02_4 ro03_4 ro04_4
  refine (wants_any si st aw ro ol _ H_h.out).mono ?_
  rintro e w5 ⟨rfl, hb5⟩
  rw [HVx.out, HVe.out]
  have Ho_5 := Lib.hid (Ho_3.out.below hb5 Ho_3.out.lt)
  have HB_5 := Lib.hid (bthen HB_3.out hb5)
  clear hb5
  obtain ⟨ro00_6, ro01_6, ro02_6, ro03_6, ro04_6⟩ := Ho_5.out.at5
  go_wp2_with fail
  clear ro00_6 ro01_6 ro02_6 ro03_6 ro04_6
  refine (got_yes si st aw ro ol _ H_h.out).mono ?_
  rintro e w7 ⟨rfl, hb7⟩
  rw [HVr.out]
  have Ho_7 := Lib.hid (Ho_5.out.below hb7 Ho_5.out.lt)
  have HB_7 := Lib.hid (bthen HB_5.out hb7)
  clear hb7
  obtain ⟨ro00_8, ro01_8, ro02_8, ro03_8, ro04_8⟩ := Ho_7.out.at5
  go_wp2_with fail
  clear ro00_8 ro01_8 ro02_8 ro03_8 ro04_8
  refine (handed_any si st aw ro ol _ H_h.out).mono ?_
  rintro e w9 ⟨rfl, hb9⟩
  rw [HVy.out, HVf.out]
  have Ho_9 := Lib.hid (Ho_7.out.below hb9 Ho_7.out.lt)
  have HB_9 := Lib.hid (bthen HB_7.out hb9)
  clear hb9
  obtain ⟨ro00_10, ro01_10, ro02_10, ro03_10, ro04_10⟩ := Ho_9.out.at5
  go_wp2_with fail
  clear ro00_10 ro01_10 ro02_10 ro03_10 ro04_10
  obtain ⟨c0, c1, c2, c3, c4⟩ := Ho_9.out.at5
  have hD0 := (Below.refl w9.heap.size w9).drew
  have hlo := Ho_9.out.lt
  have nq := own_neq (-1) (-1) false false false false 0 0 0 0
  have gq := fun x y w => own_guard .neq x y (-1) (-1) false false false false 0 0 0 0 w
  simp only [beq_self_eq_true, Bool.and_self, Bool.not_true] at nq
  go_region_held3 (fun w' => Below w9.heap.size w9 w' ∧ w'.cell? ⟨o, 0, none⟩ = some (.int .i64 si) ∧ w'.cell? ⟨o, 1, none⟩ = some (.bool st) ∧ w'.cell? ⟨o, 2, none⟩ = some (.bool aw) ∧ w'.cell? ⟨o, 3, none⟩ = some (.int .i64 ro) ∧ w'.cell? ⟨o, 4, none⟩ = some (.int .i64 ol)) (first | exact ⟨hD0, c0, c1, c2, c3, c4⟩ | exact ⟨by assumption, by assumption, by assumption, by assumption, by assumption, by assumption⟩ | go_keep) ((first | (go_at_call 34; refine (right_any si st aw ro ol _).mono ?_; rintro e w' ⟨rfl, hb⟩; rw [H_h.out]; have hB' := bthen ‹Below w9.heap.size w9 _› hb; have k0 := (hB'.cell (p := ⟨o, 0, none⟩) hlo).trans c0; have k1 := (hB'.cell (p := ⟨o, 1, none⟩) hlo).trans c1; have k2 := (hB'.cell (p := ⟨o, 2, none⟩) hlo).trans c2; have k3 := (hB'.cell (p := ⟨o, 3, none⟩) hlo).trans c3; have k4 := (hB'.cell (p := ⟨o, 4, none⟩) hlo).trans c4; clear hb) | (go_at_call 35; refine (refRight_any si st aw ro ol _).mono ?_; rintro e w' ⟨rfl, hb⟩; rw [H_h.out]; have hB' := bthen ‹Below w9.heap.size w9 _› hb; have k0 := (hB'.cell (p := ⟨o, 0, none⟩) hlo).trans c0; have k1 := (hB'.cell (p := ⟨o, 1, none⟩) hlo).trans c1; have k2 := (hB'.cell (p := ⟨o, 2, none⟩) hlo).trans c2; have k3 := (hB'.cell (p := ⟨o, 3, none⟩) hlo).trans c3; have k4 := (hB'.cell (p := ⟨o, 4, none⟩) hlo).trans c4; clear hb) | (go_at_call 36; refine (fresh_b _).mono ?_; rintro e w' ⟨rfl, hb⟩; have hB' := bthen ‹Below w9.heap.size w9 _› hb; have k0 := (hB'.cell (p := ⟨o, 0, none⟩) hlo).trans c0; have k1 := (hB'.cell (p := ⟨o, 1, none⟩) hlo).trans c1; have k2 := (hB'.cell (p := ⟨o, 2, none⟩) hlo).trans c2; have k3 := (hB'.cell (p := ⟨o, 3, none⟩) hlo).trans c3; have k4 := (hB'.cell (p := ⟨o, 4, none⟩) hlo).trans c4; clear hb) | (go_at_call 37; refine (refFresh_any _).mono ?_; rintro e w' ⟨rfl, hb⟩; have hB' := bthen ‹Below w9.heap.size w9 _› hb; have k0 := (hB'.cell (p := ⟨o, 0, none⟩) hlo).trans c0; have k1 := (hB'.cell (p := ⟨o, 1, none⟩) hlo).trans c1; have k2 := (hB'.cell (p := ⟨o, 2, none⟩) hlo).trans c2; have k3 := (hB'.cell (p := ⟨o, 3, none⟩) hlo).trans c3; have k4 := (hB'.cell (p := ⟨o, 4, none⟩) hlo).trans c4; clear hb) | (go_at_call 29; refine (alive_any _).mono ?_; rintro e w' ⟨rfl, hb⟩; have hB' := bthen ‹Below w9.heap.size w9 _› hb; have k0 := (hB'.cell (p := ⟨o, 0, none⟩) hlo).trans c0; have k1 := (hB'.cell (p := ⟨o, 1, none⟩) hlo).trans c1; have k2 := (hB'.cell (p := ⟨o, 2, none⟩) hlo).trans c2; have k3 := (hB'.cell (p := ⟨o, 3, none⟩) hlo).trans c3; have k4 := (hB'.cell (p := ⟨o, 4, none⟩) hlo).trans c4; clear hb)))
  have Ho_11 := Lib.hid (Ho_9.out.below hB' Ho_9.out.lt)
  have HB_11 := Lib.hid (bthen HB_9.out hB')
  clear hB' hD0 hlo nq gq k0 k1 k2 k3 k4 c0 c1 c2 c3 c4
  obtain ⟨ro00_12, ro01_12, ro02_12, ro03_12, ro04_12⟩ := Ho_11.out.at5
  go_wp2_with fail
  clear ro00_12 ro01_12 ro02_12 ro03_12 ro04_12
  refine (refRight_any si st aw ro ol _).mono ?_
  rintro e w13 ⟨rfl, hb13⟩
  rw [H_h.out]
  have Ho_13 := Lib.hid (Ho_11.out.below hb13 Ho_11.out.lt)
  have HB_13 := Lib.hid (bthen HB_11.out hb13)
  clear hb13
  obtain ⟨ro00_14, ro01_14, ro02_14, ro03_14, ro04_14⟩ := Ho_13.out.at5
  go_wp2_with fail
  clear ro00_14 ro01_14 ro02_14 ro03_14 ro04_14
  refine (refWants_any si st aw ro ol _ hw).mono ?_
  rintro e w15 ⟨rfl, hb15⟩
  rw [HVx.out, HVe.out]
  have Ho_15 := Lib.hid (Ho_13.out.below hb15 Ho_13.out.lt)
  have HB_15 := Lib.hid (bthen HB_13.out hb15)
  clear hb15
  obtain ⟨ro00_16, ro01_16, ro02_16, ro03_16, ro04_16⟩ := Ho_15.out.at5
  go_wp2_with fail
  clear ro00_16 ro01_16 ro02_16 ro03_16 ro04_16
  refine (refHanded_any si st aw ro ol _ hw).mono ?_
  rintro e w17 ⟨rfl, hb17⟩
  rw [HVy.out, HVf.out]
  have Ho_17 := Lib.hid (Ho_15.out.below hb17 Ho_15.out.lt)
  have HB_17 := Lib.hid (bthen HB_15.out hb17)
  clear hb17
  obtain ⟨ro00_18, ro01_18, ro02_18, ro03_18, ro04_18⟩ := Ho_17.out.at5
  go_wp2_with fail
  clear ro00_18 ro01_18 ro02_18 ro03_18 ro04_18
  refine (refWakes_any si st aw ro ol _ hw).mono ?_
  rintro e w19 ⟨rfl, hb19⟩
  rw [HVq.out]
  have Ho_19 := Lib.hid (Ho_17.out.below hb19 Ho_17.out.lt)
  have HB_19 := Lib.hid (bthen HB_17.out hb19)
  clear hb19
  obtain ⟨ro00_20, ro01_20, ro02_20, ro03_20, ro04_20⟩ := Ho_19.out.at5
  go_wp2_with fail
  clear ro00_20 ro01_20 ro02_20 ro03_20 ro04_20
  refine (refGot_any si st aw ro ol _ hw).mono ?_
  rintro e w21 ⟨rfl, hb21⟩
  rw [HVr.out]
  have Ho_21 := Lib.hid (Ho_19.out.below hb21 Ho_19.out.lt)
  have HB_21 := Lib.hid (bthen HB_19.out hb21)
  clear hb21
  obtain ⟨ro00_22, ro01_22, ro02_22, ro03_22, ro04_22⟩ := Ho_21.out.at5
  go_wp2_with fail
  clear ro00_22 ro01_22 ro02_22 ro03_22 ro04_22
  go_ret
  exact ⟨rfl, HB_21.out⟩
set_option maxRecDepth 100000 in
set_option maxHeartbeats 16000000 in
theorem seen_pos (si : Int) (st aw : Bool) (ro ol ru : Int) (w : World) (h : right si ro ol = true) (hu : 0 ≤ ru) :
    Calls Try.prog 10 #[.agg #[.int .i64 si, .bool st, .bool aw, .int .i64 ro, .int .i64 ol], .int .i64 ru] w fun e w' => e = .returned (.bool true) ∧ Below w.heap.size w w' := by
  have H_h := Lib.hid h
  clear h
  have hx := Blk.new w 42 #[.int .i64 si, .bool st, .bool aw, .int .i64 ro, .int .i64 ol]
  have hb0 := (Below.refl w.heap.size w).alloc (Nat.le_refl _) (.cells #[.int .i64 si, .bool st, .bool aw, .int .i64 ro, .int .i64 ol] 42)
  go_enter Try.func10, Try.ntmps10
  go_wp2_with fail
  obtain ⟨W0, hW⟩ : ∃ W0, w.alloc (.cells #[.int .i64 si, .bool st, .bool aw, .int .i64 ro, .int .i64 ol] 42) = W0 := ⟨_, rfl⟩
  rw [hW] at hx hb0 ⊢
  obtain ⟨o, ho⟩ : ∃ o, w.heap.size = o := ⟨_, rfl⟩
  have hb1 : Below w.heap.size w W0 := hb0
  rw [ho] at hx ⊢
  have Ho_0 := Lib.hid hx
  have HB_0 := Lib.hid hb1
  clear hW hx hb0 hb1 ho
  have hw := right_word H_h.out
  have d0 : decide (ru < 0) = false := decide_eq_false (by omega)
  obtain ⟨vx, hvx⟩ : ∃ vx : Int, wantN st aw ol = vx := ⟨_, rfl⟩
  have HVx := Lib.hid hvx
  clear hvx
  obtain ⟨ve, hve⟩ : ∃ ve : Int, wantE aw ol = ve := ⟨_, rfl⟩
  have HVe := Lib.hid hve
  clear hve
  obtain ⟨vy, hvy⟩ : ∃ vy : Int, handN st ol = vy := ⟨_, rfl⟩
  have HVy := Lib.hid hvy
  clear hvy
  obtain ⟨vf, hvf⟩ : ∃ vf : Int, handE ol = vf := ⟨_, rfl⟩
  have HVf := Lib.hid hvf
  clear hvf
  obtain ⟨vp, hvp⟩ : ∃ vp : Bool, (decide (ro < 4) && decide (1 < ru) && Flags.has ol 0 && !Flags.has ol 2) = vp := ⟨_, rfl⟩
  have HVp := Lib.hid hvp
  clear hvp
  obtain ⟨vq, hvq⟩ : ∃ vq : Bool, (!aw && !Flags.has ol 1 && decide (0 < ol / 8)) = vq := ⟨_, rfl⟩
  have HVq := Lib.hid hvq
  clear hvq
  obtain ⟨vr, hvr⟩ : ∃ vr : Bool, (!Flags.has ol 0 && !Flags.has ol 2) = vr := ⟨_, rfl⟩
  have HVr := Lib.hid hvr
  clear hvr
  refine (spins_yes si st aw ro ol ru _ H_h.out hu).mono ?_
  rintro e w1 ⟨rfl, hb1⟩
  rw [HVp.out]
  have Ho_1 := Lib.hid (Ho_0.out.below hb1 Ho_0.out.lt)
  have HB_1 := Lib.hid (bthen HB_0.out hb1)
  clear hb1
  obtain ⟨ro00_2, ro01_2, ro02_2, ro03_2, ro04_2⟩ := Ho_1.out.at5
  go_wp2_with fail
  clear ro00_2 ro01_2 ro02_2 ro03_2 ro04_2
  refine (wakes_yes si st aw ro ol _ H_h.out).mono ?_
  rintro e w3 ⟨rfl, hb3⟩
  rw [HVq.out]
  have Ho_3 := Lib.hid (Ho_1.out.below hb3 Ho_1.out.lt)
  have HB_3 := Lib.hid (bthen HB_1.out hb3)
  clear hb3
  obtain ⟨ro00_4, ro01_4, ro02_4, ro03_4, ro04_4⟩ := Ho_3.out.at5
  go_wp2_with fail
  clear ro00_4 ro01_4 ro02_4 ro03_4 ro04_4
  refine (wants_any si st aw ro ol _ H_h.out).mono ?_
  rintro e w5 ⟨rfl, hb5⟩
  rw [HVx.out, HVe.out]
  have Ho_5 := Lib.hid (Ho_3.out.below hb5 Ho_3.out.lt)
  have HB_5 := Lib.hid (bthen HB_3.out hb5)
  clear hb5
  obtain ⟨ro00_6, ro01_6, ro02_6, ro03_6, ro04_6⟩ := Ho_5.out.at5
  go_wp2_with fail
  clear ro00_6 ro01_6 ro02_6 ro03_6 ro04_6
  refine (got_yes si st aw ro ol _ H_h.out).mono ?_
  rintro e w7 ⟨rfl, hb7⟩
  rw [HVr.out]
  have Ho_7 := Lib.hid (Ho_5.out.below hb7 Ho_5.out.lt)
  have HB_7 := Lib.hid (bthen HB_5.out hb7)
  clear hb7
  obtain ⟨ro00_8, ro01_8, ro02_8, ro03_8, ro04_8⟩ := Ho_7.out.at5
  go_wp2_with fail
  clear ro00_8 ro01_8 ro02_8 ro03_8 ro04_8
  refine (handed_any si st aw ro ol _ H_h.out).mono ?_
  rintro e w9 ⟨rfl, hb9⟩
  rw [HVy.out, HVf.out]
  have Ho_9 := Lib.hid (Ho_7.out.below hb9 Ho_7.out.lt)
  have HB_9 := Lib.hid (bthen HB_7.out hb9)
  clear hb9
  obtain ⟨ro00_10, ro01_10, ro02_10, ro03_10, ro04_10⟩ := Ho_9.out.at5
  go_wp2_with fail
  clear ro00_10 ro01_10 ro02_10 ro03_10 ro04_10
  obtain ⟨c0, c1, c2, c3, c4⟩ := Ho_9.out.at5
  have hD0 := (Below.refl w9.heap.size w9).drew
  have hlo := Ho_9.out.lt
  have nq := own_neq (-1) (-1) false false false false 0 0 0 0
  have gq := fun x y w => own_guard .neq x y (-1) (-1) false false false false 0 0 0 0 w
  simp only [beq_self_eq_true, Bool.and_self, Bool.not_true] at nq
  go_region_held3 (fun w' => Below w9.heap.size w9 w' ∧ w'.cell? ⟨o, 0, none⟩ = some (.int .i64 si) ∧ w'.cell? ⟨o, 1, none⟩ = some (.bool st) ∧ w'.cell? ⟨o, 2, none⟩ = some (.bool aw) ∧ w'.cell? ⟨o, 3, none⟩ = some (.int .i64 ro) ∧ w'.cell? ⟨o, 4, none⟩ = some (.int .i64 ol)) (first | exact ⟨hD0, c0, c1, c2, c3, c4⟩ | exact ⟨by assumption, by assumption, by assumption, by assumption, by assumption, by assumption⟩ | go_keep) ((first | (go_at_call 34; refine (right_any si st aw ro ol _).mono ?_; rintro e w' ⟨rfl, hb⟩; rw [H_h.out]; have hB' := bthen ‹Below w9.heap.size w9 _› hb; have k0 := (hB'.cell (p := ⟨o, 0, none⟩) hlo).trans c0; have k1 := (hB'.cell (p := ⟨o, 1, none⟩) hlo).trans c1; have k2 := (hB'.cell (p := ⟨o, 2, none⟩) hlo).trans c2; have k3 := (hB'.cell (p := ⟨o, 3, none⟩) hlo).trans c3; have k4 := (hB'.cell (p := ⟨o, 4, none⟩) hlo).trans c4; clear hb) | (go_at_call 35; refine (refRight_any si st aw ro ol _).mono ?_; rintro e w' ⟨rfl, hb⟩; rw [H_h.out]; have hB' := bthen ‹Below w9.heap.size w9 _› hb; have k0 := (hB'.cell (p := ⟨o, 0, none⟩) hlo).trans c0; have k1 := (hB'.cell (p := ⟨o, 1, none⟩) hlo).trans c1; have k2 := (hB'.cell (p := ⟨o, 2, none⟩) hlo).trans c2; have k3 := (hB'.cell (p := ⟨o, 3, none⟩) hlo).trans c3; have k4 := (hB'.cell (p := ⟨o, 4, none⟩) hlo).trans c4; clear hb) | (go_at_call 36; refine (fresh_b _).mono ?_; rintro e w' ⟨rfl, hb⟩; have hB' := bthen ‹Below w9.heap.size w9 _› hb; have k0 := (hB'.cell (p := ⟨o, 0, none⟩) hlo).trans c0; have k1 := (hB'.cell (p := ⟨o, 1, none⟩) hlo).trans c1; have k2 := (hB'.cell (p := ⟨o, 2, none⟩) hlo).trans c2; have k3 := (hB'.cell (p := ⟨o, 3, none⟩) hlo).trans c3; have k4 := (hB'.cell (p := ⟨o, 4, none⟩) hlo).trans c4; clear hb) | (go_at_call 37; refine (refFresh_any _).mono ?_; rintro e w' ⟨rfl, hb⟩; have hB' := bthen ‹Below w9.heap.size w9 _› hb; have k0 := (hB'.cell (p := ⟨o, 0, none⟩) hlo).trans c0; have k1 := (hB'.cell (p := ⟨o, 1, none⟩) hlo).trans c1; have k2 := (hB'.cell (p := ⟨o, 2, none⟩) hlo).trans c2; have k3 := (hB'.cell (p := ⟨o, 3, none⟩) hlo).trans c3; have k4 := (hB'.cell (p := ⟨o, 4, none⟩) hlo).trans c4; clear hb) | (go_at_call 29; refine (alive_any _).mono ?_; rintro e w' ⟨rfl, hb⟩; have hB' := bthen ‹Below w9.heap.size w9 _› hb; have k0 := (hB'.cell (p := ⟨o, 0, none⟩) hlo).trans c0; have k1 := (hB'.cell (p := ⟨o, 1, none⟩) hlo).trans c1; have k2 := (hB'.cell (p := ⟨o, 2, none⟩) hlo).trans c2; have k3 := (hB'.cell (p := ⟨o, 3, none⟩) hlo).trans c3; have k4 := (hB'.cell (p := ⟨o, 4, none⟩) hlo).trans c4; clear hb)))
  have Ho_11 := Lib.hid (Ho_9.out.below hB' Ho_9.out.lt)
  have HB_11 := Lib.hid (bthen HB_9.out hB')
  clear hB' hD0 hlo nq gq k0 k1 k2 k3 k4 c0 c1 c2 c3 c4
  obtain ⟨ro00_12, ro01_12, ro02_12, ro03_12, ro04_12⟩ := Ho_11.out.at5
  go_wp2_with fail
  clear ro00_12 ro01_12 ro02_12 ro03_12 ro04_12
  refine (refRight_any si st aw ro ol _).mono ?_
  rintro e w13 ⟨rfl, hb13⟩
  rw [H_h.out]
  have Ho_13 := Lib.hid (Ho_11.out.below hb13 Ho_11.out.lt)
  have HB_13 := Lib.hid (bthen HB_11.out hb13)
  clear hb13
  obtain ⟨ro00_14, ro01_14, ro02_14, ro03_14, ro04_14⟩ := Ho_13.out.at5
  go_wp2_with fail
  clear ro00_14 ro01_14 ro02_14 ro03_14 ro04_14
  refine (refSpins_any si st aw ro ol ru _ hw).mono ?_
  rintro e w15 ⟨rfl, hb15⟩
  rw [HVp.out]
  have Ho_15 := Lib.hid (Ho_13.out.below hb15 Ho_13.out.lt)
  have HB_15 := Lib.hid (bthen HB_13.out hb15)
  clear hb15
  obtain ⟨ro00_16, ro01_16, ro02_16, ro03_16, ro04_16⟩ := Ho_15.out.at5
  go_wp2_with fail
  clear ro00_16 ro01_16 ro02_16 ro03_16 ro04_16
  refine (refWants_any si st aw ro ol _ hw).mono ?_
  rintro e w17 ⟨rfl, hb17⟩
  rw [HVx.out, HVe.out]
  have Ho_17 := Lib.hid (Ho_15.out.below hb17 Ho_15.out.lt)
  have HB_17 := Lib.hid (bthen HB_15.out hb17)
  clear hb17
  obtain ⟨ro00_18, ro01_18, ro02_18, ro03_18, ro04_18⟩ := Ho_17.out.at5
  go_wp2_with fail
  clear ro00_18 ro01_18 ro02_18 ro03_18 ro04_18
  refine (refHanded_any si st aw ro ol _ hw).mono ?_
  rintro e w19 ⟨rfl, hb19⟩
  rw [HVy.out, HVf.out]
  have Ho_19 := Lib.hid (Ho_17.out.below hb19 Ho_17.out.lt)
  have HB_19 := Lib.hid (bthen HB_17.out hb19)
  clear hb19
  obtain ⟨ro00_20, ro01_20, ro02_20, ro03_20, ro04_20⟩ := Ho_19.out.at5
  go_wp2_with fail
  clear ro00_20 ro01_20 ro02_20 ro03_20 ro04_20
  refine (refWakes_any si st aw ro ol _ hw).mono ?_
  rintro e w21 ⟨rfl, hb21⟩
  rw [HVq.out]
  have Ho_21 := Lib.hid (Ho_19.out.below hb21 Ho_19.out.lt)
  have HB_21 := Lib.hid (bthen HB_19.out hb21)
  clear hb21
  obtain ⟨ro00_22, ro01_22, ro02_22, ro03_22, ro04_22⟩ := Ho_21.out.at5
  go_wp2_with fail
  clear ro00_22 ro01_22 ro02_22 ro03_22 ro04_22
  refine (refGot_any si st aw ro ol _ hw).mono ?_
  rintro e w23 ⟨rfl, hb23⟩
  rw [HVr.out]
  have Ho_23 := Lib.hid (Ho_21.out.below hb23 Ho_21.out.lt)
  have HB_23 := Lib.hid (bthen HB_21.out hb23)
  clear hb23
  obtain ⟨ro00_24, ro01_24, ro02_24, ro03_24, ro04_24⟩ := Ho_23.out.at5
  go_wp2_with fail
  clear ro00_24 ro01_24 ro02_24 ro03_24 ro04_24
  go_ret
  exact ⟨rfl, HB_23.out⟩
theorem walk (si : Int) (st aw : Bool) (ro ol : Int) (ru : Int) (w : World) (_ : (Lit.int .i64 ru).wf = true) :
    Calls Try.prog 10 #[.agg #[.int .i64 si, .bool st, .bool aw, .int .i64 ro, .int .i64 ol], .int .i64 ru] w fun e w' => e = .returned (.bool true) ∧ Below w.heap.size w w' := by
  cases h : right si ro ol with
  | false => exact refused si st aw ro ol ru w h
  | true =>
    by_cases hu : 0 ≤ ru
    · exact seen_pos si st aw ro ol ru w h hu
    · exact seen_neg si st aw ro ol ru w h (by omega)
end grabSees
end Go.Proofs.Ytkjhacbkgnjilaa
