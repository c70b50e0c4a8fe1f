/-
  The document's own functions of layer 14 (grab): Fresh, Spins, Wakes, Got, Handed. Printed by gen_grabref2.py.
-/
import Derived.Test.YtkjhacbkgnjilaaGrabRef
namespace Go.Proofs.Ytkjhacbkgnjilaa
open Go.RowKit
namespace Grab
theorem refFresh_any (w : World) : Calls Try.prog 37 #[] w fun e w' => e = .returned (.agg #[.int .i64 (-1), .bool false, .bool false, .int .i64 0, .int .i64 0]) ∧ Below w.heap.size w w' := by
  go_enter Try.func37, Try.ntmps37
  go_wp2
  exact bodyPost_ret (v := .agg #[.int .i64 (-1), .bool false, .bool false, .int .i64 0, .int .i64 0]) (by simp [results, Try.results37, go_sem]) rfl ⟨rfl, (Below.refl _ _).alloc (Nat.le_refl _) _⟩
theorem refCan_any (ro ru : Int) (w : World) : Calls Try.prog 69 #[.int .i64 ro, .int .i64 ru] w fun e w' => e = .returned (.bool (decide (ro < 4) && decide (1 < ru))) ∧ w = w' := by
  by_cases h2 : ro < 4
  · have e2 : decide (ro < 4) = true := decide_eq_true h2
    by_cases h3 : 1 < ru
    · have e3 : decide (1 < ru) = true := decide_eq_true h3
      go_enter Try.func69, Try.ntmps69
      go_wp2_with fail
      go_ret
      exact ⟨by simp [h2, h3], rfl⟩
    · have e3 : decide (1 < ru) = false := decide_eq_false h3
      go_enter Try.func69, Try.ntmps69
      go_wp2_with fail
      go_ret
      exact ⟨by simp, rfl⟩
  · have e2 : decide (ro < 4) = false := decide_eq_false h2
    go_enter Try.func69, Try.ntmps69
    go_wp2_with fail
    go_ret
    exact ⟨by simp, rfl⟩
set_option maxRecDepth 100000 in
set_option maxHeartbeats 8000000 in
theorem refGot_any (si : Int) (st aw : Bool) (ro ol : Int) (w : World) (hw : 0 ≤ ol ∧ ol < 2147483648) :
    Calls Try.prog 42 #[.agg #[.int .i64 si, .bool st, .bool aw, .int .i64 ro, .int .i64 ol]] w fun e w' => e = .returned (.bool (!Flags.has ol 0 && !Flags.has ol 2)) ∧ Below w.heap.size w w' := by
  have hx := Blk.new w 42 #[.int .i64 si, .bool st, .bool aw, .int .i64 ro, .int .i64 ol]
  have hb0 := (Below.refl w.heap.size w).alloc (Nat.le_refl _) (.cells #[.int .i64 si, .bool st, .bool aw, .int .i64 ro, .int .i64 ol] 42)
  go_enter Try.func42, Try.ntmps42
  go_wp2_with fail
  obtain ⟨W0, hW⟩ : ∃ W0, w.alloc (.cells #[.int .i64 si, .bool st, .bool aw, .int .i64 ro, .int .i64 ol] 42) = W0 := ⟨_, rfl⟩
  rw [hW] at hx hb0 ⊢
  obtain ⟨o, ho⟩ : ∃ o, w.heap.size = o := ⟨_, rfl⟩
  have hb1 : Below w.heap.size w W0 := hb0
  rw [ho] at hx ⊢
  have Ho_0 := Lib.hid hx
  have HB_0 := Lib.hid hb1
  clear hW hx hb0 hb1 ho
  obtain ⟨L, hL⟩ : ∃ L, Flags.has ol 0 = L := ⟨_, rfl⟩
  obtain ⟨K, hK⟩ : ∃ K, Flags.has ol 1 = K := ⟨_, rfl⟩
  obtain ⟨S, hS⟩ : ∃ S, Flags.has ol 2 = S := ⟨_, rfl⟩
  obtain ⟨n, hn⟩ : ∃ n, ol / 8 = n := ⟨_, rfl⟩
  have HL := Lib.hid hL
  have HK := Lib.hid hK
  have HS := Lib.hid hS
  have HN := Lib.hid hn
  clear hL hK hS hn
  refine (Ref03.refUnpack_any ol hw.1 hw.2 _).mono ?_
  rintro e w1 ⟨rfl, hb1⟩
  rw [HL.out, HK.out, HS.out, HN.out]
  have Ho_1 := Lib.hid (Ho_0.out.below hb1 Ho_0.out.lt)
  have HB_1 := Lib.hid (bthen HB_0.out hb1)
  clear hb1
  have hBe := HB_1.out.alloc (by have := HB_1.out.size; omega) (.cells #[.bool L, .bool K, .bool S, .int .i64 n] 48)
  have HBE := Lib.hid hBe
  clear hBe
  obtain ⟨d0, d1, d2, d3, d4⟩ := (Ho_1.out.alloc (.cells #[.bool L, .bool K, .bool S, .int .i64 n] 48)).at5
  cases L <;> cases S
  all_goals
    go_wp2_with fail
    go_ret
    exact ⟨by simp [HL.out, HS.out], HBE.out⟩
set_option maxRecDepth 100000 in
set_option maxHeartbeats 8000000 in
theorem refWakes_any (si : Int) (st aw : Bool) (ro ol : Int) (w : World) (hw : 0 ≤ ol ∧ ol < 2147483648) :
    Calls Try.prog 41 #[.agg #[.int .i64 si, .bool st, .bool aw, .int .i64 ro, .int .i64 ol]] w fun e w' => e = .returned (.bool (!aw && !Flags.has ol 1 && decide (0 < ol / 8))) ∧ Below w.heap.size w w' := by
  have hx := Blk.new w 42 #[.int .i64 si, .bool st, .bool aw, .int .i64 ro, .int .i64 ol]
  have hb0 := (Below.refl w.heap.size w).alloc (Nat.le_refl _) (.cells #[.int .i64 si, .bool st, .bool aw, .int .i64 ro, .int .i64 ol] 42)
  go_enter Try.func41, Try.ntmps41
  go_wp2_with fail
  obtain ⟨W0, hW⟩ : ∃ W0, w.alloc (.cells #[.int .i64 si, .bool st, .bool aw, .int .i64 ro, .int .i64 ol] 42) = W0 := ⟨_, rfl⟩
  rw [hW] at hx hb0 ⊢
  obtain ⟨o, ho⟩ : ∃ o, w.heap.size = o := ⟨_, rfl⟩
  have hb1 : Below w.heap.size w W0 := hb0
  rw [ho] at hx ⊢
  have Ho_0 := Lib.hid hx
  have HB_0 := Lib.hid hb1
  clear hW hx hb0 hb1 ho
  obtain ⟨L, hL⟩ : ∃ L, Flags.has ol 0 = L := ⟨_, rfl⟩
  obtain ⟨K, hK⟩ : ∃ K, Flags.has ol 1 = K := ⟨_, rfl⟩
  obtain ⟨S, hS⟩ : ∃ S, Flags.has ol 2 = S := ⟨_, rfl⟩
  obtain ⟨n, hn⟩ : ∃ n, ol / 8 = n := ⟨_, rfl⟩
  have HL := Lib.hid hL
  have HK := Lib.hid hK
  have HS := Lib.hid hS
  have HN := Lib.hid hn
  clear hL hK hS hn
  refine (Ref03.refUnpack_any ol hw.1 hw.2 _).mono ?_
  rintro e w1 ⟨rfl, hb1⟩
  rw [HL.out, HK.out, HS.out, HN.out]
  have Ho_1 := Lib.hid (Ho_0.out.below hb1 Ho_0.out.lt)
  have HB_1 := Lib.hid (bthen HB_0.out hb1)
  clear hb1
  have hBe := HB_1.out.alloc (by have := HB_1.out.size; omega) (.cells #[.bool L, .bool K, .bool S, .int .i64 n] 48)
  have HBE := Lib.hid hBe
  clear hBe
  obtain ⟨d0, d1, d2, d3, d4⟩ := (Ho_1.out.alloc (.cells #[.bool L, .bool K, .bool S, .int .i64 n] 48)).at5
  by_cases hp : 0 < n
  · have hd : decide (0 < n) = true := decide_eq_true hp
    cases aw <;> cases K
    all_goals
      go_wp2_with fail
      go_ret
      exact ⟨by simp [HK.out, HN.out, hp], HBE.out⟩
  · have hd : decide (0 < n) = false := decide_eq_false hp
    cases aw <;> cases K
    all_goals
      go_wp2_with fail
      go_ret
      exact ⟨by simp [HK.out, HN.out, hp], HBE.out⟩
set_option maxRecDepth 100000 in
set_option maxHeartbeats 8000000 in
theorem refSpins_any (si : Int) (st aw : Bool) (ro ol : Int) (ru : Int) (w : World) (hw : 0 ≤ ol ∧ ol < 2147483648) :
    Calls Try.prog 38 #[.agg #[.int .i64 si, .bool st, .bool aw, .int .i64 ro, .int .i64 ol], .int .i64 ru] w fun e w' => e = .returned (.bool (decide (ro < 4) && decide (1 < ru) && Flags.has ol 0 && !Flags.has ol 2)) ∧ Below w.heap.size w w' := by
  have hx := Blk.new w 42 #[.int .i64 si, .bool st, .bool aw, .int .i64 ro, .int .i64 ol]
  have hb0 := (Below.refl w.heap.size w).alloc (Nat.le_refl _) (.cells #[.int .i64 si, .bool st, .bool aw, .int .i64 ro, .int .i64 ol] 42)
  go_enter Try.func38, Try.ntmps38
  go_wp2_with fail
  obtain ⟨W0, hW⟩ : ∃ W0, w.alloc (.cells #[.int .i64 si, .bool st, .bool aw, .int .i64 ro, .int .i64 ol] 42) = W0 := ⟨_, rfl⟩
  rw [hW] at hx hb0 ⊢
  obtain ⟨o, ho⟩ : ∃ o, w.heap.size = o := ⟨_, rfl⟩
  have hb1 : Below w.heap.size w W0 := hb0
  rw [ho] at hx ⊢
  have Ho_0 := Lib.hid hx
  have HB_0 := Lib.hid hb1
  clear hW hx hb0 hb1 ho
  obtain ⟨L, hL⟩ : ∃ L, Flags.has ol 0 = L := ⟨_, rfl⟩
  obtain ⟨K, hK⟩ : ∃ K, Flags.has ol 1 = K := ⟨_, rfl⟩
  obtain ⟨S, hS⟩ : ∃ S, Flags.has ol 2 = S := ⟨_, rfl⟩
  obtain ⟨n, hn⟩ : ∃ n, ol / 8 = n := ⟨_, rfl⟩
  have HL := Lib.hid hL
  have HK := Lib.hid hK
  have HS := Lib.hid hS
  have HN := Lib.hid hn
  clear hL hK hS hn
  refine (Ref03.refUnpack_any ol hw.1 hw.2 _).mono ?_
  rintro e w1 ⟨rfl, hb1⟩
  rw [HL.out, HK.out, HS.out, HN.out]
  have Ho_1 := Lib.hid (Ho_0.out.below hb1 Ho_0.out.lt)
  have HB_1 := Lib.hid (bthen HB_0.out hb1)
  clear hb1
  have hBe := HB_1.out.alloc (by have := HB_1.out.size; omega) (.cells #[.bool L, .bool K, .bool S, .int .i64 n] 48)
  have HBE := Lib.hid hBe
  clear hBe
  obtain ⟨d0, d1, d2, d3, d4⟩ := (Ho_1.out.alloc (.cells #[.bool L, .bool K, .bool S, .int .i64 n] 48)).at5
  cases L <;> cases S
  · go_wp2_with fail
    go_ret
    exact ⟨by simp [HL.out, HS.out], HBE.out⟩
  · go_wp2_with fail
    go_ret
    exact ⟨by simp [HL.out, HS.out], HBE.out⟩
  · go_wp2_with fail
    refine (refCan_any ro ru _).mono ?_
    rintro e w3 ⟨rfl, rfl⟩
    go_wp2_with fail
    go_ret
    exact ⟨by simp [HL.out, HS.out], HBE.out⟩
  · go_wp2_with fail
    go_ret
    exact ⟨by simp [HL.out, HS.out], HBE.out⟩
def handN (st : Bool) (ol : Int) : Int := if (Flags.has ol 0 || (Flags.has ol 1 || decide (ol / 8 = 0))) = true then 0 else dOf st (ol / 8)
def handE (ol : Int) : Int := if (Flags.has ol 0 || (Flags.has ol 1 || decide (ol / 8 = 0))) = true then 12 else 0
theorem handed_any (si : Int) (st aw : Bool) (ro ol : Int) (w : World) (h : right si ro ol = true) :
    Calls Try.prog 31 #[.agg #[.int .i64 si, .bool st, .bool aw, .int .i64 ro, .int .i64 ol]] w fun e w' => e = .returned (.tuple #[.int .i64 (handN st ol), .int .i64 (handE ol)]) ∧ Below w.heap.size w w' := by
  cases hf : (Flags.has ol 0 || (Flags.has ol 1 || decide (ol / 8 = 0))) with
  | true => exact (handed_broken si st aw ro ol w h hf).mono fun e w' ⟨he, hb⟩ => ⟨by rw [he, handN, handE, hf]; rfl, hb⟩
  | false => exact (handed_yes si st aw ro ol w h hf).mono fun e w' ⟨he, hb⟩ => ⟨by rw [he, handN, handE, hf]; rfl, hb⟩
def wantN (st aw : Bool) (ol : Int) : Int := if (aw && !Flags.has ol 1) = true then 0 else if more ol ≤ 268435455 then wants st aw ol else 0
def wantE (aw : Bool) (ol : Int) : Int := if (aw && !Flags.has ol 1) = true then 12 else if more ol ≤ 268435455 then 0 else 10
theorem wants_any (si : Int) (st aw : Bool) (ro ol : Int) (w : World) (h : right si ro ol = true) :
    Calls Try.prog 27 #[.agg #[.int .i64 si, .bool st, .bool aw, .int .i64 ro, .int .i64 ol]] w fun e w' => e = .returned (.tuple #[.int .i64 (wantN st aw ol), .int .i64 (wantE aw ol)]) ∧ Below w.heap.size w w' := by
  cases ha : (aw && !Flags.has ol 1) with
  | true =>
    have ha' := ha
    simp only [Bool.and_eq_true, Bool.not_eq_true'] at ha'
    exact (wants_broken si st aw ro ol w h ha'.1 ha'.2).mono fun e w' ⟨he, hb⟩ => ⟨by rw [he, wantN, wantE, ha]; rfl, hb⟩
  | false =>
    by_cases hm : more ol ≤ 268435455
    · exact (wants_yes si st aw ro ol w h ha hm).mono fun e w' ⟨he, hb⟩ => ⟨by rw [he, wantN, wantE, ha, if_pos hm, if_pos hm]; rfl, hb⟩
    · exact (wants_over si st aw ro ol w h ha (by omega)).mono fun e w' ⟨he, hb⟩ => ⟨by rw [he, wantN, wantE, ha, if_neg hm, if_neg hm]; rfl, hb⟩
set_option maxRecDepth 100000 in
set_option maxHeartbeats 8000000 in
theorem refHanded_any (si : Int) (st aw : Bool) (ro ol : Int) (w : World) (hw : 0 ≤ ol ∧ ol < 2147483648) :
    Calls Try.prog 40 #[.agg #[.int .i64 si, .bool st, .bool aw, .int .i64 ro, .int .i64 ol]] w fun e w' => e = .returned (.tuple #[.int .i64 (handN st ol), .int .i64 (handE ol)]) ∧ Below w.heap.size w w' := by
  have hx := Blk.new w 42 #[.int .i64 si, .bool st, .bool aw, .int .i64 ro, .int .i64 ol]
  have hb0 := (Below.refl w.heap.size w).alloc (Nat.le_refl _) (.cells #[.int .i64 si, .bool st, .bool aw, .int .i64 ro, .int .i64 ol] 42)
  go_enter Try.func40, Try.ntmps40
  go_wp2_with fail
  obtain ⟨W0, hW⟩ : ∃ W0, w.alloc (.cells #[.int .i64 si, .bool st, .bool aw, .int .i64 ro, .int .i64 ol] 42) = W0 := ⟨_, rfl⟩
  rw [hW] at hx hb0 ⊢
  obtain ⟨o, ho⟩ : ∃ o, w.heap.size = o := ⟨_, rfl⟩
  have hb1 : Below w.heap.size w W0 := hb0
  rw [ho] at hx ⊢
  have Ho_0 := Lib.hid hx
  have HB_0 := Lib.hid hb1
  clear hW hx hb0 hb1 ho
  obtain ⟨L, hL⟩ : ∃ L, Flags.has ol 0 = L := ⟨_, rfl⟩
  obtain ⟨K, hK⟩ : ∃ K, Flags.has ol 1 = K := ⟨_, rfl⟩
  obtain ⟨S, hS⟩ : ∃ S, Flags.has ol 2 = S := ⟨_, rfl⟩
  obtain ⟨n, hn⟩ : ∃ n, ol / 8 = n := ⟨_, rfl⟩
  have HL := Lib.hid hL
  have HK := Lib.hid hK
  have HS := Lib.hid hS
  have HN := Lib.hid hn
  clear hL hK hS hn
  refine (Ref03.refUnpack_any ol hw.1 hw.2 _).mono ?_
  rintro e w1 ⟨rfl, hb1⟩
  rw [HL.out, HK.out, HS.out, HN.out]
  have Ho_1 := Lib.hid (Ho_0.out.below hb1 Ho_0.out.lt)
  have HB_1 := Lib.hid (bthen HB_0.out hb1)
  clear hb1
  have hBe := HB_1.out.alloc (by have := HB_1.out.size; omega) (.cells #[.bool L, .bool K, .bool S, .int .i64 n] 48)
  have HBE := Lib.hid hBe
  clear hBe
  obtain ⟨d0, d1, d2, d3, d4⟩ := (Ho_1.out.alloc (.cells #[.bool L, .bool K, .bool S, .int .i64 n] 48)).at5
  have HH : Hid (handN st ol = (if (L || (K || decide (n = 0))) = true then 0 else dOf st n) ∧ handE ol = (if (L || (K || decide (n = 0))) = true then 12 else 0)) := by unfold Hid handN handE; rw [HL.out, HK.out, HN.out]; exact ⟨rfl, rfl⟩
  by_cases h0 : n = 0
  · have e0 : (n == 0) = true := by simpa using h0
    have H0 := Lib.hid h0
    clear h0
    cases L <;> cases K
    all_goals
      go_wp2_with fail
      go_ret2
      exact ⟨by rw [HH.out.1, HH.out.2, H0.out]; rfl, HBE.out⟩
  · have e0 : (n == 0) = false := by simpa using h0
    have H0 := Lib.hid h0
    clear h0
    cases L <;> cases K
    · by_cases h1 : n = 1
      · have e1 : (n == 1) = true := by simpa using h1
        have H1 := Lib.hid h1
        clear h1
        cases st
        all_goals
          go_wp2_with fail
          go_ret2
          exact ⟨by rw [HH.out.1, HH.out.2]; simp [dOf, H1.out], HBE.out⟩
      · have e1 : (n == 1) = false := by simpa using h1
        have H1 := Lib.hid h1
        clear h1
        cases st
        all_goals
          go_wp2_with fail
          go_ret2
          exact ⟨by rw [HH.out.1, HH.out.2]; simp [H0.out, dOf, H1.out], HBE.out⟩
    all_goals
      go_wp2_with fail
      go_ret2
      exact ⟨by rw [HH.out.1, HH.out.2]; rfl, HBE.out⟩
end Grab
end Go.Proofs.Ytkjhacbkgnjilaa
