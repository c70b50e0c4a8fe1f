/-
  The document's own function Wants of layer 14 (grab). Printed by gen_grabref3.py.
-/
import Derived.Test.YtkjhacbkgnjilaaGrabRef2
namespace Go.Proofs.Ytkjhacbkgnjilaa
open Go.RowKit
namespace Grab
set_option maxRecDepth 100000 in
set_option maxHeartbeats 8000000 in
theorem refWants_any (si : Int) (st aw : Bool) (ro ol : Int) (w : World) (hw : 0 ≤ ol ∧ ol < 2147483648) :
    Calls Try.prog 39 #[.agg #[.int .i64 si, .bool st, .bool aw, .int .i64 ro, .int .i64 ol]] w fun e w' => e = .returned (.tuple #[.int .i64 (wantN st aw ol), .int .i64 (wantE aw ol)]) ∧ Below w.heap.size w w' := by
  have hx := Blk.new w 42 #[.int .i64 si, .bool st, .bool aw, .int .i64 ro, .int .i64 ol]
  have hb0 := (Below.refl w.heap.size w).alloc (Nat.le_refl _) (.cells #[.int .i64 si, .bool st, .bool aw, .int .i64 ro, .int .i64 ol] 42)
  go_enter Try.func39, Try.ntmps39
  go_wp2_with fail
  obtain ⟨W0, hW⟩ : ∃ W0, w.alloc (.cells #[.int .i64 si, .bool st, .bool aw, .int .i64 ro, .int .i64 ol] 42) = W0 := ⟨_, rfl⟩
  rw [hW] at hx hb0 ⊢
  obtain ⟨o, ho⟩ : ∃ o, w.heap.size = o := ⟨_, rfl⟩
  have hb1 : Below w.heap.size w W0 := hb0
  rw [ho] at hx ⊢
  have Ho_0 := Lib.hid hx
  have HB_0 := Lib.hid hb1
  clear hW hx hb0 hb1 ho
  obtain ⟨L, hL⟩ : ∃ L, Flags.has ol 0 = L := ⟨_, rfl⟩
  obtain ⟨K, hK⟩ : ∃ K, Flags.has ol 1 = K := ⟨_, rfl⟩
  obtain ⟨S, hS⟩ : ∃ S, Flags.has ol 2 = S := ⟨_, rfl⟩
  obtain ⟨n, hn⟩ : ∃ n, ol / 8 = n := ⟨_, rfl⟩
  have HL := Lib.hid hL
  have HK := Lib.hid hK
  have HS := Lib.hid hS
  have HN := Lib.hid hn
  clear hL hK hS hn
  refine (Ref03.refUnpack_any ol hw.1 hw.2 _).mono ?_
  rintro e w1 ⟨rfl, hb1⟩
  rw [HL.out, HK.out, HS.out, HN.out]
  have Ho_1 := Lib.hid (Ho_0.out.below hb1 Ho_0.out.lt)
  have HB_1 := Lib.hid (bthen HB_0.out hb1)
  clear hb1
  have HO := Ho_1
  have HBx := HB_1
  have k0 : ∀ c1 : Array Value, (w1.alloc (.cells c1 48)).cell? ⟨o, 2, none⟩ = some (.bool aw) := fun c1 => by rw [(HO.out.alloc _).cell]; rfl
  have k1 : ∀ c1 c2 : Array Value, ((w1.alloc (.cells c1 48)).alloc (.cells c2 48)).cell? ⟨o, 1, none⟩ = some (.bool st) := fun c1 c2 => by rw [((HO.out.alloc _).alloc _).cell]; rfl
  have k2 : ∀ c1 c2 : Array Value, ((w1.alloc (.cells c1 48)).alloc (.cells c2 48)).cell? ⟨o, 2, none⟩ = some (.bool aw) := fun c1 c2 => by rw [((HO.out.alloc _).alloc _).cell]; rfl
  have HB1 := Lib.hid (fun c1 : Array Value => HBx.out.alloc HBx.out.size (.cells c1 48))
  have HB2 := Lib.hid (fun c1 c2 : Array Value => (HB1.out c1).alloc (by have := HBx.out.size; simp; omega) (.cells c2 48))
  have HNA := Lib.hid (fun c1 c2 : Array Value => (show Blk ((w1.alloc (.cells c1 48)).alloc (.cells c2 48)) (w1.heap.size + 1) 48 c2 by have := Blk.new (w1.alloc (.cells c1 48)) 48 c2; rwa [World.size_alloc] at this))
  have hlo : o < w1.heap.size := HO.out.lt
  have hne0 : w1.heap.size ≠ o := by omega
  have hne1 : w1.heap.size + 1 ≠ o := by omega
  have hn0 : 0 ≤ n := by have := HN.out; omega
  have hn9 : n ≤ 268435455 := by have := HN.out; omega
  have HWE : Hid (wantE aw ol = if (aw && !K) = true then 12 else if (if (L || S) = true then n + 1 else n) ≤ 268435455 then 0 else 10) := by unfold Hid wantE more; rw [HK.out, HL.out, HS.out, HN.out]
  have HWN : Hid (wantN st aw ol = if (aw && !K) = true then 0 else if (if (L || S) = true then n + 1 else n) ≤ 268435455 then Flags.word (L || !S) (K && !aw) (S || (st && L)) (if (L || S) = true then n + 1 else n) else 0) := by unfold Hid wantN wants more; rw [HK.out, HL.out, HS.out, HN.out]
  clear HL HK HS HN
  cases aw
  · cases K
    · cases L
      · cases S
        · cases st
          · skip
            have HV : Hid (wantE false ol = 0 ∧ wantN false false ol = Flags.word (false || !false) (false && !false) (false || (false && false)) n) := by unfold Hid; rw [HWE.out, HWN.out]; simp [hn9]
            go_wp2_with fail
            refine (Ref03.refMay_any _ _ _ _ _).mono ?_
            rintro e w2 ⟨rfl, hb2⟩
            rw [show (decide ((0 : Int) ≤ n) && decide (n < 268435456)) = true by simp; omega]
            have hN2 := (HNA.out _ _).below hb2 (HNA.out _ _).lt
            have HB3 := Lib.hid ((HB2.out _ _).trans (hb2.mono (HB2.out _ _).size))
            obtain ⟨p0, p1, p2, p3⟩ := hN2.at4
            clear hb2 hN2
            go_wp2_with fail
            refine (Ref03.refPack_any _ _ _ _ (by omega) (by omega) _).mono ?_
            rintro e w3 ⟨rfl, hb3⟩
            have HB4 := Lib.hid (HB3.out.trans (hb3.mono HB3.out.size))
            clear hb3 p0 p1 p2 p3
            go_wp2_with fail
            go_ret2
            exact ⟨by rw [HV.out.1, HV.out.2]; rfl, HB4.out⟩
          · skip
            have HV : Hid (wantE false ol = 0 ∧ wantN true false ol = Flags.word (false || !false) (false && !false) (false || (true && false)) n) := by unfold Hid; rw [HWE.out, HWN.out]; simp [hn9]
            go_wp2_with fail
            refine (Ref03.refMay_any _ _ _ _ _).mono ?_
            rintro e w2 ⟨rfl, hb2⟩
            rw [show (decide ((0 : Int) ≤ n) && decide (n < 268435456)) = true by simp; omega]
            have hN2 := (HNA.out _ _).below hb2 (HNA.out _ _).lt
            have HB3 := Lib.hid ((HB2.out _ _).trans (hb2.mono (HB2.out _ _).size))
            obtain ⟨p0, p1, p2, p3⟩ := hN2.at4
            clear hb2 hN2
            go_wp2_with fail
            refine (Ref03.refPack_any _ _ _ _ (by omega) (by omega) _).mono ?_
            rintro e w3 ⟨rfl, hb3⟩
            have HB4 := Lib.hid (HB3.out.trans (hb3.mono HB3.out.size))
            clear hb3 p0 p1 p2 p3
            go_wp2_with fail
            go_ret2
            exact ⟨by rw [HV.out.1, HV.out.2]; rfl, HB4.out⟩
        · cases st
          · skip
            by_cases hm : n + 1 ≤ 268435455
            · have HV : Hid (wantE false ol = 0 ∧ wantN false false ol = Flags.word (false || !true) (false && !false) (true || (false && false)) (n + 1)) := by unfold Hid; rw [HWE.out, HWN.out]; simp [hm]
              go_wp2_with fail
              refine (Ref03.refMay_any _ _ _ _ _).mono ?_
              rintro e w2 ⟨rfl, hb2⟩
              rw [show (decide ((0 : Int) ≤ n + 1) && decide (n + 1 < 268435456)) = true by simp; omega]
              have hN2 := (HNA.out _ _).below hb2 (HNA.out _ _).lt
              have HB3 := Lib.hid ((HB2.out _ _).trans (hb2.mono (HB2.out _ _).size))
              obtain ⟨p0, p1, p2, p3⟩ := hN2.at4
              clear hb2 hN2
              go_wp2_with fail
              refine (Ref03.refPack_any _ _ _ _ (by omega) (by omega) _).mono ?_
              rintro e w3 ⟨rfl, hb3⟩
              have HB4 := Lib.hid (HB3.out.trans (hb3.mono HB3.out.size))
              clear hb3 p0 p1 p2 p3
              go_wp2_with fail
              go_ret2
              exact ⟨by rw [HV.out.1, HV.out.2]; rfl, HB4.out⟩
            · have HV : Hid (wantE false ol = 10 ∧ wantN false false ol = 0) := by unfold Hid; rw [HWE.out, HWN.out]; simp [hm]
              go_wp2_with fail
              refine (Ref03.refMay_any _ _ _ _ _).mono ?_
              rintro e w2 ⟨rfl, hb2⟩
              rw [show (decide ((0 : Int) ≤ n + 1) && decide (n + 1 < 268435456)) = false by simp; omega]
              have hN2 := (HNA.out _ _).below hb2 (HNA.out _ _).lt
              have HB3 := Lib.hid ((HB2.out _ _).trans (hb2.mono (HB2.out _ _).size))
              obtain ⟨p0, p1, p2, p3⟩ := hN2.at4
              clear hb2 hN2
              go_wp2_with fail
              go_ret2
              exact ⟨by rw [HV.out.1, HV.out.2]; rfl, HB3.out⟩
          · skip
            by_cases hm : n + 1 ≤ 268435455
            · have HV : Hid (wantE false ol = 0 ∧ wantN true false ol = Flags.word (false || !true) (false && !false) (true || (true && false)) (n + 1)) := by unfold Hid; rw [HWE.out, HWN.out]; simp [hm]
              go_wp2_with fail
              refine (Ref03.refMay_any _ _ _ _ _).mono ?_
              rintro e w2 ⟨rfl, hb2⟩
              rw [show (decide ((0 : Int) ≤ n + 1) && decide (n + 1 < 268435456)) = true by simp; omega]
              have hN2 := (HNA.out _ _).below hb2 (HNA.out _ _).lt
              have HB3 := Lib.hid ((HB2.out _ _).trans (hb2.mono (HB2.out _ _).size))
              obtain ⟨p0, p1, p2, p3⟩ := hN2.at4
              clear hb2 hN2
              go_wp2_with fail
              refine (Ref03.refPack_any _ _ _ _ (by omega) (by omega) _).mono ?_
              rintro e w3 ⟨rfl, hb3⟩
              have HB4 := Lib.hid (HB3.out.trans (hb3.mono HB3.out.size))
              clear hb3 p0 p1 p2 p3
              go_wp2_with fail
              go_ret2
              exact ⟨by rw [HV.out.1, HV.out.2]; rfl, HB4.out⟩
            · have HV : Hid (wantE false ol = 10 ∧ wantN true false ol = 0) := by unfold Hid; rw [HWE.out, HWN.out]; simp [hm]
              go_wp2_with fail
              refine (Ref03.refMay_any _ _ _ _ _).mono ?_
              rintro e w2 ⟨rfl, hb2⟩
              rw [show (decide ((0 : Int) ≤ n + 1) && decide (n + 1 < 268435456)) = false by simp; omega]
              have hN2 := (HNA.out _ _).below hb2 (HNA.out _ _).lt
              have HB3 := Lib.hid ((HB2.out _ _).trans (hb2.mono (HB2.out _ _).size))
              obtain ⟨p0, p1, p2, p3⟩ := hN2.at4
              clear hb2 hN2
              go_wp2_with fail
              go_ret2
              exact ⟨by rw [HV.out.1, HV.out.2]; rfl, HB3.out⟩
      · cases S
        · cases st
          · skip
            by_cases hm : n + 1 ≤ 268435455
            · have HV : Hid (wantE false ol = 0 ∧ wantN false false ol = Flags.word (true || !false) (false && !false) (false || (false && true)) (n + 1)) := by unfold Hid; rw [HWE.out, HWN.out]; simp [hm]
              go_wp2_with fail
              refine (Ref03.refMay_any _ _ _ _ _).mono ?_
              rintro e w2 ⟨rfl, hb2⟩
              rw [show (decide ((0 : Int) ≤ n + 1) && decide (n + 1 < 268435456)) = true by simp; omega]
              have hN2 := (HNA.out _ _).below hb2 (HNA.out _ _).lt
              have HB3 := Lib.hid ((HB2.out _ _).trans (hb2.mono (HB2.out _ _).size))
              obtain ⟨p0, p1, p2, p3⟩ := hN2.at4
              clear hb2 hN2
              go_wp2_with fail
              refine (Ref03.refPack_any _ _ _ _ (by omega) (by omega) _).mono ?_
              rintro e w3 ⟨rfl, hb3⟩
              have HB4 := Lib.hid (HB3.out.trans (hb3.mono HB3.out.size))
              clear hb3 p0 p1 p2 p3
              go_wp2_with fail
              go_ret2
              exact ⟨by rw [HV.out.1, HV.out.2]; rfl, HB4.out⟩
            · have HV : Hid (wantE false ol = 10 ∧ wantN false false ol = 0) := by unfold Hid; rw [HWE.out, HWN.out]; simp [hm]
              go_wp2_with fail
              refine (Ref03.refMay_any _ _ _ _ _).mono ?_
              rintro e w2 ⟨rfl, hb2⟩
              rw [show (decide ((0 : Int) ≤ n + 1) && decide (n + 1 < 268435456)) = false by simp; omega]
              have hN2 := (HNA.out _ _).below hb2 (HNA.out _ _).lt
              have HB3 := Lib.hid ((HB2.out _ _).trans (hb2.mono (HB2.out _ _).size))
              obtain ⟨p0, p1, p2, p3⟩ := hN2.at4
              clear hb2 hN2
              go_wp2_with fail
              go_ret2
              exact ⟨by rw [HV.out.1, HV.out.2]; rfl, HB3.out⟩
          · skip
            by_cases hm : n + 1 ≤ 268435455
            · have HV : Hid (wantE false ol = 0 ∧ wantN true false ol = Flags.word (true || !false) (false && !false) (false || (true && true)) (n + 1)) := by unfold Hid; rw [HWE.out, HWN.out]; simp [hm]
              go_wp2_with fail
              refine (Ref03.refMay_any _ _ _ _ _).mono ?_
              rintro e w2 ⟨rfl, hb2⟩
              rw [show (decide ((0 : Int) ≤ n + 1) && decide (n + 1 < 268435456)) = true by simp; omega]
              have hN2 := (HNA.out _ _).below hb2 (HNA.out _ _).lt
              have HB3 := Lib.hid ((HB2.out _ _).trans (hb2.mono (HB2.out _ _).size))
              obtain ⟨p0, p1, p2, p3⟩ := hN2.at4
              clear hb2 hN2
              go_wp2_with fail
              refine (Ref03.refPack_any _ _ _ _ (by omega) (by omega) _).mono ?_
              rintro e w3 ⟨rfl, hb3⟩
              have HB4 := Lib.hid (HB3.out.trans (hb3.mono HB3.out.size))
              clear hb3 p0 p1 p2 p3
              go_wp2_with fail
              go_ret2
              exact ⟨by rw [HV.out.1, HV.out.2]; rfl, HB4.out⟩
            · have HV : Hid (wantE false ol = 10 ∧ wantN true false ol = 0) := by unfold Hid; rw [HWE.out, HWN.out]; simp [hm]
              go_wp2_with fail
              refine (Ref03.refMay_any _ _ _ _ _).mono ?_
              rintro e w2 ⟨rfl, hb2⟩
              rw [show (decide ((0 : Int) ≤ n + 1) && decide (n + 1 < 268435456)) = false by simp; omega]
              have hN2 := (HNA.out _ _).below hb2 (HNA.out _ _).lt
              have HB3 := Lib.hid ((HB2.out _ _).trans (hb2.mono (HB2.out _ _).size))
              obtain ⟨p0, p1, p2, p3⟩ := hN2.at4
              clear hb2 hN2
              go_wp2_with fail
              go_ret2
              exact ⟨by rw [HV.out.1, HV.out.2]; rfl, HB3.out⟩
        · cases st
          · skip
            by_cases hm : n + 1 ≤ 268435455
            · have HV : Hid (wantE false ol = 0 ∧ wantN false false ol = Flags.word (true || !true) (false && !false) (true || (false && true)) (n + 1)) := by unfold Hid; rw [HWE.out, HWN.out]; simp [hm]
              go_wp2_with fail
              refine (Ref03.refMay_any _ _ _ _ _).mono ?_
              rintro e w2 ⟨rfl, hb2⟩
              rw [show (decide ((0 : Int) ≤ n + 1) && decide (n + 1 < 268435456)) = true by simp; omega]
              have hN2 := (HNA.out _ _).below hb2 (HNA.out _ _).lt
              have HB3 := Lib.hid ((HB2.out _ _).trans (hb2.mono (HB2.out _ _).size))
              obtain ⟨p0, p1, p2, p3⟩ := hN2.at4
              clear hb2 hN2
              go_wp2_with fail
              refine (Ref03.refPack_any _ _ _ _ (by omega) (by omega) _).mono ?_
              rintro e w3 ⟨rfl, hb3⟩
              have HB4 := Lib.hid (HB3.out.trans (hb3.mono HB3.out.size))
              clear hb3 p0 p1 p2 p3
              go_wp2_with fail
              go_ret2
              exact ⟨by rw [HV.out.1, HV.out.2]; rfl, HB4.out⟩
            · have HV : Hid (wantE false ol = 10 ∧ wantN false false ol = 0) := by unfold Hid; rw [HWE.out, HWN.out]; simp [hm]
              go_wp2_with fail
              refine (Ref03.refMay_any _ _ _ _ _).mono ?_
              rintro e w2 ⟨rfl, hb2⟩
              rw [show (decide ((0 : Int) ≤ n + 1) && decide (n + 1 < 268435456)) = false by simp; omega]
              have hN2 := (HNA.out _ _).below hb2 (HNA.out _ _).lt
              have HB3 := Lib.hid ((HB2.out _ _).trans (hb2.mono (HB2.out _ _).size))
              obtain ⟨p0, p1, p2, p3⟩ := hN2.at4
              clear hb2 hN2
              go_wp2_with fail
              go_ret2
              exact ⟨by rw [HV.out.1, HV.out.2]; rfl, HB3.out⟩
          · skip
            by_cases hm : n + 1 ≤ 268435455
            · have HV : Hid (wantE false ol = 0 ∧ wantN true false ol = Flags.word (true || !true) (false && !false) (true || (true && true)) (n + 1)) := by unfold Hid; rw [HWE.out, HWN.out]; simp [hm]
              go_wp2_with fail
              refine (Ref03.refMay_any _ _ _ _ _).mono ?_
              rintro e w2 ⟨rfl, hb2⟩
              rw [show (decide ((0 : Int) ≤ n + 1) && decide (n + 1 < 268435456)) = true by simp; omega]
              have hN2 := (HNA.out _ _).below hb2 (HNA.out _ _).lt
              have HB3 := Lib.hid ((HB2.out _ _).trans (hb2.mono (HB2.out _ _).size))
              obtain ⟨p0, p1, p2, p3⟩ := hN2.at4
              clear hb2 hN2
              go_wp2_with fail
              refine (Ref03.refPack_any _ _ _ _ (by omega) (by omega) _).mono ?_
              rintro e w3 ⟨rfl, hb3⟩
              have HB4 := Lib.hid (HB3.out.trans (hb3.mono HB3.out.size))
              clear hb3 p0 p1 p2 p3
              go_wp2_with fail
              go_ret2
              exact ⟨by rw [HV.out.1, HV.out.2]; rfl, HB4.out⟩
            · have HV : Hid (wantE false ol = 10 ∧ wantN true false ol = 0) := by unfold Hid; rw [HWE.out, HWN.out]; simp [hm]
              go_wp2_with fail
              refine (Ref03.refMay_any _ _ _ _ _).mono ?_
              rintro e w2 ⟨rfl, hb2⟩
              rw [show (decide ((0 : Int) ≤ n + 1) && decide (n + 1 < 268435456)) = false by simp; omega]
              have hN2 := (HNA.out _ _).below hb2 (HNA.out _ _).lt
              have HB3 := Lib.hid ((HB2.out _ _).trans (hb2.mono (HB2.out _ _).size))
              obtain ⟨p0, p1, p2, p3⟩ := hN2.at4
              clear hb2 hN2
              go_wp2_with fail
              go_ret2
              exact ⟨by rw [HV.out.1, HV.out.2]; rfl, HB3.out⟩
    · cases L
      · cases S
        · cases st
          · skip
            have HV : Hid (wantE false ol = 0 ∧ wantN false false ol = Flags.word (false || !false) (true && !false) (false || (false && false)) n) := by unfold Hid; rw [HWE.out, HWN.out]; simp [hn9]
            go_wp2_with fail
            refine (Ref03.refMay_any _ _ _ _ _).mono ?_
            rintro e w2 ⟨rfl, hb2⟩
            rw [show (decide ((0 : Int) ≤ n) && decide (n < 268435456)) = true by simp; omega]
            have hN2 := (HNA.out _ _).below hb2 (HNA.out _ _).lt
            have HB3 := Lib.hid ((HB2.out _ _).trans (hb2.mono (HB2.out _ _).size))
            obtain ⟨p0, p1, p2, p3⟩ := hN2.at4
            clear hb2 hN2
            go_wp2_with fail
            refine (Ref03.refPack_any _ _ _ _ (by omega) (by omega) _).mono ?_
            rintro e w3 ⟨rfl, hb3⟩
            have HB4 := Lib.hid (HB3.out.trans (hb3.mono HB3.out.size))
            clear hb3 p0 p1 p2 p3
            go_wp2_with fail
            go_ret2
            exact ⟨by rw [HV.out.1, HV.out.2]; rfl, HB4.out⟩
          · skip
            have HV : Hid (wantE false ol = 0 ∧ wantN true false ol = Flags.word (false || !false) (true && !false) (false || (true && false)) n) := by unfold Hid; rw [HWE.out, HWN.out]; simp [hn9]
            go_wp2_with fail
            refine (Ref03.refMay_any _ _ _ _ _).mono ?_
            rintro e w2 ⟨rfl, hb2⟩
            rw [show (decide ((0 : Int) ≤ n) && decide (n < 268435456)) = true by simp; omega]
            have hN2 := (HNA.out _ _).below hb2 (HNA.out _ _).lt
            have HB3 := Lib.hid ((HB2.out _ _).trans (hb2.mono (HB2.out _ _).size))
            obtain ⟨p0, p1, p2, p3⟩ := hN2.at4
            clear hb2 hN2
            go_wp2_with fail
            refine (Ref03.refPack_any _ _ _ _ (by omega) (by omega) _).mono ?_
            rintro e w3 ⟨rfl, hb3⟩
            have HB4 := Lib.hid (HB3.out.trans (hb3.mono HB3.out.size))
            clear hb3 p0 p1 p2 p3
            go_wp2_with fail
            go_ret2
            exact ⟨by rw [HV.out.1, HV.out.2]; rfl, HB4.out⟩
        · cases st
          · skip
            by_cases hm : n + 1 ≤ 268435455
            · have HV : Hid (wantE false ol = 0 ∧ wantN false false ol = Flags.word (false || !true) (true && !false) (true || (false && false)) (n + 1)) := by unfold Hid; rw [HWE.out, HWN.out]; simp [hm]
              go_wp2_with fail
              refine (Ref03.refMay_any _ _ _ _ _).mono ?_
              rintro e w2 ⟨rfl, hb2⟩
              rw [show (decide ((0 : Int) ≤ n + 1) && decide (n + 1 < 268435456)) = true by simp; omega]
              have hN2 := (HNA.out _ _).below hb2 (HNA.out _ _).lt
              have HB3 := Lib.hid ((HB2.out _ _).trans (hb2.mono (HB2.out _ _).size))
              obtain ⟨p0, p1, p2, p3⟩ := hN2.at4
              clear hb2 hN2
              go_wp2_with fail
              refine (Ref03.refPack_any _ _ _ _ (by omega) (by omega) _).mono ?_
              rintro e w3 ⟨rfl, hb3⟩
              have HB4 := Lib.hid (HB3.out.trans (hb3.mono HB3.out.size))
              clear hb3 p0 p1 p2 p3
              go_wp2_with fail
              go_ret2
              exact ⟨by rw [HV.out.1, HV.out.2]; rfl, HB4.out⟩
            · have HV : Hid (wantE false ol = 10 ∧ wantN false false ol = 0) := by unfold Hid; rw [HWE.out, HWN.out]; simp [hm]
              go_wp2_with fail
              refine (Ref03.refMay_any _ _ _ _ _).mono ?_
              rintro e w2 ⟨rfl, hb2⟩
              rw [show (decide ((0 : Int) ≤ n + 1) && decide (n + 1 < 268435456)) = false by simp; omega]
              have hN2 := (HNA.out _ _).below hb2 (HNA.out _ _).lt
              have HB3 := Lib.hid ((HB2.out _ _).trans (hb2.mono (HB2.out _ _).size))
              obtain ⟨p0, p1, p2, p3⟩ := hN2.at4
              clear hb2 hN2
              go_wp2_with fail
              go_ret2
              exact ⟨by rw [HV.out.1, HV.out.2]; rfl, HB3.out⟩
          · skip
            by_cases hm : n + 1 ≤ 268435455
            · have HV : Hid (wantE false ol = 0 ∧ wantN true false ol = Flags.word (false || !true) (true && !false) (true || (true && false)) (n + 1)) := by unfold Hid; rw [HWE.out, HWN.out]; simp [hm]
              go_wp2_with fail
              refine (Ref03.refMay_any _ _ _ _ _).mono ?_
              rintro e w2 ⟨rfl, hb2⟩
              rw [show (decide ((0 : Int) ≤ n + 1) && decide (n + 1 < 268435456)) = true by simp; omega]
              have hN2 := (HNA.out _ _).below hb2 (HNA.out _ _).lt
              have HB3 := Lib.hid ((HB2.out _ _).trans (hb2.mono (HB2.out _ _).size))
              obtain ⟨p0, p1, p2, p3⟩ := hN2.at4
              clear hb2 hN2
              go_wp2_with fail
              refine (Ref03.refPack_any _ _ _ _ (by omega) (by omega) _).mono ?_
              rintro e w3 ⟨rfl, hb3⟩
              have HB4 := Lib.hid (HB3.out.trans (hb3.mono HB3.out.size))
              clear hb3 p0 p1 p2 p3
              go_wp2_with fail
              go_ret2
              exact ⟨by rw [HV.out.1, HV.out.2]; rfl, HB4.out⟩
            · have HV : Hid (wantE false ol = 10 ∧ wantN true false ol = 0) := by unfold Hid; rw [HWE.out, HWN.out]; simp [hm]
              go_wp2_with fail
              refine (Ref03.refMay_any _ _ _ _ _).mono ?_
              rintro e w2 ⟨rfl, hb2⟩
              rw [show (decide ((0 : Int) ≤ n + 1) && decide (n + 1 < 268435456)) = false by simp; omega]
              have hN2 := (HNA.out _ _).below hb2 (HNA.out _ _).lt
              have HB3 := Lib.hid ((HB2.out _ _).trans (hb2.mono (HB2.out _ _).size))
              obtain ⟨p0, p1, p2, p3⟩ := hN2.at4
              clear hb2 hN2
              go_wp2_with fail
              go_ret2
              exact ⟨by rw [HV.out.1, HV.out.2]; rfl, HB3.out⟩
      · cases S
        · cases st
          · skip
            by_cases hm : n + 1 ≤ 268435455
            · have HV : Hid (wantE false ol = 0 ∧ wantN false false ol = Flags.word (true || !false) (true && !false) (false || (false && true)) (n + 1)) := by unfold Hid; rw [HWE.out, HWN.out]; simp [hm]
              go_wp2_with fail
              refine (Ref03.refMay_any _ _ _ _ _).mono ?_
              rintro e w2 ⟨rfl, hb2⟩
              rw [show (decide ((0 : Int) ≤ n + 1) && decide (n + 1 < 268435456)) = true by simp; omega]
              have hN2 := (HNA.out _ _).below hb2 (HNA.out _ _).lt
              have HB3 := Lib.hid ((HB2.out _ _).trans (hb2.mono (HB2.out _ _).size))
              obtain ⟨p0, p1, p2, p3⟩ := hN2.at4
              clear hb2 hN2
              go_wp2_with fail
              refine (Ref03.refPack_any _ _ _ _ (by omega) (by omega) _).mono ?_
              rintro e w3 ⟨rfl, hb3⟩
              have HB4 := Lib.hid (HB3.out.trans (hb3.mono HB3.out.size))
              clear hb3 p0 p1 p2 p3
              go_wp2_with fail
              go_ret2
              exact ⟨by rw [HV.out.1, HV.out.2]; rfl, HB4.out⟩
            · have HV : Hid (wantE false ol = 10 ∧ wantN false false ol = 0) := by unfold Hid; rw [HWE.out, HWN.out]; simp [hm]
              go_wp2_with fail
              refine (Ref03.refMay_any _ _ _ _ _).mono ?_
              rintro e w2 ⟨rfl, hb2⟩
              rw [show (decide ((0 : Int) ≤ n + 1) && decide (n + 1 < 268435456)) = false by simp; omega]
              have hN2 := (HNA.out _ _).below hb2 (HNA.out _ _).lt
              have HB3 := Lib.hid ((HB2.out _ _).trans (hb2.mono (HB2.out _ _).size))
              obtain ⟨p0, p1, p2, p3⟩ := hN2.at4
              clear hb2 hN2
              go_wp2_with fail
              go_ret2
              exact ⟨by rw [HV.out.1, HV.out.2]; rfl, HB3.out⟩
          · skip
            by_cases hm : n + 1 ≤ 268435455
            · have HV : Hid (wantE false ol = 0 ∧ wantN true false ol = Flags.word (true || !false) (true && !false) (false || (true && true)) (n + 1)) := by unfold Hid; rw [HWE.out, HWN.out]; simp [hm]
              go_wp2_with fail
              refine (Ref03.refMay_any _ _ _ _ _).mono ?_
              rintro e w2 ⟨rfl, hb2⟩
              rw [show (decide ((0 : Int) ≤ n + 1) && decide (n + 1 < 268435456)) = true by simp; omega]
              have hN2 := (HNA.out _ _).below hb2 (HNA.out _ _).lt
              have HB3 := Lib.hid ((HB2.out _ _).trans (hb2.mono (HB2.out _ _).size))
              obtain ⟨p0, p1, p2, p3⟩ := hN2.at4
              clear hb2 hN2
              go_wp2_with fail
              refine (Ref03.refPack_any _ _ _ _ (by omega) (by omega) _).mono ?_
              rintro e w3 ⟨rfl, hb3⟩
              have HB4 := Lib.hid (HB3.out.trans (hb3.mono HB3.out.size))
              clear hb3 p0 p1 p2 p3
              go_wp2_with fail
              go_ret2
              exact ⟨by rw [HV.out.1, HV.out.2]; rfl, HB4.out⟩
            · have HV : Hid (wantE false ol = 10 ∧ wantN true false ol = 0) := by unfold Hid; rw [HWE.out, HWN.out]; simp [hm]
              go_wp2_with fail
              refine (Ref03.refMay_any _ _ _ _ _).mono ?_
              rintro e w2 ⟨rfl, hb2⟩
              rw [show (decide ((0 : Int) ≤ n + 1) && decide (n + 1 < 268435456)) = false by simp; omega]
              have hN2 := (HNA.out _ _).below hb2 (HNA.out _ _).lt
              have HB3 := Lib.hid ((HB2.out _ _).trans (hb2.mono (HB2.out _ _).size))
              obtain ⟨p0, p1, p2, p3⟩ := hN2.at4
              clear hb2 hN2
              go_wp2_with fail
              go_ret2
              exact ⟨by rw [HV.out.1, HV.out.2]; rfl, HB3.out⟩
        · cases st
          · skip
            by_cases hm : n + 1 ≤ 268435455
            · have HV : Hid (wantE false ol = 0 ∧ wantN false false ol = Flags.word (true || !true) (true && !false) (true || (false && true)) (n + 1)) := by unfold Hid; rw [HWE.out, HWN.out]; simp [hm]
              go_wp2_with fail
              refine (Ref03.refMay_any _ _ _ _ _).mono ?_
              rintro e w2 ⟨rfl, hb2⟩
              rw [show (decide ((0 : Int) ≤ n + 1) && decide (n + 1 < 268435456)) = true by simp; omega]
              have hN2 := (HNA.out _ _).below hb2 (HNA.out _ _).lt
              have HB3 := Lib.hid ((HB2.out _ _).trans (hb2.mono (HB2.out _ _).size))
              obtain ⟨p0, p1, p2, p3⟩ := hN2.at4
              clear hb2 hN2
              go_wp2_with fail
              refine (Ref03.refPack_any _ _ _ _ (by omega) (by omega) _).mono ?_
              rintro e w3 ⟨rfl, hb3⟩
              have HB4 := Lib.hid (HB3.out.trans (hb3.mono HB3.out.size))
              clear hb3 p0 p1 p2 p3
              go_wp2_with fail
              go_ret2
              exact ⟨by rw [HV.out.1, HV.out.2]; rfl, HB4.out⟩
            · have HV : Hid (wantE false ol = 10 ∧ wantN false false ol = 0) := by unfold Hid; rw [HWE.out, HWN.out]; simp [hm]
              go_wp2_with fail
              refine (Ref03.refMay_any _ _ _ _ _).mono ?_
              rintro e w2 ⟨rfl, hb2⟩
              rw [show (decide ((0 : Int) ≤ n + 1) && decide (n + 1 < 268435456)) = false by simp; omega]
              have hN2 := (HNA.out _ _).below hb2 (HNA.out _ _).lt
              have HB3 := Lib.hid ((HB2.out _ _).trans (hb2.mono (HB2.out _ _).size))
              obtain ⟨p0, p1, p2, p3⟩ := hN2.at4
              clear hb2 hN2
              go_wp2_with fail
              go_ret2
              exact ⟨by rw [HV.out.1, HV.out.2]; rfl, HB3.out⟩
          · skip
            by_cases hm : n + 1 ≤ 268435455
            · have HV : Hid (wantE false ol = 0 ∧ wantN true false ol = Flags.word (true || !true) (true && !false) (true || (true && true)) (n + 1)) := by unfold Hid; rw [HWE.out, HWN.out]; simp [hm]
              go_wp2_with fail
              refine (Ref03.refMay_any _ _ _ _ _).mono ?_
              rintro e w2 ⟨rfl, hb2⟩
              rw [show (decide ((0 : Int) ≤ n + 1) && decide (n + 1 < 268435456)) = true by simp; omega]
              have hN2 := (HNA.out _ _).below hb2 (HNA.out _ _).lt
              have HB3 := Lib.hid ((HB2.out _ _).trans (hb2.mono (HB2.out _ _).size))
              obtain ⟨p0, p1, p2, p3⟩ := hN2.at4
              clear hb2 hN2
              go_wp2_with fail
              refine (Ref03.refPack_any _ _ _ _ (by omega) (by omega) _).mono ?_
              rintro e w3 ⟨rfl, hb3⟩
              have HB4 := Lib.hid (HB3.out.trans (hb3.mono HB3.out.size))
              clear hb3 p0 p1 p2 p3
              go_wp2_with fail
              go_ret2
              exact ⟨by rw [HV.out.1, HV.out.2]; rfl, HB4.out⟩
            · have HV : Hid (wantE false ol = 10 ∧ wantN true false ol = 0) := by unfold Hid; rw [HWE.out, HWN.out]; simp [hm]
              go_wp2_with fail
              refine (Ref03.refMay_any _ _ _ _ _).mono ?_
              rintro e w2 ⟨rfl, hb2⟩
              rw [show (decide ((0 : Int) ≤ n + 1) && decide (n + 1 < 268435456)) = false by simp; omega]
              have hN2 := (HNA.out _ _).below hb2 (HNA.out _ _).lt
              have HB3 := Lib.hid ((HB2.out _ _).trans (hb2.mono (HB2.out _ _).size))
              obtain ⟨p0, p1, p2, p3⟩ := hN2.at4
              clear hb2 hN2
              go_wp2_with fail
              go_ret2
              exact ⟨by rw [HV.out.1, HV.out.2]; rfl, HB3.out⟩
  · cases K
    · go_wp2_with fail
      go_ret2
      exact ⟨by rw [HWE.out, HWN.out]; rfl, HB1.out _⟩
    · skip
      cases L
      · cases S
        · cases st
          · skip
            have HV : Hid (wantE true ol = 0 ∧ wantN false true ol = Flags.word (false || !false) (true && !true) (false || (false && false)) n) := by unfold Hid; rw [HWE.out, HWN.out]; simp [hn9]
            go_wp2_with fail
            refine (Ref03.refMay_any _ _ _ _ _).mono ?_
            rintro e w2 ⟨rfl, hb2⟩
            rw [show (decide ((0 : Int) ≤ n) && decide (n < 268435456)) = true by simp; omega]
            have hN2 := (HNA.out _ _).below hb2 (HNA.out _ _).lt
            have HB3 := Lib.hid ((HB2.out _ _).trans (hb2.mono (HB2.out _ _).size))
            obtain ⟨p0, p1, p2, p3⟩ := hN2.at4
            clear hb2 hN2
            go_wp2_with fail
            refine (Ref03.refPack_any _ _ _ _ (by omega) (by omega) _).mono ?_
            rintro e w3 ⟨rfl, hb3⟩
            have HB4 := Lib.hid (HB3.out.trans (hb3.mono HB3.out.size))
            clear hb3 p0 p1 p2 p3
            go_wp2_with fail
            go_ret2
            exact ⟨by rw [HV.out.1, HV.out.2]; rfl, HB4.out⟩
          · skip
            have HV : Hid (wantE true ol = 0 ∧ wantN true true ol = Flags.word (false || !false) (true && !true) (false || (true && false)) n) := by unfold Hid; rw [HWE.out, HWN.out]; simp [hn9]
            go_wp2_with fail
            refine (Ref03.refMay_any _ _ _ _ _).mono ?_
            rintro e w2 ⟨rfl, hb2⟩
            rw [show (decide ((0 : Int) ≤ n) && decide (n < 268435456)) = true by simp; omega]
            have hN2 := (HNA.out _ _).below hb2 (HNA.out _ _).lt
            have HB3 := Lib.hid ((HB2.out _ _).trans (hb2.mono (HB2.out _ _).size))
            obtain ⟨p0, p1, p2, p3⟩ := hN2.at4
            clear hb2 hN2
            go_wp2_with fail
            refine (Ref03.refPack_any _ _ _ _ (by omega) (by omega) _).mono ?_
            rintro e w3 ⟨rfl, hb3⟩
            have HB4 := Lib.hid (HB3.out.trans (hb3.mono HB3.out.size))
            clear hb3 p0 p1 p2 p3
            go_wp2_with fail
            go_ret2
            exact ⟨by rw [HV.out.1, HV.out.2]; rfl, HB4.out⟩
        · cases st
          · skip
            by_cases hm : n + 1 ≤ 268435455
            · have HV : Hid (wantE true ol = 0 ∧ wantN false true ol = Flags.word (false || !true) (true && !true) (true || (false && false)) (n + 1)) := by unfold Hid; rw [HWE.out, HWN.out]; simp [hm]
              go_wp2_with fail
              refine (Ref03.refMay_any _ _ _ _ _).mono ?_
              rintro e w2 ⟨rfl, hb2⟩
              rw [show (decide ((0 : Int) ≤ n + 1) && decide (n + 1 < 268435456)) = true by simp; omega]
              have hN2 := (HNA.out _ _).below hb2 (HNA.out _ _).lt
              have HB3 := Lib.hid ((HB2.out _ _).trans (hb2.mono (HB2.out _ _).size))
              obtain ⟨p0, p1, p2, p3⟩ := hN2.at4
              clear hb2 hN2
              go_wp2_with fail
              refine (Ref03.refPack_any _ _ _ _ (by omega) (by omega) _).mono ?_
              rintro e w3 ⟨rfl, hb3⟩
              have HB4 := Lib.hid (HB3.out.trans (hb3.mono HB3.out.size))
              clear hb3 p0 p1 p2 p3
              go_wp2_with fail
              go_ret2
              exact ⟨by rw [HV.out.1, HV.out.2]; rfl, HB4.out⟩
            · have HV : Hid (wantE true ol = 10 ∧ wantN false true ol = 0) := by unfold Hid; rw [HWE.out, HWN.out]; simp [hm]
              go_wp2_with fail
              refine (Ref03.refMay_any _ _ _ _ _).mono ?_
              rintro e w2 ⟨rfl, hb2⟩
              rw [show (decide ((0 : Int) ≤ n + 1) && decide (n + 1 < 268435456)) = false by simp; omega]
              have hN2 := (HNA.out _ _).below hb2 (HNA.out _ _).lt
              have HB3 := Lib.hid ((HB2.out _ _).trans (hb2.mono (HB2.out _ _).size))
              obtain ⟨p0, p1, p2, p3⟩ := hN2.at4
              clear hb2 hN2
              go_wp2_with fail
              go_ret2
              exact ⟨by rw [HV.out.1, HV.out.2]; rfl, HB3.out⟩
          · skip
            by_cases hm : n + 1 ≤ 268435455
            · have HV : Hid (wantE true ol = 0 ∧ wantN true true ol = Flags.word (false || !true) (true && !true) (true || (true && false)) (n + 1)) := by unfold Hid; rw [HWE.out, HWN.out]; simp [hm]
              go_wp2_with fail
              refine (Ref03.refMay_any _ _ _ _ _).mono ?_
              rintro e w2 ⟨rfl, hb2⟩
              rw [show (decide ((0 : Int) ≤ n + 1) && decide (n + 1 < 268435456)) = true by simp; omega]
              have hN2 := (HNA.out _ _).below hb2 (HNA.out _ _).lt
              have HB3 := Lib.hid ((HB2.out _ _).trans (hb2.mono (HB2.out _ _).size))
              obtain ⟨p0, p1, p2, p3⟩ := hN2.at4
              clear hb2 hN2
              go_wp2_with fail
              refine (Ref03.refPack_any _ _ _ _ (by omega) (by omega) _).mono ?_
              rintro e w3 ⟨rfl, hb3⟩
              have HB4 := Lib.hid (HB3.out.trans (hb3.mono HB3.out.size))
              clear hb3 p0 p1 p2 p3
              go_wp2_with fail
              go_ret2
              exact ⟨by rw [HV.out.1, HV.out.2]; rfl, HB4.out⟩
            · have HV : Hid (wantE true ol = 10 ∧ wantN true true ol = 0) := by unfold Hid; rw [HWE.out, HWN.out]; simp [hm]
              go_wp2_with fail
              refine (Ref03.refMay_any _ _ _ _ _).mono ?_
              rintro e w2 ⟨rfl, hb2⟩
              rw [show (decide ((0 : Int) ≤ n + 1) && decide (n + 1 < 268435456)) = false by simp; omega]
              have hN2 := (HNA.out _ _).below hb2 (HNA.out _ _).lt
              have HB3 := Lib.hid ((HB2.out _ _).trans (hb2.mono (HB2.out _ _).size))
              obtain ⟨p0, p1, p2, p3⟩ := hN2.at4
              clear hb2 hN2
              go_wp2_with fail
              go_ret2
              exact ⟨by rw [HV.out.1, HV.out.2]; rfl, HB3.out⟩
      · cases S
        · cases st
          · skip
            by_cases hm : n + 1 ≤ 268435455
            · have HV : Hid (wantE true ol = 0 ∧ wantN false true ol = Flags.word (true || !false) (true && !true) (false || (false && true)) (n + 1)) := by unfold Hid; rw [HWE.out, HWN.out]; simp [hm]
              go_wp2_with fail
              refine (Ref03.refMay_any _ _ _ _ _).mono ?_
              rintro e w2 ⟨rfl, hb2⟩
              rw [show (decide ((0 : Int) ≤ n + 1) && decide (n + 1 < 268435456)) = true by simp; omega]
              have hN2 := (HNA.out _ _).below hb2 (HNA.out _ _).lt
              have HB3 := Lib.hid ((HB2.out _ _).trans (hb2.mono (HB2.out _ _).size))
              obtain ⟨p0, p1, p2, p3⟩ := hN2.at4
              clear hb2 hN2
              go_wp2_with fail
              refine (Ref03.refPack_any _ _ _ _ (by omega) (by omega) _).mono ?_
              rintro e w3 ⟨rfl, hb3⟩
              have HB4 := Lib.hid (HB3.out.trans (hb3.mono HB3.out.size))
              clear hb3 p0 p1 p2 p3
              go_wp2_with fail
              go_ret2
              exact ⟨by rw [HV.out.1, HV.out.2]; rfl, HB4.out⟩
            · have HV : Hid (wantE true ol = 10 ∧ wantN false true ol = 0) := by unfold Hid; rw [HWE.out, HWN.out]; simp [hm]
              go_wp2_with fail
              refine (Ref03.refMay_any _ _ _ _ _).mono ?_
              rintro e w2 ⟨rfl, hb2⟩
              rw [show (decide ((0 : Int) ≤ n + 1) && decide (n + 1 < 268435456)) = false by simp; omega]
              have hN2 := (HNA.out _ _).below hb2 (HNA.out _ _).lt
              have HB3 := Lib.hid ((HB2.out _ _).trans (hb2.mono (HB2.out _ _).size))
              obtain ⟨p0, p1, p2, p3⟩ := hN2.at4
              clear hb2 hN2
              go_wp2_with fail
              go_ret2
              exact ⟨by rw [HV.out.1, HV.out.2]; rfl, HB3.out⟩
          · skip
            by_cases hm : n + 1 ≤ 268435455
            · have HV : Hid (wantE true ol = 0 ∧ wantN true true ol = Flags.word (true || !false) (true && !true) (false || (true && true)) (n + 1)) := by unfold Hid; rw [HWE.out, HWN.out]; simp [hm]
              go_wp2_with fail
              refine (Ref03.refMay_any _ _ _ _ _).mono ?_
              rintro e w2 ⟨rfl, hb2⟩
              rw [show (decide ((0 : Int) ≤ n + 1) && decide (n + 1 < 268435456)) = true by simp; omega]
              have hN2 := (HNA.out _ _).below hb2 (HNA.out _ _).lt
              have HB3 := Lib.hid ((HB2.out _ _).trans (hb2.mono (HB2.out _ _).size))
              obtain ⟨p0, p1, p2, p3⟩ := hN2.at4
              clear hb2 hN2
              go_wp2_with fail
              refine (Ref03.refPack_any _ _ _ _ (by omega) (by omega) _).mono ?_
              rintro e w3 ⟨rfl, hb3⟩
              have HB4 := Lib.hid (HB3.out.trans (hb3.mono HB3.out.size))
              clear hb3 p0 p1 p2 p3
              go_wp2_with fail
              go_ret2
              exact ⟨by rw [HV.out.1, HV.out.2]; rfl, HB4.out⟩
            · have HV : Hid (wantE true ol = 10 ∧ wantN true true ol = 0) := by unfold Hid; rw [HWE.out, HWN.out]; simp [hm]
              go_wp2_with fail
              refine (Ref03.refMay_any _ _ _ _ _).mono ?_
              rintro e w2 ⟨rfl, hb2⟩
              rw [show (decide ((0 : Int) ≤ n + 1) && decide (n + 1 < 268435456)) = false by simp; omega]
              have hN2 := (HNA.out _ _).below hb2 (HNA.out _ _).lt
              have HB3 := Lib.hid ((HB2.out _ _).trans (hb2.mono (HB2.out _ _).size))
              obtain ⟨p0, p1, p2, p3⟩ := hN2.at4
              clear hb2 hN2
              go_wp2_with fail
              go_ret2
              exact ⟨by rw [HV.out.1, HV.out.2]; rfl, HB3.out⟩
        · cases st
          · skip
            by_cases hm : n + 1 ≤ 268435455
            · have HV : Hid (wantE true ol = 0 ∧ wantN false true ol = Flags.word (true || !true) (true && !true) (true || (false && true)) (n + 1)) := by unfold Hid; rw [HWE.out, HWN.out]; simp [hm]
              go_wp2_with fail
              refine (Ref03.refMay_any _ _ _ _ _).mono ?_
              rintro e w2 ⟨rfl, hb2⟩
              rw [show (decide ((0 : Int) ≤ n + 1) && decide (n + 1 < 268435456)) = true by simp; omega]
              have hN2 := (HNA.out _ _).below hb2 (HNA.out _ _).lt
              have HB3 := Lib.hid ((HB2.out _ _).trans (hb2.mono (HB2.out _ _).size))
              obtain ⟨p0, p1, p2, p3⟩ := hN2.at4
              clear hb2 hN2
              go_wp2_with fail
              refine (Ref03.refPack_any _ _ _ _ (by omega) (by omega) _).mono ?_
              rintro e w3 ⟨rfl, hb3⟩
              have HB4 := Lib.hid (HB3.out.trans (hb3.mono HB3.out.size))
              clear hb3 p0 p1 p2 p3
              go_wp2_with fail
              go_ret2
              exact ⟨by rw [HV.out.1, HV.out.2]; rfl, HB4.out⟩
            · have HV : Hid (wantE true ol = 10 ∧ wantN false true ol = 0) := by unfold Hid; rw [HWE.out, HWN.out]; simp [hm]
              go_wp2_with fail
              refine (Ref03.refMay_any _ _ _ _ _).mono ?_
              rintro e w2 ⟨rfl, hb2⟩
              rw [show (decide ((0 : Int) ≤ n + 1) && decide (n + 1 < 268435456)) = false by simp; omega]
              have hN2 := (HNA.out _ _).below hb2 (HNA.out _ _).lt
              have HB3 := Lib.hid ((HB2.out _ _).trans (hb2.mono (HB2.out _ _).size))
              obtain ⟨p0, p1, p2, p3⟩ := hN2.at4
              clear hb2 hN2
              go_wp2_with fail
              go_ret2
              exact ⟨by rw [HV.out.1, HV.out.2]; rfl, HB3.out⟩
          · skip
            by_cases hm : n + 1 ≤ 268435455
            · have HV : Hid (wantE true ol = 0 ∧ wantN true true ol = Flags.word (true || !true) (true && !true) (true || (true && true)) (n + 1)) := by unfold Hid; rw [HWE.out, HWN.out]; simp [hm]
              go_wp2_with fail
              refine (Ref03.refMay_any _ _ _ _ _).mono ?_
              rintro e w2 ⟨rfl, hb2⟩
              rw [show (decide ((0 : Int) ≤ n + 1) && decide (n + 1 < 268435456)) = true by simp; omega]
              have hN2 := (HNA.out _ _).below hb2 (HNA.out _ _).lt
              have HB3 := Lib.hid ((HB2.out _ _).trans (hb2.mono (HB2.out _ _).size))
              obtain ⟨p0, p1, p2, p3⟩ := hN2.at4
              clear hb2 hN2
              go_wp2_with fail
              refine (Ref03.refPack_any _ _ _ _ (by omega) (by omega) _).mono ?_
              rintro e w3 ⟨rfl, hb3⟩
              have HB4 := Lib.hid (HB3.out.trans (hb3.mono HB3.out.size))
              clear hb3 p0 p1 p2 p3
              go_wp2_with fail
              go_ret2
              exact ⟨by rw [HV.out.1, HV.out.2]; rfl, HB4.out⟩
            · have HV : Hid (wantE true ol = 10 ∧ wantN true true ol = 0) := by unfold Hid; rw [HWE.out, HWN.out]; simp [hm]
              go_wp2_with fail
              refine (Ref03.refMay_any _ _ _ _ _).mono ?_
              rintro e w2 ⟨rfl, hb2⟩
              rw [show (decide ((0 : Int) ≤ n + 1) && decide (n + 1 < 268435456)) = false by simp; omega]
              have hN2 := (HNA.out _ _).below hb2 (HNA.out _ _).lt
              have HB3 := Lib.hid ((HB2.out _ _).trans (hb2.mono (HB2.out _ _).size))
              obtain ⟨p0, p1, p2, p3⟩ := hN2.at4
              clear hb2 hN2
              go_wp2_with fail
              go_ret2
              exact ⟨by rw [HV.out.1, HV.out.2]; rfl, HB3.out⟩
end Grab
end Go.Proofs.Ytkjhacbkgnjilaa
