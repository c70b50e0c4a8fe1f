/-
  The walk of GrabWants. Printed by gen_lgrabwants.py.
-/
import Derived.Test.YtkjhacbkgnjilaaGrab4
import Derived.Test.YtkjhacbkgnjilaaBlkAt
namespace Go.Proofs.Ytkjhacbkgnjilaa
open Go.RowKit
namespace Flags
theorem has_word (l k s : Bool) (n : Int) : has (word l k s n) 0 = l ∧ has (word l k s n) 1 = k ∧ has (word l k s n) 2 = s ∧ word l k s n / 8 = n := by
  unfold has word
  cases l <;> cases k <;> cases s <;> (refine ⟨?_, ?_, ?_, ?_⟩ <;> simp <;> omega)
theorem word_bd (l k s : Bool) (n : Int) (h0 : 0 ≤ n) (h1 : n ≤ 268435455) : 0 ≤ word l k s n ∧ word l k s n < 2147483648 := by
  unfold word
  cases l <;> cases k <;> cases s <;> simp <;> omega
end Flags
namespace Grab
theorem alive_any (w : World) : Calls Try.prog 29 #[] w fun e w' => e = .returned (.bool true) ∧ Below w.heap.size w w' := by
  go_enter Try.func29, Try.ntmps29
  go_wp2_with fail
  refine (wants_yes (-1) false false 0 1 _ (by decide) (by decide) (by decide)).mono ?_
  rintro e w1 ⟨rfl, hb1⟩
  rw [show wants false false 1 = 9 by decide]
  have HB1 := Lib.hid hb1
  clear hb1
  go_wp2_with fail
  refine (wants_yes 5 true true 0 19 _ (by decide) (by decide) (by decide)).mono ?_
  rintro e w2 ⟨rfl, hb2⟩
  rw [show wants true true 19 = 29 by decide]
  have HB2 := Lib.hid (bthen HB1.out hb2)
  clear hb2
  go_wp2_with fail
  go_ret
  exact ⟨rfl, HB2.out⟩
end Grab
namespace grabWants
open Grab
set_option maxRecDepth 100000 in
set_option maxHeartbeats 16000000 in
theorem arg (si : Int) (st aw : Bool) (ro ol : Int) (w : World) (h : right si ro ol = false) :
    Calls Try.prog 8 #[.agg #[.int .i64 si, .bool st, .bool aw, .int .i64 ro, .int .i64 ol]] w fun e w' => e = .returned (.bool true) ∧ Below w.heap.size w w' := by
  have HH := Lib.hid h
  clear h
  have hx := Blk.new w 42 #[.int .i64 si, .bool st, .bool aw, .int .i64 ro, .int .i64 ol]
  have hb0 := (Below.refl w.heap.size w).alloc (Nat.le_refl _) (.cells #[.int .i64 si, .bool st, .bool aw, .int .i64 ro, .int .i64 ol] 42)
  have HX := Lib.hid hx
  have HB0 := Lib.hid hb0
  clear hx hb0
  go_enter Try.func8, Try.ntmps8
  go_wp2_with fail
  obtain ⟨W, hW⟩ : ∃ W, w.alloc (.cells #[.int .i64 si, .bool st, .bool aw, .int .i64 ro, .int .i64 ol] 42) = W := ⟨_, rfl⟩
  rw [hW] at HX HB0 ⊢
  clear hW
  refine (wants_no si st aw ro ol _ HH.out).mono ?_
  rintro e w1 ⟨rfl, hb1⟩
  have HX1 := Lib.hid (HX.out.below hb1 HX.out.lt)
  have HB1 := Lib.hid (bthen HB0.out (hb1.mono (Nat.le_refl _)))
  clear hb1
  have c0 : w1.cell? ⟨w.heap.size, 0, none⟩ = some (.int .i64 si) := by rw [HX1.out.cell]; rfl
  have c1 : w1.cell? ⟨w.heap.size, 1, none⟩ = some (.bool st) := by rw [HX1.out.cell]; rfl
  have c2 : w1.cell? ⟨w.heap.size, 2, none⟩ = some (.bool aw) := by rw [HX1.out.cell]; rfl
  have c3 : w1.cell? ⟨w.heap.size, 3, none⟩ = some (.int .i64 ro) := by rw [HX1.out.cell]; rfl
  have c4 : w1.cell? ⟨w.heap.size, 4, none⟩ = some (.int .i64 ol) := by rw [HX1.out.cell]; rfl
  go_wp2_with fail
  refine (got_no si st aw ro ol _ HH.out).mono ?_
  rintro e w2 ⟨rfl, hb2⟩
  have HB2 := Lib.hid (bthen HB1.out hb2)
  clear hb2
  go_wp2_with fail
  refine (alive_any _).mono ?_
  rintro e w3 ⟨rfl, hb3⟩
  have HB3 := Lib.hid (bthen HB2.out hb3)
  clear hb3
  go_wp2_with fail
  go_ret
  exact ⟨rfl, HB3.out⟩
set_option maxRecDepth 100000 in
set_option maxHeartbeats 16000000 in
theorem broken (si : Int) (st aw : Bool) (ro ol : Int) (w : World) (h : right si ro ol = true) (ha : aw = true) (hk : Flags.has ol 1 = false) :
    Calls Try.prog 8 #[.agg #[.int .i64 si, .bool st, .bool aw, .int .i64 ro, .int .i64 ol]] w fun e w' => e = .returned (.bool true) ∧ Below w.heap.size w w' := by
  have HH := Lib.hid h
  clear h
  have HHA := Lib.hid ha
  clear ha
  have HHK := Lib.hid hk
  clear hk
  have hx := Blk.new w 42 #[.int .i64 si, .bool st, .bool aw, .int .i64 ro, .int .i64 ol]
  have hb0 := (Below.refl w.heap.size w).alloc (Nat.le_refl _) (.cells #[.int .i64 si, .bool st, .bool aw, .int .i64 ro, .int .i64 ol] 42)
  have HX := Lib.hid hx
  have HB0 := Lib.hid hb0
  clear hx hb0
  go_enter Try.func8, Try.ntmps8
  go_wp2_with fail
  obtain ⟨W, hW⟩ : ∃ W, w.alloc (.cells #[.int .i64 si, .bool st, .bool aw, .int .i64 ro, .int .i64 ol] 42) = W := ⟨_, rfl⟩
  rw [hW] at HX HB0 ⊢
  clear hW
  refine (wants_broken si st aw ro ol _ HH.out HHA.out HHK.out).mono ?_
  rintro e w1 ⟨rfl, hb1⟩
  have HX1 := Lib.hid (HX.out.below hb1 HX.out.lt)
  have HB1 := Lib.hid (bthen HB0.out (hb1.mono (Nat.le_refl _)))
  clear hb1
  have c0 : w1.cell? ⟨w.heap.size, 0, none⟩ = some (.int .i64 si) := by rw [HX1.out.cell]; rfl
  have c1 : w1.cell? ⟨w.heap.size, 1, none⟩ = some (.bool st) := by rw [HX1.out.cell]; rfl
  have c2 : w1.cell? ⟨w.heap.size, 2, none⟩ = some (.bool aw) := by rw [HX1.out.cell]; rfl
  have c3 : w1.cell? ⟨w.heap.size, 3, none⟩ = some (.int .i64 ro) := by rw [HX1.out.cell]; rfl
  have c4 : w1.cell? ⟨w.heap.size, 4, none⟩ = some (.int .i64 ol) := by rw [HX1.out.cell]; rfl
  go_wp2_with fail
  refine (got_yes si st aw ro ol _ HH.out).mono ?_
  rintro e w2 ⟨rfl, hb2⟩
  have HB2 := Lib.hid (bthen HB1.out hb2)
  clear hb2
  go_wp2_with fail
  refine (alive_any _).mono ?_
  rintro e w3 ⟨rfl, hb3⟩
  have HB3 := Lib.hid (bthen HB2.out hb3)
  clear hb3
  go_wp2_with fail
  go_ret
  exact ⟨rfl, HB3.out⟩
set_option maxRecDepth 100000 in
set_option maxHeartbeats 16000000 in
theorem over (si : Int) (st aw : Bool) (ro ol : Int) (w : World) (h : right si ro ol = true) (ha : (aw && !Flags.has ol 1) = false) (hm : 268435455 < more ol) :
    Calls Try.prog 8 #[.agg #[.int .i64 si, .bool st, .bool aw, .int .i64 ro, .int .i64 ol]] w fun e w' => e = .returned (.bool true) ∧ Below w.heap.size w w' := by
  have HH := Lib.hid h
  clear h
  have HHA := Lib.hid ha
  clear ha
  have HHM := Lib.hid hm
  clear hm
  have hx := Blk.new w 42 #[.int .i64 si, .bool st, .bool aw, .int .i64 ro, .int .i64 ol]
  have hb0 := (Below.refl w.heap.size w).alloc (Nat.le_refl _) (.cells #[.int .i64 si, .bool st, .bool aw, .int .i64 ro, .int .i64 ol] 42)
  have HX := Lib.hid hx
  have HB0 := Lib.hid hb0
  clear hx hb0
  go_enter Try.func8, Try.ntmps8
  go_wp2_with fail
  obtain ⟨W, hW⟩ : ∃ W, w.alloc (.cells #[.int .i64 si, .bool st, .bool aw, .int .i64 ro, .int .i64 ol] 42) = W := ⟨_, rfl⟩
  rw [hW] at HX HB0 ⊢
  clear hW
  refine (wants_over si st aw ro ol _ HH.out HHA.out HHM.out).mono ?_
  rintro e w1 ⟨rfl, hb1⟩
  have HX1 := Lib.hid (HX.out.below hb1 HX.out.lt)
  have HB1 := Lib.hid (bthen HB0.out (hb1.mono (Nat.le_refl _)))
  clear hb1
  have c0 : w1.cell? ⟨w.heap.size, 0, none⟩ = some (.int .i64 si) := by rw [HX1.out.cell]; rfl
  have c1 : w1.cell? ⟨w.heap.size, 1, none⟩ = some (.bool st) := by rw [HX1.out.cell]; rfl
  have c2 : w1.cell? ⟨w.heap.size, 2, none⟩ = some (.bool aw) := by rw [HX1.out.cell]; rfl
  have c3 : w1.cell? ⟨w.heap.size, 3, none⟩ = some (.int .i64 ro) := by rw [HX1.out.cell]; rfl
  have c4 : w1.cell? ⟨w.heap.size, 4, none⟩ = some (.int .i64 ol) := by rw [HX1.out.cell]; rfl
  go_wp2_with fail
  refine (got_yes si st aw ro ol _ HH.out).mono ?_
  rintro e w2 ⟨rfl, hb2⟩
  have HB2 := Lib.hid (bthen HB1.out hb2)
  clear hb2
  go_wp2_with fail
  refine (alive_any _).mono ?_
  rintro e w3 ⟨rfl, hb3⟩
  have HB3 := Lib.hid (bthen HB2.out hb3)
  clear hb3
  go_wp2_with fail
  go_ret
  exact ⟨rfl, HB3.out⟩
set_option maxRecDepth 100000 in
set_option maxHeartbeats 16000000 in
theorem yes (si : Int) (st aw : Bool) (ro ol : Int) (w : World) (h : right si ro ol = true) (ha : (aw && !Flags.has ol 1) = false) (hm : more ol ≤ 268435455) :
    Calls Try.prog 8 #[.agg #[.int .i64 si, .bool st, .bool aw, .int .i64 ro, .int .i64 ol]] w fun e w' => e = .returned (.bool true) ∧ Below w.heap.size w w' := by
  have HH := Lib.hid h
  clear h
  have HHA := Lib.hid ha
  clear ha
  have HHM := Lib.hid hm
  clear hm
  have hx := Blk.new w 42 #[.int .i64 si, .bool st, .bool aw, .int .i64 ro, .int .i64 ol]
  have hb0 := (Below.refl w.heap.size w).alloc (Nat.le_refl _) (.cells #[.int .i64 si, .bool st, .bool aw, .int .i64 ro, .int .i64 ol] 42)
  have HX := Lib.hid hx
  have HB0 := Lib.hid hb0
  clear hx hb0
  go_enter Try.func8, Try.ntmps8
  go_wp2_with fail
  obtain ⟨W, hW⟩ : ∃ W, w.alloc (.cells #[.int .i64 si, .bool st, .bool aw, .int .i64 ro, .int .i64 ol] 42) = W := ⟨_, rfl⟩
  rw [hW] at HX HB0 ⊢
  clear hW
  have hw := right_word HH.out
  have hmo : 0 ≤ more ol := by unfold more; split <;> omega
  obtain ⟨hw0, hw1⟩ := Flags.word_bd (Flags.has ol 0 || !Flags.has ol 2) (Flags.has ol 1 && !aw) (Flags.has ol 2 || (st && Flags.has ol 0)) (more ol) hmo HHM.out
  obtain ⟨e0, e1, e2, e3⟩ := Flags.has_word (Flags.has ol 0 || !Flags.has ol 2) (Flags.has ol 1 && !aw) (Flags.has ol 2 || (st && Flags.has ol 0)) (more ol)
  have hwd : wants st aw ol = Flags.word (Flags.has ol 0 || !Flags.has ol 2) (Flags.has ol 1 && !aw) (Flags.has ol 2 || (st && Flags.has ol 0)) (more ol) := rfl
  rw [← hwd] at hw0 hw1 e0 e1 e2 e3
  obtain ⟨x, hx⟩ : ∃ x, wants st aw ol = x := ⟨_, rfl⟩
  rw [hx] at hw0 hw1 e0 e1 e2 e3
  have HXX := Lib.hid hx
  have E0 := Lib.hid e0
  have E1 := Lib.hid e1
  have E2 := Lib.hid e2
  have E3 := Lib.hid e3
  have hme : more ol = if (Flags.has ol 0 || Flags.has ol 2) = true then ol / 8 + 1 else ol / 8 := rfl
  have HME := Lib.hid hme
  have HMO := Lib.hid hmo
  have HA := HHA
  clear hwd hx e0 e1 e2 e3 hme hmo
  refine (wants_yes si st aw ro ol _ HH.out HHA.out HHM.out).mono ?_
  rintro e w1 ⟨rfl, hb1⟩
  rw [HXX.out]
  have HX1 := Lib.hid (HX.out.below hb1 HX.out.lt)
  have HB1 := Lib.hid (bthen HB0.out (hb1.mono (Nat.le_refl _)))
  clear hb1
  have c0 : w1.cell? ⟨w.heap.size, 0, none⟩ = some (.int .i64 si) := by rw [HX1.out.cell]; rfl
  have c1 : w1.cell? ⟨w.heap.size, 1, none⟩ = some (.bool st) := by rw [HX1.out.cell]; rfl
  have c2 : w1.cell? ⟨w.heap.size, 2, none⟩ = some (.bool aw) := by rw [HX1.out.cell]; rfl
  have c3 : w1.cell? ⟨w.heap.size, 3, none⟩ = some (.int .i64 ro) := by rw [HX1.out.cell]; rfl
  have c4 : w1.cell? ⟨w.heap.size, 4, none⟩ = some (.int .i64 ol) := by rw [HX1.out.cell]; rfl
  go_wp2_with fail
  refine (got_yes si st aw ro ol _ HH.out).mono ?_
  rintro e w2 ⟨rfl, hb2⟩
  have HX2 := Lib.hid (HX1.out.below hb2 HX1.out.lt)
  have HB2 := Lib.hid (bthen HB1.out hb2)
  have c4' : w2.cell? ⟨w.heap.size, 4, none⟩ = some (.int .i64 ol) := by rw [HX2.out.cell]; rfl
  clear hb2 c0 c1 c2 c3 c4
  go_wp2_with fail
  refine (Flags.unpack_yes ol hw.1 hw.2 _).mono ?_
  rintro e w3 ⟨rfl, hb3⟩
  have HX3 := Lib.hid (HX2.out.below hb3 HX2.out.lt)
  have HB3 := Lib.hid (bthen HB2.out hb3)
  clear hb3 c4'
  go_wp2_with fail
  have hF4 := Blk.new w3 48 #[.bool (Flags.has ol 0), .bool (Flags.has ol 1), .bool (Flags.has ol 2), .int .i64 (ol / 8)]
  have hX4 := HX3.out.alloc (.cells #[.bool (Flags.has ol 0), .bool (Flags.has ol 1), .bool (Flags.has ol 2), .int .i64 (ol / 8)] 48)
  have hB4 := HB3.out.alloc HB3.out.size (.cells #[.bool (Flags.has ol 0), .bool (Flags.has ol 1), .bool (Flags.has ol 2), .int .i64 (ol / 8)] 48)
  obtain ⟨W4, hW4⟩ : ∃ W4, w3.alloc (.cells #[.bool (Flags.has ol 0), .bool (Flags.has ol 1), .bool (Flags.has ol 2), .int .i64 (ol / 8)] 48) = W4 := ⟨_, rfl⟩
  rw [hW4] at hF4 hX4 hB4 ⊢
  clear hW4
  have HF4 := Lib.hid hF4
  have HX4 := Lib.hid hX4
  have HB4 := Lib.hid hB4
  clear hF4 hX4 hB4
  refine (Flags.unpack_yes x hw0 hw1 _).mono ?_
  rintro e w5 ⟨rfl, hb5⟩
  rw [E0.out, E1.out, E2.out, E3.out]
  have HX5 := Lib.hid (HX4.out.below hb5 HX4.out.lt)
  have HF5 := Lib.hid (HF4.out.below hb5 HF4.out.lt)
  have HB5 := Lib.hid (bthen HB4.out hb5)
  have hlt5 := HX5.out.lt
  have hlf5 := HF5.out.lt
  obtain ⟨f, hf⟩ : ∃ f, w3.heap.size = f := ⟨_, rfl⟩
  rw [hf] at HF5 HF4 hlf5 ⊢
  obtain ⟨L, hL⟩ : ∃ L, Flags.has ol 0 = L := ⟨_, rfl⟩
  obtain ⟨K, hK⟩ : ∃ K, Flags.has ol 1 = K := ⟨_, rfl⟩
  obtain ⟨S, hS⟩ : ∃ S, Flags.has ol 2 = S := ⟨_, rfl⟩
  obtain ⟨n, hn⟩ : ∃ n, ol / 8 = n := ⟨_, rfl⟩
  obtain ⟨m, hm⟩ : ∃ m, more ol = m := ⟨_, rfl⟩
  have hme := HME.out
  rw [hL, hS, hn, hm] at hme
  have hn0 : 0 ≤ n := by omega
  have hn9 : n ≤ 268435456 := by omega
  have ha := HHA.out
  rw [hK] at ha
  rw [hL, hK, hS, hn] at HF5
  rw [hL, hK, hS, hm]
  rw [hn]
  have f0 : ∀ cs : Array Value, (w5.alloc (.cells cs 48)).cell? ⟨f, 0, none⟩ = some (.bool L) := fun cs => by rw [(HF5.out.alloc _).cell]; rfl
  have f1 : ∀ cs : Array Value, (w5.alloc (.cells cs 48)).cell? ⟨f, 1, none⟩ = some (.bool K) := fun cs => by rw [(HF5.out.alloc _).cell]; rfl
  have f2 : ∀ cs : Array Value, (w5.alloc (.cells cs 48)).cell? ⟨f, 2, none⟩ = some (.bool S) := fun cs => by rw [(HF5.out.alloc _).cell]; rfl
  have f3 : ∀ cs : Array Value, (w5.alloc (.cells cs 48)).cell? ⟨f, 3, none⟩ = some (.int .i64 n) := fun cs => by rw [(HF5.out.alloc _).cell]; rfl
  have x1 : ∀ cs : Array Value, (w5.alloc (.cells cs 48)).cell? ⟨w.heap.size, 1, none⟩ = some (.bool st) := fun cs => by rw [(HX5.out.alloc _).cell]; rfl
  have x2 : ∀ cs : Array Value, (w5.alloc (.cells cs 48)).cell? ⟨w.heap.size, 2, none⟩ = some (.bool aw) := fun cs => by rw [(HX5.out.alloc _).cell]; rfl
  have HFX := Lib.hid (fun cs : Array Value => HF5.out.alloc (.cells cs 48))
  have HXX5 := Lib.hid (fun cs : Array Value => HX5.out.alloc (.cells cs 48))
  have HN6 := Lib.hid (fun cs : Array Value => Blk.new w5 48 cs)
  have HB6 := Lib.hid (fun cs : Array Value => HB5.out.alloc HB5.out.size (.cells cs 48))
  clear hL hK hS hn hm hf hb5
  have TAIL : ∀ (l k s i : Bool) (cs : Array Value), cs = #[.bool l, .bool k, .bool s, .int .i64 m] → Hid True := fun _ _ _ _ _ _ => trivial
  clear TAIL
  cases aw
  · clear ha
    cases L <;> cases S <;> cases K <;> cases st
    all_goals
      obtain rfl := hme
      go_wp2_with fail
      refine (alive_any _).mono ?_
      rintro e w6 ⟨rfl, hb6⟩
      have HF6 := (HFX.out _).below hb6 (HFX.out _).lt
      have HX6 := (HXX5.out _).below hb6 (HXX5.out _).lt
      have HN7 := (HN6.out _).below hb6 (HN6.out _).lt
      have HE := Lib.hid (bthen (HB6.out _) hb6)
      obtain ⟨g0, g1, g2, g3⟩ := HF6.at4
      obtain ⟨y0, y1, y2, y3, y4⟩ := HX6.at5
      obtain ⟨z0, z1, z2, z3⟩ := HN7.at4
      clear hb6 HF6 HX6 HN7 f0 f1 f2 f3 x1 x2 y0 y3 y4
      go_wp2_with fail
      go_ret
      exact ⟨rfl, HE.out⟩
  · obtain rfl : K = true := by cases K with | true => rfl | false => cases ha
    clear ha
    cases L <;> cases S <;> cases st
    all_goals
      obtain rfl := hme
      go_wp2_with fail
      refine (alive_any _).mono ?_
      rintro e w6 ⟨rfl, hb6⟩
      have HF6 := (HFX.out _).below hb6 (HFX.out _).lt
      have HX6 := (HXX5.out _).below hb6 (HXX5.out _).lt
      have HN7 := (HN6.out _).below hb6 (HN6.out _).lt
      have HE := Lib.hid (bthen (HB6.out _) hb6)
      obtain ⟨g0, g1, g2, g3⟩ := HF6.at4
      obtain ⟨y0, y1, y2, y3, y4⟩ := HX6.at5
      obtain ⟨z0, z1, z2, z3⟩ := HN7.at4
      clear hb6 HF6 HX6 HN7 f0 f1 f2 f3 x1 x2 y0 y3 y4
      go_wp2_with fail
      go_ret
      exact ⟨rfl, HE.out⟩
theorem walk (si : Int) (st aw : Bool) (ro ol : Int) (w : World) :
    Calls Try.prog 8 #[.agg #[.int .i64 si, .bool st, .bool aw, .int .i64 ro, .int .i64 ol]] w fun e w' => e = .returned (.bool true) ∧ Below w.heap.size w w' := by
  cases h : right si ro ol with
  | false => exact arg si st aw ro ol w h
  | true =>
    cases ha : (aw && !Flags.has ol 1) with
    | true =>
      simp only [Bool.and_eq_true, Bool.not_eq_true'] at ha
      exact broken si st aw ro ol w h ha.1 ha.2
    | false =>
      by_cases hm : more ol ≤ 268435455
      · exact yes si st aw ro ol w h ha hm
      · exact over si st aw ro ol w h ha (by omega)
end grabWants
end Go.Proofs.Ytkjhacbkgnjilaa
