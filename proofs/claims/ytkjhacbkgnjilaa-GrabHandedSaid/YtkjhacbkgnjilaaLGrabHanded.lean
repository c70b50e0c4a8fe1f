/-
  The walk of GrabHanded. Printed by gen_lgrabhanded.py.
-/
import Derived.Test.YtkjhacbkgnjilaaLGrabWants
namespace Go.Proofs.Ytkjhacbkgnjilaa
open Go.RowKit
namespace grabHanded
open Grab
theorem or4 (n : Nat) (hn : n ≤ 268435455) : bits .or .i64 ((8 * n + 4 : Nat) : Int) 4 = ((8 * n + 4 : Nat) : Int) ∧ bits .or .i64 ((8 * n : Nat) : Int) 4 = ((8 * n + 4 : Nat) : Int) := by
  have h1 : 8 * n ||| 4 = 8 * n + 4 := by
    have := Flags.or_pow 2 n 0 (by decide)
    simpa [Nat.mul_comm] using this
  have h2 : (8 * n + 4) ||| 4 = 8 * n + 4 := by rw [← h1, Nat.or_assoc, Nat.or_self]
  refine ⟨?_, ?_⟩
  · have := Flags.or_i64 (8 * n + 4) 4 (by omega) (by omega)
    rw [h2] at this
    exact this
  · have := Flags.or_i64 (8 * n) 4 (by omega) (by omega)
    rw [h1] at this
    exact this
theorem has8 (n : Int) : Flags.has (8 * n + 4) 0 = false ∧ Flags.has (8 * n + 4) 1 = false ∧ Flags.has (8 * n + 4) 2 = true ∧ (8 * n + 4) / 8 = n := by
  unfold Flags.has
  refine ⟨?_, ?_, ?_, ?_⟩ <;> first | (simp; omega) | omega
theorem has7 (n : Int) : Flags.has (8 * n + 4 + -7) 0 = true ∧ Flags.has (8 * n + 4 + -7) 1 = false ∧ Flags.has (8 * n + 4 + -7) 2 = true ∧ (8 * n + 4 + -7) / 8 = n - 1 := by
  unfold Flags.has
  refine ⟨?_, ?_, ?_, ?_⟩ <;> first | (simp; omega) | omega
theorem has11 (n : Int) : Flags.has (8 * n + 4 + -11) 0 = true ∧ Flags.has (8 * n + 4 + -11) 1 = false ∧ Flags.has (8 * n + 4 + -11) 2 = false ∧ (8 * n + 4 + -11) / 8 = n - 1 := by
  unfold Flags.has
  refine ⟨?_, ?_, ?_, ?_⟩ <;> first | (simp; omega) | omega
theorem word_is {ol : Int} (h0 : Flags.has ol 0 = false) (h1 : Flags.has ol 1 = false) : ol = 8 * (ol / 8) + (if Flags.has ol 2 = true then 4 else 0) := by
  unfold Flags.has at *
  simp at h0 h1 ⊢
  split <;> omega
set_option maxRecDepth 100000 in
set_option maxHeartbeats 16000000 in
theorem arg (si : Int) (st aw : Bool) (ro ol : Int) (w : World) (h : right si ro ol = false) :
    Calls Try.prog 9 #[.agg #[.int .i64 si, .bool st, .bool aw, .int .i64 ro, .int .i64 ol]] w fun e w' => e = .returned (.bool true) ∧ Below w.heap.size w w' := by
  have HH := Lib.hid h
  clear h
  have hx := Blk.new w 42 #[.int .i64 si, .bool st, .bool aw, .int .i64 ro, .int .i64 ol]
  have hb0 := (Below.refl w.heap.size w).alloc (Nat.le_refl _) (.cells #[.int .i64 si, .bool st, .bool aw, .int .i64 ro, .int .i64 ol] 42)
  have HX := Lib.hid hx
  have HB0 := Lib.hid hb0
  clear hx hb0
  go_enter Try.func9, Try.ntmps9
  go_wp2_with fail
  obtain ⟨W, hW⟩ : ∃ W, w.alloc (.cells #[.int .i64 si, .bool st, .bool aw, .int .i64 ro, .int .i64 ol] 42) = W := ⟨_, rfl⟩
  rw [hW] at HX HB0 ⊢
  clear hW
  refine (handed_no si st aw ro ol _ HH.out).mono ?_
  rintro e w1 ⟨rfl, hb1⟩
  have HB1 := Lib.hid (bthen HB0.out (hb1.mono (Nat.le_refl _)))
  clear hb1
  go_wp2_with fail
  refine (alive_any _).mono ?_
  rintro e w3 ⟨rfl, hb3⟩
  have HB3 := Lib.hid (bthen HB1.out hb3)
  clear hb3
  go_wp2_with fail
  go_ret
  exact ⟨rfl, HB3.out⟩
set_option maxRecDepth 100000 in
set_option maxHeartbeats 16000000 in
theorem broken (si : Int) (st aw : Bool) (ro ol : Int) (w : World) (h : right si ro ol = true) (hf : (Flags.has ol 0 || (Flags.has ol 1 || decide (ol / 8 = 0))) = true) :
    Calls Try.prog 9 #[.agg #[.int .i64 si, .bool st, .bool aw, .int .i64 ro, .int .i64 ol]] w fun e w' => e = .returned (.bool true) ∧ Below w.heap.size w w' := by
  have HH := Lib.hid h
  clear h
  have HHF := Lib.hid hf
  clear hf
  have hx := Blk.new w 42 #[.int .i64 si, .bool st, .bool aw, .int .i64 ro, .int .i64 ol]
  have hb0 := (Below.refl w.heap.size w).alloc (Nat.le_refl _) (.cells #[.int .i64 si, .bool st, .bool aw, .int .i64 ro, .int .i64 ol] 42)
  have HX := Lib.hid hx
  have HB0 := Lib.hid hb0
  clear hx hb0
  go_enter Try.func9, Try.ntmps9
  go_wp2_with fail
  obtain ⟨W, hW⟩ : ∃ W, w.alloc (.cells #[.int .i64 si, .bool st, .bool aw, .int .i64 ro, .int .i64 ol] 42) = W := ⟨_, rfl⟩
  rw [hW] at HX HB0 ⊢
  clear hW
  refine (handed_broken si st aw ro ol _ HH.out HHF.out).mono ?_
  rintro e w1 ⟨rfl, hb1⟩
  have HB1 := Lib.hid (bthen HB0.out (hb1.mono (Nat.le_refl _)))
  clear hb1
  go_wp2_with fail
  refine (alive_any _).mono ?_
  rintro e w3 ⟨rfl, hb3⟩
  have HB3 := Lib.hid (bthen HB1.out hb3)
  clear hb3
  go_wp2_with fail
  go_ret
  exact ⟨rfl, HB3.out⟩
set_option maxRecDepth 100000 in
set_option maxHeartbeats 16000000 in
theorem yes (si : Int) (st aw : Bool) (ro ol : Int) (w : World) (h : right si ro ol = true) (n : Nat) (hn : ol / 8 = n) (hn1 : 1 ≤ n) (hor : bits .or .i64 ol 4 = 8 * (n : Int) + 4) (hf : (Flags.has ol 0 || (Flags.has ol 1 || decide (ol / 8 = 0))) = false) :
    Calls Try.prog 9 #[.agg #[.int .i64 si, .bool st, .bool aw, .int .i64 ro, .int .i64 ol]] w fun e w' => e = .returned (.bool true) ∧ Below w.heap.size w w' := by
  have HH := Lib.hid h
  clear h
  have HHF := Lib.hid hf
  clear hf
  have HHN := Lib.hid hn
  clear hn
  have hx := Blk.new w 42 #[.int .i64 si, .bool st, .bool aw, .int .i64 ro, .int .i64 ol]
  have hb0 := (Below.refl w.heap.size w).alloc (Nat.le_refl _) (.cells #[.int .i64 si, .bool st, .bool aw, .int .i64 ro, .int .i64 ol] 42)
  have HX := Lib.hid hx
  have HB0 := Lib.hid hb0
  clear hx hb0
  go_enter Try.func9, Try.ntmps9
  go_wp2_with fail
  obtain ⟨W, hW⟩ : ∃ W, w.alloc (.cells #[.int .i64 si, .bool st, .bool aw, .int .i64 ro, .int .i64 ol] 42) = W := ⟨_, rfl⟩
  rw [hW] at HX HB0 ⊢
  clear hW
  have hw := right_word HH.out
  have hn9 : (n : Int) ≤ 268435455 := by have := HHN.out; omega
  have HW1 := Lib.hid (show 0 ≤ 8 * (n : Int) + 4 ∧ 8 * (n : Int) + 4 < 2147483648 by omega)
  have HR2 := Lib.hid (show right si ro (8 * (n : Int) + 4) = true by
    have := HH.out
    unfold right Flags.isWord at *
    rw [decide_eq_true HW1.out]
    simp only [Bool.and_eq_true] at this ⊢
    exact ⟨⟨trivial, this.1.2⟩, this.2⟩)
  have HF2 := Lib.hid (show (Flags.has (8 * (n : Int) + 4) 0 || (Flags.has (8 * (n : Int) + 4) 1 || decide ((8 * (n : Int) + 4) / 8 = 0))) = false by
    rw [(has8 n).1, (has8 n).2.1, (has8 n).2.2.2]
    simp; omega)
  have HN8 := Lib.hid (has8 n).2.2.2
  have HOR := Lib.hid hor
  clear hor
  refine (handed_yes si st aw ro ol _ HH.out HHF.out).mono ?_
  rintro e w1 ⟨rfl, hb1⟩
  have HX1 := Lib.hid (HX.out.below hb1 HX.out.lt)
  have HB1 := Lib.hid (bthen HB0.out (hb1.mono (Nat.le_refl _)))
  obtain ⟨c0, c1, c2, c3, c4⟩ := HX1.out.at5
  have z4 := HX1.out.frozen 4
  have hor := HOR.out
  clear hb1
  go_wp2_with fail
  have HXW : Hid (Blk (w1.setCell ⟨w.heap.size, 4, none⟩ (.int .i64 (8 * n + 4))) w.heap.size 42 #[.int .i64 si, .bool st, .bool aw, .int .i64 ro, .int .i64 (8 * n + 4)]) := HX1.out.set_ 4 _
  have HBW := Lib.hid (HB1.out.setCell (p := ⟨w.heap.size, 4, none⟩) (Nat.le_refl _) (.int .i64 (8 * n + 4)))
  clear c0 c1 c2 c3 c4 z4 hor
  by_cases hd : (!st || decide ((n : Int) = 1)) = true
  · have HD := Lib.hid (show dOf st n = -11 by unfold dOf; rw [if_pos hd])
    have HW2 := Lib.hid (show 0 ≤ 8 * (n : Int) + 4 + -11 ∧ 8 * (n : Int) + 4 + -11 < 2147483648 by omega)
    have HST := Lib.hid (show (st && decide (1 < (n : Int))) = false by
      cases st with
      | false => rfl
      | true =>
        have h1 : (n : Int) = 1 := by simpa using hd
        simp; omega)
    clear hd
    refine (handed_yes si st aw ro (8 * n + 4) _ HR2.out HF2.out).mono ?_
    rintro e w2 ⟨rfl, hb2⟩
    rw [HN8.out, HD.out]
    have HX2 := Lib.hid (HXW.out.below hb2 HXW.out.lt)
    have HB2 := Lib.hid (bthen HBW.out hb2)
    obtain ⟨c0, c1, c2, c3, c4⟩ := HX2.out.at5
    clear hb2
    go_wp2_with fail
    refine (Flags.unpack_yes (8 * n + 4) HW1.out.1 HW1.out.2 _).mono ?_
    rintro e w3 ⟨rfl, hb3⟩
    rw [(has8 n).1, (has8 n).2.1, (has8 n).2.2.1, (has8 n).2.2.2]
    have HX3 := Lib.hid ((HX2.out.below hb3 HX2.out.lt).alloc (.cells #[.bool false, .bool false, .bool true, .int .i64 n] 48))
    have HF3 := Lib.hid (Blk.new w3 48 #[.bool false, .bool false, .bool true, .int .i64 n])
    have HB3 := Lib.hid ((bthen HB2.out hb3).alloc (Nat.le_trans HB2.out.size hb3.size) (.cells #[.bool false, .bool false, .bool true, .int .i64 n] 48))
    have hlt3 := HX3.out.lt
    clear hb3 c0 c1 c2 c3 c4
    obtain ⟨W3, hW3⟩ : ∃ W3, w3.alloc (.cells #[.bool false, .bool false, .bool true, .int .i64 n] 48) = W3 := ⟨_, rfl⟩
    rw [hW3] at HX3 HF3 HB3
    obtain ⟨f, hf⟩ : ∃ f, w3.heap.size = f := ⟨_, rfl⟩
    rw [hf] at HF3
    obtain ⟨c0, c1, c2, c3, c4⟩ := HX3.out.at5
    go_wp2_with fail
    clear hW3 hf hlt3 c0 c1 c2 c3 c4
    refine (Flags.unpack_yes (8 * n + 4 + -11) HW2.out.1 HW2.out.2 _).mono ?_
    rintro e w4 ⟨rfl, hb4⟩
    rw [(has11 n).1, (has11 n).2.1, (has11 n).2.2.1, (has11 n).2.2.2]
    have HX4 := Lib.hid (HX3.out.below hb4 HX3.out.lt)
    have HF4 := Lib.hid (HF3.out.below hb4 HF3.out.lt)
    have HB4 := Lib.hid (bthen HB3.out hb4)
    clear hb4
    go_wp2_with fail
    have HN5 := Blk.new w4 48 #[.bool true, .bool false, .bool false, .int .i64 ((n : Int) - 1)]
    have HX5 := HX4.out.alloc (.cells #[.bool true, .bool false, .bool false, .int .i64 ((n : Int) - 1)] 48)
    have HF5 := HF4.out.alloc (.cells #[.bool true, .bool false, .bool false, .int .i64 ((n : Int) - 1)] 48)
    have HB5 := HB4.out.alloc HB4.out.size (.cells #[.bool true, .bool false, .bool false, .int .i64 ((n : Int) - 1)] 48)
    refine (alive_any _).mono ?_
    rintro e w5 ⟨rfl, hb5⟩
    have HN6 := HN5.below hb5 HN5.lt
    have HX6 := HX5.below hb5 HX5.lt
    have HF6 := HF5.below hb5 HF5.lt
    have HE := Lib.hid (bthen HB5 hb5)
    obtain ⟨g0, g1, g2, g3⟩ := HF6.at4
    obtain ⟨y0, y1, y2, y3, y4⟩ := HX6.at5
    obtain ⟨v0, v1, v2, v3⟩ := HN6.at4
    clear hb5 HN5 HX5 HF5 HB5 HN6 HX6 HF6 y0 y2 y3 y4 g0 g1 g2
    have hst := HST.out
    cases st
    · clear hst
      go_wp2_with fail
      go_ret
      exact ⟨rfl, HE.out⟩
    · have hdn : decide (1 < (n : Int)) = false := by simpa using hst
      have hdn' : decide (1 < n) = false := by rw [← hdn]; exact decide_eq_decide.2 (by omega)
      clear hst
      go_wp2_with fail
      go_ret
      exact ⟨rfl, HE.out⟩
  · have hd' : (!st || decide ((n : Int) = 1)) = false := by simpa using hd
    have HD := Lib.hid (show dOf st n = -7 by unfold dOf; rw [if_neg hd])
    have HW2 := Lib.hid (show 0 ≤ 8 * (n : Int) + 4 + -7 ∧ 8 * (n : Int) + 4 + -7 < 2147483648 by omega)
    have HST := Lib.hid (show (st && decide (1 < (n : Int))) = true by
      simp only [Bool.or_eq_false_iff, Bool.not_eq_false', decide_eq_false_iff_not] at hd'
      rw [hd'.1]
      simp; omega)
    clear hd hd'
    refine (handed_yes si st aw ro (8 * n + 4) _ HR2.out HF2.out).mono ?_
    rintro e w2 ⟨rfl, hb2⟩
    rw [HN8.out, HD.out]
    have HX2 := Lib.hid (HXW.out.below hb2 HXW.out.lt)
    have HB2 := Lib.hid (bthen HBW.out hb2)
    obtain ⟨c0, c1, c2, c3, c4⟩ := HX2.out.at5
    clear hb2
    go_wp2_with fail
    refine (Flags.unpack_yes (8 * n + 4) HW1.out.1 HW1.out.2 _).mono ?_
    rintro e w3 ⟨rfl, hb3⟩
    rw [(has8 n).1, (has8 n).2.1, (has8 n).2.2.1, (has8 n).2.2.2]
    have HX3 := Lib.hid ((HX2.out.below hb3 HX2.out.lt).alloc (.cells #[.bool false, .bool false, .bool true, .int .i64 n] 48))
    have HF3 := Lib.hid (Blk.new w3 48 #[.bool false, .bool false, .bool true, .int .i64 n])
    have HB3 := Lib.hid ((bthen HB2.out hb3).alloc (Nat.le_trans HB2.out.size hb3.size) (.cells #[.bool false, .bool false, .bool true, .int .i64 n] 48))
    have hlt3 := HX3.out.lt
    clear hb3 c0 c1 c2 c3 c4
    obtain ⟨W3, hW3⟩ : ∃ W3, w3.alloc (.cells #[.bool false, .bool false, .bool true, .int .i64 n] 48) = W3 := ⟨_, rfl⟩
    rw [hW3] at HX3 HF3 HB3
    obtain ⟨f, hf⟩ : ∃ f, w3.heap.size = f := ⟨_, rfl⟩
    rw [hf] at HF3
    obtain ⟨c0, c1, c2, c3, c4⟩ := HX3.out.at5
    go_wp2_with fail
    clear hW3 hf hlt3 c0 c1 c2 c3 c4
    refine (Flags.unpack_yes (8 * n + 4 + -7) HW2.out.1 HW2.out.2 _).mono ?_
    rintro e w4 ⟨rfl, hb4⟩
    rw [(has7 n).1, (has7 n).2.1, (has7 n).2.2.1, (has7 n).2.2.2]
    have HX4 := Lib.hid (HX3.out.below hb4 HX3.out.lt)
    have HF4 := Lib.hid (HF3.out.below hb4 HF3.out.lt)
    have HB4 := Lib.hid (bthen HB3.out hb4)
    clear hb4
    go_wp2_with fail
    have HN5 := Blk.new w4 48 #[.bool true, .bool false, .bool true, .int .i64 ((n : Int) - 1)]
    have HX5 := HX4.out.alloc (.cells #[.bool true, .bool false, .bool true, .int .i64 ((n : Int) - 1)] 48)
    have HF5 := HF4.out.alloc (.cells #[.bool true, .bool false, .bool true, .int .i64 ((n : Int) - 1)] 48)
    have HB5 := HB4.out.alloc HB4.out.size (.cells #[.bool true, .bool false, .bool true, .int .i64 ((n : Int) - 1)] 48)
    refine (alive_any _).mono ?_
    rintro e w5 ⟨rfl, hb5⟩
    have HN6 := HN5.below hb5 HN5.lt
    have HX6 := HX5.below hb5 HX5.lt
    have HF6 := HF5.below hb5 HF5.lt
    have HE := Lib.hid (bthen HB5 hb5)
    obtain ⟨g0, g1, g2, g3⟩ := HF6.at4
    obtain ⟨y0, y1, y2, y3, y4⟩ := HX6.at5
    obtain ⟨v0, v1, v2, v3⟩ := HN6.at4
    clear hb5 HN5 HX5 HF5 HB5 HN6 HX6 HF6 y0 y2 y3 y4 g0 g1 g2
    have hst := HST.out
    cases st
    · cases hst
    · have hdn : decide (1 < (n : Int)) = true := by simpa using hst
      have hdn' : decide (1 < n) = true := by rw [← hdn]; exact decide_eq_decide.2 (by omega)
      clear hst
      go_wp2_with fail
      go_ret
      exact ⟨rfl, HE.out⟩
theorem walk (si : Int) (st aw : Bool) (ro ol : Int) (w : World) :
    Calls Try.prog 9 #[.agg #[.int .i64 si, .bool st, .bool aw, .int .i64 ro, .int .i64 ol]] w fun e w' => e = .returned (.bool true) ∧ Below w.heap.size w w' := by
  cases h : right si ro ol with
  | false => exact arg si st aw ro ol w h
  | true =>
    cases hf : (Flags.has ol 0 || (Flags.has ol 1 || decide (ol / 8 = 0))) with
    | true => exact broken si st aw ro ol w h hf
    | false =>
      have hw := right_word h
      have hf' := hf
      simp only [Bool.or_eq_false_iff, decide_eq_false_iff_not] at hf'
      have hwi := word_is hf'.1 hf'.2.1
      obtain ⟨n, hn⟩ : ∃ n : Nat, ol / 8 = n := ⟨(ol / 8).toNat, by omega⟩
      have ho := or4 n (by omega)
      refine yes si st aw ro ol w h n hn (by omega) ?_ hf
      rw [hn] at hwi
      by_cases hs : Flags.has ol 2 = true
      · rw [if_pos hs] at hwi
        rw [hwi]
        have := ho.1
        simpa using this
      · rw [if_neg hs] at hwi
        rw [hwi]
        have := ho.2
        simpa using this
end grabHanded
end Go.Proofs.Ytkjhacbkgnjilaa
