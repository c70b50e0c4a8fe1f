/-
  The walk of OrderJoins.
-/
import Derived.Test.YtkjhacbkgnjilaaOrderAlive
import Derived.Test.YtkjhacbkgnjilaaOrderRefAll
namespace Go.Proofs.Ytkjhacbkgnjilaa
open Go.RowKit
namespace orderJoins
open Sorts
def AllG (n : Nat) (M : List Nat) (w : World) (e : Ending) (w' : World) : Prop := ∃ s0 s1 s2 : Nat, ∃ ec : Int, e = .returned (.tuple #[.agg #[.float .f64 s0, .float .f64 s1, .float .f64 s2], .int .i64 ec]) ∧ (n = 0 → ec = 4) ∧ (0 < n → ec = 0 ∧ Fl.AllOf M s0 s1 s2) ∧ (s0 < 18446744073709551616 ∧ s1 < 18446744073709551616 ∧ s2 < 18446744073709551616) ∧ Below w.heap.size w w'
theorem all_gen (A : Option Addr) (n c : Nat) (M : List Nat) (hn : n ≤ 1000) (hnc : n ≤ c) (hok : okF M) (w : World) (hr : Reads w w.heap.size 1 A n (Fs M)) :
    Calls Try.prog 19 #[.slice A n c] w (AllG n M w) := by
  rcases Nat.eq_zero_or_pos n with h0 | h0
  · subst h0
    exact (all_zero A c w).mono fun e w' ⟨he, hb⟩ => ⟨0, 0, 0, 4, he, fun _ => rfl, fun h => absurd h (by omega), ⟨by omega, by omega, by omega⟩, hb⟩
  · exact (all_any A n c M hn h0 hnc hok w hr).mono fun e w' ⟨s0, s1, s2, he, ha, hl, hb⟩ => ⟨s0, s1, s2, 0, he, fun h => absurd h (by omega), fun _ => ⟨rfl, ha⟩, hl, hb⟩
set_option maxRecDepth 100000 in
set_option maxHeartbeats 8000000 in
theorem walk (A : Option Addr) (n c : Nat) (L : List Nat) (B : Option Addr) (m d : Nat) (K : List Nat) (f : Nat) (w : World) (hokL : okF L) (hrL : Reads w w.heap.size 1 A n (Fs L)) (hcL : n ≤ c ∧ c ≤ maxLen) (hokK : okF K) (hrK : Reads w w.heap.size 1 B m (Fs K)) (hcK : m ≤ d ∧ d ≤ maxLen) (wf : (Lit.float .f64 f).wf = true) :
    Calls Try.prog 7 #[.slice A n c, .slice B m d, .float .f64 f] w fun e w' => e = .returned (.bool true) ∧ Below w.heap.size w w' := by
  obtain ⟨i0, hi0, hz0, hz1, hz2⟩ := info_parts infoF
  have HFL := Lib.hid (Fl.wf_lt wf)
  obtain ⟨N, hN⟩ : ∃ N, min n 60 = N := ⟨_, rfl⟩
  obtain ⟨P, hP⟩ : ∃ P, min m 60 = P := ⟨_, rfl⟩
  have hN60 : N ≤ 60 := by omega
  have hP60 : P ≤ 60 := by omega
  have HRX : Hid (Reads w w.heap.size 1 A N (Fs (L.take N))) := f_take hrL (by omega)
  have HRY : Hid (Reads w w.heap.size 1 B P (Fs (K.take P))) := f_take hrK (by omega)
  have HOX : Hid (okF (L.take N)) := fun x hx => hokL x (List.mem_of_mem_take hx)
  have HOY : Hid (okF (K.take P)) := fun x hx => hokK x (List.mem_of_mem_take hx)
  have hNc : N ≤ c := by omega
  have hPd : P ≤ d := by omega
  obtain ⟨X, hX⟩ : ∃ X, L.take N = X := ⟨_, rfl⟩
  obtain ⟨Y, hY⟩ : ∃ Y, K.take P = Y := ⟨_, rfl⟩
  rw [hX] at HRX HOX
  rw [hY] at HRY HOY
  have HXL := Lib.hid (f_len HRX.out)
  have HYL := Lib.hid (f_len HRY.out)
  have HFX := Lib.hid (few_any A n c hcL.1 w)
  have HFY := Lib.hid (few_any B m d hcK.1 w)
  rw [hN] at HFX
  rw [hP] at HFY
  clear wf hokL hokK hrL hrK hN hP hcL hcK hX hY
  go_enter Try.func7, Try.ntmps7
  go_wp2_with fail
  refine HFX.out.mono ?_
  rintro e w' ⟨rfl, rfl⟩
  go_wp2_with fail
  refine HFY.out.mono ?_
  rintro e w' ⟨rfl, rfl⟩
  go_wp2_with fail
  refine (all_gen A N c X (by omega) hNc HOX.out w HRX.out).mono ?_
  rintro e w1 ⟨x0, x1, x2, xe, rfl, hx4, hx5, hx6, hb1⟩
  have HE1 : Hid ((N = 0 → xe = 4) ∧ (0 < N → xe = 0 ∧ Fl.AllOf X x0 x1 x2) ∧ (x0 < 18446744073709551616 ∧ x1 < 18446744073709551616 ∧ x2 < 18446744073709551616)) := ⟨hx4, hx5, hx6⟩
  obtain ⟨T1, hT1⟩ : ∃ T, w1.heap.size = T := ⟨_, rfl⟩
  have hbl := Blk.new w1 32 #[.float .f64 x0, .float .f64 x1, .float .f64 x2]
  rw [hT1] at hbl
  have HBL1 := Lib.hid hbl
  have HB1 := Lib.hid (bthen hb1 ((Below.refl w1.heap.size w1).alloc (Nat.le_refl _) (.cells #[.float .f64 x0, .float .f64 x1, .float .f64 x2] 32)))
  clear hx4 hx5 hx6 hb1 hbl
  go_wp2_with fail
  obtain ⟨w2, hw2⟩ : ∃ w2, w1.alloc (.cells #[.float .f64 x0, .float .f64 x1, .float .f64 x2] 32) = w2 := ⟨_, rfl⟩
  rw [hw2] at HBL1 HB1 ⊢
  clear hw2 hT1
  refine (all_gen B P d Y (by omega) hPd HOY.out w2 ((HRY.out.below HB1.out).more HB1.out.size)).mono ?_
  rintro e w3 ⟨y0, y1, y2, ye, rfl, hy4, hy5, hy6, hb2⟩
  have HE2 : Hid ((P = 0 → ye = 4) ∧ (0 < P → ye = 0 ∧ Fl.AllOf Y y0 y1 y2) ∧ (y0 < 18446744073709551616 ∧ y1 < 18446744073709551616 ∧ y2 < 18446744073709551616)) := ⟨hy4, hy5, hy6⟩
  obtain ⟨T2, hT2⟩ : ∃ T, w3.heap.size = T := ⟨_, rfl⟩
  have hbl := Blk.new w3 32 #[.float .f64 y0, .float .f64 y1, .float .f64 y2]
  rw [hT2] at hbl
  have HBL2 := Lib.hid hbl
  have HB2 := Lib.hid (bthen hb2 ((Below.refl w3.heap.size w3).alloc (Nat.le_refl _) (.cells #[.float .f64 y0, .float .f64 y1, .float .f64 y2] 32)))
  clear hy4 hy5 hy6 hb2 hbl
  go_upto_region 4 with fail
  obtain ⟨w4, hw4⟩ : ∃ w4, w3.alloc (.cells #[.float .f64 y0, .float .f64 y1, .float .f64 y2] 32) = w4 := ⟨_, rfl⟩
  rw [hw4] at HBL2 HB2 ⊢
  clear hw4 hT2
  have HB4 := Lib.hid (bthen HB1.out HB2.out)
  have HX4 := Lib.hid (((HRX.out.below HB4.out).more HB4.out.size).alloc (Nat.le_refl _) (.cells #[] 22))
  have HY4 := Lib.hid ((HRY.out.below HB4.out).more HB4.out.size)
  have HBE := Lib.hid ((Below.refl w4.heap.size w4).alloc (Nat.le_refl _) (.cells #[] 22))
  have HEW := Lib.hid (own_empty w4 w4.heap.size 22 1 (Nat.le_refl _))
  have HBL1' := Lib.hid (HBL1.out.below HB2.out HBL1.out.lt)
  clear HBL1
  go_wp2_with (first
    | (at_builtin; refine wpList_append_any _ rfl _ _ 29 rfl _ 22 i0 (.float .f64 0) 1 8 Try.underlying29 hi0 hz0 hz1 hz2 rfl (by decide) _ _ _ rfl HEW.out _ _ _ _ _ rfl HX4.out (one_fs _) ?c3 ?c4 ?c5 ?_)
    | go_in)
  case c3 => simp [maxLen]; omega
  case c4 => omega
  case c5 => simp
  intro v1 w5 ho1 hg1 _
  have hb5 : Below w4.heap.size w4 w5 := HBE.out.grown hg1 HBE.out.size (fun g hg => Nat.le_of_eq (Option.some.inj (show some w4.heap.size = some g from hg)))
  have HO1 : Hid (w5.ownsRow w4.heap.size 22 1 v1 N (Fs X)) := ho1
  have HB5 := Lib.hid hb5
  have HY5 := Lib.hid (HY4.out.below hb5)
  clear ho1 hg1 hb5
  go_wp2_with (first
    | (at_builtin; refine wpList_append_any _ rfl _ _ 29 rfl _ 22 i0 (.float .f64 0) 1 8 Try.underlying29 hi0 hz0 hz1 hz2 rfl (by decide) _ _ _ rfl HO1.out _ _ _ _ _ rfl HY5.out (one_fs _) ?c3 ?c4 ?c5 ?_)
    | go_in)
  case c3 => simp [maxLen]; omega
  case c4 => omega
  case c5 => exact HB5.out.size
  intro v2 w6 ho2 hg2 _
  have hb6 : Below w4.heap.size w4 w6 := HB5.out.grown hg2 HB5.out.size (own_ge HO1.out)
  have ho2' : w6.ownsRow w4.heap.size 22 1 v2 (N + P) (Fs (X ++ Y)) := by rw [show Fs (X ++ Y) = Fs X ++ Fs Y from List.map_append]; exact ho2
  obtain ⟨A2, c2, rfl, hc2, _, hr2⟩ := own_sl ho2'
  have HR2 := Lib.hid hr2
  have HB6 := Lib.hid hb6
  have HOXY : Hid (okF (X ++ Y)) := fun x hx => (List.mem_append.1 hx).elim (HOX.out x) (HOY.out x)
  clear ho2 hg2 ho2' hb6 hr2
  go_wp2_with fail
  refine (all_gen A2 (N + P) c2 (X ++ Y) (by omega) hc2 HOXY.out w6 HR2.out).mono ?_
  rintro e w7 ⟨z0, z1, z2, ze, rfl, hz4, hz5, hz6, hb7⟩
  have HE3 : Hid ((N + P = 0 → ze = 4) ∧ (0 < N + P → ze = 0 ∧ Fl.AllOf (X ++ Y) z0 z1 z2)) := ⟨hz4, hz5⟩
  obtain ⟨T3, hT3⟩ : ∃ T, w7.heap.size = T := ⟨_, rfl⟩
  have hbl := Blk.new w7 32 #[.float .f64 z0, .float .f64 z1, .float .f64 z2]
  rw [hT3] at hbl
  have HBL3 := Lib.hid hbl
  have HB7 := Lib.hid (bthen (bthen HB6.out hb7) ((Below.refl w7.heap.size w7).alloc (Nat.le_refl _) (.cells #[.float .f64 z0, .float .f64 z1, .float .f64 z2] 32)))
  clear hz4 hz5 hz6 hb7 hbl
  go_upto_region 5 with fail
  obtain ⟨w8, hw8⟩ : ∃ w8, w7.alloc (.cells #[.float .f64 z0, .float .f64 z1, .float .f64 z2] 32) = w8 := ⟨_, rfl⟩
  rw [hw8] at HBL3 HB7 ⊢
  clear hw8 hT3
  have HB8 := Lib.hid (bthen HB4.out HB7.out)
  have HBL1 := Lib.hid (HBL1'.out.below HB7.out HBL1'.out.lt)
  have HBL2' := Lib.hid (HBL2.out.below HB7.out HBL2.out.lt)
  clear HBL1' HBL2 HB7
  have hcase : N = 0 ∧ P = 0 ∨ N = 0 ∧ 0 < P ∨ 0 < N ∧ P = 0 ∨ 0 < N ∧ 0 < P := by omega
  rcases hcase with ⟨hN0, hP0⟩ | ⟨hN0, hP0⟩ | ⟨hN0, hP0⟩ | ⟨hN0, hP0⟩
  case' inl =>
    have dN : ((N : Int) == 0) = true := by rw [hN0]; rfl
    have dP : ((P : Int) == 0) = true := by rw [hP0]; rfl
    have dN2 : decide ((0 : Int) < N) = false := decide_eq_false (by omega)
    have dP2 : decide ((0 : Int) < P) = false := decide_eq_false (by omega)
    obtain rfl := HE1.out.1 hN0
    obtain rfl := HE2.out.1 hP0
  case' inr.inl =>
    have dN : ((N : Int) == 0) = true := by rw [hN0]; rfl
    have dP : ((P : Int) == 0) = false := by simp; omega
    have dN2 : decide ((0 : Int) < N) = false := decide_eq_false (by omega)
    have dP2 : decide ((0 : Int) < P) = true := decide_eq_true (by omega)
    obtain rfl := HE1.out.1 hN0
    obtain rfl := (HE2.out.2.1 hP0).1
  case' inr.inr.inl =>
    have dN : ((N : Int) == 0) = false := by simp; omega
    have dP : ((P : Int) == 0) = true := by rw [hP0]; rfl
    have dN2 : decide ((0 : Int) < N) = true := decide_eq_true (by omega)
    have dP2 : decide ((0 : Int) < P) = false := decide_eq_false (by omega)
    obtain rfl := (HE1.out.2.1 hN0).1
    obtain rfl := HE2.out.1 hP0
  case' inr.inr.inr =>
    have dN : ((N : Int) == 0) = false := by simp; omega
    have dP : ((P : Int) == 0) = false := by simp; omega
    have dN2 : decide ((0 : Int) < N) = true := decide_eq_true (by omega)
    have dP2 : decide ((0 : Int) < P) = true := decide_eq_true (by omega)
    obtain ⟨rfl, hax⟩ := HE1.out.2.1 hN0
    obtain ⟨rfl, hay⟩ := HE2.out.2.1 hP0
    obtain ⟨rfl, haz⟩ := HE3.out.2 (by omega)
    have HAX := Lib.hid hax
    have HMIN := Lib.hid (Fl.alike_of (Fl.allOf_least hax hay haz))
    have HMAX := Lib.hid (Fl.alike_of (Fl.allOf_greatest hax hay haz))
    have HNP : Hid (0 < N) := hN0
    clear hax hay haz hN0 hP0
  case inr.inr.inr =>
    obtain ⟨a0, a1, a2⟩ := HBL1.out.at3
    obtain ⟨b0, b1, b2⟩ := HBL2'.out.at3
    have hLX := HE1.out.2.2
    have hLY := HE2.out.2.2
    have HLT : Hid (x0 < 18446744073709551616 ∧ x1 < 18446744073709551616 ∧ y0 < 18446744073709551616 ∧ y1 < 18446744073709551616) := ⟨hLX.1, hLX.2.1, hLY.1, hLY.2.1⟩
    clear HE1 HE2 HE3 hLX hLY
    have HA : Hid (w8.drew.cell? ⟨T2, 0, none⟩ = some (.float .f64 y0) ∧ w8.drew.cell? ⟨T2, 1, none⟩ = some (.float .f64 y1)) := ⟨b0, b1⟩
    go_wp2_with fail
    go_region
    clear a0 a1 a2 b2
    cases h1 : Fl.ahead y0 x0 <;> cases h2 : Fl.ahead x1 y1 <;> rw [h1] at HMIN <;> rw [h2] at HMAX <;> simp only [Bool.false_eq_true, if_false, if_true] at HMIN HMAX
    all_goals
      have H1 := Lib.hid h1
      have H2 := Lib.hid h2
      clear h1 h2
      go_wp2_with fail
      refine (Order.ahead_ y0 x0 HLT.out.2.2.1 HLT.out.1 _).mono ?_
      rintro e w' ⟨rfl, rfl⟩
      rw [H1.out]
      go_wp2_with fail
      refine (Order.ahead_ x1 y1 HLT.out.2.1 HLT.out.2.2.2 _).mono ?_
      rintro e w' ⟨rfl, rfl⟩
      rw [H2.out]
      go_upto_region 12 with fail
      have hb9 := HB8.out.drew
      have hl1 := HBL1.out.drew
      have hl3 := HBL3.out.drew
      obtain ⟨w9, hw9⟩ : ∃ w9, w8.drew = w9 := ⟨_, rfl⟩
      rw [hw9] at hb9 hl1 hl3 ⊢
      have HB9 := Lib.hid hb9
      have HL1 := Lib.hid hl1
      have HL3 := Lib.hid hl3
      clear hw9 hb9 hl1 hl3 b0 b1
      have HX9 := Lib.hid (((HRX.out.below HB9.out).more HB9.out.size).alloc (Nat.le_refl _) (.cells #[] 22))
      have HBE9 := Lib.hid ((Below.refl w9.heap.size w9).alloc (Nat.le_refl _) (.cells #[] 22))
      have HEW9 := Lib.hid (own_empty w9 w9.heap.size 22 1 (Nat.le_refl _))
      go_wp2_with (first
        | (at_builtin; refine wpList_append_any _ rfl _ _ 29 rfl _ 22 i0 (.float .f64 0) 1 8 Try.underlying29 hi0 hz0 hz1 hz2 rfl (by decide) _ _ _ rfl HEW9.out _ _ _ _ _ rfl HX9.out (one_fs _) ?c3 ?c4 ?c5 ?_)
        | go_in)
      case c3 => simp [maxLen]; omega
      case c4 => omega
      case c5 => simp
      intro v3 w10 ho1 hg1 _
      have hb10 : Below w9.heap.size w9 w10 := HBE9.out.grown hg1 HBE9.out.size (fun g hg => Nat.le_of_eq (Option.some.inj (show some w9.heap.size = some g from hg)))
      have HO3 : Hid ((w10.alloc (.cells #[.float .f64 f] 22)).ownsRow w9.heap.size 22 1 v3 N (Fs X)) := own_same (show w10.ownsRow w9.heap.size 22 1 v3 N (Fs X) from ho1) ((Below.refl _ _).alloc (Nat.le_refl _) (.cells #[.float .f64 f] 22))
      have HB10 := Lib.hid (hb10.alloc hb10.size (.cells #[.float .f64 f] 22))
      have HRF : Hid (Reads (w10.alloc (.cells #[.float .f64 f] 22)) (w10.alloc (.cells #[.float .f64 f] 22)).heap.size 1 (some ⟨w10.heap.size, 0, none⟩) 1 (Fs [f])) := Reads.of_blk (Blk.new w10 22 #[.float .f64 f]) rfl
      clear ho1 hg1 hb10
      go_wp2_with (first
        | (at_builtin; refine wpList_append_any _ rfl _ _ 29 rfl _ 22 i0 (.float .f64 0) 1 8 Try.underlying29 hi0 hz0 hz1 hz2 rfl (by decide) _ _ _ rfl HO3.out _ _ _ _ _ rfl HRF.out (one_fs _) ?c3 ?c4 ?c5 ?_)
        | go_in)
      case c3 => simp [maxLen]; omega
      case c4 => omega
      case c5 => exact HB10.out.size
      intro v4 w11 ho2 hg2 _
      have hb11 : Below w9.heap.size w9 w11 := HB10.out.grown hg2 HB10.out.size (own_ge HO3.out)
      have ho2' : w11.ownsRow w9.heap.size 22 1 v4 (N + 1) (Fs (X ++ [f])) := by rw [show Fs (X ++ [f]) = Fs X ++ Fs [f] from List.map_append]; exact ho2
      obtain ⟨A4, c4, rfl, hc4, _, hr4⟩ := own_sl ho2'
      have HR4 := Lib.hid hr4
      have HB11 := Lib.hid hb11
      have HOXF : Hid (okF (X ++ [f])) := fun x hx => (List.mem_append.1 hx).elim (HOX.out x) (fun h => by rw [List.mem_singleton.1 h]; exact HFL.out)
      clear ho2 hg2 ho2' hb11 hr4
      go_wp2_with fail
      refine (all_gen A4 (N + 1) c4 (X ++ [f]) (by omega) hc4 HOXF.out w11 HR4.out).mono ?_
      rintro e w12 ⟨q0, q1, q2, qe, rfl, _, hq5, _, hb12⟩
      obtain ⟨rfl, hq6⟩ := hq5 (by omega)
      have HAQ := Lib.hid hq6
      obtain ⟨T4, hT4⟩ : ∃ T, w12.heap.size = T := ⟨_, rfl⟩
      have hbl := Blk.new w12 32 #[.float .f64 q0, .float .f64 q1, .float .f64 q2]
      rw [hT4] at hbl
      have HBL4 := Lib.hid hbl
      have HB12 := Lib.hid (bthen (bthen HB11.out hb12) ((Below.refl w12.heap.size w12).alloc (Nat.le_refl _) (.cells #[.float .f64 q0, .float .f64 q1, .float .f64 q2] 32)))
      clear hq5 hq6 hb12 hbl
      go_wp2_with fail
      obtain ⟨w13, hw13⟩ : ∃ w13, w12.alloc (.cells #[.float .f64 q0, .float .f64 q1, .float .f64 q2] 32) = w13 := ⟨_, rfl⟩
      rw [hw13] at HBL4 HB12 ⊢
      clear hw13 hT4
      refine (Order.alive _).mono ?_
      rintro e w14 ⟨rfl, hb14⟩
      have HB14 := Lib.hid (bthen HB12.out hb14)
      have HBZ := Lib.hid (bthen HB9.out HB14.out)
      obtain ⟨_, _, k2⟩ := (HL1.out.below HB14.out HL1.out.lt).at3
      obtain ⟨m0, m1, _⟩ := (HL3.out.below HB14.out HL3.out.lt).at3
      obtain ⟨_, _, n2⟩ := (HBL4.out.below hb14 HBL4.out.lt).at3
      clear hb14
      go_wp2_with fail
      refine (OrderRef.alike_ z0 _ _).mono ?_
      rintro e w' ⟨rfl, rfl⟩
      rw [HMIN.out]
      go_wp2_with fail
      refine (OrderRef.alike_ z1 _ _).mono ?_
      rintro e w' ⟨rfl, rfl⟩
      rw [HMAX.out]
      have hX0 : X ≠ [] := fun e => by have h1 := HXL.out; have h2 := HNP.out; rw [e] at h1; simp at h1; omega
      cases hfb : floatBits .add .f64 x2 f with
      | some q =>
        have hd : ∀ w, (binOp .add 22 (.float .f64 x2) (.float .f64 f)).run Try.prog w = .ok (.float .f64 q) w := fun w => run_float_arith w .add _ .f64 _ _ _ hfb
        have HSM := Lib.hid (Fl.alike_of (Fl.allOf_more hX0 HAX.out HAQ.out (Fl.addOf_some hfb)))
        clear hfb hX0
        go_wp2_with fail
        refine (OrderRef.alike_ q2 _ _).mono ?_
        rintro e w' ⟨rfl, rfl⟩
        rw [HSM.out]
        go_wp2_with fail
        go_ret
        exact ⟨rfl, HBZ.out⟩
      | none =>
        obtain ⟨k, hd⟩ := Fl.run_nan Try.prog .add (.inr rfl) 22 x2 f hfb w14
        have HSM := Lib.hid (Fl.alike_of (Fl.allOf_more hX0 HAX.out HAQ.out (Fl.addOf_none hfb k)))
        clear hfb hX0
        go_wp2_with fail
        refine (OrderRef.alike_ q2 _ _).mono ?_
        rintro e w' ⟨rfl, rfl⟩
        rw [HSM.out]
        go_wp2_with fail
        go_ret
        exact ⟨rfl, HBZ.out.drew⟩
  all_goals
    go_wp2_with fail
    refine (Order.alive _).mono ?_
    rintro e w9 ⟨rfl, hb9⟩
    have HB9 := Lib.hid (bthen HB8.out hb9)
    clear hb9
    go_wp2_with fail
    go_ret
    exact ⟨rfl, HB9.out⟩
end orderJoins
end Go.Proofs.Ytkjhacbkgnjilaa
