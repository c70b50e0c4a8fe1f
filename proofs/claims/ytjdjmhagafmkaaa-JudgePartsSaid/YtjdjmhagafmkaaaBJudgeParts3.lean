/-
  Texts of this claim, one behind the other: PXyjudgePartsa.
-/
import Derived.Test.YtjdjmhagafmkaaaBJudgeParts2
namespace Go.Proofs.Ytjdjmhagafmkaaa.PX
open Go.RowKit Go.Proofs.YtjdjmhagafmkaaaW.PrintWords Go.Proofs.YtjdjmhagafmkaaaW.PrintLast Go.Proofs.YtjdjmhagafmkaaaW.PrintMore
attribute [local go_sem] max2_int min2_int max_two min_two max_three min_three max_four min_four   -- for this text's walks alone
set_option linter.unusedVariables false
set_option linter.unusedSimpArgs false

/-! ### judgeParts_a: function 3 -/
mutual
def judgeParts_a.j0 : Nat → List (S33) → Int → Int → Int → Int → Bool → Option (Bool)
  | 0, _, _, _, _, _, _ => none
  | k + 1, x0, x1, x2, x3, x9, x33 => if x33 = true then (none) else (if (wrap64 ((x0.length : Int) + 1)) = 0 then (none) else (if 0 ≤ (Int.tmod (wrap64 ((wrap64 ((Int.tmod x1 (wrap64 ((x0.length : Int) + 1))) + (x0.length : Int))) + 1)) (wrap64 ((x0.length : Int) + 1))) then (if (Int.tmod (wrap64 ((wrap64 ((Int.tmod x1 (wrap64 ((x0.length : Int) + 1))) + (x0.length : Int))) + 1)) (wrap64 ((x0.length : Int) + 1))) ≤ (x0.length : Int) then ((judge_Wrong.f (x0.take ((Int.tmod (wrap64 ((wrap64 ((Int.tmod x1 (wrap64 ((x0.length : Int) + 1))) + (x0.length : Int))) + 1)) (wrap64 ((x0.length : Int) + 1))) : Int).toNat)).bind fun t120 => (if x9 ≥ 0 then (if (Int.tmod (wrap64 ((wrap64 ((Int.tmod x1 (wrap64 ((x0.length : Int) + 1))) + (x0.length : Int))) + 1)) (wrap64 ((x0.length : Int) + 1))) > x9 then (if t120 = x9 then (if x9 < 0 then (judgeParts_a.j1 k x0 x2 x3 x9 (t120 != (-1))) else (if (Int.tmod (wrap64 ((wrap64 ((Int.tmod x1 (wrap64 ((x0.length : Int) + 1))) + (x0.length : Int))) + 1)) (wrap64 ((x0.length : Int) + 1))) ≤ x9 then (judgeParts_a.j1 k x0 x2 x3 x9 (t120 != (-1))) else (judgeParts_a.j1 k x0 x2 x3 x9 false))) else (none)) else (if x9 < 0 then (judgeParts_a.j1 k x0 x2 x3 x9 (t120 != (-1))) else (if (Int.tmod (wrap64 ((wrap64 ((Int.tmod x1 (wrap64 ((x0.length : Int) + 1))) + (x0.length : Int))) + 1)) (wrap64 ((x0.length : Int) + 1))) ≤ x9 then (judgeParts_a.j1 k x0 x2 x3 x9 (t120 != (-1))) else (judgeParts_a.j1 k x0 x2 x3 x9 false)))) else (if x9 < 0 then (judgeParts_a.j1 k x0 x2 x3 x9 (t120 != (-1))) else (if (Int.tmod (wrap64 ((wrap64 ((Int.tmod x1 (wrap64 ((x0.length : Int) + 1))) + (x0.length : Int))) + 1)) (wrap64 ((x0.length : Int) + 1))) ≤ x9 then (judgeParts_a.j1 k x0 x2 x3 x9 (t120 != (-1))) else (judgeParts_a.j1 k x0 x2 x3 x9 false))))) else (none)) else (none)))
def judgeParts_a.j1 : Nat → List (S33) → Int → Int → Int → Bool → Option (Bool)
  | 0, _, _, _, _, _ => none
  | k + 1, x0, x2, x3, x9, x75 => if x75 = true then (none) else (if x9 ≥ 0 then (some true) else ((judge_Held.f x0).bind fun bt121 => (if bt121.2 = 0 then (judgeParts_a.j2 k x0 (Int.tmod (wrap64 ((Int.tmod x2 8) + 8)) 8) (Int.tmod (wrap64 ((Int.tmod x3 4) + 4)) 4) bt121.1 ((bt121.1.length : Int) != 4)) else (none))))
def judgeParts_a.j2 : Nat → List (S33) → Int → Int → List Int → Bool → Option (Bool)
  | 0, _, _, _, _, _ => none
  | k + 1, x0, x2, x3, x11, x97 => if x97 = true then (none) else (if (x0.length : Int) > 0 then (if 0 ≤ (wrap64 ((x0.length : Int) - 1)) then (if (wrap64 ((x0.length : Int) - 1)) < (x0.length : Int) then (if ((rd_T33 x0 (wrap64 ((x0.length : Int) - 1))).f2.f1) = 4 then (if (([] : List (S33))).length + x0.length < 3518437208883 then (none) else (none)) else (judgeParts_a.j3 k x0 x2 x3 x11 ((rd_T33 x0 (wrap64 ((x0.length : Int) - 1))).f0) ((rd_T33 x0 (wrap64 ((x0.length : Int) - 1))).f1) x2 0 x3)) else (none)) else (none)) else (judgeParts_a.j3 k x0 x2 x3 x11 0 0 x2 0 x3))
def judgeParts_a.j3 : Nat → List (S33) → Int → Int → List Int → Int → Int → Int → Int → Int → Option (Bool)
  | 0, _, _, _, _, _, _, _, _, _ => none
  | k + 1, x0, x2, x3, x11, x126000, x126001, x126002, x126003, x126004 => (some (([] : List (S33)) : List (S33))).bind fun y135 => (if y135.length + x0.length < 3518437208883 then ((some (y135 ++ x0 : List (S33))).bind fun y138 => ((some (([(⟨x126000, x126001, (⟨x126002, x126003, x126004⟩ : S31)⟩ : S33)] : List (S33)) : List (S33))).bind fun y141 => (if y138.length + y141.length < 3518437208883 then ((some (y138 ++ y141 : List (S33))).bind fun y144 => (if 0 ≤ x3 then (if x3 < (x11.length : Int) then (if (rd x11 x3) = (-1) then ((judge_Held.f y144).bind fun bt148 => ((judge_Wrong.f y144).bind fun t152 => (if t152 = (-1) then (if bt148.2 = 0 then (if (bt148.1.length : Int) = 4 then (if x3 < (bt148.1.length : Int) then (some ((rd bt148.1 x3) == x2)) else (none)) else (none)) else (none)) else (none)))) else ((judge_Wrong.f y144).bind fun t154 => (some (t154 == (x0.length : Int))))) else (none)) else (none))) else (none)))) else (none))
end
def judgeParts_a.f (k : Nat) (l0 : List (S33)) (a1 : Int) (a2 : Int) (a3 : Int) : Option (Bool) := (deadboltlaw18_few.f l0).bind fun t111 => ((judge_Wrong.f t111).bind fun t114 => (if t114 < (-1) then (none) else (if t114 ≥ (t111.length : Int) then (none) else ((deadboltlaw18_alive.f).bind fun t115 => (judgeParts_a.j0 k t111 a1 a2 a3 t114 (!t115))))))
theorem judgeParts_a.mono_l : ∀ k, (∀ y0 y1 y2 y3 y4 y5, LeO (judgeParts_a.j0 k y0 y1 y2 y3 y4 y5) (judgeParts_a.j0 (k + 1) y0 y1 y2 y3 y4 y5)) ∧ (∀ y0 y1 y2 y3 y4, LeO (judgeParts_a.j1 k y0 y1 y2 y3 y4) (judgeParts_a.j1 (k + 1) y0 y1 y2 y3 y4)) ∧ (∀ y0 y1 y2 y3 y4, LeO (judgeParts_a.j2 k y0 y1 y2 y3 y4) (judgeParts_a.j2 (k + 1) y0 y1 y2 y3 y4)) ∧ (∀ y0 y1 y2 y3 y4 y5 y6 y7 y8, LeO (judgeParts_a.j3 k y0 y1 y2 y3 y4 y5 y6 y7 y8) (judgeParts_a.j3 (k + 1) y0 y1 y2 y3 y4 y5 y6 y7 y8))
  | 0 => ⟨fun _ _ _ _ _ _ r h => by simp [judgeParts_a.j0] at h, fun _ _ _ _ _ r h => by simp [judgeParts_a.j1] at h, fun _ _ _ _ _ r h => by simp [judgeParts_a.j2] at h, fun _ _ _ _ _ _ _ _ _ r h => by simp [judgeParts_a.j3] at h⟩
  | k + 1 => by
    obtain ⟨ih0, ih1, ih2, ih3⟩ := judgeParts_a.mono_l k
    refine ⟨?_, ?_, ?_, ?_⟩
    · intro y0 y1 y2 y3 y4 y5
      unfold judgeParts_a.j0
      repeat' first
      | (with_reducible exact ih0 _ _ _ _ _ _)
      | (with_reducible exact ih1 _ _ _ _ _)
      | (with_reducible exact ih2 _ _ _ _ _)
      | (with_reducible exact ih3 _ _ _ _ _ _ _ _ _)
      | (with_reducible exact LeO.refl _)
      | (with_reducible exact LeO.none _)
      | (with_reducible refine LeO.ite ?_ ?_)
      | (with_reducible refine LeO.bind ?_ (fun _ => ?_))
      | exact ih0 _ _ _ _ _ _
      | exact ih1 _ _ _ _ _
      | exact ih2 _ _ _ _ _
      | exact ih3 _ _ _ _ _ _ _ _ _
      | exact LeO.none _
      | refine LeO.ite ?_ ?_
      | refine LeO.bind ?_ (fun _ => ?_)
    · intro y0 y1 y2 y3 y4
      unfold judgeParts_a.j1
      repeat' first
      | (with_reducible exact ih0 _ _ _ _ _ _)
      | (with_reducible exact ih1 _ _ _ _ _)
      | (with_reducible exact ih2 _ _ _ _ _)
      | (with_reducible exact ih3 _ _ _ _ _ _ _ _ _)
      | (with_reducible exact LeO.refl _)
      | (with_reducible exact LeO.none _)
      | (with_reducible refine LeO.ite ?_ ?_)
      | (with_reducible refine LeO.bind ?_ (fun _ => ?_))
      | exact ih0 _ _ _ _ _ _
      | exact ih1 _ _ _ _ _
      | exact ih2 _ _ _ _ _
      | exact ih3 _ _ _ _ _ _ _ _ _
      | exact LeO.none _
      | refine LeO.ite ?_ ?_
      | refine LeO.bind ?_ (fun _ => ?_)
    · intro y0 y1 y2 y3 y4
      unfold judgeParts_a.j2
      repeat' first
      | (with_reducible exact ih0 _ _ _ _ _ _)
      | (with_reducible exact ih1 _ _ _ _ _)
      | (with_reducible exact ih2 _ _ _ _ _)
      | (with_reducible exact ih3 _ _ _ _ _ _ _ _ _)
      | (with_reducible exact LeO.refl _)
      | (with_reducible exact LeO.none _)
      | (with_reducible refine LeO.ite ?_ ?_)
      | (with_reducible refine LeO.bind ?_ (fun _ => ?_))
      | exact ih0 _ _ _ _ _ _
      | exact ih1 _ _ _ _ _
      | exact ih2 _ _ _ _ _
      | exact ih3 _ _ _ _ _ _ _ _ _
      | exact LeO.none _
      | refine LeO.ite ?_ ?_
      | refine LeO.bind ?_ (fun _ => ?_)
    · intro y0 y1 y2 y3 y4 y5 y6 y7 y8
      unfold judgeParts_a.j3
      repeat' first
      | (with_reducible exact ih0 _ _ _ _ _ _)
      | (with_reducible exact ih1 _ _ _ _ _)
      | (with_reducible exact ih2 _ _ _ _ _)
      | (with_reducible exact ih3 _ _ _ _ _ _ _ _ _)
      | (with_reducible exact LeO.refl _)
      | (with_reducible exact LeO.none _)
      | (with_reducible refine LeO.ite ?_ ?_)
      | (with_reducible refine LeO.bind ?_ (fun _ => ?_))
      | exact ih0 _ _ _ _ _ _
      | exact ih1 _ _ _ _ _
      | exact ih2 _ _ _ _ _
      | exact ih3 _ _ _ _ _ _ _ _ _
      | exact LeO.none _
      | refine LeO.ite ?_ ?_
      | refine LeO.bind ?_ (fun _ => ?_)
theorem judgeParts_a.mono : ∀ a0 a1 a2 a3 k, LeO (judgeParts_a.f k a0 a1 a2 a3) (judgeParts_a.f (k + 1) a0 a1 a2 a3) := by
  intro a0 a1 a2 a3 k
  obtain ⟨ih0, ih1, ih2, ih3⟩ := judgeParts_a.mono_l k
  unfold judgeParts_a.f
  repeat' first
      | (with_reducible exact ih0 _ _ _ _ _ _)
      | (with_reducible exact ih1 _ _ _ _ _)
      | (with_reducible exact ih2 _ _ _ _ _)
      | (with_reducible exact ih3 _ _ _ _ _ _ _ _ _)
      | (with_reducible exact LeO.refl _)
      | (with_reducible exact LeO.none _)
      | (with_reducible refine LeO.ite ?_ ?_)
      | (with_reducible refine LeO.bind ?_ (fun _ => ?_))
      | exact ih0 _ _ _ _ _ _
      | exact ih1 _ _ _ _ _
      | exact ih2 _ _ _ _ _
      | exact ih3 _ _ _ _ _ _ _ _ _
      | exact LeO.none _
      | refine LeO.ite ?_ ?_
      | refine LeO.bind ?_ (fun _ => ?_)
def judgeParts_a.T18 : Bool × List (List Nat × List Nat) := (true, [([], []), ([], []), ([1], [1]), ([0, 2], [0, 2]), ([3], [3]), ([4], [4]), ([], []), ([], []), ([7], [7]), ([6, 8], [6, 8]), ([9], [9]), ([10], [10]), ([0, 1, 2, 3, 4, 5], []), ([12, 5, 0, 1, 2, 3, 4, 5], [5, 12]), ([0, 1, 2, 3, 4, 5, 6, 7, 8, 9, 10, 11, 12, 13], []), ([14, 11, 13, 0, 1, 2, 3, 4, 5, 6, 7, 8, 9, 10, 11, 12, 13], [11, 14])])
def judgeParts_a.B18 : List Nat := [0, 0, 2, 7, 15, 31, 0, 0, 128, 448, 960, 1984, 63, 4159, 16383, 32767]
theorem judgeParts_a.tab18 : rtab .any (opsOf Try.f3 18) = judgeParts_a.T18 := by kernel_rfl
theorem judgeParts_a.bits18 : waitsOk judgeParts_a.T18.2 judgeParts_a.B18 = true := by kernel_rfl
set_option maxHeartbeats 8000000 in
set_option maxRecDepth 100000 in
theorem judgeParts_a.calls (k : Nat) (A0 : Option Addr) (c0 : Nat) (l0 : List (S33)) (a1 : Int) (a2 : Int) (a3 : Int) (r : Bool) (w : World) (hr0 : Kd.C k33 w A0 l0.length l0) (hc0 : l0.length ≤ c0) (h : judgeParts_a.f k l0 a1 a2 a3 = some r) :
    Calls Try.prog 3 #[.slice A0 l0.length c0, .int .i64 a1, .int .i64 a2, .int .i64 a3] w fun e w' => e = .returned (.bool r) ∧ Below w.heap.size w w' := by
  have hu31 := Try.underlying31
  have hu33 := Try.underlying33
  have HR0 := Aside0.mk hr0
  have HC0 := Aside0.mk hc0
  clear hr0 hc0
  have HB := Aside0.mk (Below.refl w.heap.size w)
  have H : ((deadboltlaw18_few.f l0).bind fun t111 => ((judge_Wrong.f t111).bind fun t114 => (if t114 < (-1) then (none) else (if t114 ≥ (t111.length : Int) then (none) else ((deadboltlaw18_alive.f).bind fun t115 => (judgeParts_a.j0 k t111 a1 a2 a3 t114 (!t115))))))) = some r := h
  clear h
  replace H := Option.bind_eq_some_iff.mp H
  obtain ⟨t111, A50, H⟩ := H
  replace H : ((judge_Wrong.f t111).bind fun t114 => (if t114 < (-1) then (none) else (if t114 ≥ (t111.length : Int) then (none) else ((deadboltlaw18_alive.f).bind fun t115 => (judgeParts_a.j0 k t111 a1 a2 a3 t114 (!t115)))))) = some r := H
  have A5 := Aside0.mk A50
  clear A50
  replace H := Option.bind_eq_some_iff.mp H
  obtain ⟨t114, A60, H⟩ := H
  replace H : (if t114 < (-1) then (none) else (if t114 ≥ (t111.length : Int) then (none) else ((deadboltlaw18_alive.f).bind fun t115 => (judgeParts_a.j0 k t111 a1 a2 a3 t114 (!t115))))) = some r := H
  have A6 := Aside0.mk A60
  clear A60
  have HC7 := Aside0.mk H
  clear H
  go_enter Try.func3, Try.ntmps3
  go_upto_region 3 with (first | ((with_reducible refine gate_callee (f := 13) rfl ?_); refine goesL_ (some 19) rfl rfl Try.func13 (by kernel_rfl) rfl #[.slice A0 l0.length c0] rfl (by (try simp only [List.map_toArray, List.map_cons, List.map_nil]); first | done | rfl | (simp only [List.length_drop, List.length_take]; rfl)) ?_; (with_reducible refine (deadboltlaw18_few.calls _ _ l0 t111 _ ?side1 ?side2 A5.out).mono ?_); (case side1 => repeat (first | exact HR0.out | (with_reducible refine Kd.C_alloc ?_ _) | (with_reducible refine Kd.C_drewN ?_ _) | (with_reducible refine Kd.C_drew ?_))); (case side2 => exact HC0.out); rintro e w8 ⟨v112, rfl, ho0, hb⟩; refine ⟨_, rfl, ?_⟩; have n0_ := Aside0.mk (Kd.R_lower ho0 (below_size (by repeat (first | (with_reducible first | exact HB.out | apply below_alloc | apply pw_below_drewN | apply below_drew1) | exact HB.out)))); have n1_ := Aside0.mk (below_step (by repeat (first | (with_reducible first | exact HB.out | apply below_alloc | apply pw_below_drewN | apply below_drew1) | exact HB.out)) hb); clear HB; have HO113 := n0_; have HB := n1_; clear n0_ n1_; (try clear hb); (try clear hb2); (try clear hk); (try clear hi); (try clear ho0); obtain ⟨Ao9, co9, eo9⟩ := Kd.R_slice HO113.out; subst eo9) | ((with_reducible refine gate_callee (f := 14) rfl ?_); refine goesL_ (some 21) rfl rfl Try.func14 (by kernel_rfl) rfl #[.slice Ao9 t111.length co9] rfl (by (try simp only [List.map_toArray, List.map_cons, List.map_nil]); first | done | rfl | (simp only [List.length_drop, List.length_take]; rfl)) ?_; (with_reducible refine (judge_Wrong.calls _ _ t111 t114 _ ?side1 ?side2 A6.out).mono ?_); (case side1 => repeat (first | exact (Kd.R_reads' HO113.out).2.2 | (with_reducible refine Kd.C_alloc ?_ _) | (with_reducible refine Kd.C_drewN ?_ _) | (with_reducible refine Kd.C_drew ?_))); (case side2 => exact (Kd.R_reads' HO113.out).2.1); rintro e w10 ⟨rfl, hb⟩; refine ⟨_, rfl, ?_⟩; have n0_ := Aside0.mk (Kd.R_below (by (with_reducible repeat (first | apply Kd.R_alloc | apply Kd.R_drewN | apply Kd.R_drew)); exact HO113.out) hb); have n1_ := Aside0.mk (below_step (by repeat (first | (with_reducible first | exact HB.out | apply below_alloc | apply pw_below_drewN | apply below_drew1) | exact HB.out)) hb); clear HO113; clear HB; have HO113 := n0_; have HB := n1_; clear n0_ n1_; (try clear hb); (try clear hb2); (try clear hk); (try clear hi)))
  (try simp only [Act.put, List.setIfInBounds_toArray, List.set_cons_zero, List.set_cons_succ])
  go_cut [33] (fun v33 wc => ∃ (kq : Nat) (x33_6 : Bool), v33 = .bool x33_6 ∧ Aside0 (judgeParts_a.j0 kq t111 a1 a2 a3 t114 x33_6 = some r) ∧ Aside0 (kq ≤ k) ∧ Aside0 (Kd.R k33 33 wc w.heap.size (fun _ => True) (.slice Ao9 t111.length co9) t111) ∧ Aside0 (Below w.heap.size w wc))
  case first =>
    have H := HC7.out
    clear HC7
    by_cases c11 : t114 < (-1)
    · rw [if_pos c11] at H
      exact absurd H (by simp)
    · rw [if_neg c11] at H
      have c11b0 : decide (t114 < (-1)) = false := decide_eq_false c11
      clear c11
      (first | rw [c11b0] | rw [c11b1] | (simp only [i64_w, i32_w]; rw [c11b0]) | skip)
      by_cases c12 : t114 ≥ (t111.length : Int)
      · rw [if_pos c12] at H
        exact absurd H (by simp)
      · rw [if_neg c12] at H
        have c12b0 : decide ((t111.length : Int) ≤ t114) = false := decide_eq_false c12
        clear c12
        replace H := Option.bind_eq_some_iff.mp H
        obtain ⟨t115, A130, H⟩ := H
        replace H : (judgeParts_a.j0 k t111 a1 a2 a3 t114 (!t115)) = some r := H
        have A13 := Aside0.mk A130
        clear A130
        have H' := Aside0.mk H
        clear H
        go_wp2_with (first | (go_at_call 15; (with_reducible refine (deadboltlaw18_alive.calls  t115 _ A13.out).mono ?_); rintro e w14 ⟨rfl, hb⟩; have n0_ := Aside0.mk (Kd.R_below (by (with_reducible repeat (first | apply Kd.R_alloc | apply Kd.R_drewN | apply Kd.R_drew)); exact HO113.out) hb); have n1_ := Aside0.mk (below_step (by repeat (first | (with_reducible first | exact HB.out | apply below_alloc | apply pw_below_drewN | apply below_drew1) | exact HB.out)) hb); clear HO113; clear HB; have HO113 := n0_; have HB := n1_; clear n0_ n1_; (try clear hb); (try clear hb2); (try clear hk); (try clear hi)))
        go_meet
        case rel => exact ⟨_, (!t115), (by first | rfl | (simp; done) | (simp [*]; done)), H', ⟨by first | omega | exact Nat.le_refl _⟩, ⟨by (with_reducible repeat (first | apply Kd.R_alloc | apply Kd.R_drewN | apply Kd.R_drew)); exact HO113.out⟩, ⟨by repeat (first | (with_reducible first | exact HB.out | apply below_alloc | apply pw_below_drewN | apply below_drew1) | exact HB.out)⟩⟩
  case rest =>
    clear HC7
    try clear c1
    try clear p2
    try clear c3
    try clear c11
    try clear c11b0
    try clear c12
    try clear c12b0
    try clear c13
    try clear c14
    obtain ⟨kq, x33_6, rfl, HA, HJ6, HO_0, HB⟩ := hcut
    cases kq with
    | zero => exact absurd HA.out (by simp [judgeParts_a.j0])
    | succ kj6 =>
      have H := HA.out
      clear HA
      simp only [judgeParts_a.j0] at H
      by_cases c15 : x33_6 = true
      · subst c15
        have H1 : (none) = some r := by rw [if_pos rfl] at H; exact H
        clear H
        have H := H1
        clear H1
        exact absurd H (by simp)
      · replace c15 := Bool.eq_false_iff.mpr c15
        subst c15
        have H1 : (if (wrap64 ((t111.length : Int) + 1)) = 0 then (none) else (if 0 ≤ (Int.tmod (wrap64 ((wrap64 ((Int.tmod a1 (wrap64 ((t111.length : Int) + 1))) + (t111.length : Int))) + 1)) (wrap64 ((t111.length : Int) + 1))) then (if (Int.tmod (wrap64 ((wrap64 ((Int.tmod a1 (wrap64 ((t111.length : Int) + 1))) + (t111.length : Int))) + 1)) (wrap64 ((t111.length : Int) + 1))) ≤ (t111.length : Int) then ((judge_Wrong.f (t111.take ((Int.tmod (wrap64 ((wrap64 ((Int.tmod a1 (wrap64 ((t111.length : Int) + 1))) + (t111.length : Int))) + 1)) (wrap64 ((t111.length : Int) + 1))) : Int).toNat)).bind fun t120 => (if t114 ≥ 0 then (if (Int.tmod (wrap64 ((wrap64 ((Int.tmod a1 (wrap64 ((t111.length : Int) + 1))) + (t111.length : Int))) + 1)) (wrap64 ((t111.length : Int) + 1))) > t114 then (if t120 = t114 then (if t114 < 0 then (judgeParts_a.j1 kj6 t111 a2 a3 t114 (t120 != (-1))) else (if (Int.tmod (wrap64 ((wrap64 ((Int.tmod a1 (wrap64 ((t111.length : Int) + 1))) + (t111.length : Int))) + 1)) (wrap64 ((t111.length : Int) + 1))) ≤ t114 then (judgeParts_a.j1 kj6 t111 a2 a3 t114 (t120 != (-1))) else (judgeParts_a.j1 kj6 t111 a2 a3 t114 false))) else (none)) else (if t114 < 0 then (judgeParts_a.j1 kj6 t111 a2 a3 t114 (t120 != (-1))) else (if (Int.tmod (wrap64 ((wrap64 ((Int.tmod a1 (wrap64 ((t111.length : Int) + 1))) + (t111.length : Int))) + 1)) (wrap64 ((t111.length : Int) + 1))) ≤ t114 then (judgeParts_a.j1 kj6 t111 a2 a3 t114 (t120 != (-1))) else (judgeParts_a.j1 kj6 t111 a2 a3 t114 false)))) else (if t114 < 0 then (judgeParts_a.j1 kj6 t111 a2 a3 t114 (t120 != (-1))) else (if (Int.tmod (wrap64 ((wrap64 ((Int.tmod a1 (wrap64 ((t111.length : Int) + 1))) + (t111.length : Int))) + 1)) (wrap64 ((t111.length : Int) + 1))) ≤ t114 then (judgeParts_a.j1 kj6 t111 a2 a3 t114 (t120 != (-1))) else (judgeParts_a.j1 kj6 t111 a2 a3 t114 false))))) else (none)) else (none))) = some r := by rw [if_neg (show ¬ (false = true) by decide)] at H; exact H
        clear H
        have H := H1
        clear H1
        by_cases c16 : (wrap64 ((t111.length : Int) + 1)) = 0
        · rw [if_pos c16] at H
          exact absurd H (by simp)
        · rw [if_neg c16] at H
          have c16b0 : ((wrap64 ((t111.length : Int) + 1)) == 0) = false := beq_eq_false_iff_ne.mpr c16
          have c16b1 : ((wrap64 ((t111.length : Int) + 1)) != 0) = true := bne_iff_ne.mpr c16
          obtain ⟨ji17, hji17⟩ : ∃ j_ : Int, (Int.tmod (wrap64 ((wrap64 ((Int.tmod a1 (wrap64 ((t111.length : Int) + 1))) + (t111.length : Int))) + 1)) (wrap64 ((t111.length : Int) + 1))) = j_ := ⟨_, rfl⟩
          replace H : (if 0 ≤ (ji17) then (if (ji17) ≤ (t111.length : Int) then ((judge_Wrong.f (t111.take ((ji17) : Int).toNat)).bind fun t120 => (if t114 ≥ 0 then (if (ji17) > t114 then (if t120 = t114 then (if t114 < 0 then (judgeParts_a.j1 kj6 t111 a2 a3 t114 (t120 != (-1))) else (if (ji17) ≤ t114 then (judgeParts_a.j1 kj6 t111 a2 a3 t114 (t120 != (-1))) else (judgeParts_a.j1 kj6 t111 a2 a3 t114 false))) else (none)) else (if t114 < 0 then (judgeParts_a.j1 kj6 t111 a2 a3 t114 (t120 != (-1))) else (if (ji17) ≤ t114 then (judgeParts_a.j1 kj6 t111 a2 a3 t114 (t120 != (-1))) else (judgeParts_a.j1 kj6 t111 a2 a3 t114 false)))) else (if t114 < 0 then (judgeParts_a.j1 kj6 t111 a2 a3 t114 (t120 != (-1))) else (if (ji17) ≤ t114 then (judgeParts_a.j1 kj6 t111 a2 a3 t114 (t120 != (-1))) else (judgeParts_a.j1 kj6 t111 a2 a3 t114 false))))) else (none)) else (none)) = some r := by first | (rw [hji17] at H; exact H) | (simp only [hji17] at H ⊢; exact H)
          by_cases c18 : 0 ≤ (ji17)
          · rw [if_pos c18] at H
            have c18b0 := eq_true c18
            have c18b1 : decide (0 ≤ (ji17)) = true := decide_eq_true c18
            clear c18
            by_cases c19 : (ji17) ≤ (t111.length : Int)
            · rw [if_pos c19] at H
              have c19b0 := eq_true c19
              have c19b1 : decide ((ji17) ≤ (t111.length : Int)) = true := decide_eq_true c19
              clear c19
              obtain ⟨y116, hy116⟩ : ∃ y_ : List (S33), y_ = (t111.take ((ji17) : Int).toNat) := ⟨_, rfl⟩
              replace H : ((judge_Wrong.f y116).bind fun t120 => (if t114 ≥ 0 then (if (ji17) > t114 then (if t120 = t114 then (if t114 < 0 then (judgeParts_a.j1 kj6 t111 a2 a3 t114 (t120 != (-1))) else (if (ji17) ≤ t114 then (judgeParts_a.j1 kj6 t111 a2 a3 t114 (t120 != (-1))) else (judgeParts_a.j1 kj6 t111 a2 a3 t114 false))) else (none)) else (if t114 < 0 then (judgeParts_a.j1 kj6 t111 a2 a3 t114 (t120 != (-1))) else (if (ji17) ≤ t114 then (judgeParts_a.j1 kj6 t111 a2 a3 t114 (t120 != (-1))) else (judgeParts_a.j1 kj6 t111 a2 a3 t114 false)))) else (if t114 < 0 then (judgeParts_a.j1 kj6 t111 a2 a3 t114 (t120 != (-1))) else (if (ji17) ≤ t114 then (judgeParts_a.j1 kj6 t111 a2 a3 t114 (t120 != (-1))) else (judgeParts_a.j1 kj6 t111 a2 a3 t114 false))))) = some r := by first | (rw [hy116]; with_reducible exact H) | (have H2_ := (Option.bind_some _ _).symm.trans H; rw [hy116]; with_reducible exact H2_) | (have H2_ := (Option.bind_some _ _).symm.trans H; with_reducible exact H2_) | with_reducible exact H | (rw [hy116]; exact H) | exact H
              have Ny116 := Aside0.mk hy116
              clear hy116
              replace H := Option.bind_eq_some_iff.mp H
              obtain ⟨t120, A200, H⟩ := H
              replace H : (if t114 ≥ 0 then (if (ji17) > t114 then (if t120 = t114 then (if t114 < 0 then (judgeParts_a.j1 kj6 t111 a2 a3 t114 (t120 != (-1))) else (if (ji17) ≤ t114 then (judgeParts_a.j1 kj6 t111 a2 a3 t114 (t120 != (-1))) else (judgeParts_a.j1 kj6 t111 a2 a3 t114 false))) else (none)) else (if t114 < 0 then (judgeParts_a.j1 kj6 t111 a2 a3 t114 (t120 != (-1))) else (if (ji17) ≤ t114 then (judgeParts_a.j1 kj6 t111 a2 a3 t114 (t120 != (-1))) else (judgeParts_a.j1 kj6 t111 a2 a3 t114 false)))) else (if t114 < 0 then (judgeParts_a.j1 kj6 t111 a2 a3 t114 (t120 != (-1))) else (if (ji17) ≤ t114 then (judgeParts_a.j1 kj6 t111 a2 a3 t114 (t120 != (-1))) else (judgeParts_a.j1 kj6 t111 a2 a3 t114 false)))) = some r := H
              have A20 := Aside0.mk A200
              clear A200
              have HC21 := Aside0.mk H
              clear H
              have q22 : ((ji17) : Int) ≤ ((t111.length : Int) : Int) := of_decide_eq_true (by first | (with_reducible assumption) | assumption)
              obtain ⟨i022, hi022, _, hsz22, _⟩ := info_parts info33
              have hroom22 : t111.length ≤ co9 := (Kd.R_reads' HO_0.out).2.1
              have hC22 : Kd.C k33 _ Ao9 t111.length t111 := (Kd.R_reads' HO_0.out).2.2
              have hcut22 := cut_to (P := Try.prog) 22 33 .i64 Try.underlying22 hi022 Ao9 t111.length co9 (ji17) (of_decide_eq_true (by first | (with_reducible assumption) | assumption)) q22 hroom22
              have hr22 := Kd.C_take (m := ((ji17) : Int).toNat) hC22 (by omega)
              have hy22 : y116.length = ((ji17) : Int).toNat := (by rw [Ny116.out, List.length_take]; omega)
              rw [← Ny116.out] at hr22
              rw [← hy22] at hcut22
              have HR119 := Aside0.mk hr22
              have HC119 := Aside0.mk (show y116.length ≤ co9 from by omega)
              clear hr22 hC22 hroom22 hi022 hsz22
              have KY22 := Aside0.mk hy22
              clear hy22
              have KL22 := Aside0.mk (show ((ji17) : Int).toNat ≤ t111.length from by omega)
              replace q22 := eq_true q22
              go_upto_region 7 with (first | ((with_reducible refine gate_callee (f := 14) rfl ?_); refine goesL_ (some 50) rfl rfl Try.func14 (by kernel_rfl) rfl #[.slice Ao9 y116.length co9] rfl (by (try simp only [List.map_toArray, List.map_cons, List.map_nil]); first | done | rfl | (simp only [List.length_drop, List.length_take]; rfl)) ?_; (with_reducible refine (judge_Wrong.calls _ _ y116 t120 _ ?side1 ?side2 A20.out).mono ?_); (case side1 => repeat (first | exact (by repeat (first | (with_reducible exact HR119.out) | (with_reducible refine Kd.C_alloc ?_ _) | (with_reducible refine Kd.C_drewN ?_ _) | (with_reducible refine Kd.C_drew ?_) | exact HR119.out)) | (with_reducible refine Kd.C_alloc ?_ _) | (with_reducible refine Kd.C_drewN ?_ _) | (with_reducible refine Kd.C_drew ?_))); (case side2 => exact HC119.out); rintro e w23 ⟨rfl, hb⟩; refine ⟨_, rfl, ?_⟩; have n0_ := Aside0.mk (Kd.R_below (by (with_reducible repeat (first | apply Kd.R_alloc | apply Kd.R_drewN | apply Kd.R_drew)); exact HO_0.out) hb); have n1_ := Aside0.mk (Kd.C_below (by repeat (first | (with_reducible exact HR119.out) | (with_reducible refine Kd.C_alloc ?_ _) | (with_reducible refine Kd.C_drewN ?_ _) | (with_reducible refine Kd.C_drew ?_) | exact HR119.out)) hb); have n2_ := Aside0.mk (below_step (by repeat (first | (with_reducible first | exact HB.out | apply below_alloc | apply pw_below_drewN | apply below_drew1) | exact HB.out)) hb); clear HO_0; clear HR119; clear HB; have HO_0 := n0_; have HR119 := n1_; have HB := n2_; clear n0_ n1_ n2_; (try clear hb); (try clear hb2); (try clear hk); (try clear hi)))
              (try simp only [Act.put, List.setIfInBounds_toArray, List.set_cons_zero, List.set_cons_succ])
              go_cut [75] (fun v75 wc => ∃ (kq : Nat) (x75_20 : Bool), v75 = .bool x75_20 ∧ Aside0 (judgeParts_a.j1 kq t111 a2 a3 t114 x75_20 = some r) ∧ Aside0 (kq ≤ kj6) ∧ Aside0 (Kd.R k33 33 wc w.heap.size (fun _ => True) (.slice Ao9 t111.length co9) t111) ∧ Aside0 (Kd.C k33 wc Ao9 y116.length y116) ∧ Aside0 (Below w.heap.size w wc))
              case first =>
                have H := HC21.out
                clear HC21
                by_cases c24 : t114 ≥ 0
                · rw [if_pos c24] at H
                  have c24b0 : decide (0 ≤ t114) = true := decide_eq_true c24
                  clear c24
                  (first | rw [c24b0] | rw [c24b1] | (simp only [i64_w, i32_w]; rw [c24b0]) | skip)
                  by_cases c25 : (ji17) > t114
                  · rw [if_pos c25] at H
                    have c25b0 : decide (t114 < (ji17)) = true := decide_eq_true c25
                    clear c25
                    by_cases c26 : t120 = t114
                    · rw [if_pos c26] at H
                      have c26b0 : (t120 == t114) = true := beq_iff_eq.mpr c26
                      have c26b1 : (t120 != t114) = false := bne_eq_false_iff_eq.mpr c26
                      clear c26
                      by_cases c27 : t114 < 0
                      · rw [if_pos c27] at H
                        have c27b0 : decide (t114 < 0) = true := decide_eq_true c27
                        clear c27
                        have H' := Aside0.mk H
                        clear H
                        go_wp2
                        go_meet
                        case rel => exact ⟨_, ((t120 != (-1))), (by first | rfl | (simp; done) | (simp [*]; done)), H', ⟨by have := HJ6.out; first | omega | exact Nat.le_refl _⟩, ⟨by (with_reducible repeat (first | apply Kd.R_alloc | apply Kd.R_drewN | apply Kd.R_drew)); exact HO_0.out⟩, ⟨by repeat (first | (with_reducible exact HR119.out) | (with_reducible refine Kd.C_alloc ?_ _) | (with_reducible refine Kd.C_drewN ?_ _) | (with_reducible refine Kd.C_drew ?_) | exact HR119.out)⟩, ⟨by repeat (first | (with_reducible first | exact HB.out | apply below_alloc | apply pw_below_drewN | apply below_drew1) | exact HB.out)⟩⟩
                      · rw [if_neg c27] at H
                        have c27b0 : decide (t114 < 0) = false := decide_eq_false c27
                        clear c27
                        by_cases c28 : (ji17) ≤ t114
                        · rw [if_pos c28] at H
                          have c28b0 : decide ((ji17) ≤ t114) = true := decide_eq_true c28
                          clear c28
                          have H' := Aside0.mk H
                          clear H
                          go_wp2
                          go_meet
                          case rel => exact ⟨_, ((t120 != (-1))), (by first | rfl | (simp; done) | (simp [*]; done)), H', ⟨by have := HJ6.out; first | omega | exact Nat.le_refl _⟩, ⟨by (with_reducible repeat (first | apply Kd.R_alloc | apply Kd.R_drewN | apply Kd.R_drew)); exact HO_0.out⟩, ⟨by repeat (first | (with_reducible exact HR119.out) | (with_reducible refine Kd.C_alloc ?_ _) | (with_reducible refine Kd.C_drewN ?_ _) | (with_reducible refine Kd.C_drew ?_) | exact HR119.out)⟩, ⟨by repeat (first | (with_reducible first | exact HB.out | apply below_alloc | apply pw_below_drewN | apply below_drew1) | exact HB.out)⟩⟩
                        · rw [if_neg c28] at H
                          have c28b0 : decide ((ji17) ≤ t114) = false := decide_eq_false c28
                          clear c28
                          have H' := Aside0.mk H
                          clear H
                          go_wp2
                          go_meet
                          case rel => exact ⟨_, (false), (by first | rfl | (simp; done) | (simp [*]; done)), H', ⟨by have := HJ6.out; first | omega | exact Nat.le_refl _⟩, ⟨by (with_reducible repeat (first | apply Kd.R_alloc | apply Kd.R_drewN | apply Kd.R_drew)); exact HO_0.out⟩, ⟨by repeat (first | (with_reducible exact HR119.out) | (with_reducible refine Kd.C_alloc ?_ _) | (with_reducible refine Kd.C_drewN ?_ _) | (with_reducible refine Kd.C_drew ?_) | exact HR119.out)⟩, ⟨by repeat (first | (with_reducible first | exact HB.out | apply below_alloc | apply pw_below_drewN | apply below_drew1) | exact HB.out)⟩⟩
                    · rw [if_neg c26] at H
                      exact absurd H (by simp)
                  · rw [if_neg c25] at H
                    have c25b0 : decide (t114 < (ji17)) = false := decide_eq_false c25
                    clear c25
                    by_cases c29 : t114 < 0
                    · rw [if_pos c29] at H
                      have c29b0 : decide (t114 < 0) = true := decide_eq_true c29
                      clear c29
                      have H' := Aside0.mk H
                      clear H
                      go_wp2
                      go_meet
                      case rel => exact ⟨_, ((t120 != (-1))), (by first | rfl | (simp; done) | (simp [*]; done)), H', ⟨by have := HJ6.out; first | omega | exact Nat.le_refl _⟩, ⟨by (with_reducible repeat (first | apply Kd.R_alloc | apply Kd.R_drewN | apply Kd.R_drew)); exact HO_0.out⟩, ⟨by repeat (first | (with_reducible exact HR119.out) | (with_reducible refine Kd.C_alloc ?_ _) | (with_reducible refine Kd.C_drewN ?_ _) | (with_reducible refine Kd.C_drew ?_) | exact HR119.out)⟩, ⟨by repeat (first | (with_reducible first | exact HB.out | apply below_alloc | apply pw_below_drewN | apply below_drew1) | exact HB.out)⟩⟩
                    · rw [if_neg c29] at H
                      have c29b0 : decide (t114 < 0) = false := decide_eq_false c29
                      clear c29
                      by_cases c30 : (ji17) ≤ t114
                      · rw [if_pos c30] at H
                        have c30b0 : decide ((ji17) ≤ t114) = true := decide_eq_true c30
                        clear c30
                        have H' := Aside0.mk H
                        clear H
                        go_wp2
                        go_meet
                        case rel => exact ⟨_, ((t120 != (-1))), (by first | rfl | (simp; done) | (simp [*]; done)), H', ⟨by have := HJ6.out; first | omega | exact Nat.le_refl _⟩, ⟨by (with_reducible repeat (first | apply Kd.R_alloc | apply Kd.R_drewN | apply Kd.R_drew)); exact HO_0.out⟩, ⟨by repeat (first | (with_reducible exact HR119.out) | (with_reducible refine Kd.C_alloc ?_ _) | (with_reducible refine Kd.C_drewN ?_ _) | (with_reducible refine Kd.C_drew ?_) | exact HR119.out)⟩, ⟨by repeat (first | (with_reducible first | exact HB.out | apply below_alloc | apply pw_below_drewN | apply below_drew1) | exact HB.out)⟩⟩
                      · rw [if_neg c30] at H
                        have c30b0 : decide ((ji17) ≤ t114) = false := decide_eq_false c30
                        clear c30
                        have H' := Aside0.mk H
                        clear H
                        go_wp2
                        go_meet
                        case rel => exact ⟨_, (false), (by first | rfl | (simp; done) | (simp [*]; done)), H', ⟨by have := HJ6.out; first | omega | exact Nat.le_refl _⟩, ⟨by (with_reducible repeat (first | apply Kd.R_alloc | apply Kd.R_drewN | apply Kd.R_drew)); exact HO_0.out⟩, ⟨by repeat (first | (with_reducible exact HR119.out) | (with_reducible refine Kd.C_alloc ?_ _) | (with_reducible refine Kd.C_drewN ?_ _) | (with_reducible refine Kd.C_drew ?_) | exact HR119.out)⟩, ⟨by repeat (first | (with_reducible first | exact HB.out | apply below_alloc | apply pw_below_drewN | apply below_drew1) | exact HB.out)⟩⟩
                · rw [if_neg c24] at H
                  have c24b0 : decide (0 ≤ t114) = false := decide_eq_false c24
                  clear c24
                  (first | rw [c24b0] | rw [c24b1] | (simp only [i64_w, i32_w]; rw [c24b0]) | skip)
                  by_cases c31 : t114 < 0
                  · rw [if_pos c31] at H
                    have c31b0 : decide (t114 < 0) = true := decide_eq_true c31
                    clear c31
                    have H' := Aside0.mk H
                    clear H
                    go_wp2
                    go_meet
                    case rel => exact ⟨_, ((t120 != (-1))), (by first | rfl | (simp; done) | (simp [*]; done)), H', ⟨by have := HJ6.out; first | omega | exact Nat.le_refl _⟩, ⟨by (with_reducible repeat (first | apply Kd.R_alloc | apply Kd.R_drewN | apply Kd.R_drew)); exact HO_0.out⟩, ⟨by repeat (first | (with_reducible exact HR119.out) | (with_reducible refine Kd.C_alloc ?_ _) | (with_reducible refine Kd.C_drewN ?_ _) | (with_reducible refine Kd.C_drew ?_) | exact HR119.out)⟩, ⟨by repeat (first | (with_reducible first | exact HB.out | apply below_alloc | apply pw_below_drewN | apply below_drew1) | exact HB.out)⟩⟩
                  · rw [if_neg c31] at H
                    have c31b0 : decide (t114 < 0) = false := decide_eq_false c31
                    clear c31
                    by_cases c32 : (ji17) ≤ t114
                    · rw [if_pos c32] at H
                      have c32b0 : decide ((ji17) ≤ t114) = true := decide_eq_true c32
                      clear c32
                      have H' := Aside0.mk H
                      clear H
                      go_wp2
                      go_meet
                      case rel => exact ⟨_, ((t120 != (-1))), (by first | rfl | (simp; done) | (simp [*]; done)), H', ⟨by have := HJ6.out; first | omega | exact Nat.le_refl _⟩, ⟨by (with_reducible repeat (first | apply Kd.R_alloc | apply Kd.R_drewN | apply Kd.R_drew)); exact HO_0.out⟩, ⟨by repeat (first | (with_reducible exact HR119.out) | (with_reducible refine Kd.C_alloc ?_ _) | (with_reducible refine Kd.C_drewN ?_ _) | (with_reducible refine Kd.C_drew ?_) | exact HR119.out)⟩, ⟨by repeat (first | (with_reducible first | exact HB.out | apply below_alloc | apply pw_below_drewN | apply below_drew1) | exact HB.out)⟩⟩
                    · rw [if_neg c32] at H
                      have c32b0 : decide ((ji17) ≤ t114) = false := decide_eq_false c32
                      clear c32
                      have H' := Aside0.mk H
                      clear H
                      go_wp2
                      go_meet
                      case rel => exact ⟨_, (false), (by first | rfl | (simp; done) | (simp [*]; done)), H', ⟨by have := HJ6.out; first | omega | exact Nat.le_refl _⟩, ⟨by (with_reducible repeat (first | apply Kd.R_alloc | apply Kd.R_drewN | apply Kd.R_drew)); exact HO_0.out⟩, ⟨by repeat (first | (with_reducible exact HR119.out) | (with_reducible refine Kd.C_alloc ?_ _) | (with_reducible refine Kd.C_drewN ?_ _) | (with_reducible refine Kd.C_drew ?_) | exact HR119.out)⟩, ⟨by repeat (first | (with_reducible first | exact HB.out | apply below_alloc | apply pw_below_drewN | apply below_drew1) | exact HB.out)⟩⟩
              case rest =>
                clear HC21
                try clear c1
                try clear c2
                try clear p2
                try clear q2
                try clear c3
                try clear p6
                try clear c11
                try clear c11b0
                try clear c12
                try clear c12b0
                try clear c13
                try clear c14
                try clear c15
                try clear c16
                try clear c16b0
                try clear c16b1
                try clear c18
                try clear c18b0
                try clear c18b1
                try clear c19
                try clear c19b0
                try clear c19b1
                try clear q22
                try clear c24
                try clear c24b0
                try clear c25
                try clear c25b0
                try clear c26
                try clear c26b0
                try clear c26b1
                try clear c27
                try clear c27b0
                try clear c28
                try clear c28b0
                try clear c29
                try clear c29b0
                try clear c30
                try clear c30b0
                try clear c31
                try clear c31b0
                try clear c32
                try clear c32b0
                try clear p2
                try clear q22
                obtain ⟨kq, x75_20, rfl, HA, HJ20, HO_0, HR119, HB⟩ := hcut
                cases kq with
                | zero => exact absurd HA.out (by simp [judgeParts_a.j1])
                | succ kj20 =>
                  have H := HA.out
                  clear HA
                  simp only [judgeParts_a.j1] at H
                  by_cases c33 : x75_20 = true
                  · subst c33
                    have H1 : (none) = some r := by rw [if_pos rfl] at H; exact H
                    clear H
                    have H := H1
                    clear H1
                    exact absurd H (by simp)
                  · replace c33 := Bool.eq_false_iff.mpr c33
                    subst c33
                    have H1 : (if t114 ≥ 0 then (some true) else ((judge_Held.f t111).bind fun bt121 => (if bt121.2 = 0 then (judgeParts_a.j2 kj20 t111 (Int.tmod (wrap64 ((Int.tmod a2 8) + 8)) 8) (Int.tmod (wrap64 ((Int.tmod a3 4) + 4)) 4) bt121.1 ((bt121.1.length : Int) != 4)) else (none)))) = some r := by rw [if_neg (show ¬ (false = true) by decide)] at H; exact H
                    clear H
                    have H := H1
                    clear H1
                    by_cases c34 : t114 ≥ 0
                    · rw [if_pos c34] at H
                      have c34b0 : decide (0 ≤ t114) = true := decide_eq_true c34
                      clear c34
                      obtain rfl := Option.some.inj H
                      go_wp2
                      go_ret
                      exact ⟨by first | rfl | (simp [errW_none, errW_some] <;> rfl) | (simp only [← hji17]; first | rfl | (simp [errW_none, errW_some] <;> rfl)) | (simp [*, errW_none, errW_some] <;> rfl), by repeat (first | (with_reducible first | exact HB.out | apply below_alloc | apply pw_below_drewN | apply below_drew1) | exact HB.out)⟩
                    · rw [if_neg c34] at H
                      have c34b0 : decide (0 ≤ t114) = false := decide_eq_false c34
                      clear c34
                      replace H := Option.bind_eq_some_iff.mp H
                      obtain ⟨⟨t121, t122⟩, A350, H⟩ := H
                      replace H : (if t122 = 0 then (judgeParts_a.j2 kj20 t111 (Int.tmod (wrap64 ((Int.tmod a2 8) + 8)) 8) (Int.tmod (wrap64 ((Int.tmod a3 4) + 4)) 4) t121 ((t121.length : Int) != 4)) else (none)) = some r := H
                      have A35 := Aside0.mk A350
                      clear A350
                      have HC36 := Aside0.mk H
                      clear H
                      go_upto_region 13 with (first | ((with_reducible refine gate_callee (f := 16) rfl ?_); refine goesL_ (some 88) rfl rfl Try.func16 (by kernel_rfl) rfl #[.slice Ao9 t111.length co9] rfl (by (try simp only [List.map_toArray, List.map_cons, List.map_nil]); first | done | rfl | (simp only [List.length_drop, List.length_take]; rfl)) ?_; (with_reducible refine (judge_Held.calls _ _ t111 t121 t122 _ ?side1 ?side2 A35.out).mono ?_); (case side1 => repeat (first | exact (Kd.R_reads' HO_0.out).2.2 | (with_reducible refine Kd.C_alloc ?_ _) | (with_reducible refine Kd.C_drewN ?_ _) | (with_reducible refine Kd.C_drew ?_))); (case side2 => exact (Kd.R_reads' HO_0.out).2.1); rintro e w37 ⟨v123, rfl, ho0, hb⟩; refine ⟨_, rfl, ?_⟩; have n0_ := Aside0.mk (Kd.R_below (by (with_reducible repeat (first | apply Kd.R_alloc | apply Kd.R_drewN | apply Kd.R_drew)); exact HO_0.out) hb); have n1_ := Aside0.mk (Kd.R_lower ho0 (below_size (by repeat (first | (with_reducible first | exact HB.out | apply below_alloc | apply pw_below_drewN | apply below_drew1) | exact HB.out)))); have n2_ := Aside0.mk (Kd.C_below (by repeat (first | (with_reducible exact HR119.out) | (with_reducible refine Kd.C_alloc ?_ _) | (with_reducible refine Kd.C_drewN ?_ _) | (with_reducible refine Kd.C_drew ?_) | exact HR119.out)) hb); have n3_ := Aside0.mk (below_step (by repeat (first | (with_reducible first | exact HB.out | apply below_alloc | apply pw_below_drewN | apply below_drew1) | exact HB.out)) hb); clear HO_0; clear HR119; clear HB; have HO_0 := n0_; have HO124 := n1_; have HR119 := n2_; have HB := n3_; clear n0_ n1_ n2_ n3_; (try clear hb); (try clear hb2); (try clear hk); (try clear hi); (try clear ho0)))
                      (try simp only [Act.put, List.setIfInBounds_toArray, List.set_cons_zero, List.set_cons_succ])
                      go_cut [97] (fun v97 wc => ∃ (kq : Nat) (x97_35 : Bool), v97 = .bool x97_35 ∧ Aside0 (judgeParts_a.j2 kq t111 (Int.tmod (wrap64 ((Int.tmod a2 8) + 8)) 8) (Int.tmod (wrap64 ((Int.tmod a3 4) + 4)) 4) t121 x97_35 = some r) ∧ Aside0 (kq ≤ kj20) ∧ Aside0 (Kd.R k33 33 wc w.heap.size (fun _ => True) (.slice Ao9 t111.length co9) t111) ∧ Aside0 (Kd.R (Kd.int .i64) 3 wc w.heap.size (fun _ => True) v123 t121) ∧ Aside0 (Kd.C k33 wc Ao9 y116.length y116) ∧ Aside0 (Below w.heap.size w wc))
                      case first =>
                        have H := HC36.out
                        clear HC36
                        by_cases c38 : t122 = 0
                        · rw [if_pos c38] at H
                          have c38b0 : (t122 == 0) = true := beq_iff_eq.mpr c38
                          have c38b1 : (t122 != 0) = false := bne_eq_false_iff_eq.mpr c38
                          clear c38
                          (first | rw [c38b0] | rw [c38b1] | (simp only [i64_w, i32_w]; rw [c38b0]) | skip)
                          have H' := Aside0.mk H
                          clear H
                          obtain ⟨Ao39, co39, eo39⟩ := Kd.R_slice HO124.out
                          subst eo39
                          go_wp2
                          go_meet
                          case rel => exact ⟨_, (((t121.length : Int) != 4)), (by first | rfl | (simp; done) | (simp [*]; done)), H', ⟨by have := HJ6.out; have := HJ20.out; first | omega | exact Nat.le_refl _⟩, ⟨by (with_reducible repeat (first | apply Kd.R_alloc | apply Kd.R_drewN | apply Kd.R_drew)); exact HO_0.out⟩, ⟨by (with_reducible repeat (first | apply Kd.R_alloc | apply Kd.R_drewN | apply Kd.R_drew)); exact HO124.out⟩, ⟨by repeat (first | (with_reducible exact HR119.out) | (with_reducible refine Kd.C_alloc ?_ _) | (with_reducible refine Kd.C_drewN ?_ _) | (with_reducible refine Kd.C_drew ?_) | exact HR119.out)⟩, ⟨by repeat (first | (with_reducible first | exact HB.out | apply below_alloc | apply pw_below_drewN | apply below_drew1) | exact HB.out)⟩⟩
                        · rw [if_neg c38] at H
                          exact absurd H (by simp)
                      case rest =>
                        clear HC36
                        try clear c1
                        try clear c2
                        try clear p2
                        try clear q2
                        try clear c3
                        try clear p6
                        try clear c11
                        try clear c11b0
                        try clear c12
                        try clear c12b0
                        try clear c13
                        try clear c14
                        try clear c15
                        try clear c16
                        try clear c16b0
                        try clear c16b1
                        try clear c18
                        try clear c18b0
                        try clear c18b1
                        try clear c19
                        try clear c19b0
                        try clear c19b1
                        try clear q22
                        try clear c24
                        try clear c24b0
                        try clear c25
                        try clear c25b0
                        try clear c26
                        try clear c26b0
                        try clear c26b1
                        try clear c27
                        try clear c27b0
                        try clear c28
                        try clear c28b0
                        try clear c29
                        try clear c29b0
                        try clear c30
                        try clear c30b0
                        try clear c31
                        try clear c31b0
                        try clear c32
                        try clear c32b0
                        try clear c33
                        try clear c34
                        try clear c34b0
                        try clear c38
                        try clear c38b0
                        try clear c38b1
                        try clear p2
                        try clear p6
                        try clear q2
                        try clear q22
                        obtain ⟨kq, x97_35, rfl, HA, HJ35, HO_0, HO_11, HR119, HB⟩ := hcut
                        cases kq with
                        | zero => exact absurd HA.out (by simp [judgeParts_a.j2])
                        | succ kj35 =>
                          have H := HA.out
                          clear HA
                          simp only [judgeParts_a.j2] at H
                          by_cases c40 : x97_35 = true
                          · subst c40
                            have H1 : (none) = some r := by rw [if_pos rfl] at H; exact H
                            clear H
                            have H := H1
                            clear H1
                            exact absurd H (by simp)
                          · replace c40 := Bool.eq_false_iff.mpr c40
                            subst c40
                            have H1 : (if (t111.length : Int) > 0 then (if 0 ≤ (wrap64 ((t111.length : Int) - 1)) then (if (wrap64 ((t111.length : Int) - 1)) < (t111.length : Int) then (if ((rd_T33 t111 (wrap64 ((t111.length : Int) - 1))).f2.f1) = 4 then (if (([] : List (S33))).length + t111.length < 3518437208883 then (none) else (none)) else (judgeParts_a.j3 kj35 t111 (Int.tmod (wrap64 ((Int.tmod a2 8) + 8)) 8) (Int.tmod (wrap64 ((Int.tmod a3 4) + 4)) 4) t121 ((rd_T33 t111 (wrap64 ((t111.length : Int) - 1))).f0) ((rd_T33 t111 (wrap64 ((t111.length : Int) - 1))).f1) (Int.tmod (wrap64 ((Int.tmod a2 8) + 8)) 8) 0 (Int.tmod (wrap64 ((Int.tmod a3 4) + 4)) 4))) else (none)) else (none)) else (judgeParts_a.j3 kj35 t111 (Int.tmod (wrap64 ((Int.tmod a2 8) + 8)) 8) (Int.tmod (wrap64 ((Int.tmod a3 4) + 4)) 4) t121 0 0 (Int.tmod (wrap64 ((Int.tmod a2 8) + 8)) 8) 0 (Int.tmod (wrap64 ((Int.tmod a3 4) + 4)) 4))) = some r := by rw [if_neg (show ¬ (false = true) by decide)] at H; exact H
                            clear H
                            have H := H1
                            clear H1
                            have HC41 := Aside0.mk H
                            clear H
                            go_upto_if 105 with (first | ((with_reducible refine gate_dst (N := 13) rfl ?_); (try (refine gate_guard (by rfl) ?_; dsimp only)); refine box_event ?hg (N := 13) ?hd (cs := #[.int .i64 0, .int .i64 0, .int .i64 0, .int .i64 0, .int .i64 0]) (t := 33) ?hr ?_; (case hd => rfl); (case hg => rfl); (case hr => first | (go_simp; done) | (go_simp; rfl)); intro gb125 hg w42 hbox hb; have n0_ := Aside0.mk (Kd.R_below (Kd.R_elderB (by (with_reducible repeat (first | apply Kd.R_alloc | apply Kd.R_drewN | apply Kd.R_drew)); exact HO_0.out) gb125 (Nat.le_of_eq hg.symm)) hb); have n1_ := Aside0.mk (Kd.R_below (by (with_reducible repeat (first | apply Kd.R_alloc | apply Kd.R_drewN | apply Kd.R_drew)); exact HO_11.out) hb); have n2_ := Aside0.mk (Kd.C_below (by repeat (first | (with_reducible exact HR119.out) | (with_reducible refine Kd.C_alloc ?_ _) | (with_reducible refine Kd.C_drewN ?_ _) | (with_reducible refine Kd.C_drew ?_) | exact HR119.out)) hb); have n3_ := Aside0.mk (below_step (by repeat (first | (with_reducible first | exact HB.out | apply below_alloc | apply pw_below_drewN | apply below_drew1) | exact HB.out)) hb); have n4_ := Aside0.mk (hbox); have n5_ := Aside0.mk ((by rw [hg]; exact (below_size (by repeat (first | (with_reducible first | exact HB.out | apply below_alloc | apply pw_below_drewN | apply below_drew1) | exact HB.out))) : w.heap.size ≤ gb125)); have n6_ := Aside0.mk ((by rw [hg]; exact (below_size (by repeat (first | (with_reducible first | exact HB.out | apply below_alloc | apply pw_below_drewN | apply below_drew1) | exact HB.out))) : w.heap.size ≤ gb125)); clear HO_0; clear HO_11; clear HR119; clear HB; have HO_0 := n0_; have HO_11 := n1_; have HR119 := n2_; have HB := n3_; have BK125 := n4_; have GW125 := n5_; have GE125 := n6_; clear n0_ n1_ n2_ n3_ n4_ n5_ n6_; clear hb hbox hg; have hcz43_0 : w42.cell? ⟨gb125, 0, none⟩ = some (.int .i64 0) := (blk_cell BK125.out 0).trans rfl; have hcz43_1 : w42.cell? ⟨gb125, 1, none⟩ = some (.int .i64 0) := (blk_cell BK125.out 1).trans rfl; have hcz43_2 : w42.cell? ⟨gb125, 2, none⟩ = some (.int .i64 0) := (blk_cell BK125.out 2).trans rfl; have hcz43_3 : w42.cell? ⟨gb125, 3, none⟩ = some (.int .i64 0) := (blk_cell BK125.out 3).trans rfl; have hcz43_4 : w42.cell? ⟨gb125, 4, none⟩ = some (.int .i64 0) := (blk_cell BK125.out 4).trans rfl; have hfz43_0 := blk_frozen BK125.out 0; have hfz43_1 := blk_frozen BK125.out 1; have hfz43_2 := blk_frozen BK125.out 2; have hfz43_3 := blk_frozen BK125.out 3; have hfz43_4 := blk_frozen BK125.out 4))
                            (try simp only [Act.put, List.setIfInBounds_toArray, List.set_cons_zero, List.set_cons_succ])
                            go_cut [] (fun wc => ∃ (kq : Nat) (x126000_40 : Int) (x126001_40 : Int), Aside0 (judgeParts_a.j3 kq t111 (Int.tmod (wrap64 ((Int.tmod a2 8) + 8)) 8) (Int.tmod (wrap64 ((Int.tmod a3 4) + 4)) 4) t121 x126000_40 x126001_40 (Int.tmod (wrap64 ((Int.tmod a2 8) + 8)) 8) 0 (Int.tmod (wrap64 ((Int.tmod a3 4) + 4)) 4) = some r) ∧ Aside0 (kq ≤ kj35) ∧ Aside0 (Kd.R k33 33 wc w.heap.size (fun k_ => k_ ≠ gb125) (.slice Ao9 t111.length co9) t111) ∧ Aside0 (Kd.R (Kd.int .i64) 3 wc w.heap.size (fun _ => True) v123 t121) ∧ Aside0 (wc.heap[gb125]? = some (.cells #[.int .i64 x126000_40, .int .i64 x126001_40, .int .i64 (Int.tmod (wrap64 ((Int.tmod a2 8) + 8)) 8), .int .i64 0, .int .i64 (Int.tmod (wrap64 ((Int.tmod a3 4) + 4)) 4)] 33 (0, 0))) ∧ Aside0 (Below w.heap.size w wc))
                            case first =>
                              have H := HC41.out
                              clear HC41
                              by_cases c44 : (t111.length : Int) > 0
                              · rw [if_pos c44] at H
                                have c44b0 : decide (0 < (t111.length : Int)) = true := decide_eq_true c44
                                have c44b1 : decide (0 < t111.length) = true := decide_eq_true (by omega)
                                clear c44
                                (first | rw [c44b0] | rw [c44b1] | (simp only [i64_w, i32_w]; rw [c44b0]) | skip)
                                obtain ⟨ji45, hji45⟩ : ∃ j_ : Int, (wrap64 ((t111.length : Int) - 1)) = j_ := ⟨_, rfl⟩
                                replace H : (if 0 ≤ (ji45) then (if (ji45) < (t111.length : Int) then (if ((rd_T33 t111 (ji45)).f2.f1) = 4 then (if (([] : List (S33))).length + t111.length < 3518437208883 then (none) else (none)) else (judgeParts_a.j3 kj35 t111 (Int.tmod (wrap64 ((Int.tmod a2 8) + 8)) 8) (Int.tmod (wrap64 ((Int.tmod a3 4) + 4)) 4) t121 ((rd_T33 t111 (ji45)).f0) ((rd_T33 t111 (ji45)).f1) (Int.tmod (wrap64 ((Int.tmod a2 8) + 8)) 8) 0 (Int.tmod (wrap64 ((Int.tmod a3 4) + 4)) 4))) else (none)) else (none)) = some r := by first | (rw [hji45] at H; exact H) | (simp only [hji45] at H ⊢; exact H)
                                have hji45w : (IntKind.i64.wrap ((t111.length : Int) - 1)) = ji45 := (i64_w _).trans hji45
                                by_cases c46 : 0 ≤ (ji45)
                                · rw [if_pos c46] at H
                                  have c46b0 : decide (0 ≤ (ji45)) = true := decide_eq_true c46
                                  clear c46
                                  by_cases c47 : (ji45) < (t111.length : Int)
                                  · rw [if_pos c47] at H
                                    have c47b0 : decide ((ji45) < (t111.length : Int)) = true := decide_eq_true c47
                                    clear c47
                                    by_cases c48 : ((rd_T33 t111 (ji45)).f2.f1) = 4
                                    · rw [if_pos c48] at H
                                      have c48b0 : (((rd_T33 t111 (ji45)).f2.f1) == 4) = true := beq_iff_eq.mpr c48
                                      have c48b1 : (((rd_T33 t111 (ji45)).f2.f1) != 4) = false := bne_eq_false_iff_eq.mpr c48
                                      clear c48
                                      obtain ⟨y129, hy129⟩ : ∃ y_ : List (S33), y_ = (([] : List (S33))) := ⟨_, rfl⟩
                                      replace H : (if y129.length + t111.length < 3518437208883 then (none) else (none)) = some r := by first | (rw [hy129]; with_reducible exact H) | (have H2_ := (Option.bind_some _ _).symm.trans H; rw [hy129]; with_reducible exact H2_) | (have H2_ := (Option.bind_some _ _).symm.trans H; with_reducible exact H2_) | with_reducible exact H | (rw [hy129]; exact H) | exact H
                                      have Ny129 := Aside0.mk hy129
                                      clear hy129
                                      by_cases c49 : y129.length + t111.length < 3518437208883
                                      · rw [if_pos c49] at H
                                        exact absurd H (by simp)
                                      · rw [if_neg c49] at H
                                        exact absurd H (by simp)
                                    · rw [if_neg c48] at H
                                      have c48b0 : (((rd_T33 t111 (ji45)).f2.f1) == 4) = false := beq_eq_false_iff_ne.mpr c48
                                      have c48b1 : (((rd_T33 t111 (ji45)).f2.f1) != 4) = true := bne_iff_ne.mpr c48
                                      have H' := Aside0.mk H
                                      clear H
                                      try go_wp2
                                      have n0_ : Aside0 (Kd.R k33 33 (((((w42.setCell ⟨gb125, 0, none⟩ (.int .i64 0)).setCell ⟨gb125, 1, none⟩ (.int .i64 0)).setCell ⟨gb125, 2, none⟩ (.int .i64 (Int.tmod (wrap64 ((Int.tmod a2 8) + 8)) 8))).setCell ⟨gb125, 3, none⟩ (.int .i64 0)).setCell ⟨gb125, 4, none⟩ (.int .i64 (Int.tmod (wrap64 ((Int.tmod a3 4) + 4)) 4))) w.heap.size (fun k_ => k_ ≠ gb125) (.slice Ao9 t111.length co9) t111) := ⟨by (with_reducible repeat (first | apply Kd.R_alloc | apply Kd.R_drewN | apply Kd.R_drew)); exact Kd.R_mono (Kd.R_far (p := ⟨gb125, 4, none⟩) (Kd.R_far (p := ⟨gb125, 3, none⟩) (Kd.R_far (p := ⟨gb125, 2, none⟩) (Kd.R_far (p := ⟨gb125, 1, none⟩) (Kd.R_far (p := ⟨gb125, 0, none⟩) (Kd.R_mono HO_0.out (fun k_ hk => (⟨hk, hk.2⟩ : _ ∧ k_ ≠ gb125))) (fun _ hk => hk.2) (.int .i64 0)) (fun _ hk => hk.2) (.int .i64 0)) (fun _ hk => hk.2) (.int .i64 (Int.tmod (wrap64 ((Int.tmod a2 8) + 8)) 8))) (fun _ hk => hk.2) (.int .i64 0)) (fun _ hk => hk.2) (.int .i64 (Int.tmod (wrap64 ((Int.tmod a3 4) + 4)) 4))) (fun _ hk => hk.1.2)⟩
                                      have n1_ : Aside0 (Kd.R (Kd.int .i64) 3 (((((w42.setCell ⟨gb125, 0, none⟩ (.int .i64 0)).setCell ⟨gb125, 1, none⟩ (.int .i64 0)).setCell ⟨gb125, 2, none⟩ (.int .i64 (Int.tmod (wrap64 ((Int.tmod a2 8) + 8)) 8))).setCell ⟨gb125, 3, none⟩ (.int .i64 0)).setCell ⟨gb125, 4, none⟩ (.int .i64 (Int.tmod (wrap64 ((Int.tmod a3 4) + 4)) 4))) w.heap.size (fun _ => True) v123 t121) := ⟨by (with_reducible repeat (first | apply Kd.R_alloc | apply Kd.R_drewN | apply Kd.R_drew)); exact Kd.R_mono (Kd.R_far (p := ⟨gb125, 4, none⟩) (Kd.R_far (p := ⟨gb125, 3, none⟩) (Kd.R_far (p := ⟨gb125, 2, none⟩) (Kd.R_far (p := ⟨gb125, 1, none⟩) (Kd.R_far (p := ⟨gb125, 0, none⟩) (Kd.R_types HO_11.out BK125.out (by decide)) (fun _ hk => hk.2) (.int .i64 0)) (fun _ hk => hk.2) (.int .i64 0)) (fun _ hk => hk.2) (.int .i64 (Int.tmod (wrap64 ((Int.tmod a2 8) + 8)) 8))) (fun _ hk => hk.2) (.int .i64 0)) (fun _ hk => hk.2) (.int .i64 (Int.tmod (wrap64 ((Int.tmod a3 4) + 4)) 4))) (fun _ hk => trivial)⟩
                                      have n2_ : Aside0 ((((((w42.setCell ⟨gb125, 0, none⟩ (.int .i64 0)).setCell ⟨gb125, 1, none⟩ (.int .i64 0)).setCell ⟨gb125, 2, none⟩ (.int .i64 (Int.tmod (wrap64 ((Int.tmod a2 8) + 8)) 8))).setCell ⟨gb125, 3, none⟩ (.int .i64 0)).setCell ⟨gb125, 4, none⟩ (.int .i64 (Int.tmod (wrap64 ((Int.tmod a3 4) + 4)) 4))).heap[gb125]? = some (.cells #[.int .i64 0, .int .i64 0, .int .i64 (Int.tmod (wrap64 ((Int.tmod a2 8) + 8)) 8), .int .i64 0, .int .i64 (Int.tmod (wrap64 ((Int.tmod a3 4) + 4)) 4)] 33 (0, 0))) := ⟨by (with_reducible repeat (first | refine blk_drewN ?_ _ | refine blk_drew ?_ | refine blk_alloc ?_ _)); refine blk_put (cs := #[.int .i64 0, .int .i64 0, .int .i64 (Int.tmod (wrap64 ((Int.tmod a2 8) + 8)) 8), .int .i64 0, .int .i64 0]) ?_ 4 _ rfl; (with_reducible repeat (first | refine blk_drewN ?_ _ | refine blk_drew ?_ | refine blk_alloc ?_ _)); refine blk_put (cs := #[.int .i64 0, .int .i64 0, .int .i64 (Int.tmod (wrap64 ((Int.tmod a2 8) + 8)) 8), .int .i64 0, .int .i64 0]) ?_ 3 _ rfl; (with_reducible repeat (first | refine blk_drewN ?_ _ | refine blk_drew ?_ | refine blk_alloc ?_ _)); refine blk_put (cs := #[.int .i64 0, .int .i64 0, .int .i64 0, .int .i64 0, .int .i64 0]) ?_ 2 _ rfl; (with_reducible repeat (first | refine blk_drewN ?_ _ | refine blk_drew ?_ | refine blk_alloc ?_ _)); refine blk_put (cs := #[.int .i64 0, .int .i64 0, .int .i64 0, .int .i64 0, .int .i64 0]) ?_ 1 _ rfl; (with_reducible repeat (first | refine blk_drewN ?_ _ | refine blk_drew ?_ | refine blk_alloc ?_ _)); refine blk_put (cs := #[.int .i64 0, .int .i64 0, .int .i64 0, .int .i64 0, .int .i64 0]) ?_ 0 _ rfl; (with_reducible repeat (first | refine blk_drewN ?_ _ | refine blk_drew ?_ | refine blk_alloc ?_ _)); exact BK125.out⟩
                                      have n3_ : Aside0 (Below w.heap.size w (((((w42.setCell ⟨gb125, 0, none⟩ (.int .i64 0)).setCell ⟨gb125, 1, none⟩ (.int .i64 0)).setCell ⟨gb125, 2, none⟩ (.int .i64 (Int.tmod (wrap64 ((Int.tmod a2 8) + 8)) 8))).setCell ⟨gb125, 3, none⟩ (.int .i64 0)).setCell ⟨gb125, 4, none⟩ (.int .i64 (Int.tmod (wrap64 ((Int.tmod a3 4) + 4)) 4)))) := ⟨by repeat (first | (with_reducible first | exact HB.out | apply below_alloc | apply pw_below_drewN | apply below_drew1 | refine below_set ?_ GE125.out) | exact HB.out)⟩
                                      (try clear HO_0)
                                      (try clear HO_11)
                                      (try clear BK125)
                                      (try clear HB)
                                      generalize (((((w42.setCell ⟨gb125, 0, none⟩ (.int .i64 0)).setCell ⟨gb125, 1, none⟩ (.int .i64 0)).setCell ⟨gb125, 2, none⟩ (.int .i64 (Int.tmod (wrap64 ((Int.tmod a2 8) + 8)) 8))).setCell ⟨gb125, 3, none⟩ (.int .i64 0)).setCell ⟨gb125, 4, none⟩ (.int .i64 (Int.tmod (wrap64 ((Int.tmod a3 4) + 4)) 4))) = w50 at n0_ n1_ n2_ n3_ ⊢
                                      have HO_0 := n0_
                                      have HO_11 := n1_
                                      have BK125 := n2_
                                      have HB := n3_
                                      clear n0_ n1_ n2_ n3_
                                      have n0_ := Aside0.mk (Kd.R_drew HO_0.out)
                                      have n1_ := Aside0.mk (Kd.R_drew HO_11.out)
                                      have n2_ := Aside0.mk (blk_drew BK125.out)
                                      have n3_ := Aside0.mk (below_drew1 HB.out)
                                      clear HO_0
                                      clear HO_11
                                      clear BK125
                                      clear HB
                                      have HO_0 := n0_
                                      have HO_11 := n1_
                                      have BK125 := n2_
                                      have HB := n3_
                                      clear n0_ n1_ n2_ n3_
                                      have p126 : 0 ≤ ((ji45) : Int) := of_decide_eq_true (by first | (with_reducible assumption) | assumption)
                                      have q126 : (ji45) < (t111.length : Int) := of_decide_eq_true (by first | (with_reducible assumption) | assumption)
                                      obtain ⟨ad126, e126, hx126_0, hx126_1, hx126_2, hx126_3, hx126_4⟩ := at_T33 (Kd.R_reads' HO_0.out).2.2 (ji45) p126 q126
                                      cases e126
                                      replace p126 := eq_true p126
                                      replace q126 := eq_true q126
                                      have p127 : 0 ≤ ((ji45) : Int) := of_decide_eq_true (by first | (with_reducible assumption) | assumption)
                                      have q127 : (ji45) < (t111.length : Int) := of_decide_eq_true (by first | (with_reducible assumption) | assumption)
                                      obtain ⟨ad127, e127, hx127_0, hx127_1, hx127_2, hx127_3, hx127_4⟩ := at_T33 (Kd.R_reads' HO_0.out).2.2 (ji45) p127 q127
                                      obtain rfl : ad126 = ad127 := (by injection e127)
                                      replace p127 := eq_true p127
                                      replace q127 := eq_true q127
                                      refine start_ (n := 16) (S := fun w' => w'.cell? (ad126.add (((ji45)).toNat * 5)) = some (.int .i64 ((rd_T33 t111 (ji45)).f0)) ∧ w'.cell? ⟨(ad126.add (((ji45)).toNat * 5)).block, (ad126.add (((ji45)).toNat * 5)).off + 1, none⟩ = some (.int .i64 ((rd_T33 t111 (ji45)).f1)) ∧ w'.cell? ⟨(ad126.add (((ji45)).toNat * 5)).block, (ad126.add (((ji45)).toNat * 5)).off + 2, none⟩ = some (.int .i64 ((rd_T33 t111 (ji45)).f2.f0)) ∧ w'.cell? ⟨(ad126.add (((ji45)).toNat * 5)).block, (ad126.add (((ji45)).toNat * 5)).off + 3, none⟩ = some (.int .i64 ((rd_T33 t111 (ji45)).f2.f1)) ∧ w'.cell? ⟨(ad126.add (((ji45)).toNat * 5)).block, (ad126.add (((ji45)).toNat * 5)).off + 4, none⟩ = some (.int .i64 ((rd_T33 t111 (ji45)).f2.f2)) ∧ w'.cell? (ad126.add (((ji45)).toNat * 5)) = some (.int .i64 ((rd_T33 t111 (ji45)).f0)) ∧ w'.cell? ⟨(ad126.add (((ji45)).toNat * 5)).block, (ad126.add (((ji45)).toNat * 5)).off + 1, none⟩ = some (.int .i64 ((rd_T33 t111 (ji45)).f1)) ∧ w'.cell? ⟨(ad126.add (((ji45)).toNat * 5)).block, (ad126.add (((ji45)).toNat * 5)).off + 2, none⟩ = some (.int .i64 ((rd_T33 t111 (ji45)).f2.f0)) ∧ w'.cell? ⟨(ad126.add (((ji45)).toNat * 5)).block, (ad126.add (((ji45)).toNat * 5)).off + 3, none⟩ = some (.int .i64 ((rd_T33 t111 (ji45)).f2.f1)) ∧ w'.cell? ⟨(ad126.add (((ji45)).toNat * 5)).block, (ad126.add (((ji45)).toNat * 5)).off + 4, none⟩ = some (.int .i64 ((rd_T33 t111 (ji45)).f2.f2))) (ds := []) #[false, false, false, false, false, false, false, false, false, false, false, false, false, false, false, false] (by kernel_rfl) rfl rfl ⟨hx126_0, hx126_1, hx126_2, hx126_3, hx126_4, hx127_0, hx127_1, hx127_2, hx127_3, hx127_4⟩ (fun hHeld => ?_); refine with_tabW judgeParts_a.tab18 judgeParts_a.bits18 (fun HT_ HW_ => ?_)
                                      generalize w50.drew = w51 at HO_0 HO_11 BK125 HB hx126_0 hx126_1 hx126_2 hx126_3 hx126_4 hx127_0 hx127_1 hx127_2 hx127_3 hx127_4 hHeld ⊢
                                      refine pure_ (i := 0) (N := some 106) (v := ?_) (a' := ?_) #[true, false, false, false, false, false, false, false, false, false, false, false, false, false, false, false] rfl rfl (any_of HT_.out (by kernel_rfl)) (fun _ _ _ h => h) (Or.inl ⟨by rfl, ?_⟩) ?_ ?_
                                      rotate_left
                                      · intro w'
                                        go_simp
                                        with_reducible rfl
                                      rotate_left
                                      · simp only [Act.put, List.setIfInBounds_toArray, List.set_cons_zero, List.set_cons_succ, i64_w, i32_w]
                                        rfl
                                      refine pure_ (i := 1) (N := some 107) (v := ?_) (a' := ?_) #[true, true, false, false, false, false, false, false, false, false, false, false, false, false, false, false] rfl rfl (any_of HT_.out (by kernel_rfl)) (fun _ _ _ h => h) (Or.inl ⟨by rfl, ?_⟩) ?_ ?_
                                      rotate_left
                                      · intro w'
                                        go_simp
                                        with_reducible rfl
                                      rotate_left
                                      · simp only [Act.put, List.setIfInBounds_toArray, List.set_cons_zero, List.set_cons_succ, i64_w, i32_w]
                                        rfl
                                      refine pure_ (i := 2) (N := some 108) (v := ?_) (a' := ?_) #[true, true, true, false, false, false, false, false, false, false, false, false, false, false, false, false] rfl rfl (any_of HT_.out (by kernel_rfl)) (fun _ _ _ h => h) (Or.inl ⟨by rfl, ?_⟩) ?_ ?_
                                      rotate_left
                                      · intro w'
                                        go_simp
                                        with_reducible rfl
                                      rotate_left
                                      · simp only [Act.put, List.setIfInBounds_toArray, List.set_cons_zero, List.set_cons_succ, i64_w, i32_w]
                                        rfl
                                      refine pure_ (i := 3) (N := some 109) (v := ?_) (a' := ?_) #[true, true, true, true, false, false, false, false, false, false, false, false, false, false, false, false] rfl rfl (any_of HT_.out (by kernel_rfl)) (fun _ _ _ h => h) (Or.inl ⟨by rfl, ?_⟩) ?_ ?_
                                      rotate_left
                                      · intro w'
                                        go_simp
                                        with_reducible rfl
                                      rotate_left
                                      · simp only [Act.put, List.setIfInBounds_toArray, List.set_cons_zero, List.set_cons_succ, i64_w, i32_w]
                                        rfl
                                      refine pure_ (i := 4) (N := some 110) (v := ?_) (a' := ?_) #[true, true, true, true, true, false, false, false, false, false, false, false, false, false, false, false] rfl rfl (any_of HT_.out (by kernel_rfl)) (fun _ _ _ h => h) (Or.inl ⟨by rfl, ?_⟩) ?_ ?_
                                      rotate_left
                                      · intro w'
                                        go_simp
                                        with_reducible rfl
                                      rotate_left
                                      · simp only [Act.put, List.setIfInBounds_toArray, List.set_cons_zero, List.set_cons_succ, i64_w, i32_w]
                                        rfl
                                      refine pure_ (i := 6) (N := some 112) (v := ?_) (a' := ?_) #[true, true, true, true, true, false, true, false, false, false, false, false, false, false, false, false] rfl rfl (any_of HT_.out (by kernel_rfl)) (fun _ _ _ h => h) (Or.inl ⟨by rfl, ?_⟩) ?_ ?_
                                      rotate_left
                                      · intro w'
                                        go_simp
                                        with_reducible rfl
                                      rotate_left
                                      · simp only [Act.put, List.setIfInBounds_toArray, List.set_cons_zero, List.set_cons_succ, i64_w, i32_w]
                                        rfl
                                      refine pure_ (i := 7) (N := some 113) (v := ?_) (a' := ?_) #[true, true, true, true, true, false, true, true, false, false, false, false, false, false, false, false] rfl rfl (any_of HT_.out (by kernel_rfl)) (fun _ _ _ h => h) (Or.inl ⟨by rfl, ?_⟩) ?_ ?_
                                      rotate_left
                                      · intro w'
                                        go_simp
                                        with_reducible rfl
                                      rotate_left
                                      · simp only [Act.put, List.setIfInBounds_toArray, List.set_cons_zero, List.set_cons_succ, i64_w, i32_w]
                                        rfl
                                      refine pure_ (i := 8) (N := some 114) (v := ?_) (a' := ?_) #[true, true, true, true, true, false, true, true, true, false, false, false, false, false, false, false] rfl rfl (any_of HT_.out (by kernel_rfl)) (fun _ _ _ h => h) (Or.inl ⟨by rfl, ?_⟩) ?_ ?_
                                      rotate_left
                                      · intro w'
                                        go_simp
                                        with_reducible rfl
                                      rotate_left
                                      · simp only [Act.put, List.setIfInBounds_toArray, List.set_cons_zero, List.set_cons_succ, i64_w, i32_w]
                                        rfl
                                      refine pure_ (i := 9) (N := some 115) (v := ?_) (a' := ?_) #[true, true, true, true, true, false, true, true, true, true, false, false, false, false, false, false] rfl rfl (any_of HT_.out (by kernel_rfl)) (fun _ _ _ h => h) (Or.inl ⟨by rfl, ?_⟩) ?_ ?_
                                      rotate_left
                                      · intro w'
                                        go_simp
                                        with_reducible rfl
                                      rotate_left
                                      · simp only [Act.put, List.setIfInBounds_toArray, List.set_cons_zero, List.set_cons_succ, i64_w, i32_w]
                                        rfl
                                      refine pure_ (i := 10) (N := some 116) (v := ?_) (a' := ?_) #[true, true, true, true, true, false, true, true, true, true, true, false, false, false, false, false] rfl rfl (any_of HT_.out (by kernel_rfl)) (fun _ _ _ h => h) (Or.inl ⟨by rfl, ?_⟩) ?_ ?_
                                      rotate_left
                                      · intro w'
                                        go_simp
                                        with_reducible rfl
                                      rotate_left
                                      · simp only [Act.put, List.setIfInBounds_toArray, List.set_cons_zero, List.set_cons_succ, i64_w, i32_w]
                                        rfl
                                      refine take_ (i := 5) (N := some 111) (v := ?_) (a' := ?_) #[true, true, true, true, true, true, true, true, true, true, true, false, false, false, false, false] rfl rfl (take_ofW HT_.out HW_.out (by kernel_rfl)) (fun _ _ _ h => h) (Or.inl ⟨by rfl, ?_⟩) hHeld ?_ ?_
                                      rotate_left
                                      · rintro w' ⟨s0, s1, s2, s3, s4, s5, s6, s7, s8, s9⟩
                                        go_simp
                                        with_reducible rfl
                                      rotate_left
                                      · simp only [Act.put, List.setIfInBounds_toArray, List.set_cons_zero, List.set_cons_succ, i64_w, i32_w]
                                        rfl
                                      refine pure_ (i := 12) (N := some 118) (v := ?_) (a' := ?_) #[true, true, true, true, true, true, true, true, true, true, true, false, true, false, false, false] rfl rfl (any_of HT_.out (by kernel_rfl)) (fun _ _ _ h => h) (Or.inl ⟨by rfl, ?_⟩) ?_ ?_
                                      rotate_left
                                      · intro w'
                                        go_simp
                                        with_reducible rfl
                                      rotate_left
                                      · simp only [Act.put, List.setIfInBounds_toArray, List.set_cons_zero, List.set_cons_succ, i64_w, i32_w]
                                        rfl
                                      refine take_ (i := 11) (N := some 117) (v := ?_) (a' := ?_) #[true, true, true, true, true, true, true, true, true, true, true, true, true, false, false, false] rfl rfl (take_ofW HT_.out HW_.out (by kernel_rfl)) (fun _ _ _ h => h) (Or.inl ⟨by rfl, ?_⟩) hHeld ?_ ?_
                                      rotate_left
                                      · rintro w' ⟨s0, s1, s2, s3, s4, s5, s6, s7, s8, s9⟩
                                        go_simp
                                        with_reducible rfl
                                      rotate_left
                                      · simp only [Act.put, List.setIfInBounds_toArray, List.set_cons_zero, List.set_cons_succ, i64_w, i32_w]
                                        rfl
                                      refine one_ (i := 13) (N := none) #[true, true, true, true, true, true, true, true, true, true, true, true, true, true, false, false] rfl rfl (one_of HT_.out (by kernel_rfl)) (by decide) (fun K hK => ?_)
                                      have hs52 : w51.cell? ⟨gb125, 0, none⟩ = some (.int .i64 0) := (blk_cell BK125.out 0).trans rfl
                                      have hfs52 := blk_frozen BK125.out 0
                                      refine skip_ (w1 := ?_) (by rfl) rfl ?_ ?_
                                      rotate_left
                                      · go_simp
                                        rfl
                                      refine hK.out _ _ ⟨((cell_far (p := ⟨gb125, _, none⟩) (by first | exact Kd.own_blk (Kd.R_away HO_0.out (fun _ hk => hk)) | (rw [add_block]; exact Kd.own_blk (Kd.R_away HO_0.out (fun _ hk => hk))) | (show (Addr.add _ _).block ≠ _; rw [add_block]; exact Kd.own_blk (Kd.R_away HO_0.out (fun _ hk => hk))) | (dsimp only; exact Kd.own_blk (Kd.R_away HO_0.out (fun _ hk => hk)))) _).trans (hHeld.1)), ((cell_far (p := ⟨gb125, _, none⟩) (by first | exact Kd.own_blk (Kd.R_away HO_0.out (fun _ hk => hk)) | (rw [add_block]; exact Kd.own_blk (Kd.R_away HO_0.out (fun _ hk => hk))) | (show (Addr.add _ _).block ≠ _; rw [add_block]; exact Kd.own_blk (Kd.R_away HO_0.out (fun _ hk => hk))) | (dsimp only; exact Kd.own_blk (Kd.R_away HO_0.out (fun _ hk => hk)))) _).trans (hHeld.2.1)), ((cell_far (p := ⟨gb125, _, none⟩) (by first | exact Kd.own_blk (Kd.R_away HO_0.out (fun _ hk => hk)) | (rw [add_block]; exact Kd.own_blk (Kd.R_away HO_0.out (fun _ hk => hk))) | (show (Addr.add _ _).block ≠ _; rw [add_block]; exact Kd.own_blk (Kd.R_away HO_0.out (fun _ hk => hk))) | (dsimp only; exact Kd.own_blk (Kd.R_away HO_0.out (fun _ hk => hk)))) _).trans (hHeld.2.2.1)), ((cell_far (p := ⟨gb125, _, none⟩) (by first | exact Kd.own_blk (Kd.R_away HO_0.out (fun _ hk => hk)) | (rw [add_block]; exact Kd.own_blk (Kd.R_away HO_0.out (fun _ hk => hk))) | (show (Addr.add _ _).block ≠ _; rw [add_block]; exact Kd.own_blk (Kd.R_away HO_0.out (fun _ hk => hk))) | (dsimp only; exact Kd.own_blk (Kd.R_away HO_0.out (fun _ hk => hk)))) _).trans (hHeld.2.2.2.1)), ((cell_far (p := ⟨gb125, _, none⟩) (by first | exact Kd.own_blk (Kd.R_away HO_0.out (fun _ hk => hk)) | (rw [add_block]; exact Kd.own_blk (Kd.R_away HO_0.out (fun _ hk => hk))) | (show (Addr.add _ _).block ≠ _; rw [add_block]; exact Kd.own_blk (Kd.R_away HO_0.out (fun _ hk => hk))) | (dsimp only; exact Kd.own_blk (Kd.R_away HO_0.out (fun _ hk => hk)))) _).trans (hHeld.2.2.2.2.1)), ((cell_far (p := ⟨gb125, _, none⟩) (by first | exact Kd.own_blk (Kd.R_away HO_0.out (fun _ hk => hk)) | (rw [add_block]; exact Kd.own_blk (Kd.R_away HO_0.out (fun _ hk => hk))) | (show (Addr.add _ _).block ≠ _; rw [add_block]; exact Kd.own_blk (Kd.R_away HO_0.out (fun _ hk => hk))) | (dsimp only; exact Kd.own_blk (Kd.R_away HO_0.out (fun _ hk => hk)))) _).trans (hHeld.2.2.2.2.2.1)), ((cell_far (p := ⟨gb125, _, none⟩) (by first | exact Kd.own_blk (Kd.R_away HO_0.out (fun _ hk => hk)) | (rw [add_block]; exact Kd.own_blk (Kd.R_away HO_0.out (fun _ hk => hk))) | (show (Addr.add _ _).block ≠ _; rw [add_block]; exact Kd.own_blk (Kd.R_away HO_0.out (fun _ hk => hk))) | (dsimp only; exact Kd.own_blk (Kd.R_away HO_0.out (fun _ hk => hk)))) _).trans (hHeld.2.2.2.2.2.2.1)), ((cell_far (p := ⟨gb125, _, none⟩) (by first | exact Kd.own_blk (Kd.R_away HO_0.out (fun _ hk => hk)) | (rw [add_block]; exact Kd.own_blk (Kd.R_away HO_0.out (fun _ hk => hk))) | (show (Addr.add _ _).block ≠ _; rw [add_block]; exact Kd.own_blk (Kd.R_away HO_0.out (fun _ hk => hk))) | (dsimp only; exact Kd.own_blk (Kd.R_away HO_0.out (fun _ hk => hk)))) _).trans (hHeld.2.2.2.2.2.2.2.1)), ((cell_far (p := ⟨gb125, _, none⟩) (by first | exact Kd.own_blk (Kd.R_away HO_0.out (fun _ hk => hk)) | (rw [add_block]; exact Kd.own_blk (Kd.R_away HO_0.out (fun _ hk => hk))) | (show (Addr.add _ _).block ≠ _; rw [add_block]; exact Kd.own_blk (Kd.R_away HO_0.out (fun _ hk => hk))) | (dsimp only; exact Kd.own_blk (Kd.R_away HO_0.out (fun _ hk => hk)))) _).trans (hHeld.2.2.2.2.2.2.2.2.1)), ((cell_far (p := ⟨gb125, _, none⟩) (by first | exact Kd.own_blk (Kd.R_away HO_0.out (fun _ hk => hk)) | (rw [add_block]; exact Kd.own_blk (Kd.R_away HO_0.out (fun _ hk => hk))) | (show (Addr.add _ _).block ≠ _; rw [add_block]; exact Kd.own_blk (Kd.R_away HO_0.out (fun _ hk => hk))) | (dsimp only; exact Kd.own_blk (Kd.R_away HO_0.out (fun _ hk => hk)))) _).trans (hHeld.2.2.2.2.2.2.2.2.2))⟩ (fun hHeld => ?_)
                                      clear hK K
                                      refine pure_ (i := 14) (N := some 119) (v := ?_) (a' := ?_) #[true, true, true, true, true, true, true, true, true, true, true, true, true, true, true, false] rfl rfl (any_of HT_.out (by kernel_rfl)) (fun _ _ _ h => h) (Or.inl ⟨by rfl, ?_⟩) ?_ ?_
                                      rotate_left
                                      · intro w'
                                        go_simp
                                        with_reducible rfl
                                      rotate_left
                                      · simp only [Act.put, List.setIfInBounds_toArray, List.set_cons_zero, List.set_cons_succ, i64_w, i32_w]
                                        rfl
                                      refine one_ (i := 15) (N := none) #[true, true, true, true, true, true, true, true, true, true, true, true, true, true, true, true] rfl rfl (one_of HT_.out (by kernel_rfl)) (by decide) (fun K hK => ?_)
                                      have hs53 : w51.cell? ⟨gb125, 1, none⟩ = some (.int .i64 0) := (blk_cell BK125.out 1).trans rfl
                                      have hfs53 := blk_frozen BK125.out 1
                                      refine skip_ (w1 := ?_) (by rfl) rfl ?_ ?_
                                      rotate_left
                                      · go_simp
                                        rfl
                                      refine hK.out _ _ ⟨((cell_far (p := ⟨gb125, _, none⟩) (by first | exact Kd.own_blk (Kd.R_away HO_0.out (fun _ hk => hk)) | (rw [add_block]; exact Kd.own_blk (Kd.R_away HO_0.out (fun _ hk => hk))) | (show (Addr.add _ _).block ≠ _; rw [add_block]; exact Kd.own_blk (Kd.R_away HO_0.out (fun _ hk => hk))) | (dsimp only; exact Kd.own_blk (Kd.R_away HO_0.out (fun _ hk => hk)))) _).trans (hHeld.1)), ((cell_far (p := ⟨gb125, _, none⟩) (by first | exact Kd.own_blk (Kd.R_away HO_0.out (fun _ hk => hk)) | (rw [add_block]; exact Kd.own_blk (Kd.R_away HO_0.out (fun _ hk => hk))) | (show (Addr.add _ _).block ≠ _; rw [add_block]; exact Kd.own_blk (Kd.R_away HO_0.out (fun _ hk => hk))) | (dsimp only; exact Kd.own_blk (Kd.R_away HO_0.out (fun _ hk => hk)))) _).trans (hHeld.2.1)), ((cell_far (p := ⟨gb125, _, none⟩) (by first | exact Kd.own_blk (Kd.R_away HO_0.out (fun _ hk => hk)) | (rw [add_block]; exact Kd.own_blk (Kd.R_away HO_0.out (fun _ hk => hk))) | (show (Addr.add _ _).block ≠ _; rw [add_block]; exact Kd.own_blk (Kd.R_away HO_0.out (fun _ hk => hk))) | (dsimp only; exact Kd.own_blk (Kd.R_away HO_0.out (fun _ hk => hk)))) _).trans (hHeld.2.2.1)), ((cell_far (p := ⟨gb125, _, none⟩) (by first | exact Kd.own_blk (Kd.R_away HO_0.out (fun _ hk => hk)) | (rw [add_block]; exact Kd.own_blk (Kd.R_away HO_0.out (fun _ hk => hk))) | (show (Addr.add _ _).block ≠ _; rw [add_block]; exact Kd.own_blk (Kd.R_away HO_0.out (fun _ hk => hk))) | (dsimp only; exact Kd.own_blk (Kd.R_away HO_0.out (fun _ hk => hk)))) _).trans (hHeld.2.2.2.1)), ((cell_far (p := ⟨gb125, _, none⟩) (by first | exact Kd.own_blk (Kd.R_away HO_0.out (fun _ hk => hk)) | (rw [add_block]; exact Kd.own_blk (Kd.R_away HO_0.out (fun _ hk => hk))) | (show (Addr.add _ _).block ≠ _; rw [add_block]; exact Kd.own_blk (Kd.R_away HO_0.out (fun _ hk => hk))) | (dsimp only; exact Kd.own_blk (Kd.R_away HO_0.out (fun _ hk => hk)))) _).trans (hHeld.2.2.2.2.1)), ((cell_far (p := ⟨gb125, _, none⟩) (by first | exact Kd.own_blk (Kd.R_away HO_0.out (fun _ hk => hk)) | (rw [add_block]; exact Kd.own_blk (Kd.R_away HO_0.out (fun _ hk => hk))) | (show (Addr.add _ _).block ≠ _; rw [add_block]; exact Kd.own_blk (Kd.R_away HO_0.out (fun _ hk => hk))) | (dsimp only; exact Kd.own_blk (Kd.R_away HO_0.out (fun _ hk => hk)))) _).trans (hHeld.2.2.2.2.2.1)), ((cell_far (p := ⟨gb125, _, none⟩) (by first | exact Kd.own_blk (Kd.R_away HO_0.out (fun _ hk => hk)) | (rw [add_block]; exact Kd.own_blk (Kd.R_away HO_0.out (fun _ hk => hk))) | (show (Addr.add _ _).block ≠ _; rw [add_block]; exact Kd.own_blk (Kd.R_away HO_0.out (fun _ hk => hk))) | (dsimp only; exact Kd.own_blk (Kd.R_away HO_0.out (fun _ hk => hk)))) _).trans (hHeld.2.2.2.2.2.2.1)), ((cell_far (p := ⟨gb125, _, none⟩) (by first | exact Kd.own_blk (Kd.R_away HO_0.out (fun _ hk => hk)) | (rw [add_block]; exact Kd.own_blk (Kd.R_away HO_0.out (fun _ hk => hk))) | (show (Addr.add _ _).block ≠ _; rw [add_block]; exact Kd.own_blk (Kd.R_away HO_0.out (fun _ hk => hk))) | (dsimp only; exact Kd.own_blk (Kd.R_away HO_0.out (fun _ hk => hk)))) _).trans (hHeld.2.2.2.2.2.2.2.1)), ((cell_far (p := ⟨gb125, _, none⟩) (by first | exact Kd.own_blk (Kd.R_away HO_0.out (fun _ hk => hk)) | (rw [add_block]; exact Kd.own_blk (Kd.R_away HO_0.out (fun _ hk => hk))) | (show (Addr.add _ _).block ≠ _; rw [add_block]; exact Kd.own_blk (Kd.R_away HO_0.out (fun _ hk => hk))) | (dsimp only; exact Kd.own_blk (Kd.R_away HO_0.out (fun _ hk => hk)))) _).trans (hHeld.2.2.2.2.2.2.2.2.1)), ((cell_far (p := ⟨gb125, _, none⟩) (by first | exact Kd.own_blk (Kd.R_away HO_0.out (fun _ hk => hk)) | (rw [add_block]; exact Kd.own_blk (Kd.R_away HO_0.out (fun _ hk => hk))) | (show (Addr.add _ _).block ≠ _; rw [add_block]; exact Kd.own_blk (Kd.R_away HO_0.out (fun _ hk => hk))) | (dsimp only; exact Kd.own_blk (Kd.R_away HO_0.out (fun _ hk => hk)))) _).trans (hHeld.2.2.2.2.2.2.2.2.2))⟩ (fun hHeld => ?_)
                                      clear hK K
                                      refine done_ (done_of HT_.out (by kernel_rfl)) ?_
                                      have p128 : 0 ≤ ((ji45) : Int) := of_decide_eq_true (by first | (with_reducible assumption) | assumption)
                                      have q128 : (ji45) < (t111.length : Int) := of_decide_eq_true (by first | (with_reducible assumption) | assumption)
                                      obtain ⟨ad128, e128, hx128_0, hx128_1, hx128_2, hx128_3, hx128_4⟩ := at_T33 (Kd.R_reads' HO_0.out).2.2 (ji45) p128 q128
                                      obtain rfl : ad126 = ad128 := (by injection e128)
                                      have hn128_0 : ad126.block ≠ gb125 := Kd.own_blk (by first | exact Kd.R_away HO_0.out (fun _ hk => hk) | exact Kd.R_away HO_0.out (fun _ hk => hk.2) | exact Kd.R_ne HO_0.out BK125.out (by decide))
                                      have hn128_1 : ad126.block ≠ gb125 := Kd.own_blk (by first | exact Kd.R_away HO_0.out (fun _ hk => hk) | exact Kd.R_away HO_0.out (fun _ hk => hk.2) | exact Kd.R_ne HO_0.out BK125.out (by decide))
                                      replace hx128_0 := (cell_far (p := ⟨gb125, 0, none⟩) (by first | (rw [add_block]; exact hn128_0) | (show (Addr.add _ _).block ≠ _; rw [add_block]; exact hn128_0) | exact hn128_0) (.int .i64 ((rd_T33 t111 (ji45)).f0))).trans hx128_0
                                      replace hx128_1 := (cell_far (p := ⟨gb125, 0, none⟩) (by first | (rw [add_block]; exact hn128_0) | (show (Addr.add _ _).block ≠ _; rw [add_block]; exact hn128_0) | exact hn128_0) (.int .i64 ((rd_T33 t111 (ji45)).f0))).trans hx128_1
                                      replace hx128_2 := (cell_far (p := ⟨gb125, 0, none⟩) (by first | (rw [add_block]; exact hn128_0) | (show (Addr.add _ _).block ≠ _; rw [add_block]; exact hn128_0) | exact hn128_0) (.int .i64 ((rd_T33 t111 (ji45)).f0))).trans hx128_2
                                      replace hx128_3 := (cell_far (p := ⟨gb125, 0, none⟩) (by first | (rw [add_block]; exact hn128_0) | (show (Addr.add _ _).block ≠ _; rw [add_block]; exact hn128_0) | exact hn128_0) (.int .i64 ((rd_T33 t111 (ji45)).f0))).trans hx128_3
                                      replace hx128_4 := (cell_far (p := ⟨gb125, 0, none⟩) (by first | (rw [add_block]; exact hn128_0) | (show (Addr.add _ _).block ≠ _; rw [add_block]; exact hn128_0) | exact hn128_0) (.int .i64 ((rd_T33 t111 (ji45)).f0))).trans hx128_4
                                      replace hx128_0 := (cell_far (p := ⟨gb125, 1, none⟩) (by first | (rw [add_block]; exact hn128_1) | (show (Addr.add _ _).block ≠ _; rw [add_block]; exact hn128_1) | exact hn128_1) (.int .i64 ((rd_T33 t111 (ji45)).f1))).trans hx128_0
                                      replace hx128_1 := (cell_far (p := ⟨gb125, 1, none⟩) (by first | (rw [add_block]; exact hn128_1) | (show (Addr.add _ _).block ≠ _; rw [add_block]; exact hn128_1) | exact hn128_1) (.int .i64 ((rd_T33 t111 (ji45)).f1))).trans hx128_1
                                      replace hx128_2 := (cell_far (p := ⟨gb125, 1, none⟩) (by first | (rw [add_block]; exact hn128_1) | (show (Addr.add _ _).block ≠ _; rw [add_block]; exact hn128_1) | exact hn128_1) (.int .i64 ((rd_T33 t111 (ji45)).f1))).trans hx128_2
                                      replace hx128_3 := (cell_far (p := ⟨gb125, 1, none⟩) (by first | (rw [add_block]; exact hn128_1) | (show (Addr.add _ _).block ≠ _; rw [add_block]; exact hn128_1) | exact hn128_1) (.int .i64 ((rd_T33 t111 (ji45)).f1))).trans hx128_3
                                      replace hx128_4 := (cell_far (p := ⟨gb125, 1, none⟩) (by first | (rw [add_block]; exact hn128_1) | (show (Addr.add _ _).block ≠ _; rw [add_block]; exact hn128_1) | exact hn128_1) (.int .i64 ((rd_T33 t111 (ji45)).f1))).trans hx128_4
                                      clear hn128_0
                                      clear hn128_1
                                      replace p128 := eq_true p128
                                      replace q128 := eq_true q128
                                      try go_wp2
                                      go_meet
                                      case rel => exact ⟨_, ((rd_T33 t111 (ji45)).f0), ((rd_T33 t111 (ji45)).f1), H', ⟨by have := HJ6.out; have := HJ20.out; have := HJ35.out; first | omega | exact Nat.le_refl _⟩, ⟨by (with_reducible repeat (first | apply Kd.R_alloc | apply Kd.R_drewN | apply Kd.R_drew)); exact Kd.R_mono (Kd.R_far (p := ⟨gb125, 1, none⟩) (Kd.R_far (p := ⟨gb125, 0, none⟩) (Kd.R_mono HO_0.out (fun k_ hk => (⟨hk, hk⟩ : _ ∧ k_ ≠ gb125))) (fun _ hk => hk.2) (.int .i64 ((rd_T33 t111 (ji45)).f0))) (fun _ hk => hk.2) (.int .i64 ((rd_T33 t111 (ji45)).f1))) (fun _ hk => hk.1)⟩, ⟨by (with_reducible repeat (first | apply Kd.R_alloc | apply Kd.R_drewN | apply Kd.R_drew)); exact Kd.R_mono (Kd.R_far (p := ⟨gb125, 1, none⟩) (Kd.R_far (p := ⟨gb125, 0, none⟩) (Kd.R_types HO_11.out BK125.out (by decide)) (fun _ hk => hk.2) (.int .i64 ((rd_T33 t111 (ji45)).f0))) (fun _ hk => hk.2) (.int .i64 ((rd_T33 t111 (ji45)).f1))) (fun _ hk => trivial)⟩, ⟨by (with_reducible repeat (first | refine blk_drewN ?_ _ | refine blk_drew ?_ | refine blk_alloc ?_ _)); refine blk_put (cs := #[.int .i64 ((rd_T33 t111 (ji45)).f0), .int .i64 0, .int .i64 (Int.tmod (wrap64 ((Int.tmod a2 8) + 8)) 8), .int .i64 0, .int .i64 (Int.tmod (wrap64 ((Int.tmod a3 4) + 4)) 4)]) ?_ 1 _ rfl; (with_reducible repeat (first | refine blk_drewN ?_ _ | refine blk_drew ?_ | refine blk_alloc ?_ _)); refine blk_put (cs := #[.int .i64 0, .int .i64 0, .int .i64 (Int.tmod (wrap64 ((Int.tmod a2 8) + 8)) 8), .int .i64 0, .int .i64 (Int.tmod (wrap64 ((Int.tmod a3 4) + 4)) 4)]) ?_ 0 _ rfl; (with_reducible repeat (first | refine blk_drewN ?_ _ | refine blk_drew ?_ | refine blk_alloc ?_ _)); exact BK125.out⟩, ⟨by repeat (first | (with_reducible first | exact HB.out | apply below_alloc | apply pw_below_drewN | apply below_drew1 | refine below_set ?_ GE125.out) | exact HB.out)⟩⟩
                                  · rw [if_neg c47] at H
                                    exact absurd H (by simp)
                                · rw [if_neg c46] at H
                                  exact absurd H (by simp)
                              · rw [if_neg c44] at H
                                have c44b0 : decide (0 < (t111.length : Int)) = false := decide_eq_false c44
                                have c44b1 : decide (0 < t111.length) = false := decide_eq_false (by omega)
                                clear c44
                                (first | rw [c44b0] | rw [c44b1] | (simp only [i64_w, i32_w]; rw [c44b0]) | skip)
                                have H' := Aside0.mk H
                                clear H
                                go_wp2
                                go_meet
                                case rel => exact ⟨_, (0), (0), H', ⟨by have := HJ6.out; have := HJ20.out; have := HJ35.out; first | omega | exact Nat.le_refl _⟩, ⟨by (with_reducible repeat (first | apply Kd.R_alloc | apply Kd.R_drewN | apply Kd.R_drew)); exact Kd.R_mono (Kd.R_far (p := ⟨gb125, 4, none⟩) (Kd.R_far (p := ⟨gb125, 3, none⟩) (Kd.R_far (p := ⟨gb125, 2, none⟩) (Kd.R_far (p := ⟨gb125, 1, none⟩) (Kd.R_far (p := ⟨gb125, 0, none⟩) (Kd.R_mono HO_0.out (fun k_ hk => (⟨hk, hk.2⟩ : _ ∧ k_ ≠ gb125))) (fun _ hk => hk.2) (.int .i64 0)) (fun _ hk => hk.2) (.int .i64 0)) (fun _ hk => hk.2) (.int .i64 (Int.tmod (wrap64 ((Int.tmod a2 8) + 8)) 8))) (fun _ hk => hk.2) (.int .i64 0)) (fun _ hk => hk.2) (.int .i64 (Int.tmod (wrap64 ((Int.tmod a3 4) + 4)) 4))) (fun _ hk => hk.1.2)⟩, ⟨by (with_reducible repeat (first | apply Kd.R_alloc | apply Kd.R_drewN | apply Kd.R_drew)); exact Kd.R_mono (Kd.R_far (p := ⟨gb125, 4, none⟩) (Kd.R_far (p := ⟨gb125, 3, none⟩) (Kd.R_far (p := ⟨gb125, 2, none⟩) (Kd.R_far (p := ⟨gb125, 1, none⟩) (Kd.R_far (p := ⟨gb125, 0, none⟩) (Kd.R_types HO_11.out BK125.out (by decide)) (fun _ hk => hk.2) (.int .i64 0)) (fun _ hk => hk.2) (.int .i64 0)) (fun _ hk => hk.2) (.int .i64 (Int.tmod (wrap64 ((Int.tmod a2 8) + 8)) 8))) (fun _ hk => hk.2) (.int .i64 0)) (fun _ hk => hk.2) (.int .i64 (Int.tmod (wrap64 ((Int.tmod a3 4) + 4)) 4))) (fun _ hk => trivial)⟩, ⟨by (with_reducible repeat (first | refine blk_drewN ?_ _ | refine blk_drew ?_ | refine blk_alloc ?_ _)); refine blk_put (cs := #[.int .i64 0, .int .i64 0, .int .i64 (Int.tmod (wrap64 ((Int.tmod a2 8) + 8)) 8), .int .i64 0, .int .i64 0]) ?_ 4 _ rfl; (with_reducible repeat (first | refine blk_drewN ?_ _ | refine blk_drew ?_ | refine blk_alloc ?_ _)); refine blk_put (cs := #[.int .i64 0, .int .i64 0, .int .i64 (Int.tmod (wrap64 ((Int.tmod a2 8) + 8)) 8), .int .i64 0, .int .i64 0]) ?_ 3 _ rfl; (with_reducible repeat (first | refine blk_drewN ?_ _ | refine blk_drew ?_ | refine blk_alloc ?_ _)); refine blk_put (cs := #[.int .i64 0, .int .i64 0, .int .i64 0, .int .i64 0, .int .i64 0]) ?_ 2 _ rfl; (with_reducible repeat (first | refine blk_drewN ?_ _ | refine blk_drew ?_ | refine blk_alloc ?_ _)); refine blk_put (cs := #[.int .i64 0, .int .i64 0, .int .i64 0, .int .i64 0, .int .i64 0]) ?_ 1 _ rfl; (with_reducible repeat (first | refine blk_drewN ?_ _ | refine blk_drew ?_ | refine blk_alloc ?_ _)); refine blk_put (cs := #[.int .i64 0, .int .i64 0, .int .i64 0, .int .i64 0, .int .i64 0]) ?_ 0 _ rfl; (with_reducible repeat (first | refine blk_drewN ?_ _ | refine blk_drew ?_ | refine blk_alloc ?_ _)); exact BK125.out⟩, ⟨by repeat (first | (with_reducible first | exact HB.out | apply below_alloc | apply pw_below_drewN | apply below_drew1 | refine below_set ?_ GE125.out) | exact HB.out)⟩⟩
                            case rest =>
                              clear HC41
                              try clear c1
                              try clear p1
                              try clear q1
                              try clear hx1
                              try clear c2
                              try clear p2
                              try clear q2
                              try clear c3
                              try clear c4
                              try clear p6
                              try clear c11
                              try clear c11b0
                              try clear c12
                              try clear c12b0
                              try clear p12
                              try clear q12
                              try clear hx12
                              try clear c13
                              try clear c14
                              try clear c15
                              try clear c16
                              try clear c16b0
                              try clear c16b1
                              try clear c18
                              try clear c18b0
                              try clear c18b1
                              try clear c19
                              try clear c19b0
                              try clear c19b1
                              try clear q22
                              try clear c24
                              try clear c24b0
                              try clear c25
                              try clear c25b0
                              try clear c26
                              try clear c26b0
                              try clear c26b1
                              try clear c27
                              try clear c27b0
                              try clear c28
                              try clear c28b0
                              try clear c29
                              try clear c29b0
                              try clear c30
                              try clear c30b0
                              try clear c31
                              try clear c31b0
                              try clear c32
                              try clear c32b0
                              try clear c33
                              try clear c34
                              try clear c34b0
                              try clear c38
                              try clear c38b0
                              try clear c38b1
                              try clear c40
                              try clear c44
                              try clear c44b0
                              try clear c44b1
                              try clear c46
                              try clear c46b0
                              try clear c47
                              try clear c47b0
                              try clear c48
                              try clear c48b0
                              try clear c48b1
                              try clear c49
                              try clear hcz43_0
                              try clear hcz43_1
                              try clear hcz43_2
                              try clear hcz43_3
                              try clear hcz43_4
                              try clear hfz43_0
                              try clear hfz43_1
                              try clear hfz43_2
                              try clear hfz43_3
                              try clear hfz43_4
                              try clear hx126_0
                              try clear hx126_1
                              try clear hx126_2
                              try clear hx126_3
                              try clear hx126_4
                              try clear hx127_0
                              try clear hx127_1
                              try clear hx127_2
                              try clear hx127_3
                              try clear hx127_4
                              try clear hx128_0
                              try clear hx128_1
                              try clear hx128_2
                              try clear hx128_3
                              try clear hx128_4
                              try clear p126
                              try clear p127
                              try clear p128
                              try clear p2
                              try clear p6
                              try clear q126
                              try clear q127
                              try clear q128
                              try clear q2
                              try clear q22
                              obtain ⟨kq, x126000_40, x126001_40, HA, HJ40, HO_0, HO_11, BK125, HB⟩ := hcut
                              cases kq with
                              | zero => exact absurd HA.out (by simp [judgeParts_a.j3])
                              | succ kj40 =>
                                have H := HA.out
                                clear HA
                                simp only [judgeParts_a.j3] at H
                                obtain ⟨y135, hy135⟩ : ∃ y_ : List (S33), y_ = (([] : List (S33))) := ⟨_, rfl⟩
                                replace H : (if y135.length + t111.length < 3518437208883 then ((some (y135 ++ t111 : List (S33))).bind fun y138 => ((some (([(⟨x126000_40, x126001_40, (⟨(Int.tmod (wrap64 ((Int.tmod a2 8) + 8)) 8), 0, (Int.tmod (wrap64 ((Int.tmod a3 4) + 4)) 4)⟩ : S31)⟩ : S33)] : List (S33)) : List (S33))).bind fun y141 => (if y138.length + y141.length < 3518437208883 then ((some (y138 ++ y141 : List (S33))).bind fun y144 => (if 0 ≤ (Int.tmod (wrap64 ((Int.tmod a3 4) + 4)) 4) then (if (Int.tmod (wrap64 ((Int.tmod a3 4) + 4)) 4) < (t121.length : Int) then (if (rd t121 (Int.tmod (wrap64 ((Int.tmod a3 4) + 4)) 4)) = (-1) then ((judge_Held.f y144).bind fun bt148 => ((judge_Wrong.f y144).bind fun t152 => (if t152 = (-1) then (if bt148.2 = 0 then (if (bt148.1.length : Int) = 4 then (if (Int.tmod (wrap64 ((Int.tmod a3 4) + 4)) 4) < (bt148.1.length : Int) then (some ((rd bt148.1 (Int.tmod (wrap64 ((Int.tmod a3 4) + 4)) 4)) == (Int.tmod (wrap64 ((Int.tmod a2 8) + 8)) 8))) else (none)) else (none)) else (none)) else (none)))) else ((judge_Wrong.f y144).bind fun t154 => (some (t154 == (t111.length : Int))))) else (none)) else (none))) else (none)))) else (none)) = some r := by first | (rw [hy135]; with_reducible exact H) | (have H2_ := (Option.bind_some _ _).symm.trans H; rw [hy135]; with_reducible exact H2_) | (have H2_ := (Option.bind_some _ _).symm.trans H; with_reducible exact H2_) | with_reducible exact H | (rw [hy135]; exact H) | exact H
                                have Ny135 := Aside0.mk hy135
                                clear hy135
                                by_cases c54 : y135.length + t111.length < 3518437208883
                                · rw [if_pos c54] at H
                                  have LMc54 := Aside0.mk c54
                                  clear c54
                                  obtain ⟨y138, hy138⟩ : ∃ y_ : List (S33), y_ = (y135 ++ t111) := ⟨_, rfl⟩
                                  replace H : ((some (([(⟨x126000_40, x126001_40, (⟨(Int.tmod (wrap64 ((Int.tmod a2 8) + 8)) 8), 0, (Int.tmod (wrap64 ((Int.tmod a3 4) + 4)) 4)⟩ : S31)⟩ : S33)] : List (S33)) : List (S33))).bind fun y141 => (if y138.length + y141.length < 3518437208883 then ((some (y138 ++ y141 : List (S33))).bind fun y144 => (if 0 ≤ (Int.tmod (wrap64 ((Int.tmod a3 4) + 4)) 4) then (if (Int.tmod (wrap64 ((Int.tmod a3 4) + 4)) 4) < (t121.length : Int) then (if (rd t121 (Int.tmod (wrap64 ((Int.tmod a3 4) + 4)) 4)) = (-1) then ((judge_Held.f y144).bind fun bt148 => ((judge_Wrong.f y144).bind fun t152 => (if t152 = (-1) then (if bt148.2 = 0 then (if (bt148.1.length : Int) = 4 then (if (Int.tmod (wrap64 ((Int.tmod a3 4) + 4)) 4) < (bt148.1.length : Int) then (some ((rd bt148.1 (Int.tmod (wrap64 ((Int.tmod a3 4) + 4)) 4)) == (Int.tmod (wrap64 ((Int.tmod a2 8) + 8)) 8))) else (none)) else (none)) else (none)) else (none)))) else ((judge_Wrong.f y144).bind fun t154 => (some (t154 == (t111.length : Int))))) else (none)) else (none))) else (none))) = some r := by first | (rw [hy138]; with_reducible exact H) | (have H2_ := (Option.bind_some _ _).symm.trans H; rw [hy138]; with_reducible exact H2_) | (have H2_ := (Option.bind_some _ _).symm.trans H; with_reducible exact H2_) | with_reducible exact H | (rw [hy138]; exact H) | exact H
                                  have Ny138 := Aside0.mk hy138
                                  clear hy138
                                  obtain ⟨y141, hy141⟩ : ∃ y_ : List (S33), y_ = (([(⟨x126000_40, x126001_40, (⟨(Int.tmod (wrap64 ((Int.tmod a2 8) + 8)) 8), 0, (Int.tmod (wrap64 ((Int.tmod a3 4) + 4)) 4)⟩ : S31)⟩ : S33)] : List (S33))) := ⟨_, rfl⟩
                                  replace H : (if y138.length + y141.length < 3518437208883 then ((some (y138 ++ y141 : List (S33))).bind fun y144 => (if 0 ≤ (Int.tmod (wrap64 ((Int.tmod a3 4) + 4)) 4) then (if (Int.tmod (wrap64 ((Int.tmod a3 4) + 4)) 4) < (t121.length : Int) then (if (rd t121 (Int.tmod (wrap64 ((Int.tmod a3 4) + 4)) 4)) = (-1) then ((judge_Held.f y144).bind fun bt148 => ((judge_Wrong.f y144).bind fun t152 => (if t152 = (-1) then (if bt148.2 = 0 then (if (bt148.1.length : Int) = 4 then (if (Int.tmod (wrap64 ((Int.tmod a3 4) + 4)) 4) < (bt148.1.length : Int) then (some ((rd bt148.1 (Int.tmod (wrap64 ((Int.tmod a3 4) + 4)) 4)) == (Int.tmod (wrap64 ((Int.tmod a2 8) + 8)) 8))) else (none)) else (none)) else (none)) else (none)))) else ((judge_Wrong.f y144).bind fun t154 => (some (t154 == (t111.length : Int))))) else (none)) else (none))) else (none)) = some r := by first | (rw [hy141]; with_reducible exact H) | (have H2_ := (Option.bind_some _ _).symm.trans H; rw [hy141]; with_reducible exact H2_) | (have H2_ := (Option.bind_some _ _).symm.trans H; with_reducible exact H2_) | with_reducible exact H | (rw [hy141]; exact H) | exact H
                                  have Ny141 := Aside0.mk hy141
                                  clear hy141
                                  by_cases c55 : y138.length + y141.length < 3518437208883
                                  · rw [if_pos c55] at H
                                    have LMc55 := Aside0.mk c55
                                    clear c55
                                    obtain ⟨y144, hy144⟩ : ∃ y_ : List (S33), y_ = (y138 ++ y141) := ⟨_, rfl⟩
                                    replace H : (if 0 ≤ (Int.tmod (wrap64 ((Int.tmod a3 4) + 4)) 4) then (if (Int.tmod (wrap64 ((Int.tmod a3 4) + 4)) 4) < (t121.length : Int) then (if (rd t121 (Int.tmod (wrap64 ((Int.tmod a3 4) + 4)) 4)) = (-1) then ((judge_Held.f y144).bind fun bt148 => ((judge_Wrong.f y144).bind fun t152 => (if t152 = (-1) then (if bt148.2 = 0 then (if (bt148.1.length : Int) = 4 then (if (Int.tmod (wrap64 ((Int.tmod a3 4) + 4)) 4) < (bt148.1.length : Int) then (some ((rd bt148.1 (Int.tmod (wrap64 ((Int.tmod a3 4) + 4)) 4)) == (Int.tmod (wrap64 ((Int.tmod a2 8) + 8)) 8))) else (none)) else (none)) else (none)) else (none)))) else ((judge_Wrong.f y144).bind fun t154 => (some (t154 == (t111.length : Int))))) else (none)) else (none)) = some r := by first | (rw [hy144]; with_reducible exact H) | (have H2_ := (Option.bind_some _ _).symm.trans H; rw [hy144]; with_reducible exact H2_) | (have H2_ := (Option.bind_some _ _).symm.trans H; with_reducible exact H2_) | with_reducible exact H | (rw [hy144]; exact H) | exact H
                                    have Ny144 := Aside0.mk hy144
                                    clear hy144
                                    obtain ⟨ji56, hji56⟩ : ∃ j_ : Int, (Int.tmod (wrap64 ((Int.tmod a3 4) + 4)) 4) = j_ := ⟨_, rfl⟩; try rw [hji56] at BK125
                                    replace H : (if 0 ≤ (ji56) then (if (ji56) < (t121.length : Int) then (if (rd t121 (ji56)) = (-1) then ((judge_Held.f y144).bind fun bt148 => ((judge_Wrong.f y144).bind fun t152 => (if t152 = (-1) then (if bt148.2 = 0 then (if (bt148.1.length : Int) = 4 then (if (ji56) < (bt148.1.length : Int) then (some ((rd bt148.1 (ji56)) == (Int.tmod (wrap64 ((Int.tmod a2 8) + 8)) 8))) else (none)) else (none)) else (none)) else (none)))) else ((judge_Wrong.f y144).bind fun t154 => (some (t154 == (t111.length : Int))))) else (none)) else (none)) = some r := by first | (rw [hji56] at H; exact H) | (simp only [hji56] at H ⊢; exact H)
                                    (try rw [hji56] at Ny141)
                                    (try rw [hji56] at Ny141)
                                    by_cases c57 : 0 ≤ (ji56)
                                    · rw [if_pos c57] at H
                                      have c57b0 : decide (0 ≤ (ji56)) = true := decide_eq_true c57
                                      clear c57
                                      by_cases c58 : (ji56) < (t121.length : Int)
                                      · rw [if_pos c58] at H
                                        have c58b0 : decide ((ji56) < (t121.length : Int)) = true := decide_eq_true c58
                                        clear c58
                                        by_cases c59 : (rd t121 (ji56)) = (-1)
                                        · rw [if_pos c59] at H
                                          have c59b0 : ((rd t121 (ji56)) == (-1)) = true := beq_iff_eq.mpr c59
                                          have c59b1 : ((rd t121 (ji56)) != (-1)) = false := bne_eq_false_iff_eq.mpr c59
                                          clear c59
                                          replace H := Option.bind_eq_some_iff.mp H
                                          obtain ⟨⟨t148, t149⟩, A600, H⟩ := H
                                          replace H : ((judge_Wrong.f y144).bind fun t152 => (if t152 = (-1) then (if t149 = 0 then (if (t148.length : Int) = 4 then (if (ji56) < (t148.length : Int) then (some ((rd t148 (ji56)) == (Int.tmod (wrap64 ((Int.tmod a2 8) + 8)) 8))) else (none)) else (none)) else (none)) else (none))) = some r := H
                                          have A60 := Aside0.mk A600
                                          clear A600
                                          replace H := Option.bind_eq_some_iff.mp H
                                          obtain ⟨t152, A610, H⟩ := H
                                          replace H : (if t152 = (-1) then (if t149 = 0 then (if (t148.length : Int) = 4 then (if (ji56) < (t148.length : Int) then (some ((rd t148 (ji56)) == (Int.tmod (wrap64 ((Int.tmod a2 8) + 8)) 8))) else (none)) else (none)) else (none)) else (none)) = some r := H
                                          have A61 := Aside0.mk A610
                                          clear A610
                                          by_cases c62 : t152 = (-1)
                                          · rw [if_pos c62] at H
                                            have c62b0 : (t152 == (-1)) = true := beq_iff_eq.mpr c62
                                            have c62b1 : (t152 != (-1)) = false := bne_eq_false_iff_eq.mpr c62
                                            clear c62
                                            by_cases c63 : t149 = 0
                                            · rw [if_pos c63] at H
                                              have c63b0 : (t149 == 0) = true := beq_iff_eq.mpr c63
                                              have c63b1 : (t149 != 0) = false := bne_eq_false_iff_eq.mpr c63
                                              clear c63
                                              by_cases c64 : (t148.length : Int) = 4
                                              · rw [if_pos c64] at H
                                                have c64b0 : ((t148.length : Int) == 4) = true := beq_iff_eq.mpr c64
                                                have c64b1 : ((t148.length : Int) != 4) = false := bne_eq_false_iff_eq.mpr c64
                                                clear c64
                                                by_cases c65 : (ji56) < (t148.length : Int)
                                                · rw [if_pos c65] at H
                                                  have c65b0 : decide ((ji56) < (t148.length : Int)) = true := decide_eq_true c65
                                                  clear c65
                                                  obtain rfl := Option.some.inj H
                                                  try go_wp2
                                                  have n0_ := Aside0.mk (Kd.R_drew HO_0.out)
                                                  have n1_ := Aside0.mk (Kd.R_drew HO_11.out)
                                                  have n2_ := Aside0.mk (blk_drew BK125.out)
                                                  have n3_ := Aside0.mk (below_drew1 HB.out)
                                                  clear HO_0
                                                  clear HO_11
                                                  clear BK125
                                                  clear HB
                                                  have HO_0 := n0_
                                                  have HO_11 := n1_
                                                  have BK125 := n2_
                                                  have HB := n3_
                                                  clear n0_ n1_ n2_ n3_
                                                  refine start_ (n := 7) (S := fun w' => w'.cell? ⟨gb125, 0, none⟩ = some (.int .i64 x126000_40) ∧ w'.cell? ⟨gb125, 1, none⟩ = some (.int .i64 x126001_40) ∧ w'.cell? ⟨gb125, 2, none⟩ = some (.int .i64 (Int.tmod (wrap64 ((Int.tmod a2 8) + 8)) 8)) ∧ w'.cell? ⟨gb125, 3, none⟩ = some (.int .i64 0) ∧ w'.cell? ⟨gb125, 4, none⟩ = some (.int .i64 (ji56))) (ds := []) #[false, false, false, false, false, false, false] (by kernel_rfl) rfl rfl ⟨(blk_cell BK125.out 0).trans rfl, (blk_cell BK125.out 1).trans rfl, (blk_cell BK125.out 2).trans rfl, (blk_cell BK125.out 3).trans rfl, (blk_cell BK125.out 4).trans rfl⟩ (fun hHeld => ?_)
                                                  generalize wc.drew = w66 at HO_0 HO_11 BK125 HB hHeld ⊢
                                                  refine pure_ (i := 1) (N := some 138) (v := ?_) (a' := ?_) #[false, true, false, false, false, false, false] rfl rfl (by kernel_rfl) (fun _ _ _ h => h) (Or.inl ⟨by rfl, ?_⟩) ?_ ?_
                                                  rotate_left
                                                  · intro w'
                                                    go_simp
                                                    with_reducible rfl
                                                  rotate_left
                                                  · simp only [Act.put, List.setIfInBounds_toArray, List.set_cons_zero, List.set_cons_succ, i64_w, i32_w]
                                                    rfl
                                                  refine take_ (i := 3) (N := some 140) (v := ?_) (a' := ?_) #[false, true, false, true, false, false, false] rfl rfl (by kernel_rfl) (fun _ _ _ h => h) (Or.inl ⟨by rfl, ?_⟩) hHeld ?_ ?_
                                                  rotate_left
                                                  · rintro w' ⟨s0, s1, s2, s3, s4⟩
                                                    go_simp
                                                    with_reducible rfl
                                                  rotate_left
                                                  · simp only [Act.put, List.setIfInBounds_toArray, List.set_cons_zero, List.set_cons_succ, i64_w, i32_w]
                                                    rfl
                                                  refine join_ (σ := Value × Value × Value) 2 #[true, true, true, true, true, false, false] (fun s_ => [(137, s_.1), (139, s_.2.1), (141, s_.2.2)]) (fun s_ w' => (w'.cell? ⟨gb125, 0, none⟩ = some (.int .i64 x126000_40) ∧ w'.cell? ⟨gb125, 1, none⟩ = some (.int .i64 x126001_40) ∧ w'.cell? ⟨gb125, 2, none⟩ = some (.int .i64 (Int.tmod (wrap64 ((Int.tmod a2 8) + 8)) 8)) ∧ w'.cell? ⟨gb125, 3, none⟩ = some (.int .i64 0) ∧ w'.cell? ⟨gb125, 4, none⟩ = some (.int .i64 (ji56))) ∧ (Kd.R k33 33 w' w.heap.size (fun k_ => some k_ ≠ (s_.2.2 : Value).ownBlock ∧ some k_ ≠ (.slice Ao9 t111.length co9 : Value).ownBlock ∧ k_ ≠ gb125) s_.2.1 y138) ∧ (Kd.R k33 33 w' w.heap.size (fun k_ => some k_ ≠ (s_.2.1 : Value).ownBlock ∧ some k_ ≠ (.slice Ao9 t111.length co9 : Value).ownBlock ∧ k_ ≠ gb125) s_.2.2 y141) ∧ (Kd.R k33 33 w' w.heap.size (fun k_ => some k_ ≠ (s_.2.1 : Value).ownBlock ∧ some k_ ≠ (s_.2.2 : Value).ownBlock ∧ k_ ≠ gb125) (.slice Ao9 t111.length co9) t111) ∧ (Kd.R (Kd.int .i64) 3 w' w.heap.size (fun _ => True) v123 t121) ∧ (w'.heap[gb125]? = some (.cells #[.int .i64 x126000_40, .int .i64 x126001_40, .int .i64 (Int.tmod (wrap64 ((Int.tmod a2 8) + 8)) 8), .int .i64 0, .int .i64 (ji56)] 33 (0, 0))) ∧ (Below w.heap.size w w')) ?_ ?_
                                                  rotate_left
                                                  · intro hCont
                                                    refine two_ (i := 0) (j := 4) (Ni := some 137) (Nj := some 141) #[true, true, false, true, false, false, false] #[false, true, false, true, true, false, false] rfl rfl rfl rfl (by kernel_rfl) (by decide) (by decide) (fun K hK => ?_) (fun K hK => ?_)
                                                    · skip
                                                      refine Kd.R_lit_step k33 _ 33 ?hg (N := 137) ?hd (xs := ([] : List (S33))) (inner := []) (ok := fun _ => True) (okp := fun _ => True) ?hr ?hp (fun _ hk => hk) trivial (Below.refl _ _) (Nat.le_refl _) (by simp) ?_; (case hd => rfl); (case hg => rfl); (case hr => first | (go_simp; done) | (go_simp; rfl)); (case hp => exact (Reps.none _ _))
                                                      intro v136 w67 ho68 hb hg_ hnew_
                                                      clear hg_ hnew_
                                                      (first | rw [← Ny135.out] at ho68 | (simp only [Int.reduceToNat] at ho68; rw [← Ny135.out] at ho68))
                                                      have n0_ := Aside0.mk (Kd.R_elder' (by (with_reducible repeat (first | apply Kd.R_alloc | apply Kd.R_drewN | apply Kd.R_drew)); exact HO_0.out) (Kd.R_base ho68) hb)
                                                      have n1_ := Aside0.mk (Kd.R_below (by (with_reducible repeat (first | apply Kd.R_alloc | apply Kd.R_drewN | apply Kd.R_drew)); exact HO_11.out) hb)
                                                      have n2_ := Aside0.mk (Kd.R_lower (Kd.R_newB (Kd.R_new' ho68 (Kd.R_lt (by (with_reducible repeat (first | apply Kd.R_alloc | apply Kd.R_drewN | apply Kd.R_drew)); exact HO_0.out))) (g := gb125) (o := .cells #[.int .i64 x126000_40, .int .i64 x126001_40, .int .i64 (Int.tmod (wrap64 ((Int.tmod a2 8) + 8)) 8), .int .i64 0, .int .i64 (ji56)] 33 (0, 0)) (by (with_reducible repeat (first | refine blk_drewN ?_ _ | refine blk_drew ?_ | refine blk_alloc ?_ _)); exact BK125.out)) (below_size (by repeat (first | (with_reducible first | exact HB.out | apply below_alloc | apply pw_below_drewN | apply below_drew1 | refine below_set ?_ GE125.out) | exact HB.out))))
                                                      have n3_ := Aside0.mk (blk_below (g := gb125) (o := .cells #[.int .i64 x126000_40, .int .i64 x126001_40, .int .i64 (Int.tmod (wrap64 ((Int.tmod a2 8) + 8)) 8), .int .i64 0, .int .i64 (ji56)] 33 (0, 0)) (by (with_reducible repeat (first | refine blk_drewN ?_ _ | refine blk_drew ?_ | refine blk_alloc ?_ _)); exact BK125.out) hb)
                                                      have n4_ := Aside0.mk (below_step (by repeat (first | (with_reducible first | exact HB.out | apply below_alloc | apply pw_below_drewN | apply below_drew1 | refine below_set ?_ GE125.out) | exact HB.out)) hb)
                                                      clear HO_0
                                                      clear HO_11
                                                      clear BK125
                                                      clear HB
                                                      have HO_0 := n0_
                                                      have HO_11 := n1_
                                                      have HO137 := n2_
                                                      have BK125 := n3_
                                                      have HB := n4_
                                                      clear n0_ n1_ n2_ n3_ n4_
                                                      clear hb ho68
                                                      refine hK.out _ _ ⟨(blk_cell BK125.out 0).trans rfl, (blk_cell BK125.out 1).trans rfl, (blk_cell BK125.out 2).trans rfl, (blk_cell BK125.out 3).trans rfl, (blk_cell BK125.out 4).trans rfl⟩ (fun hHeld => ?_)
                                                      clear hK K
                                                      refine norm_ (a' := ?_) ?_ ?_
                                                      rotate_left
                                                      · show Act.put _ (some 137) _ = _
                                                        simp only [Act.put, List.setIfInBounds_toArray, List.set_cons_zero, List.set_cons_succ, i64_w, i32_w]
                                                        rfl
                                                      refine two_ (i := 2) (j := 4) (Ni := some 139) (Nj := some 141) #[true, true, true, true, false, false, false] #[true, true, false, true, true, false, false] rfl rfl rfl rfl (by kernel_rfl) (by decide) (by decide) (fun K hK => ?_) (fun K hK => ?_)
                                                      · skip
                                                        refine Kd.R_append_rows_step k33 (w0 := w) w.heap.size (by rfl) (.tmp 137) (.tmp 138) 22 33 (.agg #[(.int .i64 0), (.int .i64 0), (.int .i64 0), (.int .i64 0), (.int .i64 0)]) 40 rfl Try.underlying22 info33 rfl (by decide) (by omega) v136 y135 t111 _ _ _ (fun k_ => some k_ ≠ (.slice Ao9 t111.length co9 : Value).ownBlock ∧ k_ ≠ gb125) (fun _ => False) rfl rfl ?aO ?aR (fun _ _ h => h) (fun _ h => h.elim) ?aF ?aB ?aS ?aL ?_
                                                        (case aR => repeat (first | exact (Kd.R_reads' HO_0.out).2.2 | (with_reducible refine Kd.C_alloc ?_ _) | (with_reducible refine Kd.C_drewN ?_ _) | (with_reducible refine Kd.C_drew ?_)))
                                                        (case aB => exact (by repeat (first | (with_reducible first | exact HB.out | apply below_alloc | apply pw_below_drewN | apply below_drew1 | refine below_set ?_ GE125.out) | exact HB.out)))
                                                        (case aF => exact (fun k_ hk => ⟨Kd.fresh' (Kd.R_lt (by (with_reducible repeat (first | apply Kd.R_alloc | apply Kd.R_drewN | apply Kd.R_drew)); exact HO_0.out)) k_ hk, Kd.freshB (g := gb125) (o := .cells #[.int .i64 x126000_40, .int .i64 x126001_40, .int .i64 (Int.tmod (wrap64 ((Int.tmod a2 8) + 8)) 8), .int .i64 0, .int .i64 (ji56)] 33 (0, 0)) (by (with_reducible repeat (first | refine blk_drewN ?_ _ | refine blk_drew ?_ | refine blk_alloc ?_ _)); exact BK125.out) k_ hk⟩))
                                                        (case aO => exact (by (with_reducible repeat (first | apply Kd.R_alloc | apply Kd.R_drewN | apply Kd.R_drew)); exact Kd.R_mono HO137.out (fun _ hk => ⟨hk.1.2, hk.2⟩)))
                                                        (case aS => exact (below_size (by repeat (first | (with_reducible first | exact HB.out | apply below_alloc | apply pw_below_drewN | apply below_drew1 | refine below_set ?_ GE125.out) | exact HB.out))))
                                                        (case aL => have := LMc54.out; omega)
                                                        intro v139 w69 ho hb hg hat
                                                        rw [← Ny138.out] at ho
                                                        have n0_ := Aside0.mk (Kd.R_after (ok := (fun k_ => k_ ≠ gb125)) (by (with_reducible repeat (first | apply Kd.R_alloc | apply Kd.R_drewN | apply Kd.R_drew)); exact HO_0.out) hg hat)
                                                        have n1_ := Aside0.mk (Kd.R_over' (by (with_reducible repeat (first | apply Kd.R_alloc | apply Kd.R_drewN | apply Kd.R_drew)); exact HO_11.out) (Kd.R_typed (by (with_reducible repeat (first | apply Kd.R_alloc | apply Kd.R_drewN | apply Kd.R_drew)); exact HO137.out)) (by decide) hg)
                                                        have n2_ := Aside0.mk (blk_grown (g := gb125) (o := .cells #[.int .i64 x126000_40, .int .i64 x126001_40, .int .i64 (Int.tmod (wrap64 ((Int.tmod a2 8) + 8)) 8), .int .i64 0, .int .i64 (ji56)] 33 (0, 0)) (by (with_reducible repeat (first | refine blk_drewN ?_ _ | refine blk_drew ?_ | refine blk_alloc ?_ _)); exact BK125.out) hg (Kd.R_away HO137.out (fun _ hk => hk.2)))
                                                        have n3_ := Aside0.mk (hb)
                                                        have n4_ := Aside0.mk (ho)
                                                        clear HO_0
                                                        clear HO_11
                                                        clear BK125
                                                        clear HB
                                                        clear HO137
                                                        have HO_0 := n0_
                                                        have HO_11 := n1_
                                                        have BK125 := n2_
                                                        have HB := n3_
                                                        have HO140 := n4_
                                                        clear n0_ n1_ n2_ n3_ n4_
                                                        clear ho hb hg hat
                                                        refine hK.out _ _ ⟨(blk_cell BK125.out 0).trans rfl, (blk_cell BK125.out 1).trans rfl, (blk_cell BK125.out 2).trans rfl, (blk_cell BK125.out 3).trans rfl, (blk_cell BK125.out 4).trans rfl⟩ (fun hHeld => ?_)
                                                        clear hK K
                                                        refine norm_ (a' := ?_) ?_ ?_
                                                        rotate_left
                                                        · show Act.put _ (some 139) _ = _
                                                          simp only [Act.put, List.setIfInBounds_toArray, List.set_cons_zero, List.set_cons_succ, i64_w, i32_w]
                                                          rfl
                                                        refine one_ (i := 4) (N := some 141) #[true, true, true, true, true, false, false] rfl rfl (by kernel_rfl) (by decide) (fun K hK => ?_)
                                                        refine Kd.R_lit_step k33 _ 33 ?hg (N := 141) ?hd (xs := ([(⟨x126000_40, x126001_40, (⟨(Int.tmod (wrap64 ((Int.tmod a2 8) + 8)) 8), 0, (ji56)⟩ : S31)⟩ : S33)] : List (S33))) (inner := [.int .i64 x126000_40, .int .i64 x126001_40, .int .i64 (Int.tmod (wrap64 ((Int.tmod a2 8) + 8)) 8), .int .i64 0, .int .i64 (ji56)]) (ok := fun _ => True) (okp := fun _ => True) ?hr ?hp (fun _ hk => hk) trivial (Below.refl _ _) (Nat.le_refl _) (by simp) ?_; (case hd => rfl); (case hg => rfl); (case hr => first | (go_simp; done) | (go_simp; rfl)); (case hp => exact (Reps.c5 (show Kd.M k33 _ _ _ (⟨x126000_40, x126001_40, (⟨(Int.tmod (wrap64 ((Int.tmod a2 8) + 8)) 8), 0, (ji56)⟩ : S31)⟩ : S33) [.int .i64 x126000_40, .int .i64 x126001_40, .int .i64 (Int.tmod (wrap64 ((Int.tmod a2 8) + 8)) 8), .int .i64 0, .int .i64 (ji56)] from (k33_mkM _ _ _ (⟨x126000_40, x126001_40, (⟨(Int.tmod (wrap64 ((Int.tmod a2 8) + 8)) 8), 0, (ji56)⟩ : S31)⟩ : S33) )) (Reps.none _ _)))
                                                        intro v142 w70 ho71 hb hg_ hnew_
                                                        clear hg_ hnew_
                                                        (first | rw [← Ny141.out] at ho71 | (simp only [Int.reduceToNat] at ho71; rw [← Ny141.out] at ho71))
                                                        have n0_ := Aside0.mk (Kd.R_elder' (by (with_reducible repeat (first | apply Kd.R_alloc | apply Kd.R_drewN | apply Kd.R_drew)); exact HO_0.out) (Kd.R_base ho71) hb)
                                                        have n1_ := Aside0.mk (Kd.R_below (by (with_reducible repeat (first | apply Kd.R_alloc | apply Kd.R_drewN | apply Kd.R_drew)); exact HO_11.out) hb)
                                                        have n2_ := Aside0.mk (Kd.R_elder' (by (with_reducible repeat (first | apply Kd.R_alloc | apply Kd.R_drewN | apply Kd.R_drew)); exact HO140.out) (Kd.R_base ho71) hb)
                                                        have n3_ := Aside0.mk (Kd.R_lower (Kd.R_newB (Kd.R_new' (Kd.R_new' ho71 (Kd.R_lt (by (with_reducible repeat (first | apply Kd.R_alloc | apply Kd.R_drewN | apply Kd.R_drew)); exact HO_0.out))) (Kd.R_lt (by (with_reducible repeat (first | apply Kd.R_alloc | apply Kd.R_drewN | apply Kd.R_drew)); exact HO140.out))) (g := gb125) (o := .cells #[.int .i64 x126000_40, .int .i64 x126001_40, .int .i64 (Int.tmod (wrap64 ((Int.tmod a2 8) + 8)) 8), .int .i64 0, .int .i64 (ji56)] 33 (0, 0)) (by (with_reducible repeat (first | refine blk_drewN ?_ _ | refine blk_drew ?_ | refine blk_alloc ?_ _)); exact BK125.out)) (below_size (by repeat (first | (with_reducible first | exact HB.out | apply below_alloc | apply pw_below_drewN | apply below_drew1 | refine below_set ?_ GE125.out) | exact HB.out))))
                                                        have n4_ := Aside0.mk (blk_below (g := gb125) (o := .cells #[.int .i64 x126000_40, .int .i64 x126001_40, .int .i64 (Int.tmod (wrap64 ((Int.tmod a2 8) + 8)) 8), .int .i64 0, .int .i64 (ji56)] 33 (0, 0)) (by (with_reducible repeat (first | refine blk_drewN ?_ _ | refine blk_drew ?_ | refine blk_alloc ?_ _)); exact BK125.out) hb)
                                                        have n5_ := Aside0.mk (below_step (by repeat (first | (with_reducible first | exact HB.out | apply below_alloc | apply pw_below_drewN | apply below_drew1 | refine below_set ?_ GE125.out) | exact HB.out)) hb)
                                                        clear HO_0
                                                        clear HO_11
                                                        clear HO140
                                                        clear BK125
                                                        clear HB
                                                        have HO_0 := n0_
                                                        have HO_11 := n1_
                                                        have HO140 := n2_
                                                        have HO143 := n3_
                                                        have BK125 := n4_
                                                        have HB := n5_
                                                        clear n0_ n1_ n2_ n3_ n4_ n5_
                                                        clear hb ho71
                                                        refine hK.out _ _ ⟨(blk_cell BK125.out 0).trans rfl, (blk_cell BK125.out 1).trans rfl, (blk_cell BK125.out 2).trans rfl, (blk_cell BK125.out 3).trans rfl, (blk_cell BK125.out 4).trans rfl⟩ (fun hHeld => ?_)
                                                        clear hK K
                                                        refine norm_ (a' := ?_) ?_ ?_
                                                        rotate_left
                                                        · show Act.put _ (some 141) _ = _
                                                          simp only [Act.put, List.setIfInBounds_toArray, List.set_cons_zero, List.set_cons_succ, i64_w, i32_w]
                                                          rfl
                                                        exact norm_ (by simp only [putAll, Act.put, List.setIfInBounds_toArray, List.set_cons_zero, List.set_cons_succ]) (hCont (v136, v139, v142) _ ⟨hHeld, (by (with_reducible repeat (first | apply Kd.R_alloc | apply Kd.R_drewN | apply Kd.R_drew)); exact Kd.R_mono HO140.out (fun _ hk => ⟨hk.2, ⟨hk.1.1, hk.1.2⟩⟩)), (by (with_reducible repeat (first | apply Kd.R_alloc | apply Kd.R_drewN | apply Kd.R_drew)); exact Kd.R_mono HO143.out (fun _ hk => ⟨hk.1.2, ⟨hk.1.1.2, hk.2⟩⟩)), (by (with_reducible repeat (first | apply Kd.R_alloc | apply Kd.R_drewN | apply Kd.R_drew)); exact Kd.R_mono HO_0.out (fun _ hk => ⟨hk.1.2, ⟨hk.2, hk.1.1⟩⟩)), (by (with_reducible repeat (first | apply Kd.R_alloc | apply Kd.R_drewN | apply Kd.R_drew)); exact HO_11.out), (by (with_reducible repeat (first | refine blk_drewN ?_ _ | refine blk_drew ?_ | refine blk_alloc ?_ _)); exact BK125.out), (by repeat (first | (with_reducible first | exact HB.out | apply below_alloc | apply pw_below_drewN | apply below_drew1 | refine below_set ?_ GE125.out) | exact HB.out))⟩)
                                                      · skip
                                                        refine Kd.R_lit_step k33 _ 33 ?hg (N := 141) ?hd (xs := ([(⟨x126000_40, x126001_40, (⟨(Int.tmod (wrap64 ((Int.tmod a2 8) + 8)) 8), 0, (ji56)⟩ : S31)⟩ : S33)] : List (S33))) (inner := [.int .i64 x126000_40, .int .i64 x126001_40, .int .i64 (Int.tmod (wrap64 ((Int.tmod a2 8) + 8)) 8), .int .i64 0, .int .i64 (ji56)]) (ok := fun _ => True) (okp := fun _ => True) ?hr ?hp (fun _ hk => hk) trivial (Below.refl _ _) (Nat.le_refl _) (by simp) ?_; (case hd => rfl); (case hg => rfl); (case hr => first | (go_simp; done) | (go_simp; rfl)); (case hp => exact (Reps.c5 (show Kd.M k33 _ _ _ (⟨x126000_40, x126001_40, (⟨(Int.tmod (wrap64 ((Int.tmod a2 8) + 8)) 8), 0, (ji56)⟩ : S31)⟩ : S33) [.int .i64 x126000_40, .int .i64 x126001_40, .int .i64 (Int.tmod (wrap64 ((Int.tmod a2 8) + 8)) 8), .int .i64 0, .int .i64 (ji56)] from (k33_mkM _ _ _ (⟨x126000_40, x126001_40, (⟨(Int.tmod (wrap64 ((Int.tmod a2 8) + 8)) 8), 0, (ji56)⟩ : S31)⟩ : S33) )) (Reps.none _ _)))
                                                        intro v142 w69 ho70 hb hg_ hnew_
                                                        clear hg_ hnew_
                                                        (first | rw [← Ny141.out] at ho70 | (simp only [Int.reduceToNat] at ho70; rw [← Ny141.out] at ho70))
                                                        have n0_ := Aside0.mk (Kd.R_elder' (by (with_reducible repeat (first | apply Kd.R_alloc | apply Kd.R_drewN | apply Kd.R_drew)); exact HO_0.out) (Kd.R_base ho70) hb)
                                                        have n1_ := Aside0.mk (Kd.R_below (by (with_reducible repeat (first | apply Kd.R_alloc | apply Kd.R_drewN | apply Kd.R_drew)); exact HO_11.out) hb)
                                                        have n2_ := Aside0.mk (Kd.R_elder' (by (with_reducible repeat (first | apply Kd.R_alloc | apply Kd.R_drewN | apply Kd.R_drew)); exact HO137.out) (Kd.R_base ho70) hb)
                                                        have n3_ := Aside0.mk (Kd.R_lower (Kd.R_newB (Kd.R_new' (Kd.R_new' ho70 (Kd.R_lt (by (with_reducible repeat (first | apply Kd.R_alloc | apply Kd.R_drewN | apply Kd.R_drew)); exact HO_0.out))) (Kd.R_lt (by (with_reducible repeat (first | apply Kd.R_alloc | apply Kd.R_drewN | apply Kd.R_drew)); exact HO137.out))) (g := gb125) (o := .cells #[.int .i64 x126000_40, .int .i64 x126001_40, .int .i64 (Int.tmod (wrap64 ((Int.tmod a2 8) + 8)) 8), .int .i64 0, .int .i64 (ji56)] 33 (0, 0)) (by (with_reducible repeat (first | refine blk_drewN ?_ _ | refine blk_drew ?_ | refine blk_alloc ?_ _)); exact BK125.out)) (below_size (by repeat (first | (with_reducible first | exact HB.out | apply below_alloc | apply pw_below_drewN | apply below_drew1 | refine below_set ?_ GE125.out) | exact HB.out))))
                                                        have n4_ := Aside0.mk (blk_below (g := gb125) (o := .cells #[.int .i64 x126000_40, .int .i64 x126001_40, .int .i64 (Int.tmod (wrap64 ((Int.tmod a2 8) + 8)) 8), .int .i64 0, .int .i64 (ji56)] 33 (0, 0)) (by (with_reducible repeat (first | refine blk_drewN ?_ _ | refine blk_drew ?_ | refine blk_alloc ?_ _)); exact BK125.out) hb)
                                                        have n5_ := Aside0.mk (below_step (by repeat (first | (with_reducible first | exact HB.out | apply below_alloc | apply pw_below_drewN | apply below_drew1 | refine below_set ?_ GE125.out) | exact HB.out)) hb)
                                                        clear HO_0
                                                        clear HO_11
                                                        clear HO137
                                                        clear BK125
                                                        clear HB
                                                        have HO_0 := n0_
                                                        have HO_11 := n1_
                                                        have HO137 := n2_
                                                        have HO143 := n3_
                                                        have BK125 := n4_
                                                        have HB := n5_
                                                        clear n0_ n1_ n2_ n3_ n4_ n5_
                                                        clear hb ho70
                                                        refine hK.out _ _ ⟨(blk_cell BK125.out 0).trans rfl, (blk_cell BK125.out 1).trans rfl, (blk_cell BK125.out 2).trans rfl, (blk_cell BK125.out 3).trans rfl, (blk_cell BK125.out 4).trans rfl⟩ (fun hHeld => ?_)
                                                        clear hK K
                                                        refine norm_ (a' := ?_) ?_ ?_
                                                        rotate_left
                                                        · show Act.put _ (some 141) _ = _
                                                          simp only [Act.put, List.setIfInBounds_toArray, List.set_cons_zero, List.set_cons_succ, i64_w, i32_w]
                                                          rfl
                                                        refine one_ (i := 2) (N := some 139) #[true, true, true, true, true, false, false] rfl rfl (by kernel_rfl) (by decide) (fun K hK => ?_)
                                                        refine Kd.R_append_rows_step k33 (w0 := w) w.heap.size (by rfl) (.tmp 137) (.tmp 138) 22 33 (.agg #[(.int .i64 0), (.int .i64 0), (.int .i64 0), (.int .i64 0), (.int .i64 0)]) 40 rfl Try.underlying22 info33 rfl (by decide) (by omega) v136 y135 t111 _ _ _ (fun k_ => some k_ ≠ (.slice Ao9 t111.length co9 : Value).ownBlock ∧ some k_ ≠ (v142 : Value).ownBlock ∧ k_ ≠ gb125) (fun _ => False) rfl rfl ?aO ?aR (fun _ _ h => h) (fun _ h => h.elim) ?aF ?aB ?aS ?aL ?_
                                                        (case aR => repeat (first | exact (Kd.R_reads' HO_0.out).2.2 | (with_reducible refine Kd.C_alloc ?_ _) | (with_reducible refine Kd.C_drewN ?_ _) | (with_reducible refine Kd.C_drew ?_)))
                                                        (case aB => exact (by repeat (first | (with_reducible first | exact HB.out | apply below_alloc | apply pw_below_drewN | apply below_drew1 | refine below_set ?_ GE125.out) | exact HB.out)))
                                                        (case aF => exact (fun k_ hk => ⟨Kd.fresh' (Kd.R_lt (by (with_reducible repeat (first | apply Kd.R_alloc | apply Kd.R_drewN | apply Kd.R_drew)); exact HO_0.out)) k_ hk, Kd.fresh' (Kd.R_lt (by (with_reducible repeat (first | apply Kd.R_alloc | apply Kd.R_drewN | apply Kd.R_drew)); exact HO143.out)) k_ hk, Kd.freshB (g := gb125) (o := .cells #[.int .i64 x126000_40, .int .i64 x126001_40, .int .i64 (Int.tmod (wrap64 ((Int.tmod a2 8) + 8)) 8), .int .i64 0, .int .i64 (ji56)] 33 (0, 0)) (by (with_reducible repeat (first | refine blk_drewN ?_ _ | refine blk_drew ?_ | refine blk_alloc ?_ _)); exact BK125.out) k_ hk⟩))
                                                        (case aO => exact (by (with_reducible repeat (first | apply Kd.R_alloc | apply Kd.R_drewN | apply Kd.R_drew)); exact Kd.R_mono HO137.out (fun _ hk => ⟨hk.1.1.2, ⟨hk.2, hk.1.2⟩⟩)))
                                                        (case aS => exact (below_size (by repeat (first | (with_reducible first | exact HB.out | apply below_alloc | apply pw_below_drewN | apply below_drew1 | refine below_set ?_ GE125.out) | exact HB.out))))
                                                        (case aL => have := LMc54.out; omega)
                                                        intro v139 w71 ho hb hg hat
                                                        rw [← Ny138.out] at ho
                                                        have n0_ := Aside0.mk (Kd.R_after (ok := (fun k_ => some k_ ≠ (v142 : Value).ownBlock ∧ k_ ≠ gb125)) (by (with_reducible repeat (first | apply Kd.R_alloc | apply Kd.R_drewN | apply Kd.R_drew)); exact Kd.R_mono HO_0.out (fun _ hk => ⟨⟨hk.2, hk.1.1⟩, hk.1.2⟩)) hg hat)
                                                        have n1_ := Aside0.mk (Kd.R_over' (by (with_reducible repeat (first | apply Kd.R_alloc | apply Kd.R_drewN | apply Kd.R_drew)); exact HO_11.out) (Kd.R_typed (by (with_reducible repeat (first | apply Kd.R_alloc | apply Kd.R_drewN | apply Kd.R_drew)); exact HO137.out)) (by decide) hg)
                                                        have n2_ := Aside0.mk (blk_grown (g := gb125) (o := .cells #[.int .i64 x126000_40, .int .i64 x126001_40, .int .i64 (Int.tmod (wrap64 ((Int.tmod a2 8) + 8)) 8), .int .i64 0, .int .i64 (ji56)] 33 (0, 0)) (by (with_reducible repeat (first | refine blk_drewN ?_ _ | refine blk_drew ?_ | refine blk_alloc ?_ _)); exact BK125.out) hg (Kd.R_away HO137.out (fun _ hk => hk.1.2)))
                                                        have n3_ := Aside0.mk (Kd.R_after (ok := (fun k_ => some k_ ≠ (.slice Ao9 t111.length co9 : Value).ownBlock ∧ k_ ≠ gb125)) (by (with_reducible repeat (first | apply Kd.R_alloc | apply Kd.R_drewN | apply Kd.R_drew)); exact Kd.R_mono HO143.out (fun _ hk => ⟨⟨hk.1.1.2, hk.2⟩, hk.1.2⟩)) hg hat)
                                                        have n4_ := Aside0.mk (hb)
                                                        have n5_ := Aside0.mk (ho)
                                                        clear HO_0
                                                        clear HO_11
                                                        clear BK125
                                                        clear HO143
                                                        clear HB
                                                        clear HO137
                                                        have HO_0 := n0_
                                                        have HO_11 := n1_
                                                        have BK125 := n2_
                                                        have HO143 := n3_
                                                        have HB := n4_
                                                        have HO140 := n5_
                                                        clear n0_ n1_ n2_ n3_ n4_ n5_
                                                        clear ho hb hg hat
                                                        refine hK.out _ _ ⟨(blk_cell BK125.out 0).trans rfl, (blk_cell BK125.out 1).trans rfl, (blk_cell BK125.out 2).trans rfl, (blk_cell BK125.out 3).trans rfl, (blk_cell BK125.out 4).trans rfl⟩ (fun hHeld => ?_)
                                                        clear hK K
                                                        refine norm_ (a' := ?_) ?_ ?_
                                                        rotate_left
                                                        · show Act.put _ (some 139) _ = _
                                                          simp only [Act.put, List.setIfInBounds_toArray, List.set_cons_zero, List.set_cons_succ, i64_w, i32_w]
                                                          rfl
                                                        exact norm_ (by simp only [putAll, Act.put, List.setIfInBounds_toArray, List.set_cons_zero, List.set_cons_succ]) (hCont (v136, v139, v142) _ ⟨hHeld, (by (with_reducible repeat (first | apply Kd.R_alloc | apply Kd.R_drewN | apply Kd.R_drew)); exact Kd.R_mono HO140.out (fun _ hk => ⟨hk.2.1, ⟨hk.1, hk.2.2⟩⟩)), (by (with_reducible repeat (first | apply Kd.R_alloc | apply Kd.R_drewN | apply Kd.R_drew)); exact Kd.R_mono HO143.out (fun _ hk => ⟨hk.2, ⟨hk.1.1, hk.1.2⟩⟩)), (by (with_reducible repeat (first | apply Kd.R_alloc | apply Kd.R_drewN | apply Kd.R_drew)); exact Kd.R_mono HO_0.out (fun _ hk => ⟨hk.2, ⟨hk.1.1, hk.1.2⟩⟩)), (by (with_reducible repeat (first | apply Kd.R_alloc | apply Kd.R_drewN | apply Kd.R_drew)); exact HO_11.out), (by (with_reducible repeat (first | refine blk_drewN ?_ _ | refine blk_drew ?_ | refine blk_alloc ?_ _)); exact BK125.out), (by repeat (first | (with_reducible first | exact HB.out | apply below_alloc | apply pw_below_drewN | apply below_drew1 | refine below_set ?_ GE125.out) | exact HB.out))⟩)
                                                    · skip
                                                      refine Kd.R_lit_step k33 _ 33 ?hg (N := 141) ?hd (xs := ([(⟨x126000_40, x126001_40, (⟨(Int.tmod (wrap64 ((Int.tmod a2 8) + 8)) 8), 0, (ji56)⟩ : S31)⟩ : S33)] : List (S33))) (inner := [.int .i64 x126000_40, .int .i64 x126001_40, .int .i64 (Int.tmod (wrap64 ((Int.tmod a2 8) + 8)) 8), .int .i64 0, .int .i64 (ji56)]) (ok := fun _ => True) (okp := fun _ => True) ?hr ?hp (fun _ hk => hk) trivial (Below.refl _ _) (Nat.le_refl _) (by simp) ?_; (case hd => rfl); (case hg => rfl); (case hr => first | (go_simp; done) | (go_simp; rfl)); (case hp => exact (Reps.c5 (show Kd.M k33 _ _ _ (⟨x126000_40, x126001_40, (⟨(Int.tmod (wrap64 ((Int.tmod a2 8) + 8)) 8), 0, (ji56)⟩ : S31)⟩ : S33) [.int .i64 x126000_40, .int .i64 x126001_40, .int .i64 (Int.tmod (wrap64 ((Int.tmod a2 8) + 8)) 8), .int .i64 0, .int .i64 (ji56)] from (k33_mkM _ _ _ (⟨x126000_40, x126001_40, (⟨(Int.tmod (wrap64 ((Int.tmod a2 8) + 8)) 8), 0, (ji56)⟩ : S31)⟩ : S33) )) (Reps.none _ _)))
                                                      intro v142 w67 ho68 hb hg_ hnew_
                                                      clear hg_ hnew_
                                                      (first | rw [← Ny141.out] at ho68 | (simp only [Int.reduceToNat] at ho68; rw [← Ny141.out] at ho68))
                                                      have n0_ := Aside0.mk (Kd.R_elder' (by (with_reducible repeat (first | apply Kd.R_alloc | apply Kd.R_drewN | apply Kd.R_drew)); exact HO_0.out) (Kd.R_base ho68) hb)
                                                      have n1_ := Aside0.mk (Kd.R_below (by (with_reducible repeat (first | apply Kd.R_alloc | apply Kd.R_drewN | apply Kd.R_drew)); exact HO_11.out) hb)
                                                      have n2_ := Aside0.mk (Kd.R_lower (Kd.R_newB (Kd.R_new' ho68 (Kd.R_lt (by (with_reducible repeat (first | apply Kd.R_alloc | apply Kd.R_drewN | apply Kd.R_drew)); exact HO_0.out))) (g := gb125) (o := .cells #[.int .i64 x126000_40, .int .i64 x126001_40, .int .i64 (Int.tmod (wrap64 ((Int.tmod a2 8) + 8)) 8), .int .i64 0, .int .i64 (ji56)] 33 (0, 0)) (by (with_reducible repeat (first | refine blk_drewN ?_ _ | refine blk_drew ?_ | refine blk_alloc ?_ _)); exact BK125.out)) (below_size (by repeat (first | (with_reducible first | exact HB.out | apply below_alloc | apply pw_below_drewN | apply below_drew1 | refine below_set ?_ GE125.out) | exact HB.out))))
                                                      have n3_ := Aside0.mk (blk_below (g := gb125) (o := .cells #[.int .i64 x126000_40, .int .i64 x126001_40, .int .i64 (Int.tmod (wrap64 ((Int.tmod a2 8) + 8)) 8), .int .i64 0, .int .i64 (ji56)] 33 (0, 0)) (by (with_reducible repeat (first | refine blk_drewN ?_ _ | refine blk_drew ?_ | refine blk_alloc ?_ _)); exact BK125.out) hb)
                                                      have n4_ := Aside0.mk (below_step (by repeat (first | (with_reducible first | exact HB.out | apply below_alloc | apply pw_below_drewN | apply below_drew1 | refine below_set ?_ GE125.out) | exact HB.out)) hb)
                                                      clear HO_0
                                                      clear HO_11
                                                      clear BK125
                                                      clear HB
                                                      have HO_0 := n0_
                                                      have HO_11 := n1_
                                                      have HO143 := n2_
                                                      have BK125 := n3_
                                                      have HB := n4_
                                                      clear n0_ n1_ n2_ n3_ n4_
                                                      clear hb ho68
                                                      refine hK.out _ _ ⟨(blk_cell BK125.out 0).trans rfl, (blk_cell BK125.out 1).trans rfl, (blk_cell BK125.out 2).trans rfl, (blk_cell BK125.out 3).trans rfl, (blk_cell BK125.out 4).trans rfl⟩ (fun hHeld => ?_)
                                                      clear hK K
                                                      refine norm_ (a' := ?_) ?_ ?_
                                                      rotate_left
                                                      · show Act.put _ (some 141) _ = _
                                                        simp only [Act.put, List.setIfInBounds_toArray, List.set_cons_zero, List.set_cons_succ, i64_w, i32_w]
                                                        rfl
                                                      refine one_ (i := 0) (N := some 137) #[true, true, false, true, true, false, false] rfl rfl (by kernel_rfl) (by decide) (fun K hK => ?_)
                                                      refine Kd.R_lit_step k33 _ 33 ?hg (N := 137) ?hd (xs := ([] : List (S33))) (inner := []) (ok := fun _ => True) (okp := fun _ => True) ?hr ?hp (fun _ hk => hk) trivial (Below.refl _ _) (Nat.le_refl _) (by simp) ?_; (case hd => rfl); (case hg => rfl); (case hr => first | (go_simp; done) | (go_simp; rfl)); (case hp => exact (Reps.none _ _))
                                                      intro v136 w69 ho70 hb hg_ hnew_
                                                      clear hg_ hnew_
                                                      (first | rw [← Ny135.out] at ho70 | (simp only [Int.reduceToNat] at ho70; rw [← Ny135.out] at ho70))
                                                      have n0_ := Aside0.mk (Kd.R_elder' (by (with_reducible repeat (first | apply Kd.R_alloc | apply Kd.R_drewN | apply Kd.R_drew)); exact HO_0.out) (Kd.R_base ho70) hb)
                                                      have n1_ := Aside0.mk (Kd.R_below (by (with_reducible repeat (first | apply Kd.R_alloc | apply Kd.R_drewN | apply Kd.R_drew)); exact HO_11.out) hb)
                                                      have n2_ := Aside0.mk (Kd.R_elder' (by (with_reducible repeat (first | apply Kd.R_alloc | apply Kd.R_drewN | apply Kd.R_drew)); exact HO143.out) (Kd.R_base ho70) hb)
                                                      have n3_ := Aside0.mk (Kd.R_lower (Kd.R_newB (Kd.R_new' (Kd.R_new' ho70 (Kd.R_lt (by (with_reducible repeat (first | apply Kd.R_alloc | apply Kd.R_drewN | apply Kd.R_drew)); exact HO_0.out))) (Kd.R_lt (by (with_reducible repeat (first | apply Kd.R_alloc | apply Kd.R_drewN | apply Kd.R_drew)); exact HO143.out))) (g := gb125) (o := .cells #[.int .i64 x126000_40, .int .i64 x126001_40, .int .i64 (Int.tmod (wrap64 ((Int.tmod a2 8) + 8)) 8), .int .i64 0, .int .i64 (ji56)] 33 (0, 0)) (by (with_reducible repeat (first | refine blk_drewN ?_ _ | refine blk_drew ?_ | refine blk_alloc ?_ _)); exact BK125.out)) (below_size (by repeat (first | (with_reducible first | exact HB.out | apply below_alloc | apply pw_below_drewN | apply below_drew1 | refine below_set ?_ GE125.out) | exact HB.out))))
                                                      have n4_ := Aside0.mk (blk_below (g := gb125) (o := .cells #[.int .i64 x126000_40, .int .i64 x126001_40, .int .i64 (Int.tmod (wrap64 ((Int.tmod a2 8) + 8)) 8), .int .i64 0, .int .i64 (ji56)] 33 (0, 0)) (by (with_reducible repeat (first | refine blk_drewN ?_ _ | refine blk_drew ?_ | refine blk_alloc ?_ _)); exact BK125.out) hb)
                                                      have n5_ := Aside0.mk (below_step (by repeat (first | (with_reducible first | exact HB.out | apply below_alloc | apply pw_below_drewN | apply below_drew1 | refine below_set ?_ GE125.out) | exact HB.out)) hb)
                                                      clear HO_0
                                                      clear HO_11
                                                      clear HO143
                                                      clear BK125
                                                      clear HB
                                                      have HO_0 := n0_
                                                      have HO_11 := n1_
                                                      have HO143 := n2_
                                                      have HO137 := n3_
                                                      have BK125 := n4_
                                                      have HB := n5_
                                                      clear n0_ n1_ n2_ n3_ n4_ n5_
                                                      clear hb ho70
                                                      refine hK.out _ _ ⟨(blk_cell BK125.out 0).trans rfl, (blk_cell BK125.out 1).trans rfl, (blk_cell BK125.out 2).trans rfl, (blk_cell BK125.out 3).trans rfl, (blk_cell BK125.out 4).trans rfl⟩ (fun hHeld => ?_)
                                                      clear hK K
                                                      refine norm_ (a' := ?_) ?_ ?_
                                                      rotate_left
                                                      · show Act.put _ (some 137) _ = _
                                                        simp only [Act.put, List.setIfInBounds_toArray, List.set_cons_zero, List.set_cons_succ, i64_w, i32_w]
                                                        rfl
                                                      refine one_ (i := 2) (N := some 139) #[true, true, true, true, true, false, false] rfl rfl (by kernel_rfl) (by decide) (fun K hK => ?_)
                                                      refine Kd.R_append_rows_step k33 (w0 := w) w.heap.size (by rfl) (.tmp 137) (.tmp 138) 22 33 (.agg #[(.int .i64 0), (.int .i64 0), (.int .i64 0), (.int .i64 0), (.int .i64 0)]) 40 rfl Try.underlying22 info33 rfl (by decide) (by omega) v136 y135 t111 _ _ _ (fun k_ => some k_ ≠ (.slice Ao9 t111.length co9 : Value).ownBlock ∧ some k_ ≠ (v142 : Value).ownBlock ∧ k_ ≠ gb125) (fun _ => False) rfl rfl ?aO ?aR (fun _ _ h => h) (fun _ h => h.elim) ?aF ?aB ?aS ?aL ?_
                                                      (case aR => repeat (first | exact (Kd.R_reads' HO_0.out).2.2 | (with_reducible refine Kd.C_alloc ?_ _) | (with_reducible refine Kd.C_drewN ?_ _) | (with_reducible refine Kd.C_drew ?_)))
                                                      (case aB => exact (by repeat (first | (with_reducible first | exact HB.out | apply below_alloc | apply pw_below_drewN | apply below_drew1 | refine below_set ?_ GE125.out) | exact HB.out)))
                                                      (case aF => exact (fun k_ hk => ⟨Kd.fresh' (Kd.R_lt (by (with_reducible repeat (first | apply Kd.R_alloc | apply Kd.R_drewN | apply Kd.R_drew)); exact HO_0.out)) k_ hk, Kd.fresh' (Kd.R_lt (by (with_reducible repeat (first | apply Kd.R_alloc | apply Kd.R_drewN | apply Kd.R_drew)); exact HO143.out)) k_ hk, Kd.freshB (g := gb125) (o := .cells #[.int .i64 x126000_40, .int .i64 x126001_40, .int .i64 (Int.tmod (wrap64 ((Int.tmod a2 8) + 8)) 8), .int .i64 0, .int .i64 (ji56)] 33 (0, 0)) (by (with_reducible repeat (first | refine blk_drewN ?_ _ | refine blk_drew ?_ | refine blk_alloc ?_ _)); exact BK125.out) k_ hk⟩))
                                                      (case aO => exact (by (with_reducible repeat (first | apply Kd.R_alloc | apply Kd.R_drewN | apply Kd.R_drew)); exact Kd.R_mono HO137.out (fun _ hk => ⟨hk.1.1.2, ⟨hk.1.2, hk.2⟩⟩)))
                                                      (case aS => exact (below_size (by repeat (first | (with_reducible first | exact HB.out | apply below_alloc | apply pw_below_drewN | apply below_drew1 | refine below_set ?_ GE125.out) | exact HB.out))))
                                                      (case aL => have := LMc54.out; omega)
                                                      intro v139 w71 ho hb hg hat
                                                      rw [← Ny138.out] at ho
                                                      have n0_ := Aside0.mk (Kd.R_after (ok := (fun k_ => some k_ ≠ (v142 : Value).ownBlock ∧ k_ ≠ gb125)) (by (with_reducible repeat (first | apply Kd.R_alloc | apply Kd.R_drewN | apply Kd.R_drew)); exact Kd.R_mono HO_0.out (fun _ hk => ⟨⟨hk.1.2, hk.1.1⟩, hk.2⟩)) hg hat)
                                                      have n1_ := Aside0.mk (Kd.R_over' (by (with_reducible repeat (first | apply Kd.R_alloc | apply Kd.R_drewN | apply Kd.R_drew)); exact HO_11.out) (Kd.R_typed (by (with_reducible repeat (first | apply Kd.R_alloc | apply Kd.R_drewN | apply Kd.R_drew)); exact HO137.out)) (by decide) hg)
                                                      have n2_ := Aside0.mk (blk_grown (g := gb125) (o := .cells #[.int .i64 x126000_40, .int .i64 x126001_40, .int .i64 (Int.tmod (wrap64 ((Int.tmod a2 8) + 8)) 8), .int .i64 0, .int .i64 (ji56)] 33 (0, 0)) (by (with_reducible repeat (first | refine blk_drewN ?_ _ | refine blk_drew ?_ | refine blk_alloc ?_ _)); exact BK125.out) hg (Kd.R_away HO137.out (fun _ hk => hk.2)))
                                                      have n3_ := Aside0.mk (Kd.R_after (ok := (fun k_ => some k_ ≠ (.slice Ao9 t111.length co9 : Value).ownBlock ∧ k_ ≠ gb125)) (by (with_reducible repeat (first | apply Kd.R_alloc | apply Kd.R_drewN | apply Kd.R_drew)); exact Kd.R_mono HO143.out (fun _ hk => ⟨⟨hk.1.1.2, hk.1.2⟩, hk.2⟩)) hg hat)
                                                      have n4_ := Aside0.mk (hb)
                                                      have n5_ := Aside0.mk (ho)
                                                      clear HO_0
                                                      clear HO_11
                                                      clear BK125
                                                      clear HO143
                                                      clear HB
                                                      clear HO137
                                                      have HO_0 := n0_
                                                      have HO_11 := n1_
                                                      have BK125 := n2_
                                                      have HO143 := n3_
                                                      have HB := n4_
                                                      have HO140 := n5_
                                                      clear n0_ n1_ n2_ n3_ n4_ n5_
                                                      clear ho hb hg hat
                                                      refine hK.out _ _ ⟨(blk_cell BK125.out 0).trans rfl, (blk_cell BK125.out 1).trans rfl, (blk_cell BK125.out 2).trans rfl, (blk_cell BK125.out 3).trans rfl, (blk_cell BK125.out 4).trans rfl⟩ (fun hHeld => ?_)
                                                      clear hK K
                                                      refine norm_ (a' := ?_) ?_ ?_
                                                      rotate_left
                                                      · show Act.put _ (some 139) _ = _
                                                        simp only [Act.put, List.setIfInBounds_toArray, List.set_cons_zero, List.set_cons_succ, i64_w, i32_w]
                                                        rfl
                                                      exact norm_ (by simp only [putAll, Act.put, List.setIfInBounds_toArray, List.set_cons_zero, List.set_cons_succ]) (hCont (v136, v139, v142) _ ⟨hHeld, (by (with_reducible repeat (first | apply Kd.R_alloc | apply Kd.R_drewN | apply Kd.R_drew)); exact Kd.R_mono HO140.out (fun _ hk => ⟨hk.2.1, ⟨hk.1, hk.2.2⟩⟩)), (by (with_reducible repeat (first | apply Kd.R_alloc | apply Kd.R_drewN | apply Kd.R_drew)); exact Kd.R_mono HO143.out (fun _ hk => ⟨hk.2, ⟨hk.1.1, hk.1.2⟩⟩)), (by (with_reducible repeat (first | apply Kd.R_alloc | apply Kd.R_drewN | apply Kd.R_drew)); exact Kd.R_mono HO_0.out (fun _ hk => ⟨hk.2, ⟨hk.1.1, hk.1.2⟩⟩)), (by (with_reducible repeat (first | apply Kd.R_alloc | apply Kd.R_drewN | apply Kd.R_drew)); exact HO_11.out), (by (with_reducible repeat (first | refine blk_drewN ?_ _ | refine blk_drew ?_ | refine blk_alloc ?_ _)); exact BK125.out), (by repeat (first | (with_reducible first | exact HB.out | apply below_alloc | apply pw_below_drewN | apply below_drew1 | refine below_set ?_ GE125.out) | exact HB.out))⟩)
                                                  rintro ⟨v136, v139, v142⟩ w72 ⟨hS_, h0_, h1_, h2_, h3_, h4_, h5_⟩
                                                  have n0_ : Aside0 (Kd.R k33 33 w72 w.heap.size (fun k_ => some k_ ≠ (v142 : Value).ownBlock ∧ some k_ ≠ (.slice Ao9 t111.length co9 : Value).ownBlock ∧ k_ ≠ gb125) v139 y138) := ⟨h0_⟩
                                                  have n1_ : Aside0 (Kd.R k33 33 w72 w.heap.size (fun k_ => some k_ ≠ (v139 : Value).ownBlock ∧ some k_ ≠ (.slice Ao9 t111.length co9 : Value).ownBlock ∧ k_ ≠ gb125) v142 y141) := ⟨h1_⟩
                                                  have n2_ : Aside0 (Kd.R k33 33 w72 w.heap.size (fun k_ => some k_ ≠ (v139 : Value).ownBlock ∧ some k_ ≠ (v142 : Value).ownBlock ∧ k_ ≠ gb125) (.slice Ao9 t111.length co9) t111) := ⟨h2_⟩
                                                  have n3_ : Aside0 (Kd.R (Kd.int .i64) 3 w72 w.heap.size (fun _ => True) v123 t121) := ⟨h3_⟩
                                                  have n4_ : Aside0 (w72.heap[gb125]? = some (.cells #[.int .i64 x126000_40, .int .i64 x126001_40, .int .i64 (Int.tmod (wrap64 ((Int.tmod a2 8) + 8)) 8), .int .i64 0, .int .i64 (ji56)] 33 (0, 0))) := ⟨h4_⟩
                                                  have n5_ : Aside0 (Below w.heap.size w w72) := ⟨h5_⟩
                                                  clear HO_0
                                                  clear HO_11
                                                  clear BK125
                                                  clear HB
                                                  clear h0_ h1_ h2_ h3_ h4_ h5_
                                                  have HO140 := n0_
                                                  have HO143 := n1_
                                                  have HO_0 := n2_
                                                  have HO_11 := n3_
                                                  have BK125 := n4_
                                                  have HB := n5_
                                                  clear n0_ n1_ n2_ n3_ n4_ n5_
                                                  have hHeld : w72.cell? ⟨gb125, 0, none⟩ = some (.int .i64 x126000_40) ∧ w72.cell? ⟨gb125, 1, none⟩ = some (.int .i64 x126001_40) ∧ w72.cell? ⟨gb125, 2, none⟩ = some (.int .i64 (Int.tmod (wrap64 ((Int.tmod a2 8) + 8)) 8)) ∧ w72.cell? ⟨gb125, 3, none⟩ = some (.int .i64 0) ∧ w72.cell? ⟨gb125, 4, none⟩ = some (.int .i64 (ji56)) := hS_
                                                  obtain ⟨Ao74, co74, eo74⟩ := Kd.R_slice HO143.out
                                                  (first | subst eo74 | (injection eo74 with f1_ f2_ f3_; have f4_ := f1_.symm; have f5_ := f3_.symm; clear f1_ f2_ f3_; subst f4_; subst f5_))
                                                  refine norm_ (a' := ?_) ?_ ?_
                                                  rotate_left
                                                  · simp only [putAll, Act.put, List.setIfInBounds_toArray, List.set_cons_zero, List.set_cons_succ]
                                                    rfl
                                                  refine one_ (i := 5) (N := some 142) #[true, true, true, true, true, true, false] rfl rfl (by kernel_rfl) (by decide) (fun K hK => ?_)
                                                  refine Kd.R_append_rows_step k33 (w0 := w) w.heap.size (by rfl) (.tmp 139) (.tmp 141) 22 33 (.agg #[(.int .i64 0), (.int .i64 0), (.int .i64 0), (.int .i64 0), (.int .i64 0)]) 40 rfl Try.underlying22 info33 rfl (by decide) (by omega) v139 y138 y141 _ _ _ (fun k_ => some k_ ≠ (.slice Ao9 t111.length co9 : Value).ownBlock ∧ some k_ ≠ (.slice Ao74 y141.length co74 : Value).ownBlock ∧ k_ ≠ gb125) (fun _ => False) rfl rfl ?aO ?aR (fun _ _ h => h) (fun _ h => h.elim) ?aF ?aB ?aS ?aL ?_
                                                  (case aR => repeat (first | exact (Kd.R_reads' HO143.out).2.2 | (with_reducible refine Kd.C_alloc ?_ _) | (with_reducible refine Kd.C_drewN ?_ _) | (with_reducible refine Kd.C_drew ?_)))
                                                  (case aB => exact (by repeat (first | (with_reducible first | exact HB.out | apply below_alloc | apply pw_below_drewN | apply below_drew1 | refine below_set ?_ GE125.out) | exact HB.out)))
                                                  (case aF => exact (fun k_ hk => ⟨Kd.fresh' (Kd.R_lt (by (with_reducible repeat (first | apply Kd.R_alloc | apply Kd.R_drewN | apply Kd.R_drew)); exact HO_0.out)) k_ hk, Kd.fresh' (Kd.R_lt (by (with_reducible repeat (first | apply Kd.R_alloc | apply Kd.R_drewN | apply Kd.R_drew)); exact HO143.out)) k_ hk, Kd.freshB (g := gb125) (o := .cells #[.int .i64 x126000_40, .int .i64 x126001_40, .int .i64 (Int.tmod (wrap64 ((Int.tmod a2 8) + 8)) 8), .int .i64 0, .int .i64 (ji56)] 33 (0, 0)) (by (with_reducible repeat (first | refine blk_drewN ?_ _ | refine blk_drew ?_ | refine blk_alloc ?_ _)); exact BK125.out) k_ hk⟩))
                                                  (case aO => exact (by (with_reducible repeat (first | apply Kd.R_alloc | apply Kd.R_drewN | apply Kd.R_drew)); exact Kd.R_mono HO140.out (fun _ hk => ⟨hk.2.1, ⟨hk.1, hk.2.2⟩⟩)))
                                                  (case aS => exact (below_size (by repeat (first | (with_reducible first | exact HB.out | apply below_alloc | apply pw_below_drewN | apply below_drew1 | refine below_set ?_ GE125.out) | exact HB.out))))
                                                  (case aL => have := LMc55.out; omega)
                                                  intro v145 w73 ho hb hg hat
                                                  rw [← Ny144.out] at ho
                                                  have n0_ := Aside0.mk (Kd.R_after (ok := (fun k_ => some k_ ≠ (.slice Ao74 y141.length co74 : Value).ownBlock ∧ k_ ≠ gb125)) (by (with_reducible repeat (first | apply Kd.R_alloc | apply Kd.R_drewN | apply Kd.R_drew)); exact Kd.R_mono HO_0.out (fun _ hk => ⟨⟨hk.2.1, hk.2.2⟩, hk.1⟩)) hg hat)
                                                  have n1_ := Aside0.mk (Kd.R_over' (by (with_reducible repeat (first | apply Kd.R_alloc | apply Kd.R_drewN | apply Kd.R_drew)); exact HO_11.out) (Kd.R_typed (by (with_reducible repeat (first | apply Kd.R_alloc | apply Kd.R_drewN | apply Kd.R_drew)); exact HO140.out)) (by decide) hg)
                                                  have n2_ := Aside0.mk (blk_grown (g := gb125) (o := .cells #[.int .i64 x126000_40, .int .i64 x126001_40, .int .i64 (Int.tmod (wrap64 ((Int.tmod a2 8) + 8)) 8), .int .i64 0, .int .i64 (ji56)] 33 (0, 0)) (by (with_reducible repeat (first | refine blk_drewN ?_ _ | refine blk_drew ?_ | refine blk_alloc ?_ _)); exact BK125.out) hg (Kd.R_away HO140.out (fun _ hk => hk.2.2)))
                                                  have n3_ := Aside0.mk (Kd.R_after (ok := (fun k_ => some k_ ≠ (.slice Ao9 t111.length co9 : Value).ownBlock ∧ k_ ≠ gb125)) (by (with_reducible repeat (first | apply Kd.R_alloc | apply Kd.R_drewN | apply Kd.R_drew)); exact Kd.R_mono HO143.out (fun _ hk => ⟨⟨hk.2.1, hk.2.2⟩, hk.1⟩)) hg hat)
                                                  have n4_ := Aside0.mk (hb)
                                                  have n5_ := Aside0.mk (ho)
                                                  clear HO_0
                                                  clear HO_11
                                                  clear BK125
                                                  clear HO143
                                                  clear HB
                                                  clear HO140
                                                  have HO_0 := n0_
                                                  have HO_11 := n1_
                                                  have BK125 := n2_
                                                  have HO143 := n3_
                                                  have HB := n4_
                                                  have HO146 := n5_
                                                  clear n0_ n1_ n2_ n3_ n4_ n5_
                                                  clear ho hb hg hat
                                                  refine hK.out _ _ ⟨(blk_cell BK125.out 0).trans rfl, (blk_cell BK125.out 1).trans rfl, (blk_cell BK125.out 2).trans rfl, (blk_cell BK125.out 3).trans rfl, (blk_cell BK125.out 4).trans rfl⟩ (fun hHeld => ?_)
                                                  clear hK K
                                                  refine norm_ (a' := ?_) ?_ ?_
                                                  rotate_left
                                                  · show Act.put _ (some 142) _ = _
                                                    simp only [Act.put, List.setIfInBounds_toArray, List.set_cons_zero, List.set_cons_succ, i64_w, i32_w]
                                                    rfl
                                                  refine pure_ (i := 6) (N := some 15) (v := ?_) (a' := ?_) #[true, true, true, true, true, true, true] rfl rfl (by kernel_rfl) (fun _ _ _ h => h) (Or.inl ⟨by rfl, ?_⟩) ?_ ?_
                                                  rotate_left
                                                  · intro w'
                                                    go_simp
                                                    with_reducible rfl
                                                  rotate_left
                                                  · simp only [Act.put, List.setIfInBounds_toArray, List.set_cons_zero, List.set_cons_succ, i64_w, i32_w]
                                                    rfl
                                                  refine done_ (by kernel_rfl) ?_
                                                  obtain ⟨Ao75, co75, eo75⟩ := Kd.R_slice HO_11.out
                                                  subst eo75
                                                  have p147 : 0 ≤ ((ji56) : Int) := of_decide_eq_true (by first | (with_reducible assumption) | assumption)
                                                  have q147 : (ji56) < (t121.length : Int) := of_decide_eq_true (by first | (with_reducible assumption) | assumption)
                                                  obtain ⟨ad147, e147, hx147_0⟩ := Kd.at_int (Kd.R_reads' HO_11.out).2.2 (ji56) p147 q147
                                                  cases e147
                                                  replace p147 := eq_true p147
                                                  replace q147 := eq_true q147
                                                  obtain ⟨Ao76, co76, eo76⟩ := Kd.R_slice HO146.out
                                                  subst eo76
                                                  try go_wp2_with (first | ((with_reducible refine gate_callee (f := 16) rfl ?_); refine goesL_ (some 155) rfl rfl Try.func16 (by kernel_rfl) rfl #[.slice Ao76 y144.length co76] rfl (by (try simp only [List.map_toArray, List.map_cons, List.map_nil]); first | done | rfl | (simp only [List.length_drop, List.length_take]; rfl)) ?_; (with_reducible refine (judge_Held.calls _ _ y144 t148 t149 _ ?side1 ?side2 A60.out).mono ?_); (case side1 => repeat (first | exact (Kd.R_reads' HO146.out).2.2 | (with_reducible refine Kd.C_alloc ?_ _) | (with_reducible refine Kd.C_drewN ?_ _) | (with_reducible refine Kd.C_drew ?_))); (case side2 => exact (Kd.R_reads' HO146.out).2.1); rintro e w77 ⟨v150, rfl, ho0, hb⟩; refine ⟨_, rfl, ?_⟩; have n0_ := Aside0.mk (Kd.R_below (by (with_reducible repeat (first | apply Kd.R_alloc | apply Kd.R_drewN | apply Kd.R_drew)); exact HO_0.out) hb); have n1_ := Aside0.mk (Kd.R_elder' (by (with_reducible repeat (first | apply Kd.R_alloc | apply Kd.R_drewN | apply Kd.R_drew)); exact HO_11.out) (Kd.R_base ho0) hb); have n2_ := Aside0.mk (Kd.R_below (by (with_reducible repeat (first | apply Kd.R_alloc | apply Kd.R_drewN | apply Kd.R_drew)); exact HO143.out) hb); have n3_ := Aside0.mk (Kd.R_below (by (with_reducible repeat (first | apply Kd.R_alloc | apply Kd.R_drewN | apply Kd.R_drew)); exact HO146.out) hb); have n4_ := Aside0.mk (Kd.R_lower (Kd.R_new' ho0 (Kd.R_lt (by (with_reducible repeat (first | apply Kd.R_alloc | apply Kd.R_drewN | apply Kd.R_drew)); exact HO_11.out))) (below_size (by repeat (first | (with_reducible first | exact HB.out | apply below_alloc | apply pw_below_drewN | apply below_drew1 | refine below_set ?_ GE125.out) | exact HB.out)))); have n5_ := Aside0.mk (blk_below (g := gb125) (o := .cells #[.int .i64 x126000_40, .int .i64 x126001_40, .int .i64 (Int.tmod (wrap64 ((Int.tmod a2 8) + 8)) 8), .int .i64 0, .int .i64 (ji56)] 33 (0, 0)) (by (with_reducible repeat (first | refine blk_drewN ?_ _ | refine blk_drew ?_ | refine blk_alloc ?_ _)); exact BK125.out) hb); have n6_ := Aside0.mk (below_step (by repeat (first | (with_reducible first | exact HB.out | apply below_alloc | apply pw_below_drewN | apply below_drew1 | refine below_set ?_ GE125.out) | exact HB.out)) hb); clear HO_0; clear HO_11; clear HO143; clear HO146; clear BK125; clear HB; have HO_0 := n0_; have HO_11 := n1_; have HO143 := n2_; have HO146 := n3_; have HO151 := n4_; have BK125 := n5_; have HB := n6_; clear n0_ n1_ n2_ n3_ n4_ n5_ n6_; (try clear hb); (try clear hb2); (try clear hk); (try clear hi); (try clear ho0)) | ((with_reducible refine gate_callee (f := 14) rfl ?_); refine goesL_ (some 159) rfl rfl Try.func14 (by kernel_rfl) rfl #[.slice Ao76 y144.length co76] rfl (by (try simp only [List.map_toArray, List.map_cons, List.map_nil]); first | done | rfl | (simp only [List.length_drop, List.length_take]; rfl)) ?_; (with_reducible refine (judge_Wrong.calls _ _ y144 t152 _ ?side1 ?side2 A61.out).mono ?_); (case side1 => repeat (first | exact (Kd.R_reads' HO146.out).2.2 | (with_reducible refine Kd.C_alloc ?_ _) | (with_reducible refine Kd.C_drewN ?_ _) | (with_reducible refine Kd.C_drew ?_))); (case side2 => exact (Kd.R_reads' HO146.out).2.1); rintro e w78 ⟨rfl, hb⟩; refine ⟨_, rfl, ?_⟩; have n0_ := Aside0.mk (Kd.R_below (by (with_reducible repeat (first | apply Kd.R_alloc | apply Kd.R_drewN | apply Kd.R_drew)); exact HO_0.out) hb); have n1_ := Aside0.mk (Kd.R_below (by (with_reducible repeat (first | apply Kd.R_alloc | apply Kd.R_drewN | apply Kd.R_drew)); exact HO_11.out) hb); have n2_ := Aside0.mk (Kd.R_below (by (with_reducible repeat (first | apply Kd.R_alloc | apply Kd.R_drewN | apply Kd.R_drew)); exact HO143.out) hb); have n3_ := Aside0.mk (Kd.R_below (by (with_reducible repeat (first | apply Kd.R_alloc | apply Kd.R_drewN | apply Kd.R_drew)); exact HO146.out) hb); have n4_ := Aside0.mk (Kd.R_below (by (with_reducible repeat (first | apply Kd.R_alloc | apply Kd.R_drewN | apply Kd.R_drew)); exact HO151.out) hb); have n5_ := Aside0.mk (blk_below (g := gb125) (o := .cells #[.int .i64 x126000_40, .int .i64 x126001_40, .int .i64 (Int.tmod (wrap64 ((Int.tmod a2 8) + 8)) 8), .int .i64 0, .int .i64 (ji56)] 33 (0, 0)) (by (with_reducible repeat (first | refine blk_drewN ?_ _ | refine blk_drew ?_ | refine blk_alloc ?_ _)); exact BK125.out) hb); have n6_ := Aside0.mk (below_step (by repeat (first | (with_reducible first | exact HB.out | apply below_alloc | apply pw_below_drewN | apply below_drew1 | refine below_set ?_ GE125.out) | exact HB.out)) hb); clear HO_0; clear HO_11; clear HO143; clear HO146; clear HO151; clear BK125; clear HB; have HO_0 := n0_; have HO_11 := n1_; have HO143 := n2_; have HO146 := n3_; have HO151 := n4_; have BK125 := n5_; have HB := n6_; clear n0_ n1_ n2_ n3_ n4_ n5_ n6_; (try clear hb); (try clear hb2); (try clear hk); (try clear hi); obtain ⟨Ao79, co79, eo79⟩ := Kd.R_slice HO151.out; subst eo79; have p153 : 0 ≤ ((ji56) : Int) := of_decide_eq_true (by first | (with_reducible assumption) | assumption); have q153 : (ji56) < (t148.length : Int) := of_decide_eq_true (by first | (with_reducible assumption) | assumption); obtain ⟨ad153, e153, hx153_0⟩ := Kd.at_int (Kd.R_reads' HO151.out).2.2 (ji56) p153 q153; cases e153; replace p153 := eq_true p153; replace q153 := eq_true q153))
                                                  go_ret
                                                  exact ⟨by first | rfl | (simp [errW_none, errW_some] <;> rfl) | (simp only [← hji17, ← hji56]; first | rfl | (simp [errW_none, errW_some] <;> rfl)) | (simp [*, errW_none, errW_some] <;> rfl), by repeat (first | (with_reducible first | exact HB.out | apply below_alloc | apply pw_below_drewN | apply below_drew1 | refine below_set ?_ GE125.out) | exact HB.out)⟩
                                                · rw [if_neg c65] at H
                                                  exact absurd H (by simp)
                                              · rw [if_neg c64] at H
                                                exact absurd H (by simp)
                                            · rw [if_neg c63] at H
                                              exact absurd H (by simp)
                                          · rw [if_neg c62] at H
                                            exact absurd H (by simp)
                                        · rw [if_neg c59] at H
                                          have c59b0 : ((rd t121 (ji56)) == (-1)) = false := beq_eq_false_iff_ne.mpr c59
                                          have c59b1 : ((rd t121 (ji56)) != (-1)) = true := bne_iff_ne.mpr c59
                                          replace H := Option.bind_eq_some_iff.mp H
                                          obtain ⟨t154, A800, H⟩ := H
                                          replace H : (some (t154 == (t111.length : Int))) = some r := H
                                          have A80 := Aside0.mk A800
                                          clear A800
                                          obtain rfl := Option.some.inj H
                                          try go_wp2
                                          have n0_ := Aside0.mk (Kd.R_drew HO_0.out)
                                          have n1_ := Aside0.mk (Kd.R_drew HO_11.out)
                                          have n2_ := Aside0.mk (blk_drew BK125.out)
                                          have n3_ := Aside0.mk (below_drew1 HB.out)
                                          clear HO_0
                                          clear HO_11
                                          clear BK125
                                          clear HB
                                          have HO_0 := n0_
                                          have HO_11 := n1_
                                          have BK125 := n2_
                                          have HB := n3_
                                          clear n0_ n1_ n2_ n3_
                                          refine start_ (n := 7) (S := fun w' => w'.cell? ⟨gb125, 0, none⟩ = some (.int .i64 x126000_40) ∧ w'.cell? ⟨gb125, 1, none⟩ = some (.int .i64 x126001_40) ∧ w'.cell? ⟨gb125, 2, none⟩ = some (.int .i64 (Int.tmod (wrap64 ((Int.tmod a2 8) + 8)) 8)) ∧ w'.cell? ⟨gb125, 3, none⟩ = some (.int .i64 0) ∧ w'.cell? ⟨gb125, 4, none⟩ = some (.int .i64 (ji56))) (ds := []) #[false, false, false, false, false, false, false] (by kernel_rfl) rfl rfl ⟨(blk_cell BK125.out 0).trans rfl, (blk_cell BK125.out 1).trans rfl, (blk_cell BK125.out 2).trans rfl, (blk_cell BK125.out 3).trans rfl, (blk_cell BK125.out 4).trans rfl⟩ (fun hHeld => ?_)
                                          generalize wc.drew = w81 at HO_0 HO_11 BK125 HB hHeld ⊢
                                          refine pure_ (i := 1) (N := some 138) (v := ?_) (a' := ?_) #[false, true, false, false, false, false, false] rfl rfl (by kernel_rfl) (fun _ _ _ h => h) (Or.inl ⟨by rfl, ?_⟩) ?_ ?_
                                          rotate_left
                                          · intro w'
                                            go_simp
                                            with_reducible rfl
                                          rotate_left
                                          · simp only [Act.put, List.setIfInBounds_toArray, List.set_cons_zero, List.set_cons_succ, i64_w, i32_w]
                                            rfl
                                          refine take_ (i := 3) (N := some 140) (v := ?_) (a' := ?_) #[false, true, false, true, false, false, false] rfl rfl (by kernel_rfl) (fun _ _ _ h => h) (Or.inl ⟨by rfl, ?_⟩) hHeld ?_ ?_
                                          rotate_left
                                          · rintro w' ⟨s0, s1, s2, s3, s4⟩
                                            go_simp
                                            with_reducible rfl
                                          rotate_left
                                          · simp only [Act.put, List.setIfInBounds_toArray, List.set_cons_zero, List.set_cons_succ, i64_w, i32_w]
                                            rfl
                                          refine join_ (σ := Value × Value × Value) 2 #[true, true, true, true, true, false, false] (fun s_ => [(137, s_.1), (139, s_.2.1), (141, s_.2.2)]) (fun s_ w' => (w'.cell? ⟨gb125, 0, none⟩ = some (.int .i64 x126000_40) ∧ w'.cell? ⟨gb125, 1, none⟩ = some (.int .i64 x126001_40) ∧ w'.cell? ⟨gb125, 2, none⟩ = some (.int .i64 (Int.tmod (wrap64 ((Int.tmod a2 8) + 8)) 8)) ∧ w'.cell? ⟨gb125, 3, none⟩ = some (.int .i64 0) ∧ w'.cell? ⟨gb125, 4, none⟩ = some (.int .i64 (ji56))) ∧ (Kd.R k33 33 w' w.heap.size (fun k_ => some k_ ≠ (s_.2.2 : Value).ownBlock ∧ some k_ ≠ (.slice Ao9 t111.length co9 : Value).ownBlock ∧ k_ ≠ gb125) s_.2.1 y138) ∧ (Kd.R k33 33 w' w.heap.size (fun k_ => some k_ ≠ (s_.2.1 : Value).ownBlock ∧ some k_ ≠ (.slice Ao9 t111.length co9 : Value).ownBlock ∧ k_ ≠ gb125) s_.2.2 y141) ∧ (Kd.R k33 33 w' w.heap.size (fun k_ => some k_ ≠ (s_.2.1 : Value).ownBlock ∧ some k_ ≠ (s_.2.2 : Value).ownBlock ∧ k_ ≠ gb125) (.slice Ao9 t111.length co9) t111) ∧ (Kd.R (Kd.int .i64) 3 w' w.heap.size (fun _ => True) v123 t121) ∧ (w'.heap[gb125]? = some (.cells #[.int .i64 x126000_40, .int .i64 x126001_40, .int .i64 (Int.tmod (wrap64 ((Int.tmod a2 8) + 8)) 8), .int .i64 0, .int .i64 (ji56)] 33 (0, 0))) ∧ (Below w.heap.size w w')) ?_ ?_
                                          rotate_left
                                          · intro hCont
                                            refine two_ (i := 0) (j := 4) (Ni := some 137) (Nj := some 141) #[true, true, false, true, false, false, false] #[false, true, false, true, true, false, false] rfl rfl rfl rfl (by kernel_rfl) (by decide) (by decide) (fun K hK => ?_) (fun K hK => ?_)
                                            · skip
                                              refine Kd.R_lit_step k33 _ 33 ?hg (N := 137) ?hd (xs := ([] : List (S33))) (inner := []) (ok := fun _ => True) (okp := fun _ => True) ?hr ?hp (fun _ hk => hk) trivial (Below.refl _ _) (Nat.le_refl _) (by simp) ?_; (case hd => rfl); (case hg => rfl); (case hr => first | (go_simp; done) | (go_simp; rfl)); (case hp => exact (Reps.none _ _))
                                              intro v136 w82 ho83 hb hg_ hnew_
                                              clear hg_ hnew_
                                              (first | rw [← Ny135.out] at ho83 | (simp only [Int.reduceToNat] at ho83; rw [← Ny135.out] at ho83))
                                              have n0_ := Aside0.mk (Kd.R_elder' (by (with_reducible repeat (first | apply Kd.R_alloc | apply Kd.R_drewN | apply Kd.R_drew)); exact HO_0.out) (Kd.R_base ho83) hb)
                                              have n1_ := Aside0.mk (Kd.R_below (by (with_reducible repeat (first | apply Kd.R_alloc | apply Kd.R_drewN | apply Kd.R_drew)); exact HO_11.out) hb)
                                              have n2_ := Aside0.mk (Kd.R_lower (Kd.R_newB (Kd.R_new' ho83 (Kd.R_lt (by (with_reducible repeat (first | apply Kd.R_alloc | apply Kd.R_drewN | apply Kd.R_drew)); exact HO_0.out))) (g := gb125) (o := .cells #[.int .i64 x126000_40, .int .i64 x126001_40, .int .i64 (Int.tmod (wrap64 ((Int.tmod a2 8) + 8)) 8), .int .i64 0, .int .i64 (ji56)] 33 (0, 0)) (by (with_reducible repeat (first | refine blk_drewN ?_ _ | refine blk_drew ?_ | refine blk_alloc ?_ _)); exact BK125.out)) (below_size (by repeat (first | (with_reducible first | exact HB.out | apply below_alloc | apply pw_below_drewN | apply below_drew1 | refine below_set ?_ GE125.out) | exact HB.out))))
                                              have n3_ := Aside0.mk (blk_below (g := gb125) (o := .cells #[.int .i64 x126000_40, .int .i64 x126001_40, .int .i64 (Int.tmod (wrap64 ((Int.tmod a2 8) + 8)) 8), .int .i64 0, .int .i64 (ji56)] 33 (0, 0)) (by (with_reducible repeat (first | refine blk_drewN ?_ _ | refine blk_drew ?_ | refine blk_alloc ?_ _)); exact BK125.out) hb)
                                              have n4_ := Aside0.mk (below_step (by repeat (first | (with_reducible first | exact HB.out | apply below_alloc | apply pw_below_drewN | apply below_drew1 | refine below_set ?_ GE125.out) | exact HB.out)) hb)
                                              clear HO_0
                                              clear HO_11
                                              clear BK125
                                              clear HB
                                              have HO_0 := n0_
                                              have HO_11 := n1_
                                              have HO137 := n2_
                                              have BK125 := n3_
                                              have HB := n4_
                                              clear n0_ n1_ n2_ n3_ n4_
                                              clear hb ho83
                                              refine hK.out _ _ ⟨(blk_cell BK125.out 0).trans rfl, (blk_cell BK125.out 1).trans rfl, (blk_cell BK125.out 2).trans rfl, (blk_cell BK125.out 3).trans rfl, (blk_cell BK125.out 4).trans rfl⟩ (fun hHeld => ?_)
                                              clear hK K
                                              refine norm_ (a' := ?_) ?_ ?_
                                              rotate_left
                                              · show Act.put _ (some 137) _ = _
                                                simp only [Act.put, List.setIfInBounds_toArray, List.set_cons_zero, List.set_cons_succ, i64_w, i32_w]
                                                rfl
                                              refine two_ (i := 2) (j := 4) (Ni := some 139) (Nj := some 141) #[true, true, true, true, false, false, false] #[true, true, false, true, true, false, false] rfl rfl rfl rfl (by kernel_rfl) (by decide) (by decide) (fun K hK => ?_) (fun K hK => ?_)
                                              · skip
                                                refine Kd.R_append_rows_step k33 (w0 := w) w.heap.size (by rfl) (.tmp 137) (.tmp 138) 22 33 (.agg #[(.int .i64 0), (.int .i64 0), (.int .i64 0), (.int .i64 0), (.int .i64 0)]) 40 rfl Try.underlying22 info33 rfl (by decide) (by omega) v136 y135 t111 _ _ _ (fun k_ => some k_ ≠ (.slice Ao9 t111.length co9 : Value).ownBlock ∧ k_ ≠ gb125) (fun _ => False) rfl rfl ?aO ?aR (fun _ _ h => h) (fun _ h => h.elim) ?aF ?aB ?aS ?aL ?_
                                                (case aR => repeat (first | exact (Kd.R_reads' HO_0.out).2.2 | (with_reducible refine Kd.C_alloc ?_ _) | (with_reducible refine Kd.C_drewN ?_ _) | (with_reducible refine Kd.C_drew ?_)))
                                                (case aB => exact (by repeat (first | (with_reducible first | exact HB.out | apply below_alloc | apply pw_below_drewN | apply below_drew1 | refine below_set ?_ GE125.out) | exact HB.out)))
                                                (case aF => exact (fun k_ hk => ⟨Kd.fresh' (Kd.R_lt (by (with_reducible repeat (first | apply Kd.R_alloc | apply Kd.R_drewN | apply Kd.R_drew)); exact HO_0.out)) k_ hk, Kd.freshB (g := gb125) (o := .cells #[.int .i64 x126000_40, .int .i64 x126001_40, .int .i64 (Int.tmod (wrap64 ((Int.tmod a2 8) + 8)) 8), .int .i64 0, .int .i64 (ji56)] 33 (0, 0)) (by (with_reducible repeat (first | refine blk_drewN ?_ _ | refine blk_drew ?_ | refine blk_alloc ?_ _)); exact BK125.out) k_ hk⟩))
                                                (case aO => exact (by (with_reducible repeat (first | apply Kd.R_alloc | apply Kd.R_drewN | apply Kd.R_drew)); exact Kd.R_mono HO137.out (fun _ hk => ⟨hk.1.2, hk.2⟩)))
                                                (case aS => exact (below_size (by repeat (first | (with_reducible first | exact HB.out | apply below_alloc | apply pw_below_drewN | apply below_drew1 | refine below_set ?_ GE125.out) | exact HB.out))))
                                                (case aL => have := LMc54.out; omega)
                                                intro v139 w84 ho hb hg hat
                                                rw [← Ny138.out] at ho
                                                have n0_ := Aside0.mk (Kd.R_after (ok := (fun k_ => k_ ≠ gb125)) (by (with_reducible repeat (first | apply Kd.R_alloc | apply Kd.R_drewN | apply Kd.R_drew)); exact HO_0.out) hg hat)
                                                have n1_ := Aside0.mk (Kd.R_over' (by (with_reducible repeat (first | apply Kd.R_alloc | apply Kd.R_drewN | apply Kd.R_drew)); exact HO_11.out) (Kd.R_typed (by (with_reducible repeat (first | apply Kd.R_alloc | apply Kd.R_drewN | apply Kd.R_drew)); exact HO137.out)) (by decide) hg)
                                                have n2_ := Aside0.mk (blk_grown (g := gb125) (o := .cells #[.int .i64 x126000_40, .int .i64 x126001_40, .int .i64 (Int.tmod (wrap64 ((Int.tmod a2 8) + 8)) 8), .int .i64 0, .int .i64 (ji56)] 33 (0, 0)) (by (with_reducible repeat (first | refine blk_drewN ?_ _ | refine blk_drew ?_ | refine blk_alloc ?_ _)); exact BK125.out) hg (Kd.R_away HO137.out (fun _ hk => hk.2)))
                                                have n3_ := Aside0.mk (hb)
                                                have n4_ := Aside0.mk (ho)
                                                clear HO_0
                                                clear HO_11
                                                clear BK125
                                                clear HB
                                                clear HO137
                                                have HO_0 := n0_
                                                have HO_11 := n1_
                                                have BK125 := n2_
                                                have HB := n3_
                                                have HO140 := n4_
                                                clear n0_ n1_ n2_ n3_ n4_
                                                clear ho hb hg hat
                                                refine hK.out _ _ ⟨(blk_cell BK125.out 0).trans rfl, (blk_cell BK125.out 1).trans rfl, (blk_cell BK125.out 2).trans rfl, (blk_cell BK125.out 3).trans rfl, (blk_cell BK125.out 4).trans rfl⟩ (fun hHeld => ?_)
                                                clear hK K
                                                refine norm_ (a' := ?_) ?_ ?_
                                                rotate_left
                                                · show Act.put _ (some 139) _ = _
                                                  simp only [Act.put, List.setIfInBounds_toArray, List.set_cons_zero, List.set_cons_succ, i64_w, i32_w]
                                                  rfl
                                                refine one_ (i := 4) (N := some 141) #[true, true, true, true, true, false, false] rfl rfl (by kernel_rfl) (by decide) (fun K hK => ?_)
                                                refine Kd.R_lit_step k33 _ 33 ?hg (N := 141) ?hd (xs := ([(⟨x126000_40, x126001_40, (⟨(Int.tmod (wrap64 ((Int.tmod a2 8) + 8)) 8), 0, (ji56)⟩ : S31)⟩ : S33)] : List (S33))) (inner := [.int .i64 x126000_40, .int .i64 x126001_40, .int .i64 (Int.tmod (wrap64 ((Int.tmod a2 8) + 8)) 8), .int .i64 0, .int .i64 (ji56)]) (ok := fun _ => True) (okp := fun _ => True) ?hr ?hp (fun _ hk => hk) trivial (Below.refl _ _) (Nat.le_refl _) (by simp) ?_; (case hd => rfl); (case hg => rfl); (case hr => first | (go_simp; done) | (go_simp; rfl)); (case hp => exact (Reps.c5 (show Kd.M k33 _ _ _ (⟨x126000_40, x126001_40, (⟨(Int.tmod (wrap64 ((Int.tmod a2 8) + 8)) 8), 0, (ji56)⟩ : S31)⟩ : S33) [.int .i64 x126000_40, .int .i64 x126001_40, .int .i64 (Int.tmod (wrap64 ((Int.tmod a2 8) + 8)) 8), .int .i64 0, .int .i64 (ji56)] from (k33_mkM _ _ _ (⟨x126000_40, x126001_40, (⟨(Int.tmod (wrap64 ((Int.tmod a2 8) + 8)) 8), 0, (ji56)⟩ : S31)⟩ : S33) )) (Reps.none _ _)))
                                                intro v142 w85 ho86 hb hg_ hnew_
                                                clear hg_ hnew_
                                                (first | rw [← Ny141.out] at ho86 | (simp only [Int.reduceToNat] at ho86; rw [← Ny141.out] at ho86))
                                                have n0_ := Aside0.mk (Kd.R_elder' (by (with_reducible repeat (first | apply Kd.R_alloc | apply Kd.R_drewN | apply Kd.R_drew)); exact HO_0.out) (Kd.R_base ho86) hb)
                                                have n1_ := Aside0.mk (Kd.R_below (by (with_reducible repeat (first | apply Kd.R_alloc | apply Kd.R_drewN | apply Kd.R_drew)); exact HO_11.out) hb)
                                                have n2_ := Aside0.mk (Kd.R_elder' (by (with_reducible repeat (first | apply Kd.R_alloc | apply Kd.R_drewN | apply Kd.R_drew)); exact HO140.out) (Kd.R_base ho86) hb)
                                                have n3_ := Aside0.mk (Kd.R_lower (Kd.R_newB (Kd.R_new' (Kd.R_new' ho86 (Kd.R_lt (by (with_reducible repeat (first | apply Kd.R_alloc | apply Kd.R_drewN | apply Kd.R_drew)); exact HO_0.out))) (Kd.R_lt (by (with_reducible repeat (first | apply Kd.R_alloc | apply Kd.R_drewN | apply Kd.R_drew)); exact HO140.out))) (g := gb125) (o := .cells #[.int .i64 x126000_40, .int .i64 x126001_40, .int .i64 (Int.tmod (wrap64 ((Int.tmod a2 8) + 8)) 8), .int .i64 0, .int .i64 (ji56)] 33 (0, 0)) (by (with_reducible repeat (first | refine blk_drewN ?_ _ | refine blk_drew ?_ | refine blk_alloc ?_ _)); exact BK125.out)) (below_size (by repeat (first | (with_reducible first | exact HB.out | apply below_alloc | apply pw_below_drewN | apply below_drew1 | refine below_set ?_ GE125.out) | exact HB.out))))
                                                have n4_ := Aside0.mk (blk_below (g := gb125) (o := .cells #[.int .i64 x126000_40, .int .i64 x126001_40, .int .i64 (Int.tmod (wrap64 ((Int.tmod a2 8) + 8)) 8), .int .i64 0, .int .i64 (ji56)] 33 (0, 0)) (by (with_reducible repeat (first | refine blk_drewN ?_ _ | refine blk_drew ?_ | refine blk_alloc ?_ _)); exact BK125.out) hb)
                                                have n5_ := Aside0.mk (below_step (by repeat (first | (with_reducible first | exact HB.out | apply below_alloc | apply pw_below_drewN | apply below_drew1 | refine below_set ?_ GE125.out) | exact HB.out)) hb)
                                                clear HO_0
                                                clear HO_11
                                                clear HO140
                                                clear BK125
                                                clear HB
                                                have HO_0 := n0_
                                                have HO_11 := n1_
                                                have HO140 := n2_
                                                have HO143 := n3_
                                                have BK125 := n4_
                                                have HB := n5_
                                                clear n0_ n1_ n2_ n3_ n4_ n5_
                                                clear hb ho86
                                                refine hK.out _ _ ⟨(blk_cell BK125.out 0).trans rfl, (blk_cell BK125.out 1).trans rfl, (blk_cell BK125.out 2).trans rfl, (blk_cell BK125.out 3).trans rfl, (blk_cell BK125.out 4).trans rfl⟩ (fun hHeld => ?_)
                                                clear hK K
                                                refine norm_ (a' := ?_) ?_ ?_
                                                rotate_left
                                                · show Act.put _ (some 141) _ = _
                                                  simp only [Act.put, List.setIfInBounds_toArray, List.set_cons_zero, List.set_cons_succ, i64_w, i32_w]
                                                  rfl
                                                exact norm_ (by simp only [putAll, Act.put, List.setIfInBounds_toArray, List.set_cons_zero, List.set_cons_succ]) (hCont (v136, v139, v142) _ ⟨hHeld, (by (with_reducible repeat (first | apply Kd.R_alloc | apply Kd.R_drewN | apply Kd.R_drew)); exact Kd.R_mono HO140.out (fun _ hk => ⟨hk.2, ⟨hk.1.1, hk.1.2⟩⟩)), (by (with_reducible repeat (first | apply Kd.R_alloc | apply Kd.R_drewN | apply Kd.R_drew)); exact Kd.R_mono HO143.out (fun _ hk => ⟨hk.1.2, ⟨hk.1.1.2, hk.2⟩⟩)), (by (with_reducible repeat (first | apply Kd.R_alloc | apply Kd.R_drewN | apply Kd.R_drew)); exact Kd.R_mono HO_0.out (fun _ hk => ⟨hk.1.2, ⟨hk.2, hk.1.1⟩⟩)), (by (with_reducible repeat (first | apply Kd.R_alloc | apply Kd.R_drewN | apply Kd.R_drew)); exact HO_11.out), (by (with_reducible repeat (first | refine blk_drewN ?_ _ | refine blk_drew ?_ | refine blk_alloc ?_ _)); exact BK125.out), (by repeat (first | (with_reducible first | exact HB.out | apply below_alloc | apply pw_below_drewN | apply below_drew1 | refine below_set ?_ GE125.out) | exact HB.out))⟩)
                                              · skip
                                                refine Kd.R_lit_step k33 _ 33 ?hg (N := 141) ?hd (xs := ([(⟨x126000_40, x126001_40, (⟨(Int.tmod (wrap64 ((Int.tmod a2 8) + 8)) 8), 0, (ji56)⟩ : S31)⟩ : S33)] : List (S33))) (inner := [.int .i64 x126000_40, .int .i64 x126001_40, .int .i64 (Int.tmod (wrap64 ((Int.tmod a2 8) + 8)) 8), .int .i64 0, .int .i64 (ji56)]) (ok := fun _ => True) (okp := fun _ => True) ?hr ?hp (fun _ hk => hk) trivial (Below.refl _ _) (Nat.le_refl _) (by simp) ?_; (case hd => rfl); (case hg => rfl); (case hr => first | (go_simp; done) | (go_simp; rfl)); (case hp => exact (Reps.c5 (show Kd.M k33 _ _ _ (⟨x126000_40, x126001_40, (⟨(Int.tmod (wrap64 ((Int.tmod a2 8) + 8)) 8), 0, (ji56)⟩ : S31)⟩ : S33) [.int .i64 x126000_40, .int .i64 x126001_40, .int .i64 (Int.tmod (wrap64 ((Int.tmod a2 8) + 8)) 8), .int .i64 0, .int .i64 (ji56)] from (k33_mkM _ _ _ (⟨x126000_40, x126001_40, (⟨(Int.tmod (wrap64 ((Int.tmod a2 8) + 8)) 8), 0, (ji56)⟩ : S31)⟩ : S33) )) (Reps.none _ _)))
                                                intro v142 w84 ho85 hb hg_ hnew_
                                                clear hg_ hnew_
                                                (first | rw [← Ny141.out] at ho85 | (simp only [Int.reduceToNat] at ho85; rw [← Ny141.out] at ho85))
                                                have n0_ := Aside0.mk (Kd.R_elder' (by (with_reducible repeat (first | apply Kd.R_alloc | apply Kd.R_drewN | apply Kd.R_drew)); exact HO_0.out) (Kd.R_base ho85) hb)
                                                have n1_ := Aside0.mk (Kd.R_below (by (with_reducible repeat (first | apply Kd.R_alloc | apply Kd.R_drewN | apply Kd.R_drew)); exact HO_11.out) hb)
                                                have n2_ := Aside0.mk (Kd.R_elder' (by (with_reducible repeat (first | apply Kd.R_alloc | apply Kd.R_drewN | apply Kd.R_drew)); exact HO137.out) (Kd.R_base ho85) hb)
                                                have n3_ := Aside0.mk (Kd.R_lower (Kd.R_newB (Kd.R_new' (Kd.R_new' ho85 (Kd.R_lt (by (with_reducible repeat (first | apply Kd.R_alloc | apply Kd.R_drewN | apply Kd.R_drew)); exact HO_0.out))) (Kd.R_lt (by (with_reducible repeat (first | apply Kd.R_alloc | apply Kd.R_drewN | apply Kd.R_drew)); exact HO137.out))) (g := gb125) (o := .cells #[.int .i64 x126000_40, .int .i64 x126001_40, .int .i64 (Int.tmod (wrap64 ((Int.tmod a2 8) + 8)) 8), .int .i64 0, .int .i64 (ji56)] 33 (0, 0)) (by (with_reducible repeat (first | refine blk_drewN ?_ _ | refine blk_drew ?_ | refine blk_alloc ?_ _)); exact BK125.out)) (below_size (by repeat (first | (with_reducible first | exact HB.out | apply below_alloc | apply pw_below_drewN | apply below_drew1 | refine below_set ?_ GE125.out) | exact HB.out))))
                                                have n4_ := Aside0.mk (blk_below (g := gb125) (o := .cells #[.int .i64 x126000_40, .int .i64 x126001_40, .int .i64 (Int.tmod (wrap64 ((Int.tmod a2 8) + 8)) 8), .int .i64 0, .int .i64 (ji56)] 33 (0, 0)) (by (with_reducible repeat (first | refine blk_drewN ?_ _ | refine blk_drew ?_ | refine blk_alloc ?_ _)); exact BK125.out) hb)
                                                have n5_ := Aside0.mk (below_step (by repeat (first | (with_reducible first | exact HB.out | apply below_alloc | apply pw_below_drewN | apply below_drew1 | refine below_set ?_ GE125.out) | exact HB.out)) hb)
                                                clear HO_0
                                                clear HO_11
                                                clear HO137
                                                clear BK125
                                                clear HB
                                                have HO_0 := n0_
                                                have HO_11 := n1_
                                                have HO137 := n2_
                                                have HO143 := n3_
                                                have BK125 := n4_
                                                have HB := n5_
                                                clear n0_ n1_ n2_ n3_ n4_ n5_
                                                clear hb ho85
                                                refine hK.out _ _ ⟨(blk_cell BK125.out 0).trans rfl, (blk_cell BK125.out 1).trans rfl, (blk_cell BK125.out 2).trans rfl, (blk_cell BK125.out 3).trans rfl, (blk_cell BK125.out 4).trans rfl⟩ (fun hHeld => ?_)
                                                clear hK K
                                                refine norm_ (a' := ?_) ?_ ?_
                                                rotate_left
                                                · show Act.put _ (some 141) _ = _
                                                  simp only [Act.put, List.setIfInBounds_toArray, List.set_cons_zero, List.set_cons_succ, i64_w, i32_w]
                                                  rfl
                                                refine one_ (i := 2) (N := some 139) #[true, true, true, true, true, false, false] rfl rfl (by kernel_rfl) (by decide) (fun K hK => ?_)
                                                refine Kd.R_append_rows_step k33 (w0 := w) w.heap.size (by rfl) (.tmp 137) (.tmp 138) 22 33 (.agg #[(.int .i64 0), (.int .i64 0), (.int .i64 0), (.int .i64 0), (.int .i64 0)]) 40 rfl Try.underlying22 info33 rfl (by decide) (by omega) v136 y135 t111 _ _ _ (fun k_ => some k_ ≠ (.slice Ao9 t111.length co9 : Value).ownBlock ∧ some k_ ≠ (v142 : Value).ownBlock ∧ k_ ≠ gb125) (fun _ => False) rfl rfl ?aO ?aR (fun _ _ h => h) (fun _ h => h.elim) ?aF ?aB ?aS ?aL ?_
                                                (case aR => repeat (first | exact (Kd.R_reads' HO_0.out).2.2 | (with_reducible refine Kd.C_alloc ?_ _) | (with_reducible refine Kd.C_drewN ?_ _) | (with_reducible refine Kd.C_drew ?_)))
                                                (case aB => exact (by repeat (first | (with_reducible first | exact HB.out | apply below_alloc | apply pw_below_drewN | apply below_drew1 | refine below_set ?_ GE125.out) | exact HB.out)))
                                                (case aF => exact (fun k_ hk => ⟨Kd.fresh' (Kd.R_lt (by (with_reducible repeat (first | apply Kd.R_alloc | apply Kd.R_drewN | apply Kd.R_drew)); exact HO_0.out)) k_ hk, Kd.fresh' (Kd.R_lt (by (with_reducible repeat (first | apply Kd.R_alloc | apply Kd.R_drewN | apply Kd.R_drew)); exact HO143.out)) k_ hk, Kd.freshB (g := gb125) (o := .cells #[.int .i64 x126000_40, .int .i64 x126001_40, .int .i64 (Int.tmod (wrap64 ((Int.tmod a2 8) + 8)) 8), .int .i64 0, .int .i64 (ji56)] 33 (0, 0)) (by (with_reducible repeat (first | refine blk_drewN ?_ _ | refine blk_drew ?_ | refine blk_alloc ?_ _)); exact BK125.out) k_ hk⟩))
                                                (case aO => exact (by (with_reducible repeat (first | apply Kd.R_alloc | apply Kd.R_drewN | apply Kd.R_drew)); exact Kd.R_mono HO137.out (fun _ hk => ⟨hk.1.1.2, ⟨hk.2, hk.1.2⟩⟩)))
                                                (case aS => exact (below_size (by repeat (first | (with_reducible first | exact HB.out | apply below_alloc | apply pw_below_drewN | apply below_drew1 | refine below_set ?_ GE125.out) | exact HB.out))))
                                                (case aL => have := LMc54.out; omega)
                                                intro v139 w86 ho hb hg hat
                                                rw [← Ny138.out] at ho
                                                have n0_ := Aside0.mk (Kd.R_after (ok := (fun k_ => some k_ ≠ (v142 : Value).ownBlock ∧ k_ ≠ gb125)) (by (with_reducible repeat (first | apply Kd.R_alloc | apply Kd.R_drewN | apply Kd.R_drew)); exact Kd.R_mono HO_0.out (fun _ hk => ⟨⟨hk.2, hk.1.1⟩, hk.1.2⟩)) hg hat)
                                                have n1_ := Aside0.mk (Kd.R_over' (by (with_reducible repeat (first | apply Kd.R_alloc | apply Kd.R_drewN | apply Kd.R_drew)); exact HO_11.out) (Kd.R_typed (by (with_reducible repeat (first | apply Kd.R_alloc | apply Kd.R_drewN | apply Kd.R_drew)); exact HO137.out)) (by decide) hg)
                                                have n2_ := Aside0.mk (blk_grown (g := gb125) (o := .cells #[.int .i64 x126000_40, .int .i64 x126001_40, .int .i64 (Int.tmod (wrap64 ((Int.tmod a2 8) + 8)) 8), .int .i64 0, .int .i64 (ji56)] 33 (0, 0)) (by (with_reducible repeat (first | refine blk_drewN ?_ _ | refine blk_drew ?_ | refine blk_alloc ?_ _)); exact BK125.out) hg (Kd.R_away HO137.out (fun _ hk => hk.1.2)))
                                                have n3_ := Aside0.mk (Kd.R_after (ok := (fun k_ => some k_ ≠ (.slice Ao9 t111.length co9 : Value).ownBlock ∧ k_ ≠ gb125)) (by (with_reducible repeat (first | apply Kd.R_alloc | apply Kd.R_drewN | apply Kd.R_drew)); exact Kd.R_mono HO143.out (fun _ hk => ⟨⟨hk.1.1.2, hk.2⟩, hk.1.2⟩)) hg hat)
                                                have n4_ := Aside0.mk (hb)
                                                have n5_ := Aside0.mk (ho)
                                                clear HO_0
                                                clear HO_11
                                                clear BK125
                                                clear HO143
                                                clear HB
                                                clear HO137
                                                have HO_0 := n0_
                                                have HO_11 := n1_
                                                have BK125 := n2_
                                                have HO143 := n3_
                                                have HB := n4_
                                                have HO140 := n5_
                                                clear n0_ n1_ n2_ n3_ n4_ n5_
                                                clear ho hb hg hat
                                                refine hK.out _ _ ⟨(blk_cell BK125.out 0).trans rfl, (blk_cell BK125.out 1).trans rfl, (blk_cell BK125.out 2).trans rfl, (blk_cell BK125.out 3).trans rfl, (blk_cell BK125.out 4).trans rfl⟩ (fun hHeld => ?_)
                                                clear hK K
                                                refine norm_ (a' := ?_) ?_ ?_
                                                rotate_left
                                                · show Act.put _ (some 139) _ = _
                                                  simp only [Act.put, List.setIfInBounds_toArray, List.set_cons_zero, List.set_cons_succ, i64_w, i32_w]
                                                  rfl
                                                exact norm_ (by simp only [putAll, Act.put, List.setIfInBounds_toArray, List.set_cons_zero, List.set_cons_succ]) (hCont (v136, v139, v142) _ ⟨hHeld, (by (with_reducible repeat (first | apply Kd.R_alloc | apply Kd.R_drewN | apply Kd.R_drew)); exact Kd.R_mono HO140.out (fun _ hk => ⟨hk.2.1, ⟨hk.1, hk.2.2⟩⟩)), (by (with_reducible repeat (first | apply Kd.R_alloc | apply Kd.R_drewN | apply Kd.R_drew)); exact Kd.R_mono HO143.out (fun _ hk => ⟨hk.2, ⟨hk.1.1, hk.1.2⟩⟩)), (by (with_reducible repeat (first | apply Kd.R_alloc | apply Kd.R_drewN | apply Kd.R_drew)); exact Kd.R_mono HO_0.out (fun _ hk => ⟨hk.2, ⟨hk.1.1, hk.1.2⟩⟩)), (by (with_reducible repeat (first | apply Kd.R_alloc | apply Kd.R_drewN | apply Kd.R_drew)); exact HO_11.out), (by (with_reducible repeat (first | refine blk_drewN ?_ _ | refine blk_drew ?_ | refine blk_alloc ?_ _)); exact BK125.out), (by repeat (first | (with_reducible first | exact HB.out | apply below_alloc | apply pw_below_drewN | apply below_drew1 | refine below_set ?_ GE125.out) | exact HB.out))⟩)
                                            · skip
                                              refine Kd.R_lit_step k33 _ 33 ?hg (N := 141) ?hd (xs := ([(⟨x126000_40, x126001_40, (⟨(Int.tmod (wrap64 ((Int.tmod a2 8) + 8)) 8), 0, (ji56)⟩ : S31)⟩ : S33)] : List (S33))) (inner := [.int .i64 x126000_40, .int .i64 x126001_40, .int .i64 (Int.tmod (wrap64 ((Int.tmod a2 8) + 8)) 8), .int .i64 0, .int .i64 (ji56)]) (ok := fun _ => True) (okp := fun _ => True) ?hr ?hp (fun _ hk => hk) trivial (Below.refl _ _) (Nat.le_refl _) (by simp) ?_; (case hd => rfl); (case hg => rfl); (case hr => first | (go_simp; done) | (go_simp; rfl)); (case hp => exact (Reps.c5 (show Kd.M k33 _ _ _ (⟨x126000_40, x126001_40, (⟨(Int.tmod (wrap64 ((Int.tmod a2 8) + 8)) 8), 0, (ji56)⟩ : S31)⟩ : S33) [.int .i64 x126000_40, .int .i64 x126001_40, .int .i64 (Int.tmod (wrap64 ((Int.tmod a2 8) + 8)) 8), .int .i64 0, .int .i64 (ji56)] from (k33_mkM _ _ _ (⟨x126000_40, x126001_40, (⟨(Int.tmod (wrap64 ((Int.tmod a2 8) + 8)) 8), 0, (ji56)⟩ : S31)⟩ : S33) )) (Reps.none _ _)))
                                              intro v142 w82 ho83 hb hg_ hnew_
                                              clear hg_ hnew_
                                              (first | rw [← Ny141.out] at ho83 | (simp only [Int.reduceToNat] at ho83; rw [← Ny141.out] at ho83))
                                              have n0_ := Aside0.mk (Kd.R_elder' (by (with_reducible repeat (first | apply Kd.R_alloc | apply Kd.R_drewN | apply Kd.R_drew)); exact HO_0.out) (Kd.R_base ho83) hb)
                                              have n1_ := Aside0.mk (Kd.R_below (by (with_reducible repeat (first | apply Kd.R_alloc | apply Kd.R_drewN | apply Kd.R_drew)); exact HO_11.out) hb)
                                              have n2_ := Aside0.mk (Kd.R_lower (Kd.R_newB (Kd.R_new' ho83 (Kd.R_lt (by (with_reducible repeat (first | apply Kd.R_alloc | apply Kd.R_drewN | apply Kd.R_drew)); exact HO_0.out))) (g := gb125) (o := .cells #[.int .i64 x126000_40, .int .i64 x126001_40, .int .i64 (Int.tmod (wrap64 ((Int.tmod a2 8) + 8)) 8), .int .i64 0, .int .i64 (ji56)] 33 (0, 0)) (by (with_reducible repeat (first | refine blk_drewN ?_ _ | refine blk_drew ?_ | refine blk_alloc ?_ _)); exact BK125.out)) (below_size (by repeat (first | (with_reducible first | exact HB.out | apply below_alloc | apply pw_below_drewN | apply below_drew1 | refine below_set ?_ GE125.out) | exact HB.out))))
                                              have n3_ := Aside0.mk (blk_below (g := gb125) (o := .cells #[.int .i64 x126000_40, .int .i64 x126001_40, .int .i64 (Int.tmod (wrap64 ((Int.tmod a2 8) + 8)) 8), .int .i64 0, .int .i64 (ji56)] 33 (0, 0)) (by (with_reducible repeat (first | refine blk_drewN ?_ _ | refine blk_drew ?_ | refine blk_alloc ?_ _)); exact BK125.out) hb)
                                              have n4_ := Aside0.mk (below_step (by repeat (first | (with_reducible first | exact HB.out | apply below_alloc | apply pw_below_drewN | apply below_drew1 | refine below_set ?_ GE125.out) | exact HB.out)) hb)
                                              clear HO_0
                                              clear HO_11
                                              clear BK125
                                              clear HB
                                              have HO_0 := n0_
                                              have HO_11 := n1_
                                              have HO143 := n2_
                                              have BK125 := n3_
                                              have HB := n4_
                                              clear n0_ n1_ n2_ n3_ n4_
                                              clear hb ho83
                                              refine hK.out _ _ ⟨(blk_cell BK125.out 0).trans rfl, (blk_cell BK125.out 1).trans rfl, (blk_cell BK125.out 2).trans rfl, (blk_cell BK125.out 3).trans rfl, (blk_cell BK125.out 4).trans rfl⟩ (fun hHeld => ?_)
                                              clear hK K
                                              refine norm_ (a' := ?_) ?_ ?_
                                              rotate_left
                                              · show Act.put _ (some 141) _ = _
                                                simp only [Act.put, List.setIfInBounds_toArray, List.set_cons_zero, List.set_cons_succ, i64_w, i32_w]
                                                rfl
                                              refine one_ (i := 0) (N := some 137) #[true, true, false, true, true, false, false] rfl rfl (by kernel_rfl) (by decide) (fun K hK => ?_)
                                              refine Kd.R_lit_step k33 _ 33 ?hg (N := 137) ?hd (xs := ([] : List (S33))) (inner := []) (ok := fun _ => True) (okp := fun _ => True) ?hr ?hp (fun _ hk => hk) trivial (Below.refl _ _) (Nat.le_refl _) (by simp) ?_; (case hd => rfl); (case hg => rfl); (case hr => first | (go_simp; done) | (go_simp; rfl)); (case hp => exact (Reps.none _ _))
                                              intro v136 w84 ho85 hb hg_ hnew_
                                              clear hg_ hnew_
                                              (first | rw [← Ny135.out] at ho85 | (simp only [Int.reduceToNat] at ho85; rw [← Ny135.out] at ho85))
                                              have n0_ := Aside0.mk (Kd.R_elder' (by (with_reducible repeat (first | apply Kd.R_alloc | apply Kd.R_drewN | apply Kd.R_drew)); exact HO_0.out) (Kd.R_base ho85) hb)
                                              have n1_ := Aside0.mk (Kd.R_below (by (with_reducible repeat (first | apply Kd.R_alloc | apply Kd.R_drewN | apply Kd.R_drew)); exact HO_11.out) hb)
                                              have n2_ := Aside0.mk (Kd.R_elder' (by (with_reducible repeat (first | apply Kd.R_alloc | apply Kd.R_drewN | apply Kd.R_drew)); exact HO143.out) (Kd.R_base ho85) hb)
                                              have n3_ := Aside0.mk (Kd.R_lower (Kd.R_newB (Kd.R_new' (Kd.R_new' ho85 (Kd.R_lt (by (with_reducible repeat (first | apply Kd.R_alloc | apply Kd.R_drewN | apply Kd.R_drew)); exact HO_0.out))) (Kd.R_lt (by (with_reducible repeat (first | apply Kd.R_alloc | apply Kd.R_drewN | apply Kd.R_drew)); exact HO143.out))) (g := gb125) (o := .cells #[.int .i64 x126000_40, .int .i64 x126001_40, .int .i64 (Int.tmod (wrap64 ((Int.tmod a2 8) + 8)) 8), .int .i64 0, .int .i64 (ji56)] 33 (0, 0)) (by (with_reducible repeat (first | refine blk_drewN ?_ _ | refine blk_drew ?_ | refine blk_alloc ?_ _)); exact BK125.out)) (below_size (by repeat (first | (with_reducible first | exact HB.out | apply below_alloc | apply pw_below_drewN | apply below_drew1 | refine below_set ?_ GE125.out) | exact HB.out))))
                                              have n4_ := Aside0.mk (blk_below (g := gb125) (o := .cells #[.int .i64 x126000_40, .int .i64 x126001_40, .int .i64 (Int.tmod (wrap64 ((Int.tmod a2 8) + 8)) 8), .int .i64 0, .int .i64 (ji56)] 33 (0, 0)) (by (with_reducible repeat (first | refine blk_drewN ?_ _ | refine blk_drew ?_ | refine blk_alloc ?_ _)); exact BK125.out) hb)
                                              have n5_ := Aside0.mk (below_step (by repeat (first | (with_reducible first | exact HB.out | apply below_alloc | apply pw_below_drewN | apply below_drew1 | refine below_set ?_ GE125.out) | exact HB.out)) hb)
                                              clear HO_0
                                              clear HO_11
                                              clear HO143
                                              clear BK125
                                              clear HB
                                              have HO_0 := n0_
                                              have HO_11 := n1_
                                              have HO143 := n2_
                                              have HO137 := n3_
                                              have BK125 := n4_
                                              have HB := n5_
                                              clear n0_ n1_ n2_ n3_ n4_ n5_
                                              clear hb ho85
                                              refine hK.out _ _ ⟨(blk_cell BK125.out 0).trans rfl, (blk_cell BK125.out 1).trans rfl, (blk_cell BK125.out 2).trans rfl, (blk_cell BK125.out 3).trans rfl, (blk_cell BK125.out 4).trans rfl⟩ (fun hHeld => ?_)
                                              clear hK K
                                              refine norm_ (a' := ?_) ?_ ?_
                                              rotate_left
                                              · show Act.put _ (some 137) _ = _
                                                simp only [Act.put, List.setIfInBounds_toArray, List.set_cons_zero, List.set_cons_succ, i64_w, i32_w]
                                                rfl
                                              refine one_ (i := 2) (N := some 139) #[true, true, true, true, true, false, false] rfl rfl (by kernel_rfl) (by decide) (fun K hK => ?_)
                                              refine Kd.R_append_rows_step k33 (w0 := w) w.heap.size (by rfl) (.tmp 137) (.tmp 138) 22 33 (.agg #[(.int .i64 0), (.int .i64 0), (.int .i64 0), (.int .i64 0), (.int .i64 0)]) 40 rfl Try.underlying22 info33 rfl (by decide) (by omega) v136 y135 t111 _ _ _ (fun k_ => some k_ ≠ (.slice Ao9 t111.length co9 : Value).ownBlock ∧ some k_ ≠ (v142 : Value).ownBlock ∧ k_ ≠ gb125) (fun _ => False) rfl rfl ?aO ?aR (fun _ _ h => h) (fun _ h => h.elim) ?aF ?aB ?aS ?aL ?_
                                              (case aR => repeat (first | exact (Kd.R_reads' HO_0.out).2.2 | (with_reducible refine Kd.C_alloc ?_ _) | (with_reducible refine Kd.C_drewN ?_ _) | (with_reducible refine Kd.C_drew ?_)))
                                              (case aB => exact (by repeat (first | (with_reducible first | exact HB.out | apply below_alloc | apply pw_below_drewN | apply below_drew1 | refine below_set ?_ GE125.out) | exact HB.out)))
                                              (case aF => exact (fun k_ hk => ⟨Kd.fresh' (Kd.R_lt (by (with_reducible repeat (first | apply Kd.R_alloc | apply Kd.R_drewN | apply Kd.R_drew)); exact HO_0.out)) k_ hk, Kd.fresh' (Kd.R_lt (by (with_reducible repeat (first | apply Kd.R_alloc | apply Kd.R_drewN | apply Kd.R_drew)); exact HO143.out)) k_ hk, Kd.freshB (g := gb125) (o := .cells #[.int .i64 x126000_40, .int .i64 x126001_40, .int .i64 (Int.tmod (wrap64 ((Int.tmod a2 8) + 8)) 8), .int .i64 0, .int .i64 (ji56)] 33 (0, 0)) (by (with_reducible repeat (first | refine blk_drewN ?_ _ | refine blk_drew ?_ | refine blk_alloc ?_ _)); exact BK125.out) k_ hk⟩))
                                              (case aO => exact (by (with_reducible repeat (first | apply Kd.R_alloc | apply Kd.R_drewN | apply Kd.R_drew)); exact Kd.R_mono HO137.out (fun _ hk => ⟨hk.1.1.2, ⟨hk.1.2, hk.2⟩⟩)))
                                              (case aS => exact (below_size (by repeat (first | (with_reducible first | exact HB.out | apply below_alloc | apply pw_below_drewN | apply below_drew1 | refine below_set ?_ GE125.out) | exact HB.out))))
                                              (case aL => have := LMc54.out; omega)
                                              intro v139 w86 ho hb hg hat
                                              rw [← Ny138.out] at ho
                                              have n0_ := Aside0.mk (Kd.R_after (ok := (fun k_ => some k_ ≠ (v142 : Value).ownBlock ∧ k_ ≠ gb125)) (by (with_reducible repeat (first | apply Kd.R_alloc | apply Kd.R_drewN | apply Kd.R_drew)); exact Kd.R_mono HO_0.out (fun _ hk => ⟨⟨hk.1.2, hk.1.1⟩, hk.2⟩)) hg hat)
                                              have n1_ := Aside0.mk (Kd.R_over' (by (with_reducible repeat (first | apply Kd.R_alloc | apply Kd.R_drewN | apply Kd.R_drew)); exact HO_11.out) (Kd.R_typed (by (with_reducible repeat (first | apply Kd.R_alloc | apply Kd.R_drewN | apply Kd.R_drew)); exact HO137.out)) (by decide) hg)
                                              have n2_ := Aside0.mk (blk_grown (g := gb125) (o := .cells #[.int .i64 x126000_40, .int .i64 x126001_40, .int .i64 (Int.tmod (wrap64 ((Int.tmod a2 8) + 8)) 8), .int .i64 0, .int .i64 (ji56)] 33 (0, 0)) (by (with_reducible repeat (first | refine blk_drewN ?_ _ | refine blk_drew ?_ | refine blk_alloc ?_ _)); exact BK125.out) hg (Kd.R_away HO137.out (fun _ hk => hk.2)))
                                              have n3_ := Aside0.mk (Kd.R_after (ok := (fun k_ => some k_ ≠ (.slice Ao9 t111.length co9 : Value).ownBlock ∧ k_ ≠ gb125)) (by (with_reducible repeat (first | apply Kd.R_alloc | apply Kd.R_drewN | apply Kd.R_drew)); exact Kd.R_mono HO143.out (fun _ hk => ⟨⟨hk.1.1.2, hk.1.2⟩, hk.2⟩)) hg hat)
                                              have n4_ := Aside0.mk (hb)
                                              have n5_ := Aside0.mk (ho)
                                              clear HO_0
                                              clear HO_11
                                              clear BK125
                                              clear HO143
                                              clear HB
                                              clear HO137
                                              have HO_0 := n0_
                                              have HO_11 := n1_
                                              have BK125 := n2_
                                              have HO143 := n3_
                                              have HB := n4_
                                              have HO140 := n5_
                                              clear n0_ n1_ n2_ n3_ n4_ n5_
                                              clear ho hb hg hat
                                              refine hK.out _ _ ⟨(blk_cell BK125.out 0).trans rfl, (blk_cell BK125.out 1).trans rfl, (blk_cell BK125.out 2).trans rfl, (blk_cell BK125.out 3).trans rfl, (blk_cell BK125.out 4).trans rfl⟩ (fun hHeld => ?_)
                                              clear hK K
                                              refine norm_ (a' := ?_) ?_ ?_
                                              rotate_left
                                              · show Act.put _ (some 139) _ = _
                                                simp only [Act.put, List.setIfInBounds_toArray, List.set_cons_zero, List.set_cons_succ, i64_w, i32_w]
                                                rfl
                                              exact norm_ (by simp only [putAll, Act.put, List.setIfInBounds_toArray, List.set_cons_zero, List.set_cons_succ]) (hCont (v136, v139, v142) _ ⟨hHeld, (by (with_reducible repeat (first | apply Kd.R_alloc | apply Kd.R_drewN | apply Kd.R_drew)); exact Kd.R_mono HO140.out (fun _ hk => ⟨hk.2.1, ⟨hk.1, hk.2.2⟩⟩)), (by (with_reducible repeat (first | apply Kd.R_alloc | apply Kd.R_drewN | apply Kd.R_drew)); exact Kd.R_mono HO143.out (fun _ hk => ⟨hk.2, ⟨hk.1.1, hk.1.2⟩⟩)), (by (with_reducible repeat (first | apply Kd.R_alloc | apply Kd.R_drewN | apply Kd.R_drew)); exact Kd.R_mono HO_0.out (fun _ hk => ⟨hk.2, ⟨hk.1.1, hk.1.2⟩⟩)), (by (with_reducible repeat (first | apply Kd.R_alloc | apply Kd.R_drewN | apply Kd.R_drew)); exact HO_11.out), (by (with_reducible repeat (first | refine blk_drewN ?_ _ | refine blk_drew ?_ | refine blk_alloc ?_ _)); exact BK125.out), (by repeat (first | (with_reducible first | exact HB.out | apply below_alloc | apply pw_below_drewN | apply below_drew1 | refine below_set ?_ GE125.out) | exact HB.out))⟩)
                                          rintro ⟨v136, v139, v142⟩ w87 ⟨hS_, h0_, h1_, h2_, h3_, h4_, h5_⟩
                                          have n0_ : Aside0 (Kd.R k33 33 w87 w.heap.size (fun k_ => some k_ ≠ (v142 : Value).ownBlock ∧ some k_ ≠ (.slice Ao9 t111.length co9 : Value).ownBlock ∧ k_ ≠ gb125) v139 y138) := ⟨h0_⟩
                                          have n1_ : Aside0 (Kd.R k33 33 w87 w.heap.size (fun k_ => some k_ ≠ (v139 : Value).ownBlock ∧ some k_ ≠ (.slice Ao9 t111.length co9 : Value).ownBlock ∧ k_ ≠ gb125) v142 y141) := ⟨h1_⟩
                                          have n2_ : Aside0 (Kd.R k33 33 w87 w.heap.size (fun k_ => some k_ ≠ (v139 : Value).ownBlock ∧ some k_ ≠ (v142 : Value).ownBlock ∧ k_ ≠ gb125) (.slice Ao9 t111.length co9) t111) := ⟨h2_⟩
                                          have n3_ : Aside0 (Kd.R (Kd.int .i64) 3 w87 w.heap.size (fun _ => True) v123 t121) := ⟨h3_⟩
                                          have n4_ : Aside0 (w87.heap[gb125]? = some (.cells #[.int .i64 x126000_40, .int .i64 x126001_40, .int .i64 (Int.tmod (wrap64 ((Int.tmod a2 8) + 8)) 8), .int .i64 0, .int .i64 (ji56)] 33 (0, 0))) := ⟨h4_⟩
                                          have n5_ : Aside0 (Below w.heap.size w w87) := ⟨h5_⟩
                                          clear HO_0
                                          clear HO_11
                                          clear BK125
                                          clear HB
                                          clear h0_ h1_ h2_ h3_ h4_ h5_
                                          have HO140 := n0_
                                          have HO143 := n1_
                                          have HO_0 := n2_
                                          have HO_11 := n3_
                                          have BK125 := n4_
                                          have HB := n5_
                                          clear n0_ n1_ n2_ n3_ n4_ n5_
                                          have hHeld : w87.cell? ⟨gb125, 0, none⟩ = some (.int .i64 x126000_40) ∧ w87.cell? ⟨gb125, 1, none⟩ = some (.int .i64 x126001_40) ∧ w87.cell? ⟨gb125, 2, none⟩ = some (.int .i64 (Int.tmod (wrap64 ((Int.tmod a2 8) + 8)) 8)) ∧ w87.cell? ⟨gb125, 3, none⟩ = some (.int .i64 0) ∧ w87.cell? ⟨gb125, 4, none⟩ = some (.int .i64 (ji56)) := hS_
                                          obtain ⟨Ao89, co89, eo89⟩ := Kd.R_slice HO143.out
                                          (first | subst eo89 | (injection eo89 with f1_ f2_ f3_; have f4_ := f1_.symm; have f5_ := f3_.symm; clear f1_ f2_ f3_; subst f4_; subst f5_))
                                          refine norm_ (a' := ?_) ?_ ?_
                                          rotate_left
                                          · simp only [putAll, Act.put, List.setIfInBounds_toArray, List.set_cons_zero, List.set_cons_succ]
                                            rfl
                                          refine one_ (i := 5) (N := some 142) #[true, true, true, true, true, true, false] rfl rfl (by kernel_rfl) (by decide) (fun K hK => ?_)
                                          refine Kd.R_append_rows_step k33 (w0 := w) w.heap.size (by rfl) (.tmp 139) (.tmp 141) 22 33 (.agg #[(.int .i64 0), (.int .i64 0), (.int .i64 0), (.int .i64 0), (.int .i64 0)]) 40 rfl Try.underlying22 info33 rfl (by decide) (by omega) v139 y138 y141 _ _ _ (fun k_ => some k_ ≠ (.slice Ao9 t111.length co9 : Value).ownBlock ∧ some k_ ≠ (.slice Ao89 y141.length co89 : Value).ownBlock ∧ k_ ≠ gb125) (fun _ => False) rfl rfl ?aO ?aR (fun _ _ h => h) (fun _ h => h.elim) ?aF ?aB ?aS ?aL ?_
                                          (case aR => repeat (first | exact (Kd.R_reads' HO143.out).2.2 | (with_reducible refine Kd.C_alloc ?_ _) | (with_reducible refine Kd.C_drewN ?_ _) | (with_reducible refine Kd.C_drew ?_)))
                                          (case aB => exact (by repeat (first | (with_reducible first | exact HB.out | apply below_alloc | apply pw_below_drewN | apply below_drew1 | refine below_set ?_ GE125.out) | exact HB.out)))
                                          (case aF => exact (fun k_ hk => ⟨Kd.fresh' (Kd.R_lt (by (with_reducible repeat (first | apply Kd.R_alloc | apply Kd.R_drewN | apply Kd.R_drew)); exact HO_0.out)) k_ hk, Kd.fresh' (Kd.R_lt (by (with_reducible repeat (first | apply Kd.R_alloc | apply Kd.R_drewN | apply Kd.R_drew)); exact HO143.out)) k_ hk, Kd.freshB (g := gb125) (o := .cells #[.int .i64 x126000_40, .int .i64 x126001_40, .int .i64 (Int.tmod (wrap64 ((Int.tmod a2 8) + 8)) 8), .int .i64 0, .int .i64 (ji56)] 33 (0, 0)) (by (with_reducible repeat (first | refine blk_drewN ?_ _ | refine blk_drew ?_ | refine blk_alloc ?_ _)); exact BK125.out) k_ hk⟩))
                                          (case aO => exact (by (with_reducible repeat (first | apply Kd.R_alloc | apply Kd.R_drewN | apply Kd.R_drew)); exact Kd.R_mono HO140.out (fun _ hk => ⟨hk.2.1, ⟨hk.1, hk.2.2⟩⟩)))
                                          (case aS => exact (below_size (by repeat (first | (with_reducible first | exact HB.out | apply below_alloc | apply pw_below_drewN | apply below_drew1 | refine below_set ?_ GE125.out) | exact HB.out))))
                                          (case aL => have := LMc55.out; omega)
                                          intro v145 w88 ho hb hg hat
                                          rw [← Ny144.out] at ho
                                          have n0_ := Aside0.mk (Kd.R_after (ok := (fun k_ => some k_ ≠ (.slice Ao89 y141.length co89 : Value).ownBlock ∧ k_ ≠ gb125)) (by (with_reducible repeat (first | apply Kd.R_alloc | apply Kd.R_drewN | apply Kd.R_drew)); exact Kd.R_mono HO_0.out (fun _ hk => ⟨⟨hk.2.1, hk.2.2⟩, hk.1⟩)) hg hat)
                                          have n1_ := Aside0.mk (Kd.R_over' (by (with_reducible repeat (first | apply Kd.R_alloc | apply Kd.R_drewN | apply Kd.R_drew)); exact HO_11.out) (Kd.R_typed (by (with_reducible repeat (first | apply Kd.R_alloc | apply Kd.R_drewN | apply Kd.R_drew)); exact HO140.out)) (by decide) hg)
                                          have n2_ := Aside0.mk (blk_grown (g := gb125) (o := .cells #[.int .i64 x126000_40, .int .i64 x126001_40, .int .i64 (Int.tmod (wrap64 ((Int.tmod a2 8) + 8)) 8), .int .i64 0, .int .i64 (ji56)] 33 (0, 0)) (by (with_reducible repeat (first | refine blk_drewN ?_ _ | refine blk_drew ?_ | refine blk_alloc ?_ _)); exact BK125.out) hg (Kd.R_away HO140.out (fun _ hk => hk.2.2)))
                                          have n3_ := Aside0.mk (Kd.R_after (ok := (fun k_ => some k_ ≠ (.slice Ao9 t111.length co9 : Value).ownBlock ∧ k_ ≠ gb125)) (by (with_reducible repeat (first | apply Kd.R_alloc | apply Kd.R_drewN | apply Kd.R_drew)); exact Kd.R_mono HO143.out (fun _ hk => ⟨⟨hk.2.1, hk.2.2⟩, hk.1⟩)) hg hat)
                                          have n4_ := Aside0.mk (hb)
                                          have n5_ := Aside0.mk (ho)
                                          clear HO_0
                                          clear HO_11
                                          clear BK125
                                          clear HO143
                                          clear HB
                                          clear HO140
                                          have HO_0 := n0_
                                          have HO_11 := n1_
                                          have BK125 := n2_
                                          have HO143 := n3_
                                          have HB := n4_
                                          have HO146 := n5_
                                          clear n0_ n1_ n2_ n3_ n4_ n5_
                                          clear ho hb hg hat
                                          refine hK.out _ _ ⟨(blk_cell BK125.out 0).trans rfl, (blk_cell BK125.out 1).trans rfl, (blk_cell BK125.out 2).trans rfl, (blk_cell BK125.out 3).trans rfl, (blk_cell BK125.out 4).trans rfl⟩ (fun hHeld => ?_)
                                          clear hK K
                                          refine norm_ (a' := ?_) ?_ ?_
                                          rotate_left
                                          · show Act.put _ (some 142) _ = _
                                            simp only [Act.put, List.setIfInBounds_toArray, List.set_cons_zero, List.set_cons_succ, i64_w, i32_w]
                                            rfl
                                          refine pure_ (i := 6) (N := some 15) (v := ?_) (a' := ?_) #[true, true, true, true, true, true, true] rfl rfl (by kernel_rfl) (fun _ _ _ h => h) (Or.inl ⟨by rfl, ?_⟩) ?_ ?_
                                          rotate_left
                                          · intro w'
                                            go_simp
                                            with_reducible rfl
                                          rotate_left
                                          · simp only [Act.put, List.setIfInBounds_toArray, List.set_cons_zero, List.set_cons_succ, i64_w, i32_w]
                                            rfl
                                          refine done_ (by kernel_rfl) ?_
                                          obtain ⟨Ao90, co90, eo90⟩ := Kd.R_slice HO_11.out
                                          subst eo90
                                          have p147 : 0 ≤ ((ji56) : Int) := of_decide_eq_true (by first | (with_reducible assumption) | assumption)
                                          have q147 : (ji56) < (t121.length : Int) := of_decide_eq_true (by first | (with_reducible assumption) | assumption)
                                          obtain ⟨ad147, e147, hx147_0⟩ := Kd.at_int (Kd.R_reads' HO_11.out).2.2 (ji56) p147 q147
                                          cases e147
                                          replace p147 := eq_true p147
                                          replace q147 := eq_true q147
                                          obtain ⟨Ao91, co91, eo91⟩ := Kd.R_slice HO146.out
                                          subst eo91
                                          try go_wp2_with (first | ((with_reducible refine gate_callee (f := 14) rfl ?_); refine goesL_ (some 149) rfl rfl Try.func14 (by kernel_rfl) rfl #[.slice Ao91 y144.length co91] rfl (by (try simp only [List.map_toArray, List.map_cons, List.map_nil]); first | done | rfl | (simp only [List.length_drop, List.length_take]; rfl)) ?_; (with_reducible refine (judge_Wrong.calls _ _ y144 t154 _ ?side1 ?side2 A80.out).mono ?_); (case side1 => repeat (first | exact (Kd.R_reads' HO146.out).2.2 | (with_reducible refine Kd.C_alloc ?_ _) | (with_reducible refine Kd.C_drewN ?_ _) | (with_reducible refine Kd.C_drew ?_))); (case side2 => exact (Kd.R_reads' HO146.out).2.1); rintro e w92 ⟨rfl, hb⟩; refine ⟨_, rfl, ?_⟩; have n0_ := Aside0.mk (Kd.R_below (by (with_reducible repeat (first | apply Kd.R_alloc | apply Kd.R_drewN | apply Kd.R_drew)); exact HO_0.out) hb); have n1_ := Aside0.mk (Kd.R_below (by (with_reducible repeat (first | apply Kd.R_alloc | apply Kd.R_drewN | apply Kd.R_drew)); exact HO_11.out) hb); have n2_ := Aside0.mk (Kd.R_below (by (with_reducible repeat (first | apply Kd.R_alloc | apply Kd.R_drewN | apply Kd.R_drew)); exact HO143.out) hb); have n3_ := Aside0.mk (Kd.R_below (by (with_reducible repeat (first | apply Kd.R_alloc | apply Kd.R_drewN | apply Kd.R_drew)); exact HO146.out) hb); have n4_ := Aside0.mk (blk_below (g := gb125) (o := .cells #[.int .i64 x126000_40, .int .i64 x126001_40, .int .i64 (Int.tmod (wrap64 ((Int.tmod a2 8) + 8)) 8), .int .i64 0, .int .i64 (ji56)] 33 (0, 0)) (by (with_reducible repeat (first | refine blk_drewN ?_ _ | refine blk_drew ?_ | refine blk_alloc ?_ _)); exact BK125.out) hb); have n5_ := Aside0.mk (below_step (by repeat (first | (with_reducible first | exact HB.out | apply below_alloc | apply pw_below_drewN | apply below_drew1 | refine below_set ?_ GE125.out) | exact HB.out)) hb); clear HO_0; clear HO_11; clear HO143; clear HO146; clear BK125; clear HB; have HO_0 := n0_; have HO_11 := n1_; have HO143 := n2_; have HO146 := n3_; have BK125 := n4_; have HB := n5_; clear n0_ n1_ n2_ n3_ n4_ n5_; (try clear hb); (try clear hb2); (try clear hk); (try clear hi)))
                                          go_ret
                                          exact ⟨by first | rfl | (simp [errW_none, errW_some] <;> rfl) | (simp only [← hji17, ← hji56]; first | rfl | (simp [errW_none, errW_some] <;> rfl)) | (simp [*, errW_none, errW_some] <;> rfl), by repeat (first | (with_reducible first | exact HB.out | apply below_alloc | apply pw_below_drewN | apply below_drew1 | refine below_set ?_ GE125.out) | exact HB.out)⟩
                                      · rw [if_neg c58] at H
                                        exact absurd H (by simp)
                                    · rw [if_neg c57] at H
                                      exact absurd H (by simp)
                                  · rw [if_neg c55] at H
                                    exact absurd H (by simp)
                                · rw [if_neg c54] at H
                                  exact absurd H (by simp)
            · rw [if_neg c19] at H
              exact absurd H (by simp)
          · rw [if_neg c18] at H
            exact absurd H (by simp)

end Go.Proofs.Ytjdjmhagafmkaaa.PX
