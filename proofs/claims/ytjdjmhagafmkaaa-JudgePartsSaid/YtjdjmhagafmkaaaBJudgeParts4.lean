/-
  The statement on JudgeParts, out of what its printed form comes to: for every input the call returns true, and each argument reads behind it as it read before.
-/
import Derived.Test.YtjdjmhagafmkaaaBJudgeParts3
import Derived.Test.YtjdjmhagafmkaaaRows
namespace Go.Proofs.Ytjdjmhagafmkaaa.PX
open Go.RowKit Go.Proofs.YtjdjmhagafmkaaaW.PrintWords Go.Proofs.YtjdjmhagafmkaaaW.PrintLast Go.Proofs.YtjdjmhagafmkaaaW.PrintMore
attribute [local go_sem] max2_int min2_int max_two min_two max_three min_three max_four min_four   -- for this text's walks alone
set_option linter.unusedVariables false
set_option linter.unusedSimpArgs false

/-! ### judgeParts_b: function 3 -/
mutual
def judgeParts_b.j0 : Nat → List (S33) → Int → Int → Int → Int → Bool → Option (Bool)
  | 0, _, _, _, _, _, _ => none
  | k + 1, x0, x1, x2, x3, x9, x33 => if x33 = true then (none) else (if (wrap64 ((x0.length : Int) + 1)) = 0 then (none) else (if 0 ≤ (Int.tmod (wrap64 ((wrap64 ((Int.tmod x1 (wrap64 ((x0.length : Int) + 1))) + (x0.length : Int))) + 1)) (wrap64 ((x0.length : Int) + 1))) then (if (Int.tmod (wrap64 ((wrap64 ((Int.tmod x1 (wrap64 ((x0.length : Int) + 1))) + (x0.length : Int))) + 1)) (wrap64 ((x0.length : Int) + 1))) ≤ (x0.length : Int) then ((judge_Wrong.f (x0.take ((Int.tmod (wrap64 ((wrap64 ((Int.tmod x1 (wrap64 ((x0.length : Int) + 1))) + (x0.length : Int))) + 1)) (wrap64 ((x0.length : Int) + 1))) : Int).toNat)).bind fun t120 => (if x9 ≥ 0 then (if (Int.tmod (wrap64 ((wrap64 ((Int.tmod x1 (wrap64 ((x0.length : Int) + 1))) + (x0.length : Int))) + 1)) (wrap64 ((x0.length : Int) + 1))) > x9 then (if t120 = x9 then (if x9 < 0 then (judgeParts_b.j1 k x0 x2 x3 x9 (t120 != (-1))) else (if (Int.tmod (wrap64 ((wrap64 ((Int.tmod x1 (wrap64 ((x0.length : Int) + 1))) + (x0.length : Int))) + 1)) (wrap64 ((x0.length : Int) + 1))) ≤ x9 then (judgeParts_b.j1 k x0 x2 x3 x9 (t120 != (-1))) else (judgeParts_b.j1 k x0 x2 x3 x9 false))) else (none)) else (if x9 < 0 then (judgeParts_b.j1 k x0 x2 x3 x9 (t120 != (-1))) else (if (Int.tmod (wrap64 ((wrap64 ((Int.tmod x1 (wrap64 ((x0.length : Int) + 1))) + (x0.length : Int))) + 1)) (wrap64 ((x0.length : Int) + 1))) ≤ x9 then (judgeParts_b.j1 k x0 x2 x3 x9 (t120 != (-1))) else (judgeParts_b.j1 k x0 x2 x3 x9 false)))) else (if x9 < 0 then (judgeParts_b.j1 k x0 x2 x3 x9 (t120 != (-1))) else (if (Int.tmod (wrap64 ((wrap64 ((Int.tmod x1 (wrap64 ((x0.length : Int) + 1))) + (x0.length : Int))) + 1)) (wrap64 ((x0.length : Int) + 1))) ≤ x9 then (judgeParts_b.j1 k x0 x2 x3 x9 (t120 != (-1))) else (judgeParts_b.j1 k x0 x2 x3 x9 false))))) else (none)) else (none)))
def judgeParts_b.j1 : Nat → List (S33) → Int → Int → Int → Bool → Option (Bool)
  | 0, _, _, _, _, _ => none
  | k + 1, x0, x2, x3, x9, x75 => if x75 = true then (none) else (if x9 ≥ 0 then (some true) else ((judge_Held.f x0).bind fun bt121 => (if bt121.2 = 0 then (judgeParts_b.j2 k x0 (Int.tmod (wrap64 ((Int.tmod x2 8) + 8)) 8) (Int.tmod (wrap64 ((Int.tmod x3 4) + 4)) 4) ((bt121.1.length : Int) != 4)) else (none))))
def judgeParts_b.j2 : Nat → List (S33) → Int → Int → Bool → Option (Bool)
  | 0, _, _, _, _ => none
  | k + 1, x0, x2, x3, x97 => if x97 = true then (none) else (if (x0.length : Int) > 0 then (if 0 ≤ (wrap64 ((x0.length : Int) - 1)) then (if (wrap64 ((x0.length : Int) - 1)) < (x0.length : Int) then (if ((rd_T33 x0 (wrap64 ((x0.length : Int) - 1))).f2.f1) = 4 then ((some (([] : List (S33)) : List (S33))).bind fun y129 => (if y129.length + x0.length < 3518437208883 then ((some (y129 ++ x0 : List (S33))).bind fun y132 => ((some (([(⟨(rd_T33 x0 (wrap64 ((x0.length : Int) - 1))).f0, (rd_T33 x0 (wrap64 ((x0.length : Int) - 1))).f1, (⟨x2, 0, x3⟩ : S31)⟩ : S33)] : List (S33)) : List (S33))).bind fun y135 => (if y132.length + y135.length < 3518437208883 then ((judge_Wrong.f (y132 ++ y135)).bind fun t141 => (some (t141 == (x0.length : Int)))) else (none)))) else (none))) else (none)) else (none)) else (none)) else (none))
end
def judgeParts_b.f (k : Nat) (l0 : List (S33)) (a1 : Int) (a2 : Int) (a3 : Int) : Option (Bool) := (deadboltlaw18_few.f l0).bind fun t111 => ((judge_Wrong.f t111).bind fun t114 => (if t114 < (-1) then (none) else (if t114 ≥ (t111.length : Int) then (none) else ((deadboltlaw18_alive.f).bind fun t115 => (judgeParts_b.j0 k t111 a1 a2 a3 t114 (!t115))))))
theorem judgeParts_b.mono_l : ∀ k, (∀ y0 y1 y2 y3 y4 y5, LeO (judgeParts_b.j0 k y0 y1 y2 y3 y4 y5) (judgeParts_b.j0 (k + 1) y0 y1 y2 y3 y4 y5)) ∧ (∀ y0 y1 y2 y3 y4, LeO (judgeParts_b.j1 k y0 y1 y2 y3 y4) (judgeParts_b.j1 (k + 1) y0 y1 y2 y3 y4)) ∧ (∀ y0 y1 y2 y3, LeO (judgeParts_b.j2 k y0 y1 y2 y3) (judgeParts_b.j2 (k + 1) y0 y1 y2 y3))
  | 0 => ⟨fun _ _ _ _ _ _ r h => by simp [judgeParts_b.j0] at h, fun _ _ _ _ _ r h => by simp [judgeParts_b.j1] at h, fun _ _ _ _ r h => by simp [judgeParts_b.j2] at h⟩
  | k + 1 => by
    obtain ⟨ih0, ih1, ih2⟩ := judgeParts_b.mono_l k
    refine ⟨?_, ?_, ?_⟩
    · intro y0 y1 y2 y3 y4 y5
      unfold judgeParts_b.j0
      repeat' first
      | (with_reducible exact ih0 _ _ _ _ _ _)
      | (with_reducible exact ih1 _ _ _ _ _)
      | (with_reducible exact ih2 _ _ _ _)
      | (with_reducible exact LeO.refl _)
      | (with_reducible exact LeO.none _)
      | (with_reducible refine LeO.ite ?_ ?_)
      | (with_reducible refine LeO.bind ?_ (fun _ => ?_))
      | exact ih0 _ _ _ _ _ _
      | exact ih1 _ _ _ _ _
      | exact ih2 _ _ _ _
      | exact LeO.none _
      | refine LeO.ite ?_ ?_
      | refine LeO.bind ?_ (fun _ => ?_)
    · intro y0 y1 y2 y3 y4
      unfold judgeParts_b.j1
      repeat' first
      | (with_reducible exact ih0 _ _ _ _ _ _)
      | (with_reducible exact ih1 _ _ _ _ _)
      | (with_reducible exact ih2 _ _ _ _)
      | (with_reducible exact LeO.refl _)
      | (with_reducible exact LeO.none _)
      | (with_reducible refine LeO.ite ?_ ?_)
      | (with_reducible refine LeO.bind ?_ (fun _ => ?_))
      | exact ih0 _ _ _ _ _ _
      | exact ih1 _ _ _ _ _
      | exact ih2 _ _ _ _
      | exact LeO.none _
      | refine LeO.ite ?_ ?_
      | refine LeO.bind ?_ (fun _ => ?_)
    · intro y0 y1 y2 y3
      unfold judgeParts_b.j2
      repeat' first
      | (with_reducible exact ih0 _ _ _ _ _ _)
      | (with_reducible exact ih1 _ _ _ _ _)
      | (with_reducible exact ih2 _ _ _ _)
      | (with_reducible exact LeO.refl _)
      | (with_reducible exact LeO.none _)
      | (with_reducible refine LeO.ite ?_ ?_)
      | (with_reducible refine LeO.bind ?_ (fun _ => ?_))
      | exact ih0 _ _ _ _ _ _
      | exact ih1 _ _ _ _ _
      | exact ih2 _ _ _ _
      | exact LeO.none _
      | refine LeO.ite ?_ ?_
      | refine LeO.bind ?_ (fun _ => ?_)
theorem judgeParts_b.mono : ∀ a0 a1 a2 a3 k, LeO (judgeParts_b.f k a0 a1 a2 a3) (judgeParts_b.f (k + 1) a0 a1 a2 a3) := by
  intro a0 a1 a2 a3 k
  obtain ⟨ih0, ih1, ih2⟩ := judgeParts_b.mono_l k
  unfold judgeParts_b.f
  repeat' first
      | (with_reducible exact ih0 _ _ _ _ _ _)
      | (with_reducible exact ih1 _ _ _ _ _)
      | (with_reducible exact ih2 _ _ _ _)
      | (with_reducible exact LeO.refl _)
      | (with_reducible exact LeO.none _)
      | (with_reducible refine LeO.ite ?_ ?_)
      | (with_reducible refine LeO.bind ?_ (fun _ => ?_))
      | exact ih0 _ _ _ _ _ _
      | exact ih1 _ _ _ _ _
      | exact ih2 _ _ _ _
      | exact LeO.none _
      | refine LeO.ite ?_ ?_
      | refine LeO.bind ?_ (fun _ => ?_)
def judgeParts_b.T18 : Bool × List (List Nat × List Nat) := (true, [([], []), ([], []), ([1], [1]), ([0, 2], [0, 2]), ([3], [3]), ([4], [4]), ([], []), ([], []), ([7], [7]), ([6, 8], [6, 8]), ([9], [9]), ([10], [10]), ([0, 1, 2, 3, 4, 5], []), ([12, 5, 0, 1, 2, 3, 4, 5], [5, 12]), ([0, 1, 2, 3, 4, 5, 6, 7, 8, 9, 10, 11, 12, 13], []), ([14, 11, 13, 0, 1, 2, 3, 4, 5, 6, 7, 8, 9, 10, 11, 12, 13], [11, 14])])
def judgeParts_b.B18 : List Nat := [0, 0, 2, 7, 15, 31, 0, 0, 128, 448, 960, 1984, 63, 4159, 16383, 32767]
theorem judgeParts_b.tab18 : rtab .any (opsOf Try.f3 18) = judgeParts_b.T18 := by kernel_rfl
theorem judgeParts_b.bits18 : waitsOk judgeParts_b.T18.2 judgeParts_b.B18 = true := by kernel_rfl
def judgeParts_b.T20 : Bool × List (List Nat × List Nat) := (true, [([], []), ([], []), ([0, 1], [0, 1]), ([], []), ([3], [3]), ([2, 4, 2], [2, 4]), ([5, 5], [5]), ([], []), ([6, 7], [6, 7]), ([8, 6, 0, 1, 2, 3, 4, 5, 6, 7, 8], [8])])
def judgeParts_b.B20 : List Nat := [0, 0, 3, 0, 8, 31, 63, 0, 255, 511]
theorem judgeParts_b.tab20 : rtab .any (opsOf Try.f3 20) = judgeParts_b.T20 := by kernel_rfl
theorem judgeParts_b.bits20 : waitsOk judgeParts_b.T20.2 judgeParts_b.B20 = true := by kernel_rfl
set_option maxHeartbeats 8000000 in
set_option maxRecDepth 100000 in
theorem judgeParts_b.calls (k : Nat) (A0 : Option Addr) (c0 : Nat) (l0 : List (S33)) (a1 : Int) (a2 : Int) (a3 : Int) (r : Bool) (w : World) (hr0 : Kd.C k33 w A0 l0.length l0) (hc0 : l0.length ≤ c0) (h : judgeParts_b.f k l0 a1 a2 a3 = some r) :
    Calls Try.prog 3 #[.slice A0 l0.length c0, .int .i64 a1, .int .i64 a2, .int .i64 a3] w fun e w' => e = .returned (.bool r) ∧ Below w.heap.size w w' := by
  have hu31 := Try.underlying31
  have hu33 := Try.underlying33
  have HR0 := Aside0.mk hr0
  have HC0 := Aside0.mk hc0
  clear hr0 hc0
  have HB := Aside0.mk (Below.refl w.heap.size w)
  have H : ((deadboltlaw18_few.f l0).bind fun t111 => ((judge_Wrong.f t111).bind fun t114 => (if t114 < (-1) then (none) else (if t114 ≥ (t111.length : Int) then (none) else ((deadboltlaw18_alive.f).bind fun t115 => (judgeParts_b.j0 k t111 a1 a2 a3 t114 (!t115))))))) = some r := h
  clear h
  replace H := Option.bind_eq_some_iff.mp H
  obtain ⟨t111, A50, H⟩ := H
  replace H : ((judge_Wrong.f t111).bind fun t114 => (if t114 < (-1) then (none) else (if t114 ≥ (t111.length : Int) then (none) else ((deadboltlaw18_alive.f).bind fun t115 => (judgeParts_b.j0 k t111 a1 a2 a3 t114 (!t115)))))) = some r := H
  have A5 := Aside0.mk A50
  clear A50
  replace H := Option.bind_eq_some_iff.mp H
  obtain ⟨t114, A60, H⟩ := H
  replace H : (if t114 < (-1) then (none) else (if t114 ≥ (t111.length : Int) then (none) else ((deadboltlaw18_alive.f).bind fun t115 => (judgeParts_b.j0 k t111 a1 a2 a3 t114 (!t115))))) = some r := H
  have A6 := Aside0.mk A60
  clear A60
  have HC7 := Aside0.mk H
  clear H
  go_enter Try.func3, Try.ntmps3
  go_upto_region 3 with (first | ((with_reducible refine gate_callee (f := 13) rfl ?_); refine goesL_ (some 19) rfl rfl Try.func13 (by kernel_rfl) rfl #[.slice A0 l0.length c0] rfl (by (try simp only [List.map_toArray, List.map_cons, List.map_nil]); first | done | rfl | (simp only [List.length_drop, List.length_take]; rfl)) ?_; (with_reducible refine (deadboltlaw18_few.calls _ _ l0 t111 _ ?side1 ?side2 A5.out).mono ?_); (case side1 => repeat (first | exact HR0.out | (with_reducible refine Kd.C_alloc ?_ _) | (with_reducible refine Kd.C_drewN ?_ _) | (with_reducible refine Kd.C_drew ?_))); (case side2 => exact HC0.out); rintro e w8 ⟨v112, rfl, ho0, hb⟩; refine ⟨_, rfl, ?_⟩; have n0_ := Aside0.mk (Kd.R_lower ho0 (below_size (by repeat (first | (with_reducible first | exact HB.out | apply below_alloc | apply pw_below_drewN | apply below_drew1) | exact HB.out)))); have n1_ := Aside0.mk (below_step (by repeat (first | (with_reducible first | exact HB.out | apply below_alloc | apply pw_below_drewN | apply below_drew1) | exact HB.out)) hb); clear HB; have HO113 := n0_; have HB := n1_; clear n0_ n1_; (try clear hb); (try clear hb2); (try clear hk); (try clear hi); (try clear ho0); obtain ⟨Ao9, co9, eo9⟩ := Kd.R_slice HO113.out; subst eo9) | ((with_reducible refine gate_callee (f := 14) rfl ?_); refine goesL_ (some 21) rfl rfl Try.func14 (by kernel_rfl) rfl #[.slice Ao9 t111.length co9] rfl (by (try simp only [List.map_toArray, List.map_cons, List.map_nil]); first | done | rfl | (simp only [List.length_drop, List.length_take]; rfl)) ?_; (with_reducible refine (judge_Wrong.calls _ _ t111 t114 _ ?side1 ?side2 A6.out).mono ?_); (case side1 => repeat (first | exact (Kd.R_reads' HO113.out).2.2 | (with_reducible refine Kd.C_alloc ?_ _) | (with_reducible refine Kd.C_drewN ?_ _) | (with_reducible refine Kd.C_drew ?_))); (case side2 => exact (Kd.R_reads' HO113.out).2.1); rintro e w10 ⟨rfl, hb⟩; refine ⟨_, rfl, ?_⟩; have n0_ := Aside0.mk (Kd.R_below (by (with_reducible repeat (first | apply Kd.R_alloc | apply Kd.R_drewN | apply Kd.R_drew)); exact HO113.out) hb); have n1_ := Aside0.mk (below_step (by repeat (first | (with_reducible first | exact HB.out | apply below_alloc | apply pw_below_drewN | apply below_drew1) | exact HB.out)) hb); clear HO113; clear HB; have HO113 := n0_; have HB := n1_; clear n0_ n1_; (try clear hb); (try clear hb2); (try clear hk); (try clear hi)))
  (try simp only [Act.put, List.setIfInBounds_toArray, List.set_cons_zero, List.set_cons_succ])
  go_cut [33] (fun v33 wc => ∃ (kq : Nat) (x33_6 : Bool), v33 = .bool x33_6 ∧ Aside0 (judgeParts_b.j0 kq t111 a1 a2 a3 t114 x33_6 = some r) ∧ Aside0 (kq ≤ k) ∧ Aside0 (Kd.R k33 33 wc w.heap.size (fun _ => True) (.slice Ao9 t111.length co9) t111) ∧ Aside0 (Below w.heap.size w wc))
  case first =>
    have H := HC7.out
    clear HC7
    by_cases c11 : t114 < (-1)
    · rw [if_pos c11] at H
      exact absurd H (by simp)
    · rw [if_neg c11] at H
      have c11b0 : decide (t114 < (-1)) = false := decide_eq_false c11
      clear c11
      (first | rw [c11b0] | rw [c11b1] | (simp only [i64_w, i32_w]; rw [c11b0]) | skip)
      by_cases c12 : t114 ≥ (t111.length : Int)
      · rw [if_pos c12] at H
        exact absurd H (by simp)
      · rw [if_neg c12] at H
        have c12b0 : decide ((t111.length : Int) ≤ t114) = false := decide_eq_false c12
        clear c12
        replace H := Option.bind_eq_some_iff.mp H
        obtain ⟨t115, A130, H⟩ := H
        replace H : (judgeParts_b.j0 k t111 a1 a2 a3 t114 (!t115)) = some r := H
        have A13 := Aside0.mk A130
        clear A130
        have H' := Aside0.mk H
        clear H
        go_wp2_with (first | (go_at_call 15; (with_reducible refine (deadboltlaw18_alive.calls  t115 _ A13.out).mono ?_); rintro e w14 ⟨rfl, hb⟩; have n0_ := Aside0.mk (Kd.R_below (by (with_reducible repeat (first | apply Kd.R_alloc | apply Kd.R_drewN | apply Kd.R_drew)); exact HO113.out) hb); have n1_ := Aside0.mk (below_step (by repeat (first | (with_reducible first | exact HB.out | apply below_alloc | apply pw_below_drewN | apply below_drew1) | exact HB.out)) hb); clear HO113; clear HB; have HO113 := n0_; have HB := n1_; clear n0_ n1_; (try clear hb); (try clear hb2); (try clear hk); (try clear hi)))
        go_meet
        case rel => exact ⟨_, (!t115), (by first | rfl | (simp; done) | (simp [*]; done)), H', ⟨by first | omega | exact Nat.le_refl _⟩, ⟨by (with_reducible repeat (first | apply Kd.R_alloc | apply Kd.R_drewN | apply Kd.R_drew)); exact HO113.out⟩, ⟨by repeat (first | (with_reducible first | exact HB.out | apply below_alloc | apply pw_below_drewN | apply below_drew1) | exact HB.out)⟩⟩
  case rest =>
    clear HC7
    try clear c1
    try clear p2
    try clear c3
    try clear c11
    try clear c11b0
    try clear c12
    try clear c12b0
    try clear c13
    try clear c14
    obtain ⟨kq, x33_6, rfl, HA, HJ6, HO_0, HB⟩ := hcut
    cases kq with
    | zero => exact absurd HA.out (by simp [judgeParts_b.j0])
    | succ kj6 =>
      have H := HA.out
      clear HA
      simp only [judgeParts_b.j0] at H
      by_cases c15 : x33_6 = true
      · subst c15
        have H1 : (none) = some r := by rw [if_pos rfl] at H; exact H
        clear H
        have H := H1
        clear H1
        exact absurd H (by simp)
      · replace c15 := Bool.eq_false_iff.mpr c15
        subst c15
        have H1 : (if (wrap64 ((t111.length : Int) + 1)) = 0 then (none) else (if 0 ≤ (Int.tmod (wrap64 ((wrap64 ((Int.tmod a1 (wrap64 ((t111.length : Int) + 1))) + (t111.length : Int))) + 1)) (wrap64 ((t111.length : Int) + 1))) then (if (Int.tmod (wrap64 ((wrap64 ((Int.tmod a1 (wrap64 ((t111.length : Int) + 1))) + (t111.length : Int))) + 1)) (wrap64 ((t111.length : Int) + 1))) ≤ (t111.length : Int) then ((judge_Wrong.f (t111.take ((Int.tmod (wrap64 ((wrap64 ((Int.tmod a1 (wrap64 ((t111.length : Int) + 1))) + (t111.length : Int))) + 1)) (wrap64 ((t111.length : Int) + 1))) : Int).toNat)).bind fun t120 => (if t114 ≥ 0 then (if (Int.tmod (wrap64 ((wrap64 ((Int.tmod a1 (wrap64 ((t111.length : Int) + 1))) + (t111.length : Int))) + 1)) (wrap64 ((t111.length : Int) + 1))) > t114 then (if t120 = t114 then (if t114 < 0 then (judgeParts_b.j1 kj6 t111 a2 a3 t114 (t120 != (-1))) else (if (Int.tmod (wrap64 ((wrap64 ((Int.tmod a1 (wrap64 ((t111.length : Int) + 1))) + (t111.length : Int))) + 1)) (wrap64 ((t111.length : Int) + 1))) ≤ t114 then (judgeParts_b.j1 kj6 t111 a2 a3 t114 (t120 != (-1))) else (judgeParts_b.j1 kj6 t111 a2 a3 t114 false))) else (none)) else (if t114 < 0 then (judgeParts_b.j1 kj6 t111 a2 a3 t114 (t120 != (-1))) else (if (Int.tmod (wrap64 ((wrap64 ((Int.tmod a1 (wrap64 ((t111.length : Int) + 1))) + (t111.length : Int))) + 1)) (wrap64 ((t111.length : Int) + 1))) ≤ t114 then (judgeParts_b.j1 kj6 t111 a2 a3 t114 (t120 != (-1))) else (judgeParts_b.j1 kj6 t111 a2 a3 t114 false)))) else (if t114 < 0 then (judgeParts_b.j1 kj6 t111 a2 a3 t114 (t120 != (-1))) else (if (Int.tmod (wrap64 ((wrap64 ((Int.tmod a1 (wrap64 ((t111.length : Int) + 1))) + (t111.length : Int))) + 1)) (wrap64 ((t111.length : Int) + 1))) ≤ t114 then (judgeParts_b.j1 kj6 t111 a2 a3 t114 (t120 != (-1))) else (judgeParts_b.j1 kj6 t111 a2 a3 t114 false))))) else (none)) else (none))) = some r := by rw [if_neg (show ¬ (false = true) by decide)] at H; exact H
        clear H
        have H := H1
        clear H1
        by_cases c16 : (wrap64 ((t111.length : Int) + 1)) = 0
        · rw [if_pos c16] at H
          exact absurd H (by simp)
        · rw [if_neg c16] at H
          have c16b0 : ((wrap64 ((t111.length : Int) + 1)) == 0) = false := beq_eq_false_iff_ne.mpr c16
          have c16b1 : ((wrap64 ((t111.length : Int) + 1)) != 0) = true := bne_iff_ne.mpr c16
          obtain ⟨ji17, hji17⟩ : ∃ j_ : Int, (Int.tmod (wrap64 ((wrap64 ((Int.tmod a1 (wrap64 ((t111.length : Int) + 1))) + (t111.length : Int))) + 1)) (wrap64 ((t111.length : Int) + 1))) = j_ := ⟨_, rfl⟩
          replace H : (if 0 ≤ (ji17) then (if (ji17) ≤ (t111.length : Int) then ((judge_Wrong.f (t111.take ((ji17) : Int).toNat)).bind fun t120 => (if t114 ≥ 0 then (if (ji17) > t114 then (if t120 = t114 then (if t114 < 0 then (judgeParts_b.j1 kj6 t111 a2 a3 t114 (t120 != (-1))) else (if (ji17) ≤ t114 then (judgeParts_b.j1 kj6 t111 a2 a3 t114 (t120 != (-1))) else (judgeParts_b.j1 kj6 t111 a2 a3 t114 false))) else (none)) else (if t114 < 0 then (judgeParts_b.j1 kj6 t111 a2 a3 t114 (t120 != (-1))) else (if (ji17) ≤ t114 then (judgeParts_b.j1 kj6 t111 a2 a3 t114 (t120 != (-1))) else (judgeParts_b.j1 kj6 t111 a2 a3 t114 false)))) else (if t114 < 0 then (judgeParts_b.j1 kj6 t111 a2 a3 t114 (t120 != (-1))) else (if (ji17) ≤ t114 then (judgeParts_b.j1 kj6 t111 a2 a3 t114 (t120 != (-1))) else (judgeParts_b.j1 kj6 t111 a2 a3 t114 false))))) else (none)) else (none)) = some r := by first | (rw [hji17] at H; exact H) | (simp only [hji17] at H ⊢; exact H)
          by_cases c18 : 0 ≤ (ji17)
          · rw [if_pos c18] at H
            have c18b0 := eq_true c18
            have c18b1 : decide (0 ≤ (ji17)) = true := decide_eq_true c18
            clear c18
            by_cases c19 : (ji17) ≤ (t111.length : Int)
            · rw [if_pos c19] at H
              have c19b0 := eq_true c19
              have c19b1 : decide ((ji17) ≤ (t111.length : Int)) = true := decide_eq_true c19
              clear c19
              obtain ⟨y116, hy116⟩ : ∃ y_ : List (S33), y_ = (t111.take ((ji17) : Int).toNat) := ⟨_, rfl⟩
              replace H : ((judge_Wrong.f y116).bind fun t120 => (if t114 ≥ 0 then (if (ji17) > t114 then (if t120 = t114 then (if t114 < 0 then (judgeParts_b.j1 kj6 t111 a2 a3 t114 (t120 != (-1))) else (if (ji17) ≤ t114 then (judgeParts_b.j1 kj6 t111 a2 a3 t114 (t120 != (-1))) else (judgeParts_b.j1 kj6 t111 a2 a3 t114 false))) else (none)) else (if t114 < 0 then (judgeParts_b.j1 kj6 t111 a2 a3 t114 (t120 != (-1))) else (if (ji17) ≤ t114 then (judgeParts_b.j1 kj6 t111 a2 a3 t114 (t120 != (-1))) else (judgeParts_b.j1 kj6 t111 a2 a3 t114 false)))) else (if t114 < 0 then (judgeParts_b.j1 kj6 t111 a2 a3 t114 (t120 != (-1))) else (if (ji17) ≤ t114 then (judgeParts_b.j1 kj6 t111 a2 a3 t114 (t120 != (-1))) else (judgeParts_b.j1 kj6 t111 a2 a3 t114 false))))) = some r := by first | (rw [hy116]; with_reducible exact H) | (have H2_ := (Option.bind_some _ _).symm.trans H; rw [hy116]; with_reducible exact H2_) | (have H2_ := (Option.bind_some _ _).symm.trans H; with_reducible exact H2_) | with_reducible exact H | (rw [hy116]; exact H) | exact H
              have Ny116 := Aside0.mk hy116
              clear hy116
              replace H := Option.bind_eq_some_iff.mp H
              obtain ⟨t120, A200, H⟩ := H
              replace H : (if t114 ≥ 0 then (if (ji17) > t114 then (if t120 = t114 then (if t114 < 0 then (judgeParts_b.j1 kj6 t111 a2 a3 t114 (t120 != (-1))) else (if (ji17) ≤ t114 then (judgeParts_b.j1 kj6 t111 a2 a3 t114 (t120 != (-1))) else (judgeParts_b.j1 kj6 t111 a2 a3 t114 false))) else (none)) else (if t114 < 0 then (judgeParts_b.j1 kj6 t111 a2 a3 t114 (t120 != (-1))) else (if (ji17) ≤ t114 then (judgeParts_b.j1 kj6 t111 a2 a3 t114 (t120 != (-1))) else (judgeParts_b.j1 kj6 t111 a2 a3 t114 false)))) else (if t114 < 0 then (judgeParts_b.j1 kj6 t111 a2 a3 t114 (t120 != (-1))) else (if (ji17) ≤ t114 then (judgeParts_b.j1 kj6 t111 a2 a3 t114 (t120 != (-1))) else (judgeParts_b.j1 kj6 t111 a2 a3 t114 false)))) = some r := H
              have A20 := Aside0.mk A200
              clear A200
              have HC21 := Aside0.mk H
              clear H
              have q22 : ((ji17) : Int) ≤ ((t111.length : Int) : Int) := of_decide_eq_true (by first | (with_reducible assumption) | assumption)
              obtain ⟨i022, hi022, _, hsz22, _⟩ := info_parts info33
              have hroom22 : t111.length ≤ co9 := (Kd.R_reads' HO_0.out).2.1
              have hC22 : Kd.C k33 _ Ao9 t111.length t111 := (Kd.R_reads' HO_0.out).2.2
              have hcut22 := cut_to (P := Try.prog) 22 33 .i64 Try.underlying22 hi022 Ao9 t111.length co9 (ji17) (of_decide_eq_true (by first | (with_reducible assumption) | assumption)) q22 hroom22
              have hr22 := Kd.C_take (m := ((ji17) : Int).toNat) hC22 (by omega)
              have hy22 : y116.length = ((ji17) : Int).toNat := (by rw [Ny116.out, List.length_take]; omega)
              rw [← Ny116.out] at hr22
              rw [← hy22] at hcut22
              have HR119 := Aside0.mk hr22
              have HC119 := Aside0.mk (show y116.length ≤ co9 from by omega)
              clear hr22 hC22 hroom22 hi022 hsz22
              have KY22 := Aside0.mk hy22
              clear hy22
              have KL22 := Aside0.mk (show ((ji17) : Int).toNat ≤ t111.length from by omega)
              replace q22 := eq_true q22
              go_upto_region 7 with (first | ((with_reducible refine gate_callee (f := 14) rfl ?_); refine goesL_ (some 50) rfl rfl Try.func14 (by kernel_rfl) rfl #[.slice Ao9 y116.length co9] rfl (by (try simp only [List.map_toArray, List.map_cons, List.map_nil]); first | done | rfl | (simp only [List.length_drop, List.length_take]; rfl)) ?_; (with_reducible refine (judge_Wrong.calls _ _ y116 t120 _ ?side1 ?side2 A20.out).mono ?_); (case side1 => repeat (first | exact (by repeat (first | (with_reducible exact HR119.out) | (with_reducible refine Kd.C_alloc ?_ _) | (with_reducible refine Kd.C_drewN ?_ _) | (with_reducible refine Kd.C_drew ?_) | exact HR119.out)) | (with_reducible refine Kd.C_alloc ?_ _) | (with_reducible refine Kd.C_drewN ?_ _) | (with_reducible refine Kd.C_drew ?_))); (case side2 => exact HC119.out); rintro e w23 ⟨rfl, hb⟩; refine ⟨_, rfl, ?_⟩; have n0_ := Aside0.mk (Kd.R_below (by (with_reducible repeat (first | apply Kd.R_alloc | apply Kd.R_drewN | apply Kd.R_drew)); exact HO_0.out) hb); have n1_ := Aside0.mk (Kd.C_below (by repeat (first | (with_reducible exact HR119.out) | (with_reducible refine Kd.C_alloc ?_ _) | (with_reducible refine Kd.C_drewN ?_ _) | (with_reducible refine Kd.C_drew ?_) | exact HR119.out)) hb); have n2_ := Aside0.mk (below_step (by repeat (first | (with_reducible first | exact HB.out | apply below_alloc | apply pw_below_drewN | apply below_drew1) | exact HB.out)) hb); clear HO_0; clear HR119; clear HB; have HO_0 := n0_; have HR119 := n1_; have HB := n2_; clear n0_ n1_ n2_; (try clear hb); (try clear hb2); (try clear hk); (try clear hi)))
              (try simp only [Act.put, List.setIfInBounds_toArray, List.set_cons_zero, List.set_cons_succ])
              go_cut [75] (fun v75 wc => ∃ (kq : Nat) (x75_20 : Bool), v75 = .bool x75_20 ∧ Aside0 (judgeParts_b.j1 kq t111 a2 a3 t114 x75_20 = some r) ∧ Aside0 (kq ≤ kj6) ∧ Aside0 (Kd.R k33 33 wc w.heap.size (fun _ => True) (.slice Ao9 t111.length co9) t111) ∧ Aside0 (Kd.C k33 wc Ao9 y116.length y116) ∧ Aside0 (Below w.heap.size w wc))
              case first =>
                have H := HC21.out
                clear HC21
                by_cases c24 : t114 ≥ 0
                · rw [if_pos c24] at H
                  have c24b0 : decide (0 ≤ t114) = true := decide_eq_true c24
                  clear c24
                  (first | rw [c24b0] | rw [c24b1] | (simp only [i64_w, i32_w]; rw [c24b0]) | skip)
                  by_cases c25 : (ji17) > t114
                  · rw [if_pos c25] at H
                    have c25b0 : decide (t114 < (ji17)) = true := decide_eq_true c25
                    clear c25
                    by_cases c26 : t120 = t114
                    · rw [if_pos c26] at H
                      have c26b0 : (t120 == t114) = true := beq_iff_eq.mpr c26
                      have c26b1 : (t120 != t114) = false := bne_eq_false_iff_eq.mpr c26
                      clear c26
                      by_cases c27 : t114 < 0
                      · rw [if_pos c27] at H
                        have c27b0 : decide (t114 < 0) = true := decide_eq_true c27
                        clear c27
                        have H' := Aside0.mk H
                        clear H
                        go_wp2
                        go_meet
                        case rel => exact ⟨_, ((t120 != (-1))), (by first | rfl | (simp; done) | (simp [*]; done)), H', ⟨by have := HJ6.out; first | omega | exact Nat.le_refl _⟩, ⟨by (with_reducible repeat (first | apply Kd.R_alloc | apply Kd.R_drewN | apply Kd.R_drew)); exact HO_0.out⟩, ⟨by repeat (first | (with_reducible exact HR119.out) | (with_reducible refine Kd.C_alloc ?_ _) | (with_reducible refine Kd.C_drewN ?_ _) | (with_reducible refine Kd.C_drew ?_) | exact HR119.out)⟩, ⟨by repeat (first | (with_reducible first | exact HB.out | apply below_alloc | apply pw_below_drewN | apply below_drew1) | exact HB.out)⟩⟩
                      · rw [if_neg c27] at H
                        have c27b0 : decide (t114 < 0) = false := decide_eq_false c27
                        clear c27
                        by_cases c28 : (ji17) ≤ t114
                        · rw [if_pos c28] at H
                          have c28b0 : decide ((ji17) ≤ t114) = true := decide_eq_true c28
                          clear c28
                          have H' := Aside0.mk H
                          clear H
                          go_wp2
                          go_meet
                          case rel => exact ⟨_, ((t120 != (-1))), (by first | rfl | (simp; done) | (simp [*]; done)), H', ⟨by have := HJ6.out; first | omega | exact Nat.le_refl _⟩, ⟨by (with_reducible repeat (first | apply Kd.R_alloc | apply Kd.R_drewN | apply Kd.R_drew)); exact HO_0.out⟩, ⟨by repeat (first | (with_reducible exact HR119.out) | (with_reducible refine Kd.C_alloc ?_ _) | (with_reducible refine Kd.C_drewN ?_ _) | (with_reducible refine Kd.C_drew ?_) | exact HR119.out)⟩, ⟨by repeat (first | (with_reducible first | exact HB.out | apply below_alloc | apply pw_below_drewN | apply below_drew1) | exact HB.out)⟩⟩
                        · rw [if_neg c28] at H
                          have c28b0 : decide ((ji17) ≤ t114) = false := decide_eq_false c28
                          clear c28
                          have H' := Aside0.mk H
                          clear H
                          go_wp2
                          go_meet
                          case rel => exact ⟨_, (false), (by first | rfl | (simp; done) | (simp [*]; done)), H', ⟨by have := HJ6.out; first | omega | exact Nat.le_refl _⟩, ⟨by (with_reducible repeat (first | apply Kd.R_alloc | apply Kd.R_drewN | apply Kd.R_drew)); exact HO_0.out⟩, ⟨by repeat (first | (with_reducible exact HR119.out) | (with_reducible refine Kd.C_alloc ?_ _) | (with_reducible refine Kd.C_drewN ?_ _) | (with_reducible refine Kd.C_drew ?_) | exact HR119.out)⟩, ⟨by repeat (first | (with_reducible first | exact HB.out | apply below_alloc | apply pw_below_drewN | apply below_drew1) | exact HB.out)⟩⟩
                    · rw [if_neg c26] at H
                      exact absurd H (by simp)
                  · rw [if_neg c25] at H
                    have c25b0 : decide (t114 < (ji17)) = false := decide_eq_false c25
                    clear c25
                    by_cases c29 : t114 < 0
                    · rw [if_pos c29] at H
                      have c29b0 : decide (t114 < 0) = true := decide_eq_true c29
                      clear c29
                      have H' := Aside0.mk H
                      clear H
                      go_wp2
                      go_meet
                      case rel => exact ⟨_, ((t120 != (-1))), (by first | rfl | (simp; done) | (simp [*]; done)), H', ⟨by have := HJ6.out; first | omega | exact Nat.le_refl _⟩, ⟨by (with_reducible repeat (first | apply Kd.R_alloc | apply Kd.R_drewN | apply Kd.R_drew)); exact HO_0.out⟩, ⟨by repeat (first | (with_reducible exact HR119.out) | (with_reducible refine Kd.C_alloc ?_ _) | (with_reducible refine Kd.C_drewN ?_ _) | (with_reducible refine Kd.C_drew ?_) | exact HR119.out)⟩, ⟨by repeat (first | (with_reducible first | exact HB.out | apply below_alloc | apply pw_below_drewN | apply below_drew1) | exact HB.out)⟩⟩
                    · rw [if_neg c29] at H
                      have c29b0 : decide (t114 < 0) = false := decide_eq_false c29
                      clear c29
                      by_cases c30 : (ji17) ≤ t114
                      · rw [if_pos c30] at H
                        have c30b0 : decide ((ji17) ≤ t114) = true := decide_eq_true c30
                        clear c30
                        have H' := Aside0.mk H
                        clear H
                        go_wp2
                        go_meet
                        case rel => exact ⟨_, ((t120 != (-1))), (by first | rfl | (simp; done) | (simp [*]; done)), H', ⟨by have := HJ6.out; first | omega | exact Nat.le_refl _⟩, ⟨by (with_reducible repeat (first | apply Kd.R_alloc | apply Kd.R_drewN | apply Kd.R_drew)); exact HO_0.out⟩, ⟨by repeat (first | (with_reducible exact HR119.out) | (with_reducible refine Kd.C_alloc ?_ _) | (with_reducible refine Kd.C_drewN ?_ _) | (with_reducible refine Kd.C_drew ?_) | exact HR119.out)⟩, ⟨by repeat (first | (with_reducible first | exact HB.out | apply below_alloc | apply pw_below_drewN | apply below_drew1) | exact HB.out)⟩⟩
                      · rw [if_neg c30] at H
                        have c30b0 : decide ((ji17) ≤ t114) = false := decide_eq_false c30
                        clear c30
                        have H' := Aside0.mk H
                        clear H
                        go_wp2
                        go_meet
                        case rel => exact ⟨_, (false), (by first | rfl | (simp; done) | (simp [*]; done)), H', ⟨by have := HJ6.out; first | omega | exact Nat.le_refl _⟩, ⟨by (with_reducible repeat (first | apply Kd.R_alloc | apply Kd.R_drewN | apply Kd.R_drew)); exact HO_0.out⟩, ⟨by repeat (first | (with_reducible exact HR119.out) | (with_reducible refine Kd.C_alloc ?_ _) | (with_reducible refine Kd.C_drewN ?_ _) | (with_reducible refine Kd.C_drew ?_) | exact HR119.out)⟩, ⟨by repeat (first | (with_reducible first | exact HB.out | apply below_alloc | apply pw_below_drewN | apply below_drew1) | exact HB.out)⟩⟩
                · rw [if_neg c24] at H
                  have c24b0 : decide (0 ≤ t114) = false := decide_eq_false c24
                  clear c24
                  (first | rw [c24b0] | rw [c24b1] | (simp only [i64_w, i32_w]; rw [c24b0]) | skip)
                  by_cases c31 : t114 < 0
                  · rw [if_pos c31] at H
                    have c31b0 : decide (t114 < 0) = true := decide_eq_true c31
                    clear c31
                    have H' := Aside0.mk H
                    clear H
                    go_wp2
                    go_meet
                    case rel => exact ⟨_, ((t120 != (-1))), (by first | rfl | (simp; done) | (simp [*]; done)), H', ⟨by have := HJ6.out; first | omega | exact Nat.le_refl _⟩, ⟨by (with_reducible repeat (first | apply Kd.R_alloc | apply Kd.R_drewN | apply Kd.R_drew)); exact HO_0.out⟩, ⟨by repeat (first | (with_reducible exact HR119.out) | (with_reducible refine Kd.C_alloc ?_ _) | (with_reducible refine Kd.C_drewN ?_ _) | (with_reducible refine Kd.C_drew ?_) | exact HR119.out)⟩, ⟨by repeat (first | (with_reducible first | exact HB.out | apply below_alloc | apply pw_below_drewN | apply below_drew1) | exact HB.out)⟩⟩
                  · rw [if_neg c31] at H
                    have c31b0 : decide (t114 < 0) = false := decide_eq_false c31
                    clear c31
                    by_cases c32 : (ji17) ≤ t114
                    · rw [if_pos c32] at H
                      have c32b0 : decide ((ji17) ≤ t114) = true := decide_eq_true c32
                      clear c32
                      have H' := Aside0.mk H
                      clear H
                      go_wp2
                      go_meet
                      case rel => exact ⟨_, ((t120 != (-1))), (by first | rfl | (simp; done) | (simp [*]; done)), H', ⟨by have := HJ6.out; first | omega | exact Nat.le_refl _⟩, ⟨by (with_reducible repeat (first | apply Kd.R_alloc | apply Kd.R_drewN | apply Kd.R_drew)); exact HO_0.out⟩, ⟨by repeat (first | (with_reducible exact HR119.out) | (with_reducible refine Kd.C_alloc ?_ _) | (with_reducible refine Kd.C_drewN ?_ _) | (with_reducible refine Kd.C_drew ?_) | exact HR119.out)⟩, ⟨by repeat (first | (with_reducible first | exact HB.out | apply below_alloc | apply pw_below_drewN | apply below_drew1) | exact HB.out)⟩⟩
                    · rw [if_neg c32] at H
                      have c32b0 : decide ((ji17) ≤ t114) = false := decide_eq_false c32
                      clear c32
                      have H' := Aside0.mk H
                      clear H
                      go_wp2
                      go_meet
                      case rel => exact ⟨_, (false), (by first | rfl | (simp; done) | (simp [*]; done)), H', ⟨by have := HJ6.out; first | omega | exact Nat.le_refl _⟩, ⟨by (with_reducible repeat (first | apply Kd.R_alloc | apply Kd.R_drewN | apply Kd.R_drew)); exact HO_0.out⟩, ⟨by repeat (first | (with_reducible exact HR119.out) | (with_reducible refine Kd.C_alloc ?_ _) | (with_reducible refine Kd.C_drewN ?_ _) | (with_reducible refine Kd.C_drew ?_) | exact HR119.out)⟩, ⟨by repeat (first | (with_reducible first | exact HB.out | apply below_alloc | apply pw_below_drewN | apply below_drew1) | exact HB.out)⟩⟩
              case rest =>
                clear HC21
                try clear c1
                try clear c2
                try clear p2
                try clear q2
                try clear c3
                try clear p6
                try clear c11
                try clear c11b0
                try clear c12
                try clear c12b0
                try clear c13
                try clear c14
                try clear c15
                try clear c16
                try clear c16b0
                try clear c16b1
                try clear c18
                try clear c18b0
                try clear c18b1
                try clear c19
                try clear c19b0
                try clear c19b1
                try clear q22
                try clear c24
                try clear c24b0
                try clear c25
                try clear c25b0
                try clear c26
                try clear c26b0
                try clear c26b1
                try clear c27
                try clear c27b0
                try clear c28
                try clear c28b0
                try clear c29
                try clear c29b0
                try clear c30
                try clear c30b0
                try clear c31
                try clear c31b0
                try clear c32
                try clear c32b0
                try clear p2
                try clear q22
                obtain ⟨kq, x75_20, rfl, HA, HJ20, HO_0, HR119, HB⟩ := hcut
                cases kq with
                | zero => exact absurd HA.out (by simp [judgeParts_b.j1])
                | succ kj20 =>
                  have H := HA.out
                  clear HA
                  simp only [judgeParts_b.j1] at H
                  by_cases c33 : x75_20 = true
                  · subst c33
                    have H1 : (none) = some r := by rw [if_pos rfl] at H; exact H
                    clear H
                    have H := H1
                    clear H1
                    exact absurd H (by simp)
                  · replace c33 := Bool.eq_false_iff.mpr c33
                    subst c33
                    have H1 : (if t114 ≥ 0 then (some true) else ((judge_Held.f t111).bind fun bt121 => (if bt121.2 = 0 then (judgeParts_b.j2 kj20 t111 (Int.tmod (wrap64 ((Int.tmod a2 8) + 8)) 8) (Int.tmod (wrap64 ((Int.tmod a3 4) + 4)) 4) ((bt121.1.length : Int) != 4)) else (none)))) = some r := by rw [if_neg (show ¬ (false = true) by decide)] at H; exact H
                    clear H
                    have H := H1
                    clear H1
                    by_cases c34 : t114 ≥ 0
                    · rw [if_pos c34] at H
                      have c34b0 : decide (0 ≤ t114) = true := decide_eq_true c34
                      clear c34
                      obtain rfl := Option.some.inj H
                      go_wp2
                      go_ret
                      exact ⟨by first | rfl | (simp [errW_none, errW_some] <;> rfl) | (simp only [← hji17]; first | rfl | (simp [errW_none, errW_some] <;> rfl)) | (simp [*, errW_none, errW_some] <;> rfl), by repeat (first | (with_reducible first | exact HB.out | apply below_alloc | apply pw_below_drewN | apply below_drew1) | exact HB.out)⟩
                    · rw [if_neg c34] at H
                      have c34b0 : decide (0 ≤ t114) = false := decide_eq_false c34
                      clear c34
                      replace H := Option.bind_eq_some_iff.mp H
                      obtain ⟨⟨t121, t122⟩, A350, H⟩ := H
                      replace H : (if t122 = 0 then (judgeParts_b.j2 kj20 t111 (Int.tmod (wrap64 ((Int.tmod a2 8) + 8)) 8) (Int.tmod (wrap64 ((Int.tmod a3 4) + 4)) 4) ((t121.length : Int) != 4)) else (none)) = some r := H
                      have A35 := Aside0.mk A350
                      clear A350
                      have HC36 := Aside0.mk H
                      clear H
                      go_upto_region 13 with (first | ((with_reducible refine gate_callee (f := 16) rfl ?_); refine goesL_ (some 88) rfl rfl Try.func16 (by kernel_rfl) rfl #[.slice Ao9 t111.length co9] rfl (by (try simp only [List.map_toArray, List.map_cons, List.map_nil]); first | done | rfl | (simp only [List.length_drop, List.length_take]; rfl)) ?_; (with_reducible refine (judge_Held.calls _ _ t111 t121 t122 _ ?side1 ?side2 A35.out).mono ?_); (case side1 => repeat (first | exact (Kd.R_reads' HO_0.out).2.2 | (with_reducible refine Kd.C_alloc ?_ _) | (with_reducible refine Kd.C_drewN ?_ _) | (with_reducible refine Kd.C_drew ?_))); (case side2 => exact (Kd.R_reads' HO_0.out).2.1); rintro e w37 ⟨v123, rfl, ho0, hb⟩; refine ⟨_, rfl, ?_⟩; have n0_ := Aside0.mk (Kd.R_below (by (with_reducible repeat (first | apply Kd.R_alloc | apply Kd.R_drewN | apply Kd.R_drew)); exact HO_0.out) hb); have n1_ := Aside0.mk (Kd.R_lower ho0 (below_size (by repeat (first | (with_reducible first | exact HB.out | apply below_alloc | apply pw_below_drewN | apply below_drew1) | exact HB.out)))); have n2_ := Aside0.mk (Kd.C_below (by repeat (first | (with_reducible exact HR119.out) | (with_reducible refine Kd.C_alloc ?_ _) | (with_reducible refine Kd.C_drewN ?_ _) | (with_reducible refine Kd.C_drew ?_) | exact HR119.out)) hb); have n3_ := Aside0.mk (below_step (by repeat (first | (with_reducible first | exact HB.out | apply below_alloc | apply pw_below_drewN | apply below_drew1) | exact HB.out)) hb); clear HO_0; clear HR119; clear HB; have HO_0 := n0_; have HO124 := n1_; have HR119 := n2_; have HB := n3_; clear n0_ n1_ n2_ n3_; (try clear hb); (try clear hb2); (try clear hk); (try clear hi); (try clear ho0)))
                      (try simp only [Act.put, List.setIfInBounds_toArray, List.set_cons_zero, List.set_cons_succ])
                      go_cut [97] (fun v97 wc => ∃ (kq : Nat) (x97_35 : Bool), v97 = .bool x97_35 ∧ Aside0 (judgeParts_b.j2 kq t111 (Int.tmod (wrap64 ((Int.tmod a2 8) + 8)) 8) (Int.tmod (wrap64 ((Int.tmod a3 4) + 4)) 4) x97_35 = some r) ∧ Aside0 (kq ≤ kj20) ∧ Aside0 (Kd.R k33 33 wc w.heap.size (fun _ => True) (.slice Ao9 t111.length co9) t111) ∧ Aside0 (Kd.C k33 wc Ao9 y116.length y116) ∧ Aside0 (Below w.heap.size w wc))
                      case first =>
                        have H := HC36.out
                        clear HC36
                        by_cases c38 : t122 = 0
                        · rw [if_pos c38] at H
                          have c38b0 : (t122 == 0) = true := beq_iff_eq.mpr c38
                          have c38b1 : (t122 != 0) = false := bne_eq_false_iff_eq.mpr c38
                          clear c38
                          (first | rw [c38b0] | rw [c38b1] | (simp only [i64_w, i32_w]; rw [c38b0]) | skip)
                          have H' := Aside0.mk H
                          clear H
                          obtain ⟨Ao39, co39, eo39⟩ := Kd.R_slice HO124.out
                          subst eo39
                          go_wp2
                          go_meet
                          case rel => exact ⟨_, (((t121.length : Int) != 4)), (by first | rfl | (simp; done) | (simp [*]; done)), H', ⟨by have := HJ6.out; have := HJ20.out; first | omega | exact Nat.le_refl _⟩, ⟨by (with_reducible repeat (first | apply Kd.R_alloc | apply Kd.R_drewN | apply Kd.R_drew)); exact HO_0.out⟩, ⟨by repeat (first | (with_reducible exact HR119.out) | (with_reducible refine Kd.C_alloc ?_ _) | (with_reducible refine Kd.C_drewN ?_ _) | (with_reducible refine Kd.C_drew ?_) | exact HR119.out)⟩, ⟨by repeat (first | (with_reducible first | exact HB.out | apply below_alloc | apply pw_below_drewN | apply below_drew1) | exact HB.out)⟩⟩
                        · rw [if_neg c38] at H
                          exact absurd H (by simp)
                      case rest =>
                        clear HC36
                        try clear c1
                        try clear c2
                        try clear p2
                        try clear q2
                        try clear c3
                        try clear p6
                        try clear c11
                        try clear c11b0
                        try clear c12
                        try clear c12b0
                        try clear c13
                        try clear c14
                        try clear c15
                        try clear c16
                        try clear c16b0
                        try clear c16b1
                        try clear c18
                        try clear c18b0
                        try clear c18b1
                        try clear c19
                        try clear c19b0
                        try clear c19b1
                        try clear q22
                        try clear c24
                        try clear c24b0
                        try clear c25
                        try clear c25b0
                        try clear c26
                        try clear c26b0
                        try clear c26b1
                        try clear c27
                        try clear c27b0
                        try clear c28
                        try clear c28b0
                        try clear c29
                        try clear c29b0
                        try clear c30
                        try clear c30b0
                        try clear c31
                        try clear c31b0
                        try clear c32
                        try clear c32b0
                        try clear c33
                        try clear c34
                        try clear c34b0
                        try clear c38
                        try clear c38b0
                        try clear c38b1
                        try clear p2
                        try clear p6
                        try clear q2
                        try clear q22
                        obtain ⟨kq, x97_35, rfl, HA, HJ35, HO_0, HR119, HB⟩ := hcut
                        cases kq with
                        | zero => exact absurd HA.out (by simp [judgeParts_b.j2])
                        | succ kj35 =>
                          have H := HA.out
                          clear HA
                          simp only [judgeParts_b.j2] at H
                          by_cases c40 : x97_35 = true
                          · subst c40
                            have H1 : (none) = some r := by rw [if_pos rfl] at H; exact H
                            clear H
                            have H := H1
                            clear H1
                            exact absurd H (by simp)
                          · replace c40 := Bool.eq_false_iff.mpr c40
                            subst c40
                            have H1 : (if (t111.length : Int) > 0 then (if 0 ≤ (wrap64 ((t111.length : Int) - 1)) then (if (wrap64 ((t111.length : Int) - 1)) < (t111.length : Int) then (if ((rd_T33 t111 (wrap64 ((t111.length : Int) - 1))).f2.f1) = 4 then ((some (([] : List (S33)) : List (S33))).bind fun y129 => (if y129.length + t111.length < 3518437208883 then ((some (y129 ++ t111 : List (S33))).bind fun y132 => ((some (([(⟨(rd_T33 t111 (wrap64 ((t111.length : Int) - 1))).f0, (rd_T33 t111 (wrap64 ((t111.length : Int) - 1))).f1, (⟨(Int.tmod (wrap64 ((Int.tmod a2 8) + 8)) 8), 0, (Int.tmod (wrap64 ((Int.tmod a3 4) + 4)) 4)⟩ : S31)⟩ : S33)] : List (S33)) : List (S33))).bind fun y135 => (if y132.length + y135.length < 3518437208883 then ((judge_Wrong.f (y132 ++ y135)).bind fun t141 => (some (t141 == (t111.length : Int)))) else (none)))) else (none))) else (none)) else (none)) else (none)) else (none)) = some r := by rw [if_neg (show ¬ (false = true) by decide)] at H; exact H
                            clear H
                            have H := H1
                            clear H1
                            by_cases c41 : (t111.length : Int) > 0
                            · rw [if_pos c41] at H
                              have c41b0 : decide (0 < (t111.length : Int)) = true := decide_eq_true c41
                              have c41b1 : decide (0 < t111.length) = true := decide_eq_true (by omega)
                              clear c41
                              obtain ⟨ji42, hji42⟩ : ∃ j_ : Int, (wrap64 ((t111.length : Int) - 1)) = j_ := ⟨_, rfl⟩
                              replace H : (if 0 ≤ (ji42) then (if (ji42) < (t111.length : Int) then (if ((rd_T33 t111 (ji42)).f2.f1) = 4 then ((some (([] : List (S33)) : List (S33))).bind fun y129 => (if y129.length + t111.length < 3518437208883 then ((some (y129 ++ t111 : List (S33))).bind fun y132 => ((some (([(⟨(rd_T33 t111 (ji42)).f0, (rd_T33 t111 (ji42)).f1, (⟨(Int.tmod (wrap64 ((Int.tmod a2 8) + 8)) 8), 0, (Int.tmod (wrap64 ((Int.tmod a3 4) + 4)) 4)⟩ : S31)⟩ : S33)] : List (S33)) : List (S33))).bind fun y135 => (if y132.length + y135.length < 3518437208883 then ((judge_Wrong.f (y132 ++ y135)).bind fun t141 => (some (t141 == (t111.length : Int)))) else (none)))) else (none))) else (none)) else (none)) else (none)) = some r := by first | (rw [hji42] at H; exact H) | (simp only [hji42] at H ⊢; exact H)
                              have hji42w : (IntKind.i64.wrap ((t111.length : Int) - 1)) = ji42 := (i64_w _).trans hji42
                              by_cases c43 : 0 ≤ (ji42)
                              · rw [if_pos c43] at H
                                have c43b0 : decide (0 ≤ (ji42)) = true := decide_eq_true c43
                                clear c43
                                by_cases c44 : (ji42) < (t111.length : Int)
                                · rw [if_pos c44] at H
                                  have c44b0 : decide ((ji42) < (t111.length : Int)) = true := decide_eq_true c44
                                  clear c44
                                  by_cases c45 : ((rd_T33 t111 (ji42)).f2.f1) = 4
                                  · rw [if_pos c45] at H
                                    have c45b0 : (((rd_T33 t111 (ji42)).f2.f1) == 4) = true := beq_iff_eq.mpr c45
                                    have c45b1 : (((rd_T33 t111 (ji42)).f2.f1) != 4) = false := bne_eq_false_iff_eq.mpr c45
                                    clear c45
                                    obtain ⟨y129, hy129⟩ : ∃ y_ : List (S33), y_ = (([] : List (S33))) := ⟨_, rfl⟩
                                    replace H : (if y129.length + t111.length < 3518437208883 then ((some (y129 ++ t111 : List (S33))).bind fun y132 => ((some (([(⟨(rd_T33 t111 (ji42)).f0, (rd_T33 t111 (ji42)).f1, (⟨(Int.tmod (wrap64 ((Int.tmod a2 8) + 8)) 8), 0, (Int.tmod (wrap64 ((Int.tmod a3 4) + 4)) 4)⟩ : S31)⟩ : S33)] : List (S33)) : List (S33))).bind fun y135 => (if y132.length + y135.length < 3518437208883 then ((judge_Wrong.f (y132 ++ y135)).bind fun t141 => (some (t141 == (t111.length : Int)))) else (none)))) else (none)) = some r := by first | (rw [hy129]; with_reducible exact H) | (have H2_ := (Option.bind_some _ _).symm.trans H; rw [hy129]; with_reducible exact H2_) | (have H2_ := (Option.bind_some _ _).symm.trans H; with_reducible exact H2_) | with_reducible exact H | (rw [hy129]; exact H) | exact H
                                    have Ny129 := Aside0.mk hy129
                                    clear hy129
                                    by_cases c46 : y129.length + t111.length < 3518437208883
                                    · rw [if_pos c46] at H
                                      have LMc46 := Aside0.mk c46
                                      clear c46
                                      obtain ⟨y132, hy132⟩ : ∃ y_ : List (S33), y_ = (y129 ++ t111) := ⟨_, rfl⟩
                                      replace H : ((some (([(⟨(rd_T33 t111 (ji42)).f0, (rd_T33 t111 (ji42)).f1, (⟨(Int.tmod (wrap64 ((Int.tmod a2 8) + 8)) 8), 0, (Int.tmod (wrap64 ((Int.tmod a3 4) + 4)) 4)⟩ : S31)⟩ : S33)] : List (S33)) : List (S33))).bind fun y135 => (if y132.length + y135.length < 3518437208883 then ((judge_Wrong.f (y132 ++ y135)).bind fun t141 => (some (t141 == (t111.length : Int)))) else (none))) = some r := by first | (rw [hy132]; with_reducible exact H) | (have H2_ := (Option.bind_some _ _).symm.trans H; rw [hy132]; with_reducible exact H2_) | (have H2_ := (Option.bind_some _ _).symm.trans H; with_reducible exact H2_) | with_reducible exact H | (rw [hy132]; exact H) | exact H
                                      have Ny132 := Aside0.mk hy132
                                      clear hy132
                                      obtain ⟨y135, hy135⟩ : ∃ y_ : List (S33), y_ = (([(⟨(rd_T33 t111 (ji42)).f0, (rd_T33 t111 (ji42)).f1, (⟨(Int.tmod (wrap64 ((Int.tmod a2 8) + 8)) 8), 0, (Int.tmod (wrap64 ((Int.tmod a3 4) + 4)) 4)⟩ : S31)⟩ : S33)] : List (S33))) := ⟨_, rfl⟩
                                      replace H : (if y132.length + y135.length < 3518437208883 then ((judge_Wrong.f (y132 ++ y135)).bind fun t141 => (some (t141 == (t111.length : Int)))) else (none)) = some r := by first | (rw [hy135]; with_reducible exact H) | (have H2_ := (Option.bind_some _ _).symm.trans H; rw [hy135]; with_reducible exact H2_) | (have H2_ := (Option.bind_some _ _).symm.trans H; with_reducible exact H2_) | with_reducible exact H | (rw [hy135]; exact H) | exact H
                                      have Ny135 := Aside0.mk hy135
                                      clear hy135
                                      by_cases c47 : y132.length + y135.length < 3518437208883
                                      · rw [if_pos c47] at H
                                        have LMc47 := Aside0.mk c47
                                        clear c47
                                        obtain ⟨y138, hy138⟩ : ∃ y_ : List (S33), y_ = (y132 ++ y135) := ⟨_, rfl⟩
                                        replace H : ((judge_Wrong.f y138).bind fun t141 => (some (t141 == (t111.length : Int)))) = some r := by first | (rw [hy138]; with_reducible exact H) | (have H2_ := (Option.bind_some _ _).symm.trans H; rw [hy138]; with_reducible exact H2_) | (have H2_ := (Option.bind_some _ _).symm.trans H; with_reducible exact H2_) | with_reducible exact H | (rw [hy138]; exact H) | exact H
                                        have Ny138 := Aside0.mk hy138
                                        clear hy138
                                        replace H := Option.bind_eq_some_iff.mp H
                                        obtain ⟨t141, A480, H⟩ := H
                                        replace H : (some (t141 == (t111.length : Int))) = some r := H
                                        have A48 := Aside0.mk A480
                                        clear A480
                                        obtain rfl := Option.some.inj H
                                        try go_wp2_with (first | ((with_reducible refine gate_dst (N := 13) rfl ?_); (try (refine gate_guard (by rfl) ?_; dsimp only)); refine box_event ?hg (N := 13) ?hd (cs := #[.int .i64 0, .int .i64 0, .int .i64 0, .int .i64 0, .int .i64 0]) (t := 33) ?hr ?_; (case hd => rfl); (case hg => rfl); (case hr => first | (go_simp; done) | (go_simp; rfl)); intro gb125 hg w49 hbox hb; have n0_ := Aside0.mk (Kd.R_below (Kd.R_elderB (by (with_reducible repeat (first | apply Kd.R_alloc | apply Kd.R_drewN | apply Kd.R_drew)); exact HO_0.out) gb125 (Nat.le_of_eq hg.symm)) hb); have n1_ := Aside0.mk (Kd.C_below (by repeat (first | (with_reducible exact HR119.out) | (with_reducible refine Kd.C_alloc ?_ _) | (with_reducible refine Kd.C_drewN ?_ _) | (with_reducible refine Kd.C_drew ?_) | exact HR119.out)) hb); have n2_ := Aside0.mk (below_step (by repeat (first | (with_reducible first | exact HB.out | apply below_alloc | apply pw_below_drewN | apply below_drew1) | exact HB.out)) hb); have n3_ := Aside0.mk (hbox); have n4_ := Aside0.mk ((by rw [hg]; exact (below_size (by repeat (first | (with_reducible first | exact HB.out | apply below_alloc | apply pw_below_drewN | apply below_drew1) | exact HB.out))) : w.heap.size ≤ gb125)); have n5_ := Aside0.mk ((by rw [hg]; exact (below_size (by repeat (first | (with_reducible first | exact HB.out | apply below_alloc | apply pw_below_drewN | apply below_drew1) | exact HB.out))) : w.heap.size ≤ gb125)); clear HO_0; clear HR119; clear HB; have HO_0 := n0_; have HR119 := n1_; have HB := n2_; have BK125 := n3_; have GW125 := n4_; have GE125 := n5_; clear n0_ n1_ n2_ n3_ n4_ n5_; clear hb hbox hg; have hcz50_0 : w49.cell? ⟨gb125, 0, none⟩ = some (.int .i64 0) := (blk_cell BK125.out 0).trans rfl; have hcz50_1 : w49.cell? ⟨gb125, 1, none⟩ = some (.int .i64 0) := (blk_cell BK125.out 1).trans rfl; have hcz50_2 : w49.cell? ⟨gb125, 2, none⟩ = some (.int .i64 0) := (blk_cell BK125.out 2).trans rfl; have hcz50_3 : w49.cell? ⟨gb125, 3, none⟩ = some (.int .i64 0) := (blk_cell BK125.out 3).trans rfl; have hcz50_4 : w49.cell? ⟨gb125, 4, none⟩ = some (.int .i64 0) := (blk_cell BK125.out 4).trans rfl; have hfz50_0 := blk_frozen BK125.out 0; have hfz50_1 := blk_frozen BK125.out 1; have hfz50_2 := blk_frozen BK125.out 2; have hfz50_3 := blk_frozen BK125.out 3; have hfz50_4 := blk_frozen BK125.out 4))
                                        have n0_ : Aside0 (Kd.R k33 33 (((((w49.setCell ⟨gb125, 0, none⟩ (.int .i64 0)).setCell ⟨gb125, 1, none⟩ (.int .i64 0)).setCell ⟨gb125, 2, none⟩ (.int .i64 (Int.tmod (wrap64 ((Int.tmod a2 8) + 8)) 8))).setCell ⟨gb125, 3, none⟩ (.int .i64 0)).setCell ⟨gb125, 4, none⟩ (.int .i64 (Int.tmod (wrap64 ((Int.tmod a3 4) + 4)) 4))) w.heap.size (fun k_ => k_ ≠ gb125) (.slice Ao9 t111.length co9) t111) := ⟨by (with_reducible repeat (first | apply Kd.R_alloc | apply Kd.R_drewN | apply Kd.R_drew)); exact Kd.R_mono (Kd.R_far (p := ⟨gb125, 4, none⟩) (Kd.R_far (p := ⟨gb125, 3, none⟩) (Kd.R_far (p := ⟨gb125, 2, none⟩) (Kd.R_far (p := ⟨gb125, 1, none⟩) (Kd.R_far (p := ⟨gb125, 0, none⟩) (Kd.R_mono HO_0.out (fun k_ hk => (⟨hk, hk.2⟩ : _ ∧ k_ ≠ gb125))) (fun _ hk => hk.2) (.int .i64 0)) (fun _ hk => hk.2) (.int .i64 0)) (fun _ hk => hk.2) (.int .i64 (Int.tmod (wrap64 ((Int.tmod a2 8) + 8)) 8))) (fun _ hk => hk.2) (.int .i64 0)) (fun _ hk => hk.2) (.int .i64 (Int.tmod (wrap64 ((Int.tmod a3 4) + 4)) 4))) (fun _ hk => hk.1.2)⟩
                                        have n1_ : Aside0 ((((((w49.setCell ⟨gb125, 0, none⟩ (.int .i64 0)).setCell ⟨gb125, 1, none⟩ (.int .i64 0)).setCell ⟨gb125, 2, none⟩ (.int .i64 (Int.tmod (wrap64 ((Int.tmod a2 8) + 8)) 8))).setCell ⟨gb125, 3, none⟩ (.int .i64 0)).setCell ⟨gb125, 4, none⟩ (.int .i64 (Int.tmod (wrap64 ((Int.tmod a3 4) + 4)) 4))).heap[gb125]? = some (.cells #[.int .i64 0, .int .i64 0, .int .i64 (Int.tmod (wrap64 ((Int.tmod a2 8) + 8)) 8), .int .i64 0, .int .i64 (Int.tmod (wrap64 ((Int.tmod a3 4) + 4)) 4)] 33 (0, 0))) := ⟨by (with_reducible repeat (first | refine blk_drewN ?_ _ | refine blk_drew ?_ | refine blk_alloc ?_ _)); refine blk_put (cs := #[.int .i64 0, .int .i64 0, .int .i64 (Int.tmod (wrap64 ((Int.tmod a2 8) + 8)) 8), .int .i64 0, .int .i64 0]) ?_ 4 _ rfl; (with_reducible repeat (first | refine blk_drewN ?_ _ | refine blk_drew ?_ | refine blk_alloc ?_ _)); refine blk_put (cs := #[.int .i64 0, .int .i64 0, .int .i64 (Int.tmod (wrap64 ((Int.tmod a2 8) + 8)) 8), .int .i64 0, .int .i64 0]) ?_ 3 _ rfl; (with_reducible repeat (first | refine blk_drewN ?_ _ | refine blk_drew ?_ | refine blk_alloc ?_ _)); refine blk_put (cs := #[.int .i64 0, .int .i64 0, .int .i64 0, .int .i64 0, .int .i64 0]) ?_ 2 _ rfl; (with_reducible repeat (first | refine blk_drewN ?_ _ | refine blk_drew ?_ | refine blk_alloc ?_ _)); refine blk_put (cs := #[.int .i64 0, .int .i64 0, .int .i64 0, .int .i64 0, .int .i64 0]) ?_ 1 _ rfl; (with_reducible repeat (first | refine blk_drewN ?_ _ | refine blk_drew ?_ | refine blk_alloc ?_ _)); refine blk_put (cs := #[.int .i64 0, .int .i64 0, .int .i64 0, .int .i64 0, .int .i64 0]) ?_ 0 _ rfl; (with_reducible repeat (first | refine blk_drewN ?_ _ | refine blk_drew ?_ | refine blk_alloc ?_ _)); exact BK125.out⟩
                                        have n2_ : Aside0 (Below w.heap.size w (((((w49.setCell ⟨gb125, 0, none⟩ (.int .i64 0)).setCell ⟨gb125, 1, none⟩ (.int .i64 0)).setCell ⟨gb125, 2, none⟩ (.int .i64 (Int.tmod (wrap64 ((Int.tmod a2 8) + 8)) 8))).setCell ⟨gb125, 3, none⟩ (.int .i64 0)).setCell ⟨gb125, 4, none⟩ (.int .i64 (Int.tmod (wrap64 ((Int.tmod a3 4) + 4)) 4)))) := ⟨by repeat (first | (with_reducible first | exact HB.out | apply below_alloc | apply pw_below_drewN | apply below_drew1 | refine below_set ?_ GE125.out) | exact HB.out)⟩
                                        (try clear HO_0)
                                        (try clear BK125)
                                        (try clear HB)
                                        generalize (((((w49.setCell ⟨gb125, 0, none⟩ (.int .i64 0)).setCell ⟨gb125, 1, none⟩ (.int .i64 0)).setCell ⟨gb125, 2, none⟩ (.int .i64 (Int.tmod (wrap64 ((Int.tmod a2 8) + 8)) 8))).setCell ⟨gb125, 3, none⟩ (.int .i64 0)).setCell ⟨gb125, 4, none⟩ (.int .i64 (Int.tmod (wrap64 ((Int.tmod a3 4) + 4)) 4))) = w51 at n0_ n1_ n2_ ⊢
                                        have HO_0 := n0_
                                        have BK125 := n1_
                                        have HB := n2_
                                        clear n0_ n1_ n2_
                                        have n0_ := Aside0.mk (Kd.R_drew HO_0.out)
                                        have n1_ := Aside0.mk (blk_drew BK125.out)
                                        have n2_ := Aside0.mk (below_drew1 HB.out)
                                        clear HO_0
                                        clear BK125
                                        clear HB
                                        have HO_0 := n0_
                                        have BK125 := n1_
                                        have HB := n2_
                                        clear n0_ n1_ n2_
                                        have p126 : 0 ≤ ((ji42) : Int) := of_decide_eq_true (by first | (with_reducible assumption) | assumption)
                                        have q126 : (ji42) < (t111.length : Int) := of_decide_eq_true (by first | (with_reducible assumption) | assumption)
                                        obtain ⟨ad126, e126, hx126_0, hx126_1, hx126_2, hx126_3, hx126_4⟩ := at_T33 (Kd.R_reads' HO_0.out).2.2 (ji42) p126 q126
                                        cases e126
                                        replace p126 := eq_true p126
                                        replace q126 := eq_true q126
                                        have p127 : 0 ≤ ((ji42) : Int) := of_decide_eq_true (by first | (with_reducible assumption) | assumption)
                                        have q127 : (ji42) < (t111.length : Int) := of_decide_eq_true (by first | (with_reducible assumption) | assumption)
                                        obtain ⟨ad127, e127, hx127_0, hx127_1, hx127_2, hx127_3, hx127_4⟩ := at_T33 (Kd.R_reads' HO_0.out).2.2 (ji42) p127 q127
                                        obtain rfl : ad126 = ad127 := (by injection e127)
                                        replace p127 := eq_true p127
                                        replace q127 := eq_true q127
                                        refine start_ (n := 16) (S := fun w' => w'.cell? (ad126.add (((ji42)).toNat * 5)) = some (.int .i64 ((rd_T33 t111 (ji42)).f0)) ∧ w'.cell? ⟨(ad126.add (((ji42)).toNat * 5)).block, (ad126.add (((ji42)).toNat * 5)).off + 1, none⟩ = some (.int .i64 ((rd_T33 t111 (ji42)).f1)) ∧ w'.cell? ⟨(ad126.add (((ji42)).toNat * 5)).block, (ad126.add (((ji42)).toNat * 5)).off + 2, none⟩ = some (.int .i64 ((rd_T33 t111 (ji42)).f2.f0)) ∧ w'.cell? ⟨(ad126.add (((ji42)).toNat * 5)).block, (ad126.add (((ji42)).toNat * 5)).off + 3, none⟩ = some (.int .i64 ((rd_T33 t111 (ji42)).f2.f1)) ∧ w'.cell? ⟨(ad126.add (((ji42)).toNat * 5)).block, (ad126.add (((ji42)).toNat * 5)).off + 4, none⟩ = some (.int .i64 ((rd_T33 t111 (ji42)).f2.f2)) ∧ w'.cell? (ad126.add (((ji42)).toNat * 5)) = some (.int .i64 ((rd_T33 t111 (ji42)).f0)) ∧ w'.cell? ⟨(ad126.add (((ji42)).toNat * 5)).block, (ad126.add (((ji42)).toNat * 5)).off + 1, none⟩ = some (.int .i64 ((rd_T33 t111 (ji42)).f1)) ∧ w'.cell? ⟨(ad126.add (((ji42)).toNat * 5)).block, (ad126.add (((ji42)).toNat * 5)).off + 2, none⟩ = some (.int .i64 ((rd_T33 t111 (ji42)).f2.f0)) ∧ w'.cell? ⟨(ad126.add (((ji42)).toNat * 5)).block, (ad126.add (((ji42)).toNat * 5)).off + 3, none⟩ = some (.int .i64 ((rd_T33 t111 (ji42)).f2.f1)) ∧ w'.cell? ⟨(ad126.add (((ji42)).toNat * 5)).block, (ad126.add (((ji42)).toNat * 5)).off + 4, none⟩ = some (.int .i64 ((rd_T33 t111 (ji42)).f2.f2))) (ds := []) #[false, false, false, false, false, false, false, false, false, false, false, false, false, false, false, false] (by kernel_rfl) rfl rfl ⟨hx126_0, hx126_1, hx126_2, hx126_3, hx126_4, hx127_0, hx127_1, hx127_2, hx127_3, hx127_4⟩ (fun hHeld => ?_); refine with_tabW judgeParts_b.tab18 judgeParts_b.bits18 (fun HT_ HW_ => ?_)
                                        generalize w51.drew = w52 at HO_0 BK125 HB hx126_0 hx126_1 hx126_2 hx126_3 hx126_4 hx127_0 hx127_1 hx127_2 hx127_3 hx127_4 hHeld ⊢
                                        refine pure_ (i := 0) (N := some 106) (v := ?_) (a' := ?_) #[true, false, false, false, false, false, false, false, false, false, false, false, false, false, false, false] rfl rfl (any_of HT_.out (by kernel_rfl)) (fun _ _ _ h => h) (Or.inl ⟨by rfl, ?_⟩) ?_ ?_
                                        rotate_left
                                        · intro w'
                                          go_simp
                                          with_reducible rfl
                                        rotate_left
                                        · simp only [Act.put, List.setIfInBounds_toArray, List.set_cons_zero, List.set_cons_succ, i64_w, i32_w]
                                          rfl
                                        refine pure_ (i := 1) (N := some 107) (v := ?_) (a' := ?_) #[true, true, false, false, false, false, false, false, false, false, false, false, false, false, false, false] rfl rfl (any_of HT_.out (by kernel_rfl)) (fun _ _ _ h => h) (Or.inl ⟨by rfl, ?_⟩) ?_ ?_
                                        rotate_left
                                        · intro w'
                                          go_simp
                                          with_reducible rfl
                                        rotate_left
                                        · simp only [Act.put, List.setIfInBounds_toArray, List.set_cons_zero, List.set_cons_succ, i64_w, i32_w]
                                          rfl
                                        refine pure_ (i := 2) (N := some 108) (v := ?_) (a' := ?_) #[true, true, true, false, false, false, false, false, false, false, false, false, false, false, false, false] rfl rfl (any_of HT_.out (by kernel_rfl)) (fun _ _ _ h => h) (Or.inl ⟨by rfl, ?_⟩) ?_ ?_
                                        rotate_left
                                        · intro w'
                                          go_simp
                                          with_reducible rfl
                                        rotate_left
                                        · simp only [Act.put, List.setIfInBounds_toArray, List.set_cons_zero, List.set_cons_succ, i64_w, i32_w]
                                          rfl
                                        refine pure_ (i := 3) (N := some 109) (v := ?_) (a' := ?_) #[true, true, true, true, false, false, false, false, false, false, false, false, false, false, false, false] rfl rfl (any_of HT_.out (by kernel_rfl)) (fun _ _ _ h => h) (Or.inl ⟨by rfl, ?_⟩) ?_ ?_
                                        rotate_left
                                        · intro w'
                                          go_simp
                                          with_reducible rfl
                                        rotate_left
                                        · simp only [Act.put, List.setIfInBounds_toArray, List.set_cons_zero, List.set_cons_succ, i64_w, i32_w]
                                          rfl
                                        refine pure_ (i := 4) (N := some 110) (v := ?_) (a' := ?_) #[true, true, true, true, true, false, false, false, false, false, false, false, false, false, false, false] rfl rfl (any_of HT_.out (by kernel_rfl)) (fun _ _ _ h => h) (Or.inl ⟨by rfl, ?_⟩) ?_ ?_
                                        rotate_left
                                        · intro w'
                                          go_simp
                                          with_reducible rfl
                                        rotate_left
                                        · simp only [Act.put, List.setIfInBounds_toArray, List.set_cons_zero, List.set_cons_succ, i64_w, i32_w]
                                          rfl
                                        refine pure_ (i := 6) (N := some 112) (v := ?_) (a' := ?_) #[true, true, true, true, true, false, true, false, false, false, false, false, false, false, false, false] rfl rfl (any_of HT_.out (by kernel_rfl)) (fun _ _ _ h => h) (Or.inl ⟨by rfl, ?_⟩) ?_ ?_
                                        rotate_left
                                        · intro w'
                                          go_simp
                                          with_reducible rfl
                                        rotate_left
                                        · simp only [Act.put, List.setIfInBounds_toArray, List.set_cons_zero, List.set_cons_succ, i64_w, i32_w]
                                          rfl
                                        refine pure_ (i := 7) (N := some 113) (v := ?_) (a' := ?_) #[true, true, true, true, true, false, true, true, false, false, false, false, false, false, false, false] rfl rfl (any_of HT_.out (by kernel_rfl)) (fun _ _ _ h => h) (Or.inl ⟨by rfl, ?_⟩) ?_ ?_
                                        rotate_left
                                        · intro w'
                                          go_simp
                                          with_reducible rfl
                                        rotate_left
                                        · simp only [Act.put, List.setIfInBounds_toArray, List.set_cons_zero, List.set_cons_succ, i64_w, i32_w]
                                          rfl
                                        refine pure_ (i := 8) (N := some 114) (v := ?_) (a' := ?_) #[true, true, true, true, true, false, true, true, true, false, false, false, false, false, false, false] rfl rfl (any_of HT_.out (by kernel_rfl)) (fun _ _ _ h => h) (Or.inl ⟨by rfl, ?_⟩) ?_ ?_
                                        rotate_left
                                        · intro w'
                                          go_simp
                                          with_reducible rfl
                                        rotate_left
                                        · simp only [Act.put, List.setIfInBounds_toArray, List.set_cons_zero, List.set_cons_succ, i64_w, i32_w]
                                          rfl
                                        refine pure_ (i := 9) (N := some 115) (v := ?_) (a' := ?_) #[true, true, true, true, true, false, true, true, true, true, false, false, false, false, false, false] rfl rfl (any_of HT_.out (by kernel_rfl)) (fun _ _ _ h => h) (Or.inl ⟨by rfl, ?_⟩) ?_ ?_
                                        rotate_left
                                        · intro w'
                                          go_simp
                                          with_reducible rfl
                                        rotate_left
                                        · simp only [Act.put, List.setIfInBounds_toArray, List.set_cons_zero, List.set_cons_succ, i64_w, i32_w]
                                          rfl
                                        refine pure_ (i := 10) (N := some 116) (v := ?_) (a' := ?_) #[true, true, true, true, true, false, true, true, true, true, true, false, false, false, false, false] rfl rfl (any_of HT_.out (by kernel_rfl)) (fun _ _ _ h => h) (Or.inl ⟨by rfl, ?_⟩) ?_ ?_
                                        rotate_left
                                        · intro w'
                                          go_simp
                                          with_reducible rfl
                                        rotate_left
                                        · simp only [Act.put, List.setIfInBounds_toArray, List.set_cons_zero, List.set_cons_succ, i64_w, i32_w]
                                          rfl
                                        refine take_ (i := 5) (N := some 111) (v := ?_) (a' := ?_) #[true, true, true, true, true, true, true, true, true, true, true, false, false, false, false, false] rfl rfl (take_ofW HT_.out HW_.out (by kernel_rfl)) (fun _ _ _ h => h) (Or.inl ⟨by rfl, ?_⟩) hHeld ?_ ?_
                                        rotate_left
                                        · rintro w' ⟨s0, s1, s2, s3, s4, s5, s6, s7, s8, s9⟩
                                          go_simp
                                          with_reducible rfl
                                        rotate_left
                                        · simp only [Act.put, List.setIfInBounds_toArray, List.set_cons_zero, List.set_cons_succ, i64_w, i32_w]
                                          rfl
                                        refine pure_ (i := 12) (N := some 118) (v := ?_) (a' := ?_) #[true, true, true, true, true, true, true, true, true, true, true, false, true, false, false, false] rfl rfl (any_of HT_.out (by kernel_rfl)) (fun _ _ _ h => h) (Or.inl ⟨by rfl, ?_⟩) ?_ ?_
                                        rotate_left
                                        · intro w'
                                          go_simp
                                          with_reducible rfl
                                        rotate_left
                                        · simp only [Act.put, List.setIfInBounds_toArray, List.set_cons_zero, List.set_cons_succ, i64_w, i32_w]
                                          rfl
                                        refine take_ (i := 11) (N := some 117) (v := ?_) (a' := ?_) #[true, true, true, true, true, true, true, true, true, true, true, true, true, false, false, false] rfl rfl (take_ofW HT_.out HW_.out (by kernel_rfl)) (fun _ _ _ h => h) (Or.inl ⟨by rfl, ?_⟩) hHeld ?_ ?_
                                        rotate_left
                                        · rintro w' ⟨s0, s1, s2, s3, s4, s5, s6, s7, s8, s9⟩
                                          go_simp
                                          with_reducible rfl
                                        rotate_left
                                        · simp only [Act.put, List.setIfInBounds_toArray, List.set_cons_zero, List.set_cons_succ, i64_w, i32_w]
                                          rfl
                                        refine one_ (i := 13) (N := none) #[true, true, true, true, true, true, true, true, true, true, true, true, true, true, false, false] rfl rfl (one_of HT_.out (by kernel_rfl)) (by decide) (fun K hK => ?_)
                                        have hs53 : w52.cell? ⟨gb125, 0, none⟩ = some (.int .i64 0) := (blk_cell BK125.out 0).trans rfl
                                        have hfs53 := blk_frozen BK125.out 0
                                        refine skip_ (w1 := ?_) (by rfl) rfl ?_ ?_
                                        rotate_left
                                        · go_simp
                                          rfl
                                        refine hK.out _ _ ⟨((cell_far (p := ⟨gb125, _, none⟩) (by first | exact Kd.own_blk (Kd.R_away HO_0.out (fun _ hk => hk)) | (rw [add_block]; exact Kd.own_blk (Kd.R_away HO_0.out (fun _ hk => hk))) | (show (Addr.add _ _).block ≠ _; rw [add_block]; exact Kd.own_blk (Kd.R_away HO_0.out (fun _ hk => hk))) | (dsimp only; exact Kd.own_blk (Kd.R_away HO_0.out (fun _ hk => hk)))) _).trans (hHeld.1)), ((cell_far (p := ⟨gb125, _, none⟩) (by first | exact Kd.own_blk (Kd.R_away HO_0.out (fun _ hk => hk)) | (rw [add_block]; exact Kd.own_blk (Kd.R_away HO_0.out (fun _ hk => hk))) | (show (Addr.add _ _).block ≠ _; rw [add_block]; exact Kd.own_blk (Kd.R_away HO_0.out (fun _ hk => hk))) | (dsimp only; exact Kd.own_blk (Kd.R_away HO_0.out (fun _ hk => hk)))) _).trans (hHeld.2.1)), ((cell_far (p := ⟨gb125, _, none⟩) (by first | exact Kd.own_blk (Kd.R_away HO_0.out (fun _ hk => hk)) | (rw [add_block]; exact Kd.own_blk (Kd.R_away HO_0.out (fun _ hk => hk))) | (show (Addr.add _ _).block ≠ _; rw [add_block]; exact Kd.own_blk (Kd.R_away HO_0.out (fun _ hk => hk))) | (dsimp only; exact Kd.own_blk (Kd.R_away HO_0.out (fun _ hk => hk)))) _).trans (hHeld.2.2.1)), ((cell_far (p := ⟨gb125, _, none⟩) (by first | exact Kd.own_blk (Kd.R_away HO_0.out (fun _ hk => hk)) | (rw [add_block]; exact Kd.own_blk (Kd.R_away HO_0.out (fun _ hk => hk))) | (show (Addr.add _ _).block ≠ _; rw [add_block]; exact Kd.own_blk (Kd.R_away HO_0.out (fun _ hk => hk))) | (dsimp only; exact Kd.own_blk (Kd.R_away HO_0.out (fun _ hk => hk)))) _).trans (hHeld.2.2.2.1)), ((cell_far (p := ⟨gb125, _, none⟩) (by first | exact Kd.own_blk (Kd.R_away HO_0.out (fun _ hk => hk)) | (rw [add_block]; exact Kd.own_blk (Kd.R_away HO_0.out (fun _ hk => hk))) | (show (Addr.add _ _).block ≠ _; rw [add_block]; exact Kd.own_blk (Kd.R_away HO_0.out (fun _ hk => hk))) | (dsimp only; exact Kd.own_blk (Kd.R_away HO_0.out (fun _ hk => hk)))) _).trans (hHeld.2.2.2.2.1)), ((cell_far (p := ⟨gb125, _, none⟩) (by first | exact Kd.own_blk (Kd.R_away HO_0.out (fun _ hk => hk)) | (rw [add_block]; exact Kd.own_blk (Kd.R_away HO_0.out (fun _ hk => hk))) | (show (Addr.add _ _).block ≠ _; rw [add_block]; exact Kd.own_blk (Kd.R_away HO_0.out (fun _ hk => hk))) | (dsimp only; exact Kd.own_blk (Kd.R_away HO_0.out (fun _ hk => hk)))) _).trans (hHeld.2.2.2.2.2.1)), ((cell_far (p := ⟨gb125, _, none⟩) (by first | exact Kd.own_blk (Kd.R_away HO_0.out (fun _ hk => hk)) | (rw [add_block]; exact Kd.own_blk (Kd.R_away HO_0.out (fun _ hk => hk))) | (show (Addr.add _ _).block ≠ _; rw [add_block]; exact Kd.own_blk (Kd.R_away HO_0.out (fun _ hk => hk))) | (dsimp only; exact Kd.own_blk (Kd.R_away HO_0.out (fun _ hk => hk)))) _).trans (hHeld.2.2.2.2.2.2.1)), ((cell_far (p := ⟨gb125, _, none⟩) (by first | exact Kd.own_blk (Kd.R_away HO_0.out (fun _ hk => hk)) | (rw [add_block]; exact Kd.own_blk (Kd.R_away HO_0.out (fun _ hk => hk))) | (show (Addr.add _ _).block ≠ _; rw [add_block]; exact Kd.own_blk (Kd.R_away HO_0.out (fun _ hk => hk))) | (dsimp only; exact Kd.own_blk (Kd.R_away HO_0.out (fun _ hk => hk)))) _).trans (hHeld.2.2.2.2.2.2.2.1)), ((cell_far (p := ⟨gb125, _, none⟩) (by first | exact Kd.own_blk (Kd.R_away HO_0.out (fun _ hk => hk)) | (rw [add_block]; exact Kd.own_blk (Kd.R_away HO_0.out (fun _ hk => hk))) | (show (Addr.add _ _).block ≠ _; rw [add_block]; exact Kd.own_blk (Kd.R_away HO_0.out (fun _ hk => hk))) | (dsimp only; exact Kd.own_blk (Kd.R_away HO_0.out (fun _ hk => hk)))) _).trans (hHeld.2.2.2.2.2.2.2.2.1)), ((cell_far (p := ⟨gb125, _, none⟩) (by first | exact Kd.own_blk (Kd.R_away HO_0.out (fun _ hk => hk)) | (rw [add_block]; exact Kd.own_blk (Kd.R_away HO_0.out (fun _ hk => hk))) | (show (Addr.add _ _).block ≠ _; rw [add_block]; exact Kd.own_blk (Kd.R_away HO_0.out (fun _ hk => hk))) | (dsimp only; exact Kd.own_blk (Kd.R_away HO_0.out (fun _ hk => hk)))) _).trans (hHeld.2.2.2.2.2.2.2.2.2))⟩ (fun hHeld => ?_)
                                        clear hK K
                                        refine pure_ (i := 14) (N := some 119) (v := ?_) (a' := ?_) #[true, true, true, true, true, true, true, true, true, true, true, true, true, true, true, false] rfl rfl (any_of HT_.out (by kernel_rfl)) (fun _ _ _ h => h) (Or.inl ⟨by rfl, ?_⟩) ?_ ?_
                                        rotate_left
                                        · intro w'
                                          go_simp
                                          with_reducible rfl
                                        rotate_left
                                        · simp only [Act.put, List.setIfInBounds_toArray, List.set_cons_zero, List.set_cons_succ, i64_w, i32_w]
                                          rfl
                                        refine one_ (i := 15) (N := none) #[true, true, true, true, true, true, true, true, true, true, true, true, true, true, true, true] rfl rfl (one_of HT_.out (by kernel_rfl)) (by decide) (fun K hK => ?_)
                                        have hs54 : w52.cell? ⟨gb125, 1, none⟩ = some (.int .i64 0) := (blk_cell BK125.out 1).trans rfl
                                        have hfs54 := blk_frozen BK125.out 1
                                        refine skip_ (w1 := ?_) (by rfl) rfl ?_ ?_
                                        rotate_left
                                        · go_simp
                                          rfl
                                        refine hK.out _ _ ⟨((cell_far (p := ⟨gb125, _, none⟩) (by first | exact Kd.own_blk (Kd.R_away HO_0.out (fun _ hk => hk)) | (rw [add_block]; exact Kd.own_blk (Kd.R_away HO_0.out (fun _ hk => hk))) | (show (Addr.add _ _).block ≠ _; rw [add_block]; exact Kd.own_blk (Kd.R_away HO_0.out (fun _ hk => hk))) | (dsimp only; exact Kd.own_blk (Kd.R_away HO_0.out (fun _ hk => hk)))) _).trans (hHeld.1)), ((cell_far (p := ⟨gb125, _, none⟩) (by first | exact Kd.own_blk (Kd.R_away HO_0.out (fun _ hk => hk)) | (rw [add_block]; exact Kd.own_blk (Kd.R_away HO_0.out (fun _ hk => hk))) | (show (Addr.add _ _).block ≠ _; rw [add_block]; exact Kd.own_blk (Kd.R_away HO_0.out (fun _ hk => hk))) | (dsimp only; exact Kd.own_blk (Kd.R_away HO_0.out (fun _ hk => hk)))) _).trans (hHeld.2.1)), ((cell_far (p := ⟨gb125, _, none⟩) (by first | exact Kd.own_blk (Kd.R_away HO_0.out (fun _ hk => hk)) | (rw [add_block]; exact Kd.own_blk (Kd.R_away HO_0.out (fun _ hk => hk))) | (show (Addr.add _ _).block ≠ _; rw [add_block]; exact Kd.own_blk (Kd.R_away HO_0.out (fun _ hk => hk))) | (dsimp only; exact Kd.own_blk (Kd.R_away HO_0.out (fun _ hk => hk)))) _).trans (hHeld.2.2.1)), ((cell_far (p := ⟨gb125, _, none⟩) (by first | exact Kd.own_blk (Kd.R_away HO_0.out (fun _ hk => hk)) | (rw [add_block]; exact Kd.own_blk (Kd.R_away HO_0.out (fun _ hk => hk))) | (show (Addr.add _ _).block ≠ _; rw [add_block]; exact Kd.own_blk (Kd.R_away HO_0.out (fun _ hk => hk))) | (dsimp only; exact Kd.own_blk (Kd.R_away HO_0.out (fun _ hk => hk)))) _).trans (hHeld.2.2.2.1)), ((cell_far (p := ⟨gb125, _, none⟩) (by first | exact Kd.own_blk (Kd.R_away HO_0.out (fun _ hk => hk)) | (rw [add_block]; exact Kd.own_blk (Kd.R_away HO_0.out (fun _ hk => hk))) | (show (Addr.add _ _).block ≠ _; rw [add_block]; exact Kd.own_blk (Kd.R_away HO_0.out (fun _ hk => hk))) | (dsimp only; exact Kd.own_blk (Kd.R_away HO_0.out (fun _ hk => hk)))) _).trans (hHeld.2.2.2.2.1)), ((cell_far (p := ⟨gb125, _, none⟩) (by first | exact Kd.own_blk (Kd.R_away HO_0.out (fun _ hk => hk)) | (rw [add_block]; exact Kd.own_blk (Kd.R_away HO_0.out (fun _ hk => hk))) | (show (Addr.add _ _).block ≠ _; rw [add_block]; exact Kd.own_blk (Kd.R_away HO_0.out (fun _ hk => hk))) | (dsimp only; exact Kd.own_blk (Kd.R_away HO_0.out (fun _ hk => hk)))) _).trans (hHeld.2.2.2.2.2.1)), ((cell_far (p := ⟨gb125, _, none⟩) (by first | exact Kd.own_blk (Kd.R_away HO_0.out (fun _ hk => hk)) | (rw [add_block]; exact Kd.own_blk (Kd.R_away HO_0.out (fun _ hk => hk))) | (show (Addr.add _ _).block ≠ _; rw [add_block]; exact Kd.own_blk (Kd.R_away HO_0.out (fun _ hk => hk))) | (dsimp only; exact Kd.own_blk (Kd.R_away HO_0.out (fun _ hk => hk)))) _).trans (hHeld.2.2.2.2.2.2.1)), ((cell_far (p := ⟨gb125, _, none⟩) (by first | exact Kd.own_blk (Kd.R_away HO_0.out (fun _ hk => hk)) | (rw [add_block]; exact Kd.own_blk (Kd.R_away HO_0.out (fun _ hk => hk))) | (show (Addr.add _ _).block ≠ _; rw [add_block]; exact Kd.own_blk (Kd.R_away HO_0.out (fun _ hk => hk))) | (dsimp only; exact Kd.own_blk (Kd.R_away HO_0.out (fun _ hk => hk)))) _).trans (hHeld.2.2.2.2.2.2.2.1)), ((cell_far (p := ⟨gb125, _, none⟩) (by first | exact Kd.own_blk (Kd.R_away HO_0.out (fun _ hk => hk)) | (rw [add_block]; exact Kd.own_blk (Kd.R_away HO_0.out (fun _ hk => hk))) | (show (Addr.add _ _).block ≠ _; rw [add_block]; exact Kd.own_blk (Kd.R_away HO_0.out (fun _ hk => hk))) | (dsimp only; exact Kd.own_blk (Kd.R_away HO_0.out (fun _ hk => hk)))) _).trans (hHeld.2.2.2.2.2.2.2.2.1)), ((cell_far (p := ⟨gb125, _, none⟩) (by first | exact Kd.own_blk (Kd.R_away HO_0.out (fun _ hk => hk)) | (rw [add_block]; exact Kd.own_blk (Kd.R_away HO_0.out (fun _ hk => hk))) | (show (Addr.add _ _).block ≠ _; rw [add_block]; exact Kd.own_blk (Kd.R_away HO_0.out (fun _ hk => hk))) | (dsimp only; exact Kd.own_blk (Kd.R_away HO_0.out (fun _ hk => hk)))) _).trans (hHeld.2.2.2.2.2.2.2.2.2))⟩ (fun hHeld => ?_)
                                        clear hK K
                                        refine done_ (done_of HT_.out (by kernel_rfl)) ?_
                                        have p128 : 0 ≤ ((ji42) : Int) := of_decide_eq_true (by first | (with_reducible assumption) | assumption)
                                        have q128 : (ji42) < (t111.length : Int) := of_decide_eq_true (by first | (with_reducible assumption) | assumption)
                                        obtain ⟨ad128, e128, hx128_0, hx128_1, hx128_2, hx128_3, hx128_4⟩ := at_T33 (Kd.R_reads' HO_0.out).2.2 (ji42) p128 q128
                                        obtain rfl : ad126 = ad128 := (by injection e128)
                                        have hn128_0 : ad126.block ≠ gb125 := Kd.own_blk (by first | exact Kd.R_away HO_0.out (fun _ hk => hk) | exact Kd.R_away HO_0.out (fun _ hk => hk.2) | exact Kd.R_ne HO_0.out BK125.out (by decide))
                                        have hn128_1 : ad126.block ≠ gb125 := Kd.own_blk (by first | exact Kd.R_away HO_0.out (fun _ hk => hk) | exact Kd.R_away HO_0.out (fun _ hk => hk.2) | exact Kd.R_ne HO_0.out BK125.out (by decide))
                                        replace hx128_0 := (cell_far (p := ⟨gb125, 0, none⟩) (by first | (rw [add_block]; exact hn128_0) | (show (Addr.add _ _).block ≠ _; rw [add_block]; exact hn128_0) | exact hn128_0) (.int .i64 ((rd_T33 t111 (ji42)).f0))).trans hx128_0
                                        replace hx128_1 := (cell_far (p := ⟨gb125, 0, none⟩) (by first | (rw [add_block]; exact hn128_0) | (show (Addr.add _ _).block ≠ _; rw [add_block]; exact hn128_0) | exact hn128_0) (.int .i64 ((rd_T33 t111 (ji42)).f0))).trans hx128_1
                                        replace hx128_2 := (cell_far (p := ⟨gb125, 0, none⟩) (by first | (rw [add_block]; exact hn128_0) | (show (Addr.add _ _).block ≠ _; rw [add_block]; exact hn128_0) | exact hn128_0) (.int .i64 ((rd_T33 t111 (ji42)).f0))).trans hx128_2
                                        replace hx128_3 := (cell_far (p := ⟨gb125, 0, none⟩) (by first | (rw [add_block]; exact hn128_0) | (show (Addr.add _ _).block ≠ _; rw [add_block]; exact hn128_0) | exact hn128_0) (.int .i64 ((rd_T33 t111 (ji42)).f0))).trans hx128_3
                                        replace hx128_4 := (cell_far (p := ⟨gb125, 0, none⟩) (by first | (rw [add_block]; exact hn128_0) | (show (Addr.add _ _).block ≠ _; rw [add_block]; exact hn128_0) | exact hn128_0) (.int .i64 ((rd_T33 t111 (ji42)).f0))).trans hx128_4
                                        replace hx128_0 := (cell_far (p := ⟨gb125, 1, none⟩) (by first | (rw [add_block]; exact hn128_1) | (show (Addr.add _ _).block ≠ _; rw [add_block]; exact hn128_1) | exact hn128_1) (.int .i64 ((rd_T33 t111 (ji42)).f1))).trans hx128_0
                                        replace hx128_1 := (cell_far (p := ⟨gb125, 1, none⟩) (by first | (rw [add_block]; exact hn128_1) | (show (Addr.add _ _).block ≠ _; rw [add_block]; exact hn128_1) | exact hn128_1) (.int .i64 ((rd_T33 t111 (ji42)).f1))).trans hx128_1
                                        replace hx128_2 := (cell_far (p := ⟨gb125, 1, none⟩) (by first | (rw [add_block]; exact hn128_1) | (show (Addr.add _ _).block ≠ _; rw [add_block]; exact hn128_1) | exact hn128_1) (.int .i64 ((rd_T33 t111 (ji42)).f1))).trans hx128_2
                                        replace hx128_3 := (cell_far (p := ⟨gb125, 1, none⟩) (by first | (rw [add_block]; exact hn128_1) | (show (Addr.add _ _).block ≠ _; rw [add_block]; exact hn128_1) | exact hn128_1) (.int .i64 ((rd_T33 t111 (ji42)).f1))).trans hx128_3
                                        replace hx128_4 := (cell_far (p := ⟨gb125, 1, none⟩) (by first | (rw [add_block]; exact hn128_1) | (show (Addr.add _ _).block ≠ _; rw [add_block]; exact hn128_1) | exact hn128_1) (.int .i64 ((rd_T33 t111 (ji42)).f1))).trans hx128_4
                                        clear hn128_0
                                        clear hn128_1
                                        replace p128 := eq_true p128
                                        replace q128 := eq_true q128
                                        try go_wp2
                                        have n0_ : Aside0 (Kd.R k33 33 ((w52.setCell ⟨gb125, 0, none⟩ (.int .i64 ((rd_T33 t111 (ji42)).f0))).setCell ⟨gb125, 1, none⟩ (.int .i64 ((rd_T33 t111 (ji42)).f1))) w.heap.size (fun k_ => k_ ≠ gb125) (.slice (some ad126) t111.length co9) t111) := ⟨by (with_reducible repeat (first | apply Kd.R_alloc | apply Kd.R_drewN | apply Kd.R_drew)); exact Kd.R_mono (Kd.R_far (p := ⟨gb125, 1, none⟩) (Kd.R_far (p := ⟨gb125, 0, none⟩) (Kd.R_mono HO_0.out (fun k_ hk => (⟨hk, hk⟩ : _ ∧ k_ ≠ gb125))) (fun _ hk => hk.2) (.int .i64 ((rd_T33 t111 (ji42)).f0))) (fun _ hk => hk.2) (.int .i64 ((rd_T33 t111 (ji42)).f1))) (fun _ hk => hk.1)⟩
                                        have n1_ : Aside0 (((w52.setCell ⟨gb125, 0, none⟩ (.int .i64 ((rd_T33 t111 (ji42)).f0))).setCell ⟨gb125, 1, none⟩ (.int .i64 ((rd_T33 t111 (ji42)).f1))).heap[gb125]? = some (.cells #[.int .i64 ((rd_T33 t111 (ji42)).f0), .int .i64 ((rd_T33 t111 (ji42)).f1), .int .i64 (Int.tmod (wrap64 ((Int.tmod a2 8) + 8)) 8), .int .i64 0, .int .i64 (Int.tmod (wrap64 ((Int.tmod a3 4) + 4)) 4)] 33 (0, 0))) := ⟨by (with_reducible repeat (first | refine blk_drewN ?_ _ | refine blk_drew ?_ | refine blk_alloc ?_ _)); refine blk_put (cs := #[.int .i64 ((rd_T33 t111 (ji42)).f0), .int .i64 0, .int .i64 (Int.tmod (wrap64 ((Int.tmod a2 8) + 8)) 8), .int .i64 0, .int .i64 (Int.tmod (wrap64 ((Int.tmod a3 4) + 4)) 4)]) ?_ 1 _ rfl; (with_reducible repeat (first | refine blk_drewN ?_ _ | refine blk_drew ?_ | refine blk_alloc ?_ _)); refine blk_put (cs := #[.int .i64 0, .int .i64 0, .int .i64 (Int.tmod (wrap64 ((Int.tmod a2 8) + 8)) 8), .int .i64 0, .int .i64 (Int.tmod (wrap64 ((Int.tmod a3 4) + 4)) 4)]) ?_ 0 _ rfl; (with_reducible repeat (first | refine blk_drewN ?_ _ | refine blk_drew ?_ | refine blk_alloc ?_ _)); exact BK125.out⟩
                                        have n2_ : Aside0 (Below w.heap.size w ((w52.setCell ⟨gb125, 0, none⟩ (.int .i64 ((rd_T33 t111 (ji42)).f0))).setCell ⟨gb125, 1, none⟩ (.int .i64 ((rd_T33 t111 (ji42)).f1)))) := ⟨by repeat (first | (with_reducible first | exact HB.out | apply below_alloc | apply pw_below_drewN | apply below_drew1 | refine below_set ?_ GE125.out) | exact HB.out)⟩
                                        (try clear HO_0)
                                        (try clear BK125)
                                        (try clear HB)
                                        generalize ((w52.setCell ⟨gb125, 0, none⟩ (.int .i64 ((rd_T33 t111 (ji42)).f0))).setCell ⟨gb125, 1, none⟩ (.int .i64 ((rd_T33 t111 (ji42)).f1))) = w55 at n0_ n1_ n2_ ⊢
                                        have HO_0 := n0_
                                        have BK125 := n1_
                                        have HB := n2_
                                        clear n0_ n1_ n2_
                                        have n0_ := Aside0.mk (Kd.R_drew HO_0.out)
                                        have n1_ := Aside0.mk (blk_drew BK125.out)
                                        have n2_ := Aside0.mk (below_drew1 HB.out)
                                        clear HO_0
                                        clear BK125
                                        clear HB
                                        have HO_0 := n0_
                                        have BK125 := n1_
                                        have HB := n2_
                                        clear n0_ n1_ n2_
                                        refine start_ (n := 10) (S := fun w' => w'.cell? ⟨gb125, 0, none⟩ = some (.int .i64 ((rd_T33 t111 (ji42)).f0)) ∧ w'.cell? ⟨gb125, 1, none⟩ = some (.int .i64 ((rd_T33 t111 (ji42)).f1)) ∧ w'.cell? ⟨gb125, 2, none⟩ = some (.int .i64 (Int.tmod (wrap64 ((Int.tmod a2 8) + 8)) 8)) ∧ w'.cell? ⟨gb125, 3, none⟩ = some (.int .i64 0) ∧ w'.cell? ⟨gb125, 4, none⟩ = some (.int .i64 (Int.tmod (wrap64 ((Int.tmod a3 4) + 4)) 4))) (ds := []) #[false, false, false, false, false, false, false, false, false, false] (by kernel_rfl) rfl rfl ⟨(blk_cell BK125.out 0).trans rfl, (blk_cell BK125.out 1).trans rfl, (blk_cell BK125.out 2).trans rfl, (blk_cell BK125.out 3).trans rfl, (blk_cell BK125.out 4).trans rfl⟩ (fun hHeld => ?_); refine with_tabW judgeParts_b.tab20 judgeParts_b.bits20 (fun HT_ HW_ => ?_)
                                        generalize w55.drew = w56 at HO_0 BK125 HB hHeld ⊢
                                        refine pure_ (i := 1) (N := some 129) (v := ?_) (a' := ?_) #[false, true, false, false, false, false, false, false, false, false] rfl rfl (any_of HT_.out (by kernel_rfl)) (fun _ _ _ h => h) (Or.inl ⟨by rfl, ?_⟩) ?_ ?_
                                        rotate_left
                                        · intro w'
                                          go_simp
                                          with_reducible rfl
                                        rotate_left
                                        · simp only [Act.put, List.setIfInBounds_toArray, List.set_cons_zero, List.set_cons_succ, i64_w, i32_w]
                                          rfl
                                        refine pure_ (i := 7) (N := some 135) (v := ?_) (a' := ?_) #[false, true, false, false, false, false, false, true, false, false] rfl rfl (any_of HT_.out (by kernel_rfl)) (fun _ _ _ h => h) (Or.inl ⟨by rfl, ?_⟩) ?_ ?_
                                        rotate_left
                                        · intro w'
                                          go_simp
                                          with_reducible rfl
                                        rotate_left
                                        · simp only [Act.put, List.setIfInBounds_toArray, List.set_cons_zero, List.set_cons_succ, i64_w, i32_w]
                                          rfl
                                        refine take_ (i := 3) (N := some 131) (v := ?_) (a' := ?_) #[false, true, false, true, false, false, false, true, false, false] rfl rfl (take_ofW HT_.out HW_.out (by kernel_rfl)) (fun _ _ _ h => h) (Or.inl ⟨by rfl, ?_⟩) hHeld ?_ ?_
                                        rotate_left
                                        · rintro w' ⟨s0, s1, s2, s3, s4⟩
                                          go_simp
                                          with_reducible rfl
                                        rotate_left
                                        · simp only [Act.put, List.setIfInBounds_toArray, List.set_cons_zero, List.set_cons_succ, i64_w, i32_w]
                                          rfl
                                        refine join_ (σ := Value × Value × Value) 4 #[true, true, true, true, true, false, false, true, false, false] (fun s_ => [(128, s_.1), (130, s_.2.1), (132, s_.2.2)]) (fun s_ w' => (w'.cell? ⟨gb125, 0, none⟩ = some (.int .i64 ((rd_T33 t111 (ji42)).f0)) ∧ w'.cell? ⟨gb125, 1, none⟩ = some (.int .i64 ((rd_T33 t111 (ji42)).f1)) ∧ w'.cell? ⟨gb125, 2, none⟩ = some (.int .i64 (Int.tmod (wrap64 ((Int.tmod a2 8) + 8)) 8)) ∧ w'.cell? ⟨gb125, 3, none⟩ = some (.int .i64 0) ∧ w'.cell? ⟨gb125, 4, none⟩ = some (.int .i64 (Int.tmod (wrap64 ((Int.tmod a3 4) + 4)) 4))) ∧ (Kd.R k33 33 w' w.heap.size (fun k_ => some k_ ≠ (s_.2.2 : Value).ownBlock ∧ some k_ ≠ (.slice (some ad126) t111.length co9 : Value).ownBlock ∧ k_ ≠ gb125) s_.2.1 y132) ∧ (Kd.R k33 33 w' w.heap.size (fun k_ => some k_ ≠ (s_.2.1 : Value).ownBlock ∧ some k_ ≠ (.slice (some ad126) t111.length co9 : Value).ownBlock ∧ k_ ≠ gb125) s_.2.2 y135) ∧ (Kd.R k33 33 w' w.heap.size (fun k_ => some k_ ≠ (s_.2.1 : Value).ownBlock ∧ some k_ ≠ (s_.2.2 : Value).ownBlock ∧ k_ ≠ gb125) (.slice (some ad126) t111.length co9) t111) ∧ (w'.heap[gb125]? = some (.cells #[.int .i64 ((rd_T33 t111 (ji42)).f0), .int .i64 ((rd_T33 t111 (ji42)).f1), .int .i64 (Int.tmod (wrap64 ((Int.tmod a2 8) + 8)) 8), .int .i64 0, .int .i64 (Int.tmod (wrap64 ((Int.tmod a3 4) + 4)) 4)] 33 (0, 0))) ∧ (Below w.heap.size w w')) ?_ ?_
                                        rotate_left
                                        · intro hCont
                                          refine two_ (i := 0) (j := 4) (Ni := some 128) (Nj := some 132) #[true, true, false, true, false, false, false, true, false, false] #[false, true, false, true, true, false, false, true, false, false] rfl rfl rfl rfl (two_of HT_.out (by kernel_rfl)) (by decide) (by decide) (fun K hK => ?_) (fun K hK => ?_)
                                          · skip
                                            refine Kd.R_lit_step k33 _ 33 ?hg (N := 128) ?hd (xs := ([] : List (S33))) (inner := []) (ok := fun _ => True) (okp := fun _ => True) ?hr ?hp (fun _ hk => hk) trivial (Below.refl _ _) (Nat.le_refl _) (by simp) ?_; (case hd => rfl); (case hg => rfl); (case hr => first | (go_simp; done) | (go_simp; rfl)); (case hp => exact (Reps.none _ _))
                                            intro v130 w57 ho58 hb hg_ hnew_
                                            clear hg_ hnew_
                                            (first | rw [← Ny129.out] at ho58 | (simp only [Int.reduceToNat] at ho58; rw [← Ny129.out] at ho58))
                                            have n0_ := Aside0.mk (Kd.R_elder' (by (with_reducible repeat (first | apply Kd.R_alloc | apply Kd.R_drewN | apply Kd.R_drew)); exact HO_0.out) (Kd.R_base ho58) hb)
                                            have n1_ := Aside0.mk (Kd.R_lower (Kd.R_newB (Kd.R_new' ho58 (Kd.R_lt (by (with_reducible repeat (first | apply Kd.R_alloc | apply Kd.R_drewN | apply Kd.R_drew)); exact HO_0.out))) (g := gb125) (o := .cells #[.int .i64 ((rd_T33 t111 (ji42)).f0), .int .i64 ((rd_T33 t111 (ji42)).f1), .int .i64 (Int.tmod (wrap64 ((Int.tmod a2 8) + 8)) 8), .int .i64 0, .int .i64 (Int.tmod (wrap64 ((Int.tmod a3 4) + 4)) 4)] 33 (0, 0)) (by (with_reducible repeat (first | refine blk_drewN ?_ _ | refine blk_drew ?_ | refine blk_alloc ?_ _)); exact BK125.out)) (below_size (by repeat (first | (with_reducible first | exact HB.out | apply below_alloc | apply pw_below_drewN | apply below_drew1 | refine below_set ?_ GE125.out) | exact HB.out))))
                                            have n2_ := Aside0.mk (blk_below (g := gb125) (o := .cells #[.int .i64 ((rd_T33 t111 (ji42)).f0), .int .i64 ((rd_T33 t111 (ji42)).f1), .int .i64 (Int.tmod (wrap64 ((Int.tmod a2 8) + 8)) 8), .int .i64 0, .int .i64 (Int.tmod (wrap64 ((Int.tmod a3 4) + 4)) 4)] 33 (0, 0)) (by (with_reducible repeat (first | refine blk_drewN ?_ _ | refine blk_drew ?_ | refine blk_alloc ?_ _)); exact BK125.out) hb)
                                            have n3_ := Aside0.mk (below_step (by repeat (first | (with_reducible first | exact HB.out | apply below_alloc | apply pw_below_drewN | apply below_drew1 | refine below_set ?_ GE125.out) | exact HB.out)) hb)
                                            clear HO_0
                                            clear BK125
                                            clear HB
                                            have HO_0 := n0_
                                            have HO131 := n1_
                                            have BK125 := n2_
                                            have HB := n3_
                                            clear n0_ n1_ n2_ n3_
                                            clear hb ho58
                                            refine hK.out _ _ ⟨(blk_cell BK125.out 0).trans rfl, (blk_cell BK125.out 1).trans rfl, (blk_cell BK125.out 2).trans rfl, (blk_cell BK125.out 3).trans rfl, (blk_cell BK125.out 4).trans rfl⟩ (fun hHeld => ?_)
                                            clear hK K
                                            refine norm_ (a' := ?_) ?_ ?_
                                            rotate_left
                                            · show Act.put _ (some 128) _ = _
                                              simp only [Act.put, List.setIfInBounds_toArray, List.set_cons_zero, List.set_cons_succ, i64_w, i32_w]
                                              rfl
                                            refine two_ (i := 2) (j := 4) (Ni := some 130) (Nj := some 132) #[true, true, true, true, false, false, false, true, false, false] #[true, true, false, true, true, false, false, true, false, false] rfl rfl rfl rfl (two_of HT_.out (by kernel_rfl)) (by decide) (by decide) (fun K hK => ?_) (fun K hK => ?_)
                                            · skip
                                              refine Kd.R_append_rows_step k33 (w0 := w) w.heap.size (by rfl) (.tmp 128) (.tmp 129) 22 33 (.agg #[(.int .i64 0), (.int .i64 0), (.int .i64 0), (.int .i64 0), (.int .i64 0)]) 40 rfl Try.underlying22 info33 rfl (by decide) (by omega) v130 y129 t111 _ _ _ (fun k_ => some k_ ≠ (.slice (some ad126) t111.length co9 : Value).ownBlock ∧ k_ ≠ gb125) (fun _ => False) rfl rfl ?aO ?aR (fun _ _ h => h) (fun _ h => h.elim) ?aF ?aB ?aS ?aL ?_
                                              (case aR => repeat (first | exact (Kd.R_reads' HO_0.out).2.2 | (with_reducible refine Kd.C_alloc ?_ _) | (with_reducible refine Kd.C_drewN ?_ _) | (with_reducible refine Kd.C_drew ?_)))
                                              (case aB => exact (by repeat (first | (with_reducible first | exact HB.out | apply below_alloc | apply pw_below_drewN | apply below_drew1 | refine below_set ?_ GE125.out) | exact HB.out)))
                                              (case aF => exact (fun k_ hk => ⟨Kd.fresh' (Kd.R_lt (by (with_reducible repeat (first | apply Kd.R_alloc | apply Kd.R_drewN | apply Kd.R_drew)); exact HO_0.out)) k_ hk, Kd.freshB (g := gb125) (o := .cells #[.int .i64 ((rd_T33 t111 (ji42)).f0), .int .i64 ((rd_T33 t111 (ji42)).f1), .int .i64 (Int.tmod (wrap64 ((Int.tmod a2 8) + 8)) 8), .int .i64 0, .int .i64 (Int.tmod (wrap64 ((Int.tmod a3 4) + 4)) 4)] 33 (0, 0)) (by (with_reducible repeat (first | refine blk_drewN ?_ _ | refine blk_drew ?_ | refine blk_alloc ?_ _)); exact BK125.out) k_ hk⟩))
                                              (case aO => exact (by (with_reducible repeat (first | apply Kd.R_alloc | apply Kd.R_drewN | apply Kd.R_drew)); exact Kd.R_mono HO131.out (fun _ hk => ⟨hk.1.2, hk.2⟩)))
                                              (case aS => exact (below_size (by repeat (first | (with_reducible first | exact HB.out | apply below_alloc | apply pw_below_drewN | apply below_drew1 | refine below_set ?_ GE125.out) | exact HB.out))))
                                              (case aL => have := LMc46.out; omega)
                                              intro v133 w59 ho hb hg hat
                                              rw [← Ny132.out] at ho
                                              have n0_ := Aside0.mk (Kd.R_after (ok := (fun k_ => k_ ≠ gb125)) (by (with_reducible repeat (first | apply Kd.R_alloc | apply Kd.R_drewN | apply Kd.R_drew)); exact HO_0.out) hg hat)
                                              have n1_ := Aside0.mk (blk_grown (g := gb125) (o := .cells #[.int .i64 ((rd_T33 t111 (ji42)).f0), .int .i64 ((rd_T33 t111 (ji42)).f1), .int .i64 (Int.tmod (wrap64 ((Int.tmod a2 8) + 8)) 8), .int .i64 0, .int .i64 (Int.tmod (wrap64 ((Int.tmod a3 4) + 4)) 4)] 33 (0, 0)) (by (with_reducible repeat (first | refine blk_drewN ?_ _ | refine blk_drew ?_ | refine blk_alloc ?_ _)); exact BK125.out) hg (Kd.R_away HO131.out (fun _ hk => hk.2)))
                                              have n2_ := Aside0.mk (hb)
                                              have n3_ := Aside0.mk (ho)
                                              clear HO_0
                                              clear BK125
                                              clear HB
                                              clear HO131
                                              have HO_0 := n0_
                                              have BK125 := n1_
                                              have HB := n2_
                                              have HO134 := n3_
                                              clear n0_ n1_ n2_ n3_
                                              clear ho hb hg hat
                                              refine hK.out _ _ ⟨(blk_cell BK125.out 0).trans rfl, (blk_cell BK125.out 1).trans rfl, (blk_cell BK125.out 2).trans rfl, (blk_cell BK125.out 3).trans rfl, (blk_cell BK125.out 4).trans rfl⟩ (fun hHeld => ?_)
                                              clear hK K
                                              refine norm_ (a' := ?_) ?_ ?_
                                              rotate_left
                                              · show Act.put _ (some 130) _ = _
                                                simp only [Act.put, List.setIfInBounds_toArray, List.set_cons_zero, List.set_cons_succ, i64_w, i32_w]
                                                rfl
                                              refine one_ (i := 4) (N := some 132) #[true, true, true, true, true, false, false, true, false, false] rfl rfl (one_of HT_.out (by kernel_rfl)) (by decide) (fun K hK => ?_)
                                              refine Kd.R_lit_step k33 _ 33 ?hg (N := 132) ?hd (xs := ([(⟨(rd_T33 t111 (ji42)).f0, (rd_T33 t111 (ji42)).f1, (⟨(Int.tmod (wrap64 ((Int.tmod a2 8) + 8)) 8), 0, (Int.tmod (wrap64 ((Int.tmod a3 4) + 4)) 4)⟩ : S31)⟩ : S33)] : List (S33))) (inner := [.int .i64 ((rd_T33 t111 (ji42)).f0), .int .i64 ((rd_T33 t111 (ji42)).f1), .int .i64 (Int.tmod (wrap64 ((Int.tmod a2 8) + 8)) 8), .int .i64 0, .int .i64 (Int.tmod (wrap64 ((Int.tmod a3 4) + 4)) 4)]) (ok := fun _ => True) (okp := fun _ => True) ?hr ?hp (fun _ hk => hk) trivial (Below.refl _ _) (Nat.le_refl _) (by simp) ?_; (case hd => rfl); (case hg => rfl); (case hr => first | (go_simp; done) | (go_simp; rfl)); (case hp => exact (Reps.c5 (show Kd.M k33 _ _ _ (⟨(rd_T33 t111 (ji42)).f0, (rd_T33 t111 (ji42)).f1, (⟨(Int.tmod (wrap64 ((Int.tmod a2 8) + 8)) 8), 0, (Int.tmod (wrap64 ((Int.tmod a3 4) + 4)) 4)⟩ : S31)⟩ : S33) [.int .i64 ((rd_T33 t111 (ji42)).f0), .int .i64 ((rd_T33 t111 (ji42)).f1), .int .i64 (Int.tmod (wrap64 ((Int.tmod a2 8) + 8)) 8), .int .i64 0, .int .i64 (Int.tmod (wrap64 ((Int.tmod a3 4) + 4)) 4)] from (k33_mkM _ _ _ (⟨(rd_T33 t111 (ji42)).f0, (rd_T33 t111 (ji42)).f1, (⟨(Int.tmod (wrap64 ((Int.tmod a2 8) + 8)) 8), 0, (Int.tmod (wrap64 ((Int.tmod a3 4) + 4)) 4)⟩ : S31)⟩ : S33) )) (Reps.none _ _)))
                                              intro v136 w60 ho61 hb hg_ hnew_
                                              clear hg_ hnew_
                                              (first | rw [← Ny135.out] at ho61 | (simp only [Int.reduceToNat] at ho61; rw [← Ny135.out] at ho61))
                                              have n0_ := Aside0.mk (Kd.R_elder' (by (with_reducible repeat (first | apply Kd.R_alloc | apply Kd.R_drewN | apply Kd.R_drew)); exact HO_0.out) (Kd.R_base ho61) hb)
                                              have n1_ := Aside0.mk (Kd.R_elder' (by (with_reducible repeat (first | apply Kd.R_alloc | apply Kd.R_drewN | apply Kd.R_drew)); exact HO134.out) (Kd.R_base ho61) hb)
                                              have n2_ := Aside0.mk (Kd.R_lower (Kd.R_newB (Kd.R_new' (Kd.R_new' ho61 (Kd.R_lt (by (with_reducible repeat (first | apply Kd.R_alloc | apply Kd.R_drewN | apply Kd.R_drew)); exact HO_0.out))) (Kd.R_lt (by (with_reducible repeat (first | apply Kd.R_alloc | apply Kd.R_drewN | apply Kd.R_drew)); exact HO134.out))) (g := gb125) (o := .cells #[.int .i64 ((rd_T33 t111 (ji42)).f0), .int .i64 ((rd_T33 t111 (ji42)).f1), .int .i64 (Int.tmod (wrap64 ((Int.tmod a2 8) + 8)) 8), .int .i64 0, .int .i64 (Int.tmod (wrap64 ((Int.tmod a3 4) + 4)) 4)] 33 (0, 0)) (by (with_reducible repeat (first | refine blk_drewN ?_ _ | refine blk_drew ?_ | refine blk_alloc ?_ _)); exact BK125.out)) (below_size (by repeat (first | (with_reducible first | exact HB.out | apply below_alloc | apply pw_below_drewN | apply below_drew1 | refine below_set ?_ GE125.out) | exact HB.out))))
                                              have n3_ := Aside0.mk (blk_below (g := gb125) (o := .cells #[.int .i64 ((rd_T33 t111 (ji42)).f0), .int .i64 ((rd_T33 t111 (ji42)).f1), .int .i64 (Int.tmod (wrap64 ((Int.tmod a2 8) + 8)) 8), .int .i64 0, .int .i64 (Int.tmod (wrap64 ((Int.tmod a3 4) + 4)) 4)] 33 (0, 0)) (by (with_reducible repeat (first | refine blk_drewN ?_ _ | refine blk_drew ?_ | refine blk_alloc ?_ _)); exact BK125.out) hb)
                                              have n4_ := Aside0.mk (below_step (by repeat (first | (with_reducible first | exact HB.out | apply below_alloc | apply pw_below_drewN | apply below_drew1 | refine below_set ?_ GE125.out) | exact HB.out)) hb)
                                              clear HO_0
                                              clear HO134
                                              clear BK125
                                              clear HB
                                              have HO_0 := n0_
                                              have HO134 := n1_
                                              have HO137 := n2_
                                              have BK125 := n3_
                                              have HB := n4_
                                              clear n0_ n1_ n2_ n3_ n4_
                                              clear hb ho61
                                              refine hK.out _ _ ⟨(blk_cell BK125.out 0).trans rfl, (blk_cell BK125.out 1).trans rfl, (blk_cell BK125.out 2).trans rfl, (blk_cell BK125.out 3).trans rfl, (blk_cell BK125.out 4).trans rfl⟩ (fun hHeld => ?_)
                                              clear hK K
                                              refine norm_ (a' := ?_) ?_ ?_
                                              rotate_left
                                              · show Act.put _ (some 132) _ = _
                                                simp only [Act.put, List.setIfInBounds_toArray, List.set_cons_zero, List.set_cons_succ, i64_w, i32_w]
                                                rfl
                                              exact norm_ (by simp only [putAll, Act.put, List.setIfInBounds_toArray, List.set_cons_zero, List.set_cons_succ]) (hCont (v130, v133, v136) _ ⟨hHeld, (by (with_reducible repeat (first | apply Kd.R_alloc | apply Kd.R_drewN | apply Kd.R_drew)); exact Kd.R_mono HO134.out (fun _ hk => ⟨hk.2, ⟨hk.1.1, hk.1.2⟩⟩)), (by (with_reducible repeat (first | apply Kd.R_alloc | apply Kd.R_drewN | apply Kd.R_drew)); exact Kd.R_mono HO137.out (fun _ hk => ⟨hk.1.2, ⟨hk.1.1.2, hk.2⟩⟩)), (by (with_reducible repeat (first | apply Kd.R_alloc | apply Kd.R_drewN | apply Kd.R_drew)); exact Kd.R_mono HO_0.out (fun _ hk => ⟨hk.1.2, ⟨hk.2, hk.1.1⟩⟩)), (by (with_reducible repeat (first | refine blk_drewN ?_ _ | refine blk_drew ?_ | refine blk_alloc ?_ _)); exact BK125.out), (by repeat (first | (with_reducible first | exact HB.out | apply below_alloc | apply pw_below_drewN | apply below_drew1 | refine below_set ?_ GE125.out) | exact HB.out))⟩)
                                            · skip
                                              refine Kd.R_lit_step k33 _ 33 ?hg (N := 132) ?hd (xs := ([(⟨(rd_T33 t111 (ji42)).f0, (rd_T33 t111 (ji42)).f1, (⟨(Int.tmod (wrap64 ((Int.tmod a2 8) + 8)) 8), 0, (Int.tmod (wrap64 ((Int.tmod a3 4) + 4)) 4)⟩ : S31)⟩ : S33)] : List (S33))) (inner := [.int .i64 ((rd_T33 t111 (ji42)).f0), .int .i64 ((rd_T33 t111 (ji42)).f1), .int .i64 (Int.tmod (wrap64 ((Int.tmod a2 8) + 8)) 8), .int .i64 0, .int .i64 (Int.tmod (wrap64 ((Int.tmod a3 4) + 4)) 4)]) (ok := fun _ => True) (okp := fun _ => True) ?hr ?hp (fun _ hk => hk) trivial (Below.refl _ _) (Nat.le_refl _) (by simp) ?_; (case hd => rfl); (case hg => rfl); (case hr => first | (go_simp; done) | (go_simp; rfl)); (case hp => exact (Reps.c5 (show Kd.M k33 _ _ _ (⟨(rd_T33 t111 (ji42)).f0, (rd_T33 t111 (ji42)).f1, (⟨(Int.tmod (wrap64 ((Int.tmod a2 8) + 8)) 8), 0, (Int.tmod (wrap64 ((Int.tmod a3 4) + 4)) 4)⟩ : S31)⟩ : S33) [.int .i64 ((rd_T33 t111 (ji42)).f0), .int .i64 ((rd_T33 t111 (ji42)).f1), .int .i64 (Int.tmod (wrap64 ((Int.tmod a2 8) + 8)) 8), .int .i64 0, .int .i64 (Int.tmod (wrap64 ((Int.tmod a3 4) + 4)) 4)] from (k33_mkM _ _ _ (⟨(rd_T33 t111 (ji42)).f0, (rd_T33 t111 (ji42)).f1, (⟨(Int.tmod (wrap64 ((Int.tmod a2 8) + 8)) 8), 0, (Int.tmod (wrap64 ((Int.tmod a3 4) + 4)) 4)⟩ : S31)⟩ : S33) )) (Reps.none _ _)))
                                              intro v136 w59 ho60 hb hg_ hnew_
                                              clear hg_ hnew_
                                              (first | rw [← Ny135.out] at ho60 | (simp only [Int.reduceToNat] at ho60; rw [← Ny135.out] at ho60))
                                              have n0_ := Aside0.mk (Kd.R_elder' (by (with_reducible repeat (first | apply Kd.R_alloc | apply Kd.R_drewN | apply Kd.R_drew)); exact HO_0.out) (Kd.R_base ho60) hb)
                                              have n1_ := Aside0.mk (Kd.R_elder' (by (with_reducible repeat (first | apply Kd.R_alloc | apply Kd.R_drewN | apply Kd.R_drew)); exact HO131.out) (Kd.R_base ho60) hb)
                                              have n2_ := Aside0.mk (Kd.R_lower (Kd.R_newB (Kd.R_new' (Kd.R_new' ho60 (Kd.R_lt (by (with_reducible repeat (first | apply Kd.R_alloc | apply Kd.R_drewN | apply Kd.R_drew)); exact HO_0.out))) (Kd.R_lt (by (with_reducible repeat (first | apply Kd.R_alloc | apply Kd.R_drewN | apply Kd.R_drew)); exact HO131.out))) (g := gb125) (o := .cells #[.int .i64 ((rd_T33 t111 (ji42)).f0), .int .i64 ((rd_T33 t111 (ji42)).f1), .int .i64 (Int.tmod (wrap64 ((Int.tmod a2 8) + 8)) 8), .int .i64 0, .int .i64 (Int.tmod (wrap64 ((Int.tmod a3 4) + 4)) 4)] 33 (0, 0)) (by (with_reducible repeat (first | refine blk_drewN ?_ _ | refine blk_drew ?_ | refine blk_alloc ?_ _)); exact BK125.out)) (below_size (by repeat (first | (with_reducible first | exact HB.out | apply below_alloc | apply pw_below_drewN | apply below_drew1 | refine below_set ?_ GE125.out) | exact HB.out))))
                                              have n3_ := Aside0.mk (blk_below (g := gb125) (o := .cells #[.int .i64 ((rd_T33 t111 (ji42)).f0), .int .i64 ((rd_T33 t111 (ji42)).f1), .int .i64 (Int.tmod (wrap64 ((Int.tmod a2 8) + 8)) 8), .int .i64 0, .int .i64 (Int.tmod (wrap64 ((Int.tmod a3 4) + 4)) 4)] 33 (0, 0)) (by (with_reducible repeat (first | refine blk_drewN ?_ _ | refine blk_drew ?_ | refine blk_alloc ?_ _)); exact BK125.out) hb)
                                              have n4_ := Aside0.mk (below_step (by repeat (first | (with_reducible first | exact HB.out | apply below_alloc | apply pw_below_drewN | apply below_drew1 | refine below_set ?_ GE125.out) | exact HB.out)) hb)
                                              clear HO_0
                                              clear HO131
                                              clear BK125
                                              clear HB
                                              have HO_0 := n0_
                                              have HO131 := n1_
                                              have HO137 := n2_
                                              have BK125 := n3_
                                              have HB := n4_
                                              clear n0_ n1_ n2_ n3_ n4_
                                              clear hb ho60
                                              refine hK.out _ _ ⟨(blk_cell BK125.out 0).trans rfl, (blk_cell BK125.out 1).trans rfl, (blk_cell BK125.out 2).trans rfl, (blk_cell BK125.out 3).trans rfl, (blk_cell BK125.out 4).trans rfl⟩ (fun hHeld => ?_)
                                              clear hK K
                                              refine norm_ (a' := ?_) ?_ ?_
                                              rotate_left
                                              · show Act.put _ (some 132) _ = _
                                                simp only [Act.put, List.setIfInBounds_toArray, List.set_cons_zero, List.set_cons_succ, i64_w, i32_w]
                                                rfl
                                              refine one_ (i := 2) (N := some 130) #[true, true, true, true, true, false, false, true, false, false] rfl rfl (one_of HT_.out (by kernel_rfl)) (by decide) (fun K hK => ?_)
                                              refine Kd.R_append_rows_step k33 (w0 := w) w.heap.size (by rfl) (.tmp 128) (.tmp 129) 22 33 (.agg #[(.int .i64 0), (.int .i64 0), (.int .i64 0), (.int .i64 0), (.int .i64 0)]) 40 rfl Try.underlying22 info33 rfl (by decide) (by omega) v130 y129 t111 _ _ _ (fun k_ => some k_ ≠ (.slice (some ad126) t111.length co9 : Value).ownBlock ∧ some k_ ≠ (v136 : Value).ownBlock ∧ k_ ≠ gb125) (fun _ => False) rfl rfl ?aO ?aR (fun _ _ h => h) (fun _ h => h.elim) ?aF ?aB ?aS ?aL ?_
                                              (case aR => repeat (first | exact (Kd.R_reads' HO_0.out).2.2 | (with_reducible refine Kd.C_alloc ?_ _) | (with_reducible refine Kd.C_drewN ?_ _) | (with_reducible refine Kd.C_drew ?_)))
                                              (case aB => exact (by repeat (first | (with_reducible first | exact HB.out | apply below_alloc | apply pw_below_drewN | apply below_drew1 | refine below_set ?_ GE125.out) | exact HB.out)))
                                              (case aF => exact (fun k_ hk => ⟨Kd.fresh' (Kd.R_lt (by (with_reducible repeat (first | apply Kd.R_alloc | apply Kd.R_drewN | apply Kd.R_drew)); exact HO_0.out)) k_ hk, Kd.fresh' (Kd.R_lt (by (with_reducible repeat (first | apply Kd.R_alloc | apply Kd.R_drewN | apply Kd.R_drew)); exact HO137.out)) k_ hk, Kd.freshB (g := gb125) (o := .cells #[.int .i64 ((rd_T33 t111 (ji42)).f0), .int .i64 ((rd_T33 t111 (ji42)).f1), .int .i64 (Int.tmod (wrap64 ((Int.tmod a2 8) + 8)) 8), .int .i64 0, .int .i64 (Int.tmod (wrap64 ((Int.tmod a3 4) + 4)) 4)] 33 (0, 0)) (by (with_reducible repeat (first | refine blk_drewN ?_ _ | refine blk_drew ?_ | refine blk_alloc ?_ _)); exact BK125.out) k_ hk⟩))
                                              (case aO => exact (by (with_reducible repeat (first | apply Kd.R_alloc | apply Kd.R_drewN | apply Kd.R_drew)); exact Kd.R_mono HO131.out (fun _ hk => ⟨hk.1.1.2, ⟨hk.2, hk.1.2⟩⟩)))
                                              (case aS => exact (below_size (by repeat (first | (with_reducible first | exact HB.out | apply below_alloc | apply pw_below_drewN | apply below_drew1 | refine below_set ?_ GE125.out) | exact HB.out))))
                                              (case aL => have := LMc46.out; omega)
                                              intro v133 w61 ho hb hg hat
                                              rw [← Ny132.out] at ho
                                              have n0_ := Aside0.mk (Kd.R_after (ok := (fun k_ => some k_ ≠ (v136 : Value).ownBlock ∧ k_ ≠ gb125)) (by (with_reducible repeat (first | apply Kd.R_alloc | apply Kd.R_drewN | apply Kd.R_drew)); exact Kd.R_mono HO_0.out (fun _ hk => ⟨⟨hk.2, hk.1.1⟩, hk.1.2⟩)) hg hat)
                                              have n1_ := Aside0.mk (blk_grown (g := gb125) (o := .cells #[.int .i64 ((rd_T33 t111 (ji42)).f0), .int .i64 ((rd_T33 t111 (ji42)).f1), .int .i64 (Int.tmod (wrap64 ((Int.tmod a2 8) + 8)) 8), .int .i64 0, .int .i64 (Int.tmod (wrap64 ((Int.tmod a3 4) + 4)) 4)] 33 (0, 0)) (by (with_reducible repeat (first | refine blk_drewN ?_ _ | refine blk_drew ?_ | refine blk_alloc ?_ _)); exact BK125.out) hg (Kd.R_away HO131.out (fun _ hk => hk.1.2)))
                                              have n2_ := Aside0.mk (Kd.R_after (ok := (fun k_ => some k_ ≠ (.slice (some ad126) t111.length co9 : Value).ownBlock ∧ k_ ≠ gb125)) (by (with_reducible repeat (first | apply Kd.R_alloc | apply Kd.R_drewN | apply Kd.R_drew)); exact Kd.R_mono HO137.out (fun _ hk => ⟨⟨hk.1.1.2, hk.2⟩, hk.1.2⟩)) hg hat)
                                              have n3_ := Aside0.mk (hb)
                                              have n4_ := Aside0.mk (ho)
                                              clear HO_0
                                              clear BK125
                                              clear HO137
                                              clear HB
                                              clear HO131
                                              have HO_0 := n0_
                                              have BK125 := n1_
                                              have HO137 := n2_
                                              have HB := n3_
                                              have HO134 := n4_
                                              clear n0_ n1_ n2_ n3_ n4_
                                              clear ho hb hg hat
                                              refine hK.out _ _ ⟨(blk_cell BK125.out 0).trans rfl, (blk_cell BK125.out 1).trans rfl, (blk_cell BK125.out 2).trans rfl, (blk_cell BK125.out 3).trans rfl, (blk_cell BK125.out 4).trans rfl⟩ (fun hHeld => ?_)
                                              clear hK K
                                              refine norm_ (a' := ?_) ?_ ?_
                                              rotate_left
                                              · show Act.put _ (some 130) _ = _
                                                simp only [Act.put, List.setIfInBounds_toArray, List.set_cons_zero, List.set_cons_succ, i64_w, i32_w]
                                                rfl
                                              exact norm_ (by simp only [putAll, Act.put, List.setIfInBounds_toArray, List.set_cons_zero, List.set_cons_succ]) (hCont (v130, v133, v136) _ ⟨hHeld, (by (with_reducible repeat (first | apply Kd.R_alloc | apply Kd.R_drewN | apply Kd.R_drew)); exact Kd.R_mono HO134.out (fun _ hk => ⟨hk.2.1, ⟨hk.1, hk.2.2⟩⟩)), (by (with_reducible repeat (first | apply Kd.R_alloc | apply Kd.R_drewN | apply Kd.R_drew)); exact Kd.R_mono HO137.out (fun _ hk => ⟨hk.2, ⟨hk.1.1, hk.1.2⟩⟩)), (by (with_reducible repeat (first | apply Kd.R_alloc | apply Kd.R_drewN | apply Kd.R_drew)); exact Kd.R_mono HO_0.out (fun _ hk => ⟨hk.2, ⟨hk.1.1, hk.1.2⟩⟩)), (by (with_reducible repeat (first | refine blk_drewN ?_ _ | refine blk_drew ?_ | refine blk_alloc ?_ _)); exact BK125.out), (by repeat (first | (with_reducible first | exact HB.out | apply below_alloc | apply pw_below_drewN | apply below_drew1 | refine below_set ?_ GE125.out) | exact HB.out))⟩)
                                          · skip
                                            refine Kd.R_lit_step k33 _ 33 ?hg (N := 132) ?hd (xs := ([(⟨(rd_T33 t111 (ji42)).f0, (rd_T33 t111 (ji42)).f1, (⟨(Int.tmod (wrap64 ((Int.tmod a2 8) + 8)) 8), 0, (Int.tmod (wrap64 ((Int.tmod a3 4) + 4)) 4)⟩ : S31)⟩ : S33)] : List (S33))) (inner := [.int .i64 ((rd_T33 t111 (ji42)).f0), .int .i64 ((rd_T33 t111 (ji42)).f1), .int .i64 (Int.tmod (wrap64 ((Int.tmod a2 8) + 8)) 8), .int .i64 0, .int .i64 (Int.tmod (wrap64 ((Int.tmod a3 4) + 4)) 4)]) (ok := fun _ => True) (okp := fun _ => True) ?hr ?hp (fun _ hk => hk) trivial (Below.refl _ _) (Nat.le_refl _) (by simp) ?_; (case hd => rfl); (case hg => rfl); (case hr => first | (go_simp; done) | (go_simp; rfl)); (case hp => exact (Reps.c5 (show Kd.M k33 _ _ _ (⟨(rd_T33 t111 (ji42)).f0, (rd_T33 t111 (ji42)).f1, (⟨(Int.tmod (wrap64 ((Int.tmod a2 8) + 8)) 8), 0, (Int.tmod (wrap64 ((Int.tmod a3 4) + 4)) 4)⟩ : S31)⟩ : S33) [.int .i64 ((rd_T33 t111 (ji42)).f0), .int .i64 ((rd_T33 t111 (ji42)).f1), .int .i64 (Int.tmod (wrap64 ((Int.tmod a2 8) + 8)) 8), .int .i64 0, .int .i64 (Int.tmod (wrap64 ((Int.tmod a3 4) + 4)) 4)] from (k33_mkM _ _ _ (⟨(rd_T33 t111 (ji42)).f0, (rd_T33 t111 (ji42)).f1, (⟨(Int.tmod (wrap64 ((Int.tmod a2 8) + 8)) 8), 0, (Int.tmod (wrap64 ((Int.tmod a3 4) + 4)) 4)⟩ : S31)⟩ : S33) )) (Reps.none _ _)))
                                            intro v136 w57 ho58 hb hg_ hnew_
                                            clear hg_ hnew_
                                            (first | rw [← Ny135.out] at ho58 | (simp only [Int.reduceToNat] at ho58; rw [← Ny135.out] at ho58))
                                            have n0_ := Aside0.mk (Kd.R_elder' (by (with_reducible repeat (first | apply Kd.R_alloc | apply Kd.R_drewN | apply Kd.R_drew)); exact HO_0.out) (Kd.R_base ho58) hb)
                                            have n1_ := Aside0.mk (Kd.R_lower (Kd.R_newB (Kd.R_new' ho58 (Kd.R_lt (by (with_reducible repeat (first | apply Kd.R_alloc | apply Kd.R_drewN | apply Kd.R_drew)); exact HO_0.out))) (g := gb125) (o := .cells #[.int .i64 ((rd_T33 t111 (ji42)).f0), .int .i64 ((rd_T33 t111 (ji42)).f1), .int .i64 (Int.tmod (wrap64 ((Int.tmod a2 8) + 8)) 8), .int .i64 0, .int .i64 (Int.tmod (wrap64 ((Int.tmod a3 4) + 4)) 4)] 33 (0, 0)) (by (with_reducible repeat (first | refine blk_drewN ?_ _ | refine blk_drew ?_ | refine blk_alloc ?_ _)); exact BK125.out)) (below_size (by repeat (first | (with_reducible first | exact HB.out | apply below_alloc | apply pw_below_drewN | apply below_drew1 | refine below_set ?_ GE125.out) | exact HB.out))))
                                            have n2_ := Aside0.mk (blk_below (g := gb125) (o := .cells #[.int .i64 ((rd_T33 t111 (ji42)).f0), .int .i64 ((rd_T33 t111 (ji42)).f1), .int .i64 (Int.tmod (wrap64 ((Int.tmod a2 8) + 8)) 8), .int .i64 0, .int .i64 (Int.tmod (wrap64 ((Int.tmod a3 4) + 4)) 4)] 33 (0, 0)) (by (with_reducible repeat (first | refine blk_drewN ?_ _ | refine blk_drew ?_ | refine blk_alloc ?_ _)); exact BK125.out) hb)
                                            have n3_ := Aside0.mk (below_step (by repeat (first | (with_reducible first | exact HB.out | apply below_alloc | apply pw_below_drewN | apply below_drew1 | refine below_set ?_ GE125.out) | exact HB.out)) hb)
                                            clear HO_0
                                            clear BK125
                                            clear HB
                                            have HO_0 := n0_
                                            have HO137 := n1_
                                            have BK125 := n2_
                                            have HB := n3_
                                            clear n0_ n1_ n2_ n3_
                                            clear hb ho58
                                            refine hK.out _ _ ⟨(blk_cell BK125.out 0).trans rfl, (blk_cell BK125.out 1).trans rfl, (blk_cell BK125.out 2).trans rfl, (blk_cell BK125.out 3).trans rfl, (blk_cell BK125.out 4).trans rfl⟩ (fun hHeld => ?_)
                                            clear hK K
                                            refine norm_ (a' := ?_) ?_ ?_
                                            rotate_left
                                            · show Act.put _ (some 132) _ = _
                                              simp only [Act.put, List.setIfInBounds_toArray, List.set_cons_zero, List.set_cons_succ, i64_w, i32_w]
                                              rfl
                                            refine one_ (i := 0) (N := some 128) #[true, true, false, true, true, false, false, true, false, false] rfl rfl (one_of HT_.out (by kernel_rfl)) (by decide) (fun K hK => ?_)
                                            refine Kd.R_lit_step k33 _ 33 ?hg (N := 128) ?hd (xs := ([] : List (S33))) (inner := []) (ok := fun _ => True) (okp := fun _ => True) ?hr ?hp (fun _ hk => hk) trivial (Below.refl _ _) (Nat.le_refl _) (by simp) ?_; (case hd => rfl); (case hg => rfl); (case hr => first | (go_simp; done) | (go_simp; rfl)); (case hp => exact (Reps.none _ _))
                                            intro v130 w59 ho60 hb hg_ hnew_
                                            clear hg_ hnew_
                                            (first | rw [← Ny129.out] at ho60 | (simp only [Int.reduceToNat] at ho60; rw [← Ny129.out] at ho60))
                                            have n0_ := Aside0.mk (Kd.R_elder' (by (with_reducible repeat (first | apply Kd.R_alloc | apply Kd.R_drewN | apply Kd.R_drew)); exact HO_0.out) (Kd.R_base ho60) hb)
                                            have n1_ := Aside0.mk (Kd.R_elder' (by (with_reducible repeat (first | apply Kd.R_alloc | apply Kd.R_drewN | apply Kd.R_drew)); exact HO137.out) (Kd.R_base ho60) hb)
                                            have n2_ := Aside0.mk (Kd.R_lower (Kd.R_newB (Kd.R_new' (Kd.R_new' ho60 (Kd.R_lt (by (with_reducible repeat (first | apply Kd.R_alloc | apply Kd.R_drewN | apply Kd.R_drew)); exact HO_0.out))) (Kd.R_lt (by (with_reducible repeat (first | apply Kd.R_alloc | apply Kd.R_drewN | apply Kd.R_drew)); exact HO137.out))) (g := gb125) (o := .cells #[.int .i64 ((rd_T33 t111 (ji42)).f0), .int .i64 ((rd_T33 t111 (ji42)).f1), .int .i64 (Int.tmod (wrap64 ((Int.tmod a2 8) + 8)) 8), .int .i64 0, .int .i64 (Int.tmod (wrap64 ((Int.tmod a3 4) + 4)) 4)] 33 (0, 0)) (by (with_reducible repeat (first | refine blk_drewN ?_ _ | refine blk_drew ?_ | refine blk_alloc ?_ _)); exact BK125.out)) (below_size (by repeat (first | (with_reducible first | exact HB.out | apply below_alloc | apply pw_below_drewN | apply below_drew1 | refine below_set ?_ GE125.out) | exact HB.out))))
                                            have n3_ := Aside0.mk (blk_below (g := gb125) (o := .cells #[.int .i64 ((rd_T33 t111 (ji42)).f0), .int .i64 ((rd_T33 t111 (ji42)).f1), .int .i64 (Int.tmod (wrap64 ((Int.tmod a2 8) + 8)) 8), .int .i64 0, .int .i64 (Int.tmod (wrap64 ((Int.tmod a3 4) + 4)) 4)] 33 (0, 0)) (by (with_reducible repeat (first | refine blk_drewN ?_ _ | refine blk_drew ?_ | refine blk_alloc ?_ _)); exact BK125.out) hb)
                                            have n4_ := Aside0.mk (below_step (by repeat (first | (with_reducible first | exact HB.out | apply below_alloc | apply pw_below_drewN | apply below_drew1 | refine below_set ?_ GE125.out) | exact HB.out)) hb)
                                            clear HO_0
                                            clear HO137
                                            clear BK125
                                            clear HB
                                            have HO_0 := n0_
                                            have HO137 := n1_
                                            have HO131 := n2_
                                            have BK125 := n3_
                                            have HB := n4_
                                            clear n0_ n1_ n2_ n3_ n4_
                                            clear hb ho60
                                            refine hK.out _ _ ⟨(blk_cell BK125.out 0).trans rfl, (blk_cell BK125.out 1).trans rfl, (blk_cell BK125.out 2).trans rfl, (blk_cell BK125.out 3).trans rfl, (blk_cell BK125.out 4).trans rfl⟩ (fun hHeld => ?_)
                                            clear hK K
                                            refine norm_ (a' := ?_) ?_ ?_
                                            rotate_left
                                            · show Act.put _ (some 128) _ = _
                                              simp only [Act.put, List.setIfInBounds_toArray, List.set_cons_zero, List.set_cons_succ, i64_w, i32_w]
                                              rfl
                                            refine one_ (i := 2) (N := some 130) #[true, true, true, true, true, false, false, true, false, false] rfl rfl (one_of HT_.out (by kernel_rfl)) (by decide) (fun K hK => ?_)
                                            refine Kd.R_append_rows_step k33 (w0 := w) w.heap.size (by rfl) (.tmp 128) (.tmp 129) 22 33 (.agg #[(.int .i64 0), (.int .i64 0), (.int .i64 0), (.int .i64 0), (.int .i64 0)]) 40 rfl Try.underlying22 info33 rfl (by decide) (by omega) v130 y129 t111 _ _ _ (fun k_ => some k_ ≠ (.slice (some ad126) t111.length co9 : Value).ownBlock ∧ some k_ ≠ (v136 : Value).ownBlock ∧ k_ ≠ gb125) (fun _ => False) rfl rfl ?aO ?aR (fun _ _ h => h) (fun _ h => h.elim) ?aF ?aB ?aS ?aL ?_
                                            (case aR => repeat (first | exact (Kd.R_reads' HO_0.out).2.2 | (with_reducible refine Kd.C_alloc ?_ _) | (with_reducible refine Kd.C_drewN ?_ _) | (with_reducible refine Kd.C_drew ?_)))
                                            (case aB => exact (by repeat (first | (with_reducible first | exact HB.out | apply below_alloc | apply pw_below_drewN | apply below_drew1 | refine below_set ?_ GE125.out) | exact HB.out)))
                                            (case aF => exact (fun k_ hk => ⟨Kd.fresh' (Kd.R_lt (by (with_reducible repeat (first | apply Kd.R_alloc | apply Kd.R_drewN | apply Kd.R_drew)); exact HO_0.out)) k_ hk, Kd.fresh' (Kd.R_lt (by (with_reducible repeat (first | apply Kd.R_alloc | apply Kd.R_drewN | apply Kd.R_drew)); exact HO137.out)) k_ hk, Kd.freshB (g := gb125) (o := .cells #[.int .i64 ((rd_T33 t111 (ji42)).f0), .int .i64 ((rd_T33 t111 (ji42)).f1), .int .i64 (Int.tmod (wrap64 ((Int.tmod a2 8) + 8)) 8), .int .i64 0, .int .i64 (Int.tmod (wrap64 ((Int.tmod a3 4) + 4)) 4)] 33 (0, 0)) (by (with_reducible repeat (first | refine blk_drewN ?_ _ | refine blk_drew ?_ | refine blk_alloc ?_ _)); exact BK125.out) k_ hk⟩))
                                            (case aO => exact (by (with_reducible repeat (first | apply Kd.R_alloc | apply Kd.R_drewN | apply Kd.R_drew)); exact Kd.R_mono HO131.out (fun _ hk => ⟨hk.1.1.2, ⟨hk.1.2, hk.2⟩⟩)))
                                            (case aS => exact (below_size (by repeat (first | (with_reducible first | exact HB.out | apply below_alloc | apply pw_below_drewN | apply below_drew1 | refine below_set ?_ GE125.out) | exact HB.out))))
                                            (case aL => have := LMc46.out; omega)
                                            intro v133 w61 ho hb hg hat
                                            rw [← Ny132.out] at ho
                                            have n0_ := Aside0.mk (Kd.R_after (ok := (fun k_ => some k_ ≠ (v136 : Value).ownBlock ∧ k_ ≠ gb125)) (by (with_reducible repeat (first | apply Kd.R_alloc | apply Kd.R_drewN | apply Kd.R_drew)); exact Kd.R_mono HO_0.out (fun _ hk => ⟨⟨hk.1.2, hk.1.1⟩, hk.2⟩)) hg hat)
                                            have n1_ := Aside0.mk (blk_grown (g := gb125) (o := .cells #[.int .i64 ((rd_T33 t111 (ji42)).f0), .int .i64 ((rd_T33 t111 (ji42)).f1), .int .i64 (Int.tmod (wrap64 ((Int.tmod a2 8) + 8)) 8), .int .i64 0, .int .i64 (Int.tmod (wrap64 ((Int.tmod a3 4) + 4)) 4)] 33 (0, 0)) (by (with_reducible repeat (first | refine blk_drewN ?_ _ | refine blk_drew ?_ | refine blk_alloc ?_ _)); exact BK125.out) hg (Kd.R_away HO131.out (fun _ hk => hk.2)))
                                            have n2_ := Aside0.mk (Kd.R_after (ok := (fun k_ => some k_ ≠ (.slice (some ad126) t111.length co9 : Value).ownBlock ∧ k_ ≠ gb125)) (by (with_reducible repeat (first | apply Kd.R_alloc | apply Kd.R_drewN | apply Kd.R_drew)); exact Kd.R_mono HO137.out (fun _ hk => ⟨⟨hk.1.1.2, hk.1.2⟩, hk.2⟩)) hg hat)
                                            have n3_ := Aside0.mk (hb)
                                            have n4_ := Aside0.mk (ho)
                                            clear HO_0
                                            clear BK125
                                            clear HO137
                                            clear HB
                                            clear HO131
                                            have HO_0 := n0_
                                            have BK125 := n1_
                                            have HO137 := n2_
                                            have HB := n3_
                                            have HO134 := n4_
                                            clear n0_ n1_ n2_ n3_ n4_
                                            clear ho hb hg hat
                                            refine hK.out _ _ ⟨(blk_cell BK125.out 0).trans rfl, (blk_cell BK125.out 1).trans rfl, (blk_cell BK125.out 2).trans rfl, (blk_cell BK125.out 3).trans rfl, (blk_cell BK125.out 4).trans rfl⟩ (fun hHeld => ?_)
                                            clear hK K
                                            refine norm_ (a' := ?_) ?_ ?_
                                            rotate_left
                                            · show Act.put _ (some 130) _ = _
                                              simp only [Act.put, List.setIfInBounds_toArray, List.set_cons_zero, List.set_cons_succ, i64_w, i32_w]
                                              rfl
                                            exact norm_ (by simp only [putAll, Act.put, List.setIfInBounds_toArray, List.set_cons_zero, List.set_cons_succ]) (hCont (v130, v133, v136) _ ⟨hHeld, (by (with_reducible repeat (first | apply Kd.R_alloc | apply Kd.R_drewN | apply Kd.R_drew)); exact Kd.R_mono HO134.out (fun _ hk => ⟨hk.2.1, ⟨hk.1, hk.2.2⟩⟩)), (by (with_reducible repeat (first | apply Kd.R_alloc | apply Kd.R_drewN | apply Kd.R_drew)); exact Kd.R_mono HO137.out (fun _ hk => ⟨hk.2, ⟨hk.1.1, hk.1.2⟩⟩)), (by (with_reducible repeat (first | apply Kd.R_alloc | apply Kd.R_drewN | apply Kd.R_drew)); exact Kd.R_mono HO_0.out (fun _ hk => ⟨hk.2, ⟨hk.1.1, hk.1.2⟩⟩)), (by (with_reducible repeat (first | refine blk_drewN ?_ _ | refine blk_drew ?_ | refine blk_alloc ?_ _)); exact BK125.out), (by repeat (first | (with_reducible first | exact HB.out | apply below_alloc | apply pw_below_drewN | apply below_drew1 | refine below_set ?_ GE125.out) | exact HB.out))⟩)
                                        rintro ⟨v130, v133, v136⟩ w62 ⟨hS_, h0_, h1_, h2_, h3_, h4_⟩
                                        have n0_ : Aside0 (Kd.R k33 33 w62 w.heap.size (fun k_ => some k_ ≠ (v136 : Value).ownBlock ∧ some k_ ≠ (.slice (some ad126) t111.length co9 : Value).ownBlock ∧ k_ ≠ gb125) v133 y132) := ⟨h0_⟩
                                        have n1_ : Aside0 (Kd.R k33 33 w62 w.heap.size (fun k_ => some k_ ≠ (v133 : Value).ownBlock ∧ some k_ ≠ (.slice (some ad126) t111.length co9 : Value).ownBlock ∧ k_ ≠ gb125) v136 y135) := ⟨h1_⟩
                                        have n2_ : Aside0 (Kd.R k33 33 w62 w.heap.size (fun k_ => some k_ ≠ (v133 : Value).ownBlock ∧ some k_ ≠ (v136 : Value).ownBlock ∧ k_ ≠ gb125) (.slice (some ad126) t111.length co9) t111) := ⟨h2_⟩
                                        have n3_ : Aside0 (w62.heap[gb125]? = some (.cells #[.int .i64 ((rd_T33 t111 (ji42)).f0), .int .i64 ((rd_T33 t111 (ji42)).f1), .int .i64 (Int.tmod (wrap64 ((Int.tmod a2 8) + 8)) 8), .int .i64 0, .int .i64 (Int.tmod (wrap64 ((Int.tmod a3 4) + 4)) 4)] 33 (0, 0))) := ⟨h3_⟩
                                        have n4_ : Aside0 (Below w.heap.size w w62) := ⟨h4_⟩
                                        clear HO_0
                                        clear BK125
                                        clear HB
                                        clear h0_ h1_ h2_ h3_ h4_
                                        have HO134 := n0_
                                        have HO137 := n1_
                                        have HO_0 := n2_
                                        have BK125 := n3_
                                        have HB := n4_
                                        clear n0_ n1_ n2_ n3_ n4_
                                        have hHeld : w62.cell? ⟨gb125, 0, none⟩ = some (.int .i64 ((rd_T33 t111 (ji42)).f0)) ∧ w62.cell? ⟨gb125, 1, none⟩ = some (.int .i64 ((rd_T33 t111 (ji42)).f1)) ∧ w62.cell? ⟨gb125, 2, none⟩ = some (.int .i64 (Int.tmod (wrap64 ((Int.tmod a2 8) + 8)) 8)) ∧ w62.cell? ⟨gb125, 3, none⟩ = some (.int .i64 0) ∧ w62.cell? ⟨gb125, 4, none⟩ = some (.int .i64 (Int.tmod (wrap64 ((Int.tmod a3 4) + 4)) 4)) := hS_
                                        obtain ⟨Ao64, co64, eo64⟩ := Kd.R_slice HO137.out
                                        (first | subst eo64 | (injection eo64 with f1_ f2_ f3_; have f4_ := f1_.symm; have f5_ := f3_.symm; clear f1_ f2_ f3_; subst f4_; subst f5_))
                                        refine norm_ (a' := ?_) ?_ ?_
                                        rotate_left
                                        · simp only [putAll, Act.put, List.setIfInBounds_toArray, List.set_cons_zero, List.set_cons_succ]
                                          rfl
                                        refine one_ (i := 5) (N := some 133) #[true, true, true, true, true, true, false, true, false, false] rfl rfl (one_of HT_.out (by kernel_rfl)) (by decide) (fun K hK => ?_)
                                        refine Kd.R_append_rows_step k33 (w0 := w) w.heap.size (by rfl) (.tmp 130) (.tmp 132) 22 33 (.agg #[(.int .i64 0), (.int .i64 0), (.int .i64 0), (.int .i64 0), (.int .i64 0)]) 40 rfl Try.underlying22 info33 rfl (by decide) (by omega) v133 y132 y135 _ _ _ (fun k_ => some k_ ≠ (.slice (some ad126) t111.length co9 : Value).ownBlock ∧ some k_ ≠ (.slice Ao64 y135.length co64 : Value).ownBlock ∧ k_ ≠ gb125) (fun _ => False) rfl rfl ?aO ?aR (fun _ _ h => h) (fun _ h => h.elim) ?aF ?aB ?aS ?aL ?_
                                        (case aR => repeat (first | exact (Kd.R_reads' HO137.out).2.2 | (with_reducible refine Kd.C_alloc ?_ _) | (with_reducible refine Kd.C_drewN ?_ _) | (with_reducible refine Kd.C_drew ?_)))
                                        (case aB => exact (by repeat (first | (with_reducible first | exact HB.out | apply below_alloc | apply pw_below_drewN | apply below_drew1 | refine below_set ?_ GE125.out) | exact HB.out)))
                                        (case aF => exact (fun k_ hk => ⟨Kd.fresh' (Kd.R_lt (by (with_reducible repeat (first | apply Kd.R_alloc | apply Kd.R_drewN | apply Kd.R_drew)); exact HO_0.out)) k_ hk, Kd.fresh' (Kd.R_lt (by (with_reducible repeat (first | apply Kd.R_alloc | apply Kd.R_drewN | apply Kd.R_drew)); exact HO137.out)) k_ hk, Kd.freshB (g := gb125) (o := .cells #[.int .i64 ((rd_T33 t111 (ji42)).f0), .int .i64 ((rd_T33 t111 (ji42)).f1), .int .i64 (Int.tmod (wrap64 ((Int.tmod a2 8) + 8)) 8), .int .i64 0, .int .i64 (Int.tmod (wrap64 ((Int.tmod a3 4) + 4)) 4)] 33 (0, 0)) (by (with_reducible repeat (first | refine blk_drewN ?_ _ | refine blk_drew ?_ | refine blk_alloc ?_ _)); exact BK125.out) k_ hk⟩))
                                        (case aO => exact (by (with_reducible repeat (first | apply Kd.R_alloc | apply Kd.R_drewN | apply Kd.R_drew)); exact Kd.R_mono HO134.out (fun _ hk => ⟨hk.2.1, ⟨hk.1, hk.2.2⟩⟩)))
                                        (case aS => exact (below_size (by repeat (first | (with_reducible first | exact HB.out | apply below_alloc | apply pw_below_drewN | apply below_drew1 | refine below_set ?_ GE125.out) | exact HB.out))))
                                        (case aL => have := LMc47.out; omega)
                                        intro v139 w63 ho hb hg hat
                                        rw [← Ny138.out] at ho
                                        have n0_ := Aside0.mk (Kd.R_after (ok := (fun k_ => some k_ ≠ (.slice Ao64 y135.length co64 : Value).ownBlock ∧ k_ ≠ gb125)) (by (with_reducible repeat (first | apply Kd.R_alloc | apply Kd.R_drewN | apply Kd.R_drew)); exact Kd.R_mono HO_0.out (fun _ hk => ⟨⟨hk.2.1, hk.2.2⟩, hk.1⟩)) hg hat)
                                        have n1_ := Aside0.mk (blk_grown (g := gb125) (o := .cells #[.int .i64 ((rd_T33 t111 (ji42)).f0), .int .i64 ((rd_T33 t111 (ji42)).f1), .int .i64 (Int.tmod (wrap64 ((Int.tmod a2 8) + 8)) 8), .int .i64 0, .int .i64 (Int.tmod (wrap64 ((Int.tmod a3 4) + 4)) 4)] 33 (0, 0)) (by (with_reducible repeat (first | refine blk_drewN ?_ _ | refine blk_drew ?_ | refine blk_alloc ?_ _)); exact BK125.out) hg (Kd.R_away HO134.out (fun _ hk => hk.2.2)))
                                        have n2_ := Aside0.mk (Kd.R_after (ok := (fun k_ => some k_ ≠ (.slice (some ad126) t111.length co9 : Value).ownBlock ∧ k_ ≠ gb125)) (by (with_reducible repeat (first | apply Kd.R_alloc | apply Kd.R_drewN | apply Kd.R_drew)); exact Kd.R_mono HO137.out (fun _ hk => ⟨⟨hk.2.1, hk.2.2⟩, hk.1⟩)) hg hat)
                                        have n3_ := Aside0.mk (hb)
                                        have n4_ := Aside0.mk (ho)
                                        clear HO_0
                                        clear BK125
                                        clear HO137
                                        clear HB
                                        clear HO134
                                        have HO_0 := n0_
                                        have BK125 := n1_
                                        have HO137 := n2_
                                        have HB := n3_
                                        have HO140 := n4_
                                        clear n0_ n1_ n2_ n3_ n4_
                                        clear ho hb hg hat
                                        obtain ⟨Ao65, co65, eo65⟩ := Kd.R_slice HO140.out
                                        (first | subst eo65 | (injection eo65 with f1_ f2_ f3_; have f4_ := f1_.symm; have f5_ := f3_.symm; clear f1_ f2_ f3_; subst f4_; subst f5_))
                                        refine hK.out _ _ ⟨(blk_cell BK125.out 0).trans rfl, (blk_cell BK125.out 1).trans rfl, (blk_cell BK125.out 2).trans rfl, (blk_cell BK125.out 3).trans rfl, (blk_cell BK125.out 4).trans rfl⟩ (fun hHeld => ?_)
                                        clear hK K
                                        refine norm_ (a' := ?_) ?_ ?_
                                        rotate_left
                                        · show Act.put _ (some 133) _ = _
                                          simp only [Act.put, List.setIfInBounds_toArray, List.set_cons_zero, List.set_cons_succ, i64_w, i32_w]
                                          rfl
                                        refine one_ (i := 6) (N := some 134) #[true, true, true, true, true, true, true, true, false, false] rfl rfl (one_of HT_.out (by kernel_rfl)) (by decide) (fun K hK => ?_)
                                        refine goes_ Try.func14 (by kernel_rfl) rfl #[.slice Ao65 y138.length co65] (by rfl) rfl rfl (by (try simp only [List.map_toArray, List.map_cons, List.map_nil]); first | done | rfl | (simp only [List.length_drop, List.length_take]; rfl)) ?_
                                        with_reducible refine (judge_Wrong.calls _ _ y138 t141 _ ?side1 ?side2 A48.out).mono ?_
                                        (case side1 => repeat (first | exact (Kd.R_reads' HO140.out).2.2 | (with_reducible refine Kd.C_alloc ?_ _) | (with_reducible refine Kd.C_drewN ?_ _) | (with_reducible refine Kd.C_drew ?_)))
                                        (case side2 => exact (Kd.R_reads' HO140.out).2.1)
                                        rintro e w66 ⟨rfl, hb⟩
                                        refine ⟨_, rfl, ?_⟩
                                        have n0_ := Aside0.mk (Kd.R_below (by (with_reducible repeat (first | apply Kd.R_alloc | apply Kd.R_drewN | apply Kd.R_drew)); exact HO_0.out) hb)
                                        have n1_ := Aside0.mk (Kd.R_below (by (with_reducible repeat (first | apply Kd.R_alloc | apply Kd.R_drewN | apply Kd.R_drew)); exact HO137.out) hb)
                                        have n2_ := Aside0.mk (Kd.R_below (by (with_reducible repeat (first | apply Kd.R_alloc | apply Kd.R_drewN | apply Kd.R_drew)); exact HO140.out) hb)
                                        have n3_ := Aside0.mk (blk_below (g := gb125) (o := .cells #[.int .i64 ((rd_T33 t111 (ji42)).f0), .int .i64 ((rd_T33 t111 (ji42)).f1), .int .i64 (Int.tmod (wrap64 ((Int.tmod a2 8) + 8)) 8), .int .i64 0, .int .i64 (Int.tmod (wrap64 ((Int.tmod a3 4) + 4)) 4)] 33 (0, 0)) (by (with_reducible repeat (first | refine blk_drewN ?_ _ | refine blk_drew ?_ | refine blk_alloc ?_ _)); exact BK125.out) hb)
                                        have n4_ := Aside0.mk (below_step (by repeat (first | (with_reducible first | exact HB.out | apply below_alloc | apply pw_below_drewN | apply below_drew1 | refine below_set ?_ GE125.out) | exact HB.out)) hb)
                                        clear HO_0
                                        clear HO137
                                        clear HO140
                                        clear BK125
                                        clear HB
                                        have HO_0 := n0_
                                        have HO137 := n1_
                                        have HO140 := n2_
                                        have BK125 := n3_
                                        have HB := n4_
                                        clear n0_ n1_ n2_ n3_ n4_
                                        (try clear hb)
                                        (try clear hb2)
                                        (try clear hk)
                                        (try clear hi)
                                        refine hK.out _ _ ⟨(blk_cell BK125.out 0).trans rfl, (blk_cell BK125.out 1).trans rfl, (blk_cell BK125.out 2).trans rfl, (blk_cell BK125.out 3).trans rfl, (blk_cell BK125.out 4).trans rfl⟩ (fun hHeld => ?_)
                                        clear hK K
                                        refine norm_ (a' := ?_) ?_ ?_
                                        rotate_left
                                        · show Act.put _ (some 134) _ = _
                                          simp only [Act.put, List.setIfInBounds_toArray, List.set_cons_zero, List.set_cons_succ, i64_w, i32_w]
                                          rfl
                                        refine pure_ (i := 8) (N := some 136) (v := ?_) (a' := ?_) #[true, true, true, true, true, true, true, true, true, false] rfl rfl (any_of HT_.out (by kernel_rfl)) (fun _ _ _ h => h) (Or.inl ⟨by rfl, ?_⟩) ?_ ?_
                                        rotate_left
                                        · intro w'
                                          go_simp
                                          with_reducible rfl
                                        rotate_left
                                        · simp only [Act.put, List.setIfInBounds_toArray, List.set_cons_zero, List.set_cons_succ, i64_w, i32_w]
                                          rfl
                                        refine pure_ (i := 9) (N := some 8) (v := ?_) (a' := ?_) #[true, true, true, true, true, true, true, true, true, true] rfl rfl (any_of HT_.out (by kernel_rfl)) (fun _ _ _ h => h) (Or.inl ⟨by rfl, ?_⟩) ?_ ?_
                                        rotate_left
                                        · intro w'
                                          go_simp
                                          with_reducible rfl
                                        rotate_left
                                        · simp only [Act.put, List.setIfInBounds_toArray, List.set_cons_zero, List.set_cons_succ, i64_w, i32_w]
                                          rfl
                                        refine done_ (done_of HT_.out (by kernel_rfl)) ?_
                                        try go_wp2
                                        go_ret
                                        exact ⟨by first | rfl | (simp [errW_none, errW_some] <;> rfl) | (simp only [← hji17, ← hji42]; first | rfl | (simp [errW_none, errW_some] <;> rfl)) | (simp [*, errW_none, errW_some] <;> rfl), by repeat (first | (with_reducible first | exact HB.out | apply below_alloc | apply pw_below_drewN | apply below_drew1 | refine below_set ?_ GE125.out) | exact HB.out)⟩
                                      · rw [if_neg c47] at H
                                        exact absurd H (by simp)
                                    · rw [if_neg c46] at H
                                      exact absurd H (by simp)
                                  · rw [if_neg c45] at H
                                    exact absurd H (by simp)
                                · rw [if_neg c44] at H
                                  exact absurd H (by simp)
                              · rw [if_neg c43] at H
                                exact absurd H (by simp)
                            · rw [if_neg c41] at H
                              exact absurd H (by simp)
            · rw [if_neg c19] at H
              exact absurd H (by simp)
          · rw [if_neg c18] at H
            exact absurd H (by simp)

end Go.Proofs.Ytjdjmhagafmkaaa.PX

/-
  The statement on JudgeParts, over plain lists: one of the two printed forms comes to true.
-/
namespace Go.Proofs.Ytjdjmhagafmkaaa.PX
open Go.RowKit Judge Go.Proofs.YtjdjmhagafmkaaaW.PrintWords Go.Proofs.YtjdjmhagafmkaaaW.PrintLast Go.Proofs.YtjdjmhagafmkaaaW.PrintMore

theorem tmod_mid (a b : Int) (hb : 0 < b) : -b < Int.tmod a b ∧ Int.tmod a b < b := ⟨by have := Int.lt_tmod_of_pos a hb; omega, Int.tmod_lt_of_pos a hb⟩
theorem cutK (a : Int) (n : Nat) (hn : n ≤ 1000) : ∃ K : Nat, K ≤ n ∧ Int.tmod (wrap64 (wrap64 (Int.tmod a (wrap64 ((n : Int) + 1)) + (n : Int)) + 1)) (wrap64 ((n : Int) + 1)) = (K : Int) ∧ wrap64 ((n : Int) + 1) ≠ 0 := by
  have e1 : wrap64 ((n : Int) + 1) = (n : Int) + 1 := by unfold wrap64; omega
  rw [e1]
  obtain ⟨h1, h2⟩ := tmod_mid a ((n : Int) + 1) (by omega)
  generalize Int.tmod a ((n : Int) + 1) = b at h1 h2
  have e2 : wrap64 (b + (n : Int)) = b + n := by unfold wrap64; omega
  rw [e2]
  have e3 : wrap64 (b + (n : Int) + 1) = b + n + 1 := by unfold wrap64; omega
  rw [e3, Int.tmod_eq_emod_of_nonneg (by omega)]
  have h3 := Int.emod_nonneg (b + (n : Int) + 1) (show (n : Int) + 1 ≠ 0 by omega)
  have h4 := Int.emod_lt_of_pos (b + (n : Int) + 1) (show 0 < (n : Int) + 1 by omega)
  exact ⟨((b + (n : Int) + 1) % ((n : Int) + 1)).toNat, by omega, by omega, by omega⟩
theorem mod4p (a : Int) : 0 ≤ Int.tmod (wrap64 ((Int.tmod a 4) + 4)) 4 ∧ Int.tmod (wrap64 ((Int.tmod a 4) + 4)) 4 < 4 := by
  obtain ⟨h1, h2⟩ := tmod_mid a 4 (by omega)
  have e : wrap64 (a.tmod 4 + 4) = a.tmod 4 + 4 := by unfold wrap64; omega
  rw [e, Int.tmod_eq_emod_of_nonneg (by omega)]
  omega
theorem mod8p (a : Int) : 0 ≤ Int.tmod (wrap64 ((Int.tmod a 8) + 8)) 8 ∧ Int.tmod (wrap64 ((Int.tmod a 8) + 8)) 8 < 8 := by
  obtain ⟨h1, h2⟩ := tmod_mid a 8 (by omega)
  have e : wrap64 (a.tmod 8 + 8) = a.tmod 8 + 8 := by unfold wrap64; omega
  rw [e, Int.tmod_eq_emod_of_nonneg (by omega)]
  omega
theorem held_at' {L : List H} (hw : wrong L = -1) {m : Int} (h0 : 0 ≤ m) (h4 : m < 4) : rd ((book L).map (· - 1)) m = refHolder L m ∧ m < (((book L).map (· - 1)).length : Int) := by
  rw [held_ref hw]
  rcases (show m = 0 ∨ m = 1 ∨ m = 2 ∨ m = 3 by omega) with rfl | rfl | rfl | rfl <;> exact ⟨rfl, by simp⟩
theorem holder_at {L : List H} (hw : wrong L = -1) {m : Int} (h0 : 0 ≤ m) (h4 : m < 4) (x : H) (hx : x.mutex = m) : holder (book L) x = refHolder L m + 1 := by
  obtain ⟨_, hf⟩ := book_ref hw
  have := (hf m.toNat (by omega)).1
  unfold holder
  rw [hx, this, Int.toNat_of_nonneg h0]
/-- One more that gets a mutex, at the same time as the last. -/
theorem snoc_free {L : List H} (hw : wrong L = -1) {x : H} (hx : x.kind = 0) (h0 : 0 ≤ x.mutex) (h4 : x.mutex < 4) (w0 : 0 ≤ x.who) (w8 : x.who < 8) (hl : lateO (lastO none L) x = false) (hf : refHolder L x.mutex = -1) :
    wrong (L ++ [x]) = -1 ∧ refHolder (L ++ [x]) x.mutex = x.who := by
  have hh := holder_at hw h0 h4 x rfl
  refine ⟨?_, ?_⟩
  · rw [wrong_snoc hw, hl, if_neg (by simp)]
    have : (may (book L) x).1 = true := by
      unfold may
      have hin : inB x = true := by unfold inB; simp; omega
      rw [if_pos hin, if_pos (.inl hx), hh, hf]
      rfl
    rw [if_pos this]
  · rw [refHolder_snoc, hstep, if_pos rfl, if_neg (by omega), if_pos (by omega)]
theorem snoc_held {L : List H} (hw : wrong L = -1) {x : H} (hx : x.kind = 0) (h0 : 0 ≤ x.mutex) (h4 : x.mutex < 4) (hf : refHolder L x.mutex ≠ -1) : wrong (L ++ [x]) = L.length := by
  have hh := holder_at hw h0 h4 x rfl
  rw [wrong_snoc hw]
  split
  · rfl
  · have : (may (book L) x).1 = false := by
      unfold may
      split
      · rw [if_pos (.inl hx), hh]
        simp
        omega
      · rfl
    rw [this, if_neg (by simp)]
theorem parts_step (s : List S33) (hs : s.length ≤ 1000) (K : Nat) (hK : K ≤ s.length) : judge_Wrong.f (s.take (K : Int).toNat) = some (if 0 ≤ wrong (s.map toH) ∧ wrong (s.map toH) < K then wrong (s.map toH) else -1) := by
  unfold judge_Wrong.f
  rw [Int.toNat_natCast, if_pos (by rw [List.length_take]; omega), List.map_take, wrong_take _ _ (by rw [List.length_map]; exact hK)]
/-- From the head of what follows the first test: it comes to what follows the second one. -/
theorem parts_j0 (s : List S33) (hs : s.length ≤ 1000) (a1 a2 a3 : Int) (k : Nat) :
    judgeParts_a.j0 (k + 1) s a1 a2 a3 (wrong (s.map toH)) false = judgeParts_a.j1 k s a2 a3 (wrong (s.map toH)) false ∧ judgeParts_b.j0 (k + 1) s a1 a2 a3 (wrong (s.map toH)) false = judgeParts_b.j1 k s a2 a3 (wrong (s.map toH)) false := by
  obtain ⟨K, hK, he, hne⟩ := cutK a1 s.length hs
  have hst := parts_step s hs K hK
  constructor
  · rw [judgeParts_a.j0, if_neg (by simp), if_neg hne, he, if_pos (by omega), if_pos (by omega), hst, Option.bind_some]
    by_cases h0 : wrong (s.map toH) ≥ 0
    · rw [if_pos h0]
      by_cases h1 : (K : Int) > wrong (s.map toH)
      · have hv : (if 0 ≤ wrong (s.map toH) ∧ wrong (s.map toH) < (K : Int) then wrong (s.map toH) else -1) = wrong (s.map toH) := if_pos ⟨h0, h1⟩
        rw [hv, if_pos h1, if_pos rfl, if_neg (by omega), if_neg (by omega)]
      · have hv : (if 0 ≤ wrong (s.map toH) ∧ wrong (s.map toH) < (K : Int) then wrong (s.map toH) else -1) = -1 := if_neg (by omega)
        rw [hv, if_neg h1, if_neg (by omega), if_pos (by omega)]
        rfl
    · have hv : (if 0 ≤ wrong (s.map toH) ∧ wrong (s.map toH) < (K : Int) then wrong (s.map toH) else -1) = -1 := if_neg (by omega)
      rw [hv, if_neg h0, if_pos (by omega)]
      rfl
  · rw [judgeParts_b.j0, if_neg (by simp), if_neg hne, he, if_pos (by omega), if_pos (by omega), hst, Option.bind_some]
    by_cases h0 : wrong (s.map toH) ≥ 0
    · rw [if_pos h0]
      by_cases h1 : (K : Int) > wrong (s.map toH)
      · have hv : (if 0 ≤ wrong (s.map toH) ∧ wrong (s.map toH) < (K : Int) then wrong (s.map toH) else -1) = wrong (s.map toH) := if_pos ⟨h0, h1⟩
        rw [hv, if_pos h1, if_pos rfl, if_neg (by omega), if_neg (by omega)]
      · have hv : (if 0 ≤ wrong (s.map toH) ∧ wrong (s.map toH) < (K : Int) then wrong (s.map toH) else -1) = -1 := if_neg (by omega)
        rw [hv, if_neg h1, if_neg (by omega), if_pos (by omega)]
        rfl
    · have hv : (if 0 ≤ wrong (s.map toH) ∧ wrong (s.map toH) < (K : Int) then wrong (s.map toH) else -1) = -1 := if_neg (by omega)
      rw [hv, if_neg h0, if_pos (by omega)]
      rfl
theorem parts_j3 (s : List S33) (hs : s.length ≤ 999) (hw : wrong (s.map toH) = -1) (x : S33) (k : Nat) (hx : x.f2.f1 = 0) (h0 : 0 ≤ x.f2.f2) (h4 : x.f2.f2 < 4) (w0 : 0 ≤ x.f2.f0) (w8 : x.f2.f0 < 8) (hl : lateO (lastO none (s.map toH)) (toH x) = false) :
    judgeParts_a.j3 (k + 1) s x.f2.f0 x.f2.f2 ((book (s.map toH)).map (· - 1)) x.f0 x.f1 x.f2.f0 x.f2.f1 x.f2.f2 = some true := by
  obtain ⟨hrd, hlt⟩ := held_at' hw h0 h4
  have hap : (s ++ [x]).map toH = s.map toH ++ [toH x] := by rw [List.map_append]; rfl
  have hlen : (s ++ [x]).length ≤ 1000 := by rw [List.length_append]; simp; omega
  rw [judgeParts_a.j3]
  simp only [Option.bind_some, List.nil_append, List.length_nil, List.length_cons]
  rw [if_pos (by omega), if_pos (by omega), if_pos h0, if_pos hlt, hrd]
  have hxe : (⟨x.f0, x.f1, ⟨x.f2.f0, x.f2.f1, x.f2.f2⟩⟩ : S33) = x := rfl
  rw [hxe]
  unfold judge_Held.f judge_Wrong.f
  rw [if_pos hlen, if_pos hlen, hap]
  by_cases hf : refHolder (s.map toH) x.f2.f2 = -1
  · obtain ⟨e1, e2⟩ := snoc_free (x := toH x) hw hx h0 h4 w0 w8 hl hf
    obtain ⟨hrd2, hlt2⟩ := held_at' e1 h0 h4
    have hl4 : (((book (s.map toH ++ [toH x])).map (· - 1)).length : Int) = 4 := by rw [held_ref e1]; rfl
    have e3 : refHolder (s.map toH ++ [toH x]) x.f2.f2 = x.f2.f0 := e2
    rw [if_pos hf, if_pos e1]
    simp only [Option.bind_some]
    rw [if_pos e1, if_pos trivial, if_pos hl4, if_pos hlt2, hrd2, e3]
    simp
  · have e1 := snoc_held (x := toH x) hw hx h0 h4 hf
    rw [if_neg hf]
    simp only [Option.bind_some]
    rw [e1, List.length_map]
    simp
theorem parts_pure (l0 : List S33) (a1 a2 a3 : Int) : judgeParts_a.f 10 l0 a1 a2 a3 = some true ∨ judgeParts_b.f 10 l0 a1 a2 a3 = some true := by
  unfold judgeParts_a.f judgeParts_b.f deadboltlaw18_few.f
  simp only [Option.bind_some]
  have hs : (fewS l0).length ≤ 80 := fewS_80 l0
  generalize fewS l0 = s at hs
  have hs1 : s.length ≤ 1000 := by omega
  have hWf : judge_Wrong.f s = some (wrong (s.map toH)) := by unfold judge_Wrong.f; rw [if_pos hs1]
  have hr := wrong_range (s.map toH)
  rw [List.length_map] at hr
  rw [hWf, Option.bind_some, Option.bind_some, if_neg (by omega), if_neg (by omega), if_neg (by omega), if_neg (by omega), alive_f, Option.bind_some, Option.bind_some]
  obtain ⟨ja, jb⟩ := parts_j0 s hs1 a1 a2 a3 9
  have ja' : judgeParts_a.j0 10 s a1 a2 a3 (wrong (s.map toH)) (!true) = judgeParts_a.j1 9 s a2 a3 (wrong (s.map toH)) false := ja
  have jb' : judgeParts_b.j0 10 s a1 a2 a3 (wrong (s.map toH)) (!true) = judgeParts_b.j1 9 s a2 a3 (wrong (s.map toH)) false := jb
  rw [ja', jb']
  by_cases hw0 : wrong (s.map toH) ≥ 0
  · left
    rw [judgeParts_a.j1, if_neg (by simp), if_pos hw0]
  have hw : wrong (s.map toH) = -1 := by omega
  obtain ⟨m0, m4⟩ := mod4p a3
  obtain ⟨w0, w8⟩ := mod8p a2
  rw [judgeParts_a.j1, if_neg (show ¬ (false = true) by simp), if_neg hw0, judgeParts_b.j1, if_neg (show ¬ (false = true) by simp), if_neg hw0]
  generalize Int.tmod (wrap64 ((Int.tmod a3 4) + 4)) 4 = m at m0 m4
  generalize Int.tmod (wrap64 ((Int.tmod a2 8) + 8)) 8 = who at w0 w8
  have hHf : judge_Held.f s = some ((book (s.map toH)).map (· - 1), 0) := by unfold judge_Held.f; rw [if_pos hs1, if_pos hw]
  have hl4 : ((((book (s.map toH)).map (· - 1)).length : Int) != 4) = false := by rw [held_ref hw]; rfl
  rw [hHf]
  simp only [Option.bind_some]
  rw [if_pos trivial, if_pos trivial, hl4]
  by_cases hn : (s.length : Int) > 0
  · have hn0 : 0 < s.length := by omega
    have hlt : s.length - 1 < s.length := by omega
    have hla := last_toH hn0
    by_cases h4 : (s[s.length - 1]'hlt).f2.f1 = 4
    · right
      rw [judgeParts_b.j2, if_neg (show ¬ (false = true) by simp), if_pos hn, w64_pred hn0 hs1, if_pos (by omega), if_pos (by omega), rdS hlt, if_pos h4]
      simp only [Option.bind_some, List.nil_append, List.length_nil, List.length_cons]
      rw [if_pos (by omega), if_pos (by omega)]
      unfold judge_Wrong.f
      rw [if_pos (by rw [List.length_append]; simp; omega), Option.bind_some, List.map_append]
      have e : wrong (s.map toH ++ [toH ⟨(s[s.length - 1]'hlt).f0, (s[s.length - 1]'hlt).f1, ⟨who, 0, m⟩⟩]) = ((s.map toH).length : Int) := by
        rw [wrong_snoc hw]
        have hl : lateO (lastO none (s.map toH)) (toH ⟨(s[s.length - 1]'hlt).f0, (s[s.length - 1]'hlt).f1, ⟨who, 0, m⟩⟩) = true := by
          rw [hla]
          unfold lateO late
          simp [toH, h4]
        rw [hl, if_pos rfl]
      have e2 : wrong (s.map toH ++ List.map toH [⟨(s[s.length - 1]'hlt).f0, (s[s.length - 1]'hlt).f1, ⟨who, 0, m⟩⟩]) = (s.length : Int) := by
        rw [List.length_map] at e
        exact e
      rw [e2]
      simp
    · left
      rw [judgeParts_a.j2, if_neg (show ¬ (false = true) by simp), if_pos hn, w64_pred hn0 hs1, if_pos (by omega), if_pos (by omega), rdS hlt, if_neg h4]
      refine parts_j3 s (by omega) hw ⟨(s[s.length - 1]'hlt).f0, (s[s.length - 1]'hlt).f1, ⟨who, 0, m⟩⟩ 7 rfl m0 m4 w0 w8 ?_
      rw [hla]
      unfold lateO late
      simp [toH, h4]
  · have h0 : s = [] := List.eq_nil_of_length_eq_zero (by omega)
    left
    rw [judgeParts_a.j2, if_neg (show ¬ (false = true) by simp), if_neg hn]
    refine parts_j3 s (by omega) hw ⟨0, 0, ⟨who, 0, m⟩⟩ 7 rfl m0 m4 w0 w8 ?_
    rw [h0]
    rfl
theorem parts_calls (A0 : Option Addr) (c0 : Nat) (l0 : List S33) (a1 a2 a3 : Int) (w : World) (hr0 : Kd.C k33 w A0 l0.length l0) (hc0 : l0.length ≤ c0) :
    Calls Try.prog 3 #[.slice A0 l0.length c0, .int .i64 a1, .int .i64 a2, .int .i64 a3] w fun e w' => e = .returned (.bool true) ∧ Below w.heap.size w w' := by
  rcases parts_pure l0 a1 a2 a3 with h | h
  · exact judgeParts_a.calls 10 A0 c0 l0 a1 a2 a3 true w hr0 hc0 h
  · exact judgeParts_b.calls 10 A0 c0 l0 a1 a2 a3 true w hr0 hc0 h
end Go.Proofs.Ytjdjmhagafmkaaa.PX

/-
  What happened, opened.
-/
namespace Go.Proofs.Ytjdjmhagafmkaaa.PX
open Go.RowKit Go.Proofs.YtjdjmhagafmkaaaW.PrintWords
theorem opensE {H : Type} {enc : TypeId × Value → H} {w : World} : Opens enc Try.prog w 31 k31 (fun _ => True) := by
  intro fuel cs x h
  obtain ⟨a, hk, _⟩ := Opens.struct (g := fun x : S31 => (x.f0, x.f1, x.f2)) Try.underlying31 (by kernel_rfl) (fun x : Int × Int × Int => ⟨x.1, x.2.1, x.2.2⟩) (fun _ => rfl)
    (OpensF.cons rfl (by kernel_rfl) (Opens.int Try.underlying3) rfl (OpensF.cons rfl (by kernel_rfl) (Opens.int Try.underlying3) rfl (OpensF.one rfl (by kernel_rfl) (Opens.int Try.underlying3)))) fuel cs x h
  exact ⟨a, hk, trivial⟩
theorem opensH {H : Type} {enc : TypeId × Value → H} {w : World} : Opens enc Try.prog w 33 k33 (fun _ => True) := by
  intro fuel cs x h
  obtain ⟨a, hk, _⟩ := Opens.struct (g := fun x : S33 => (x.f0, x.f1, x.f2)) Try.underlying33 (by kernel_rfl) (fun x : Int × Int × S31 => ⟨x.1, x.2.1, x.2.2⟩) (fun _ => rfl)
    (OpensF.cons rfl (by kernel_rfl) (Opens.int Try.underlying3) rfl (OpensF.cons rfl (by kernel_rfl) (Opens.int Try.underlying3) rfl (OpensF.one rfl (by kernel_rfl) opensE))) fuel cs x h
  exact ⟨a, hk, trivial⟩
end Go.Proofs.Ytjdjmhagafmkaaa.PX

/-
  The statement on JudgeParts, out of what its printed form comes to: for every input the call returns true, and each argument reads behind it as it read before.
-/
namespace Go.Proofs.Ytjdjmhagafmkaaa.judgeParts
open Go.ChangeShapes Go.WideShapes Go.ChangeAt Go.RowKit Go.Proofs.YtjdjmhagafmkaaaW.PrintWords Go.Proofs.Ytjdjmhagafmkaaa.PX
set_option linter.unusedVariables false
theorem own : ownKnob Try.prog.godebug = none := by kernel_rfl
set_option maxRecDepth 100000 in
theorem lifted (os : Os) (started : os.Started) (H : Type) (enc : TypeId × Value → H) :
    ReturnsInHanded {} Try.checked os 3 .any (Rows.judgePartsSpec.pre6 enc Try.prog Try.f3 Rows.judgePartsRow.domain false) (Rows.judgePartsSpec.post enc Try.prog Try.f3 false true false false) := by
  refine returnsInHanded_of_change (C := Try.checked) own started (by kernel_rfl) Try.func3
    (ChangeSpec.witness6 (enc := enc) (C := Try.checked) false ⟨#[], #[.slice none 0 0, .int .i64 0, .int .i64 0, .int .i64 0], []⟩ 8 (by kernel_rfl) (by kernel_rfl) (by kernel_rfl) (by kernel_rfl)) ?_
  intro W base args ds gs before hval0 hW hcnd _
  have hval : ∀ (j : Nat) t v, Try.f3.params[j]? = some t → args[j]? = some v → Value.okWide Try.prog W .any base t v := hval0
  have hW' := hW
  obtain ⟨p, q, hA0, hV, hpq, hfz, hnd⟩ := hW
  have hA : DataW.TrodAll enc Try.prog W 0 (fun _ => true) true Try.f3.params.toList args.toList ds p := hA0
  rw [Try.params3] at hA hval
  obtain ⟨v0, vs0, d0, ds0, p0, q0, hargs, rfl, hp0, h0, r0⟩ := trodAll_cons hA
  obtain ⟨v1, vs1, d1, ds1, p1, q1, rfl, rfl, hp1, h1, r1⟩ := trodAll_cons r0
  obtain ⟨v2, vs2, d2, ds2, p2, q2, rfl, rfl, hp2, h2, r2⟩ := trodAll_cons r1
  obtain ⟨v3, vs3, d3, ds3, p3, q3, rfl, rfl, hp3, h3, r3⟩ := trodAll_cons r2
  obtain ⟨rfl, rfl, _⟩ := trodAll_nil r3
  obtain rfl : args = #[v0, v1, v2, v3] := by cases args; simp_all
  obtain ⟨rfl, _⟩ := trodVars_none hV
  obtain ⟨A0, c0, l0, rfl, hl0, hC0, hw0⟩ := open_C Try.underlying22 (by kernel_rfl) opensH (hval 0 22 v0 rfl rfl) h0
  obtain ⟨a1, rfl, _, _, w1⟩ := open_int Try.underlying3 (hval 1 3 v1 rfl rfl) h1
  obtain ⟨a2, rfl, _, _, w2⟩ := open_int Try.underlying3 (hval 2 3 v2 rfl rfl) h2
  obtain ⟨a3, rfl, _, _, w3⟩ := open_int Try.underlying3 (hval 3 3 v3 rfl rfl) h3
  refine (parts_calls A0 c0 l0 a1 a2 a3 W hC0 hl0).mono fun e W' ⟨he, hb⟩ => ?_
  subst he
  exact ⟨_, rfl, law_post (by kernel_rfl) (by kernel_rfl) (by kernel_rfl) Try.underlying4 rfl hW' rfl hb⟩

theorem rowOver : Rows.judgePartsRow.holds Try.pinned (OpenSpec.ofChange Rows.judgePartsSpec) :=
  OpenClaim.holds_of_wide 3 Try.f3 rfl rfl rfl rfl rfl rfl rfl ⟨rfl, rfl, rfl, rfl, rfl⟩ rfl rfl rfl rfl rfl (by kernel_rfl) Try.func3 (by kernel_rfl)
    (of_decide_eq_true (by kernel_rfl)) (by unfold Func.isWrapper; first | (rw [if_pos (by decide +kernel)]; kernel_rfl) | (rw [if_neg (by decide +kernel)]; exact ⟨rfl, rfl⟩))
    (fun os started H enc _ => lifted os started H enc)

theorem proved : Rows.JudgePartsSaid := rowOver
#print axioms proved
end Go.Proofs.Ytjdjmhagafmkaaa.judgeParts
