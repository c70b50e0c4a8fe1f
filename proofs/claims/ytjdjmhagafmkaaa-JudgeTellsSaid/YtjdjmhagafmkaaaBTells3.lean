/-
  Texts of this claim, one behind the other: PXx9, PXx10, PJudgeTells, OpensH.
-/
import Derived.Test.YtjdjmhagafmkaaaBTells2
namespace Go.Proofs.Ytjdjmhagafmkaaa.PX
open Go.RowKit Go.Proofs.YtjdjmhagafmkaaaW.PrintWords Go.Proofs.YtjdjmhagafmkaaaW.PrintLast Go.Proofs.YtjdjmhagafmkaaaW.PrintMore
attribute [local go_sem] max2_int min2_int max_two min_two max_three min_three max_four min_four   -- for this text's walks alone
set_option linter.unusedVariables false
set_option linter.unusedSimpArgs false

/-! ### deadboltlaw18_JudgeTells: function 4 -/
mutual
def deadboltlaw18_JudgeTells.j0 : Nat → List (S33) → Int → List Int → Int → List Int → Int → Int → Int → Bool → Option (Bool)
  | 0, _, _, _, _, _, _, _, _, _ => none
  | k + 1, x0, x1, x5, x6, x7, x8, x9, x10, x38 => if x38 = true then (some false) else ((deadboltref18_Wrong.f k x0).bind fun t162 => (if t162 ≥ 0 then (if x6 = 1 then (if x8 = 1 then (if x10 = 1 then (if (x5.length : Int) = 0 then (if (x7.length : Int) = 0 then (some (x9 == 0)) else (some false)) else (some false)) else (some false)) else (some false)) else (some false)) else (if x6 = 0 then ((deadboltref18_Held.f k x0).bind fun t163 => ((deadboltref07_Same.f k x5 t163).bind fun t166 => (deadboltlaw18_JudgeTells.j1 k x0 x1 x7 x8 x9 x10 (!t166)))) else (deadboltlaw18_JudgeTells.j1 k x0 x1 x7 x8 x9 x10 true))))
def deadboltlaw18_JudgeTells.j1 : Nat → List (S33) → Int → List Int → Int → Int → Int → Bool → Option (Bool)
  | 0, _, _, _, _, _, _, _ => none
  | k + 1, x0, x1, x7, x8, x9, x10, x74 => if x74 = true then (some false) else (if x1 < 0 then (deadboltlaw18_JudgeTells.j2 k x0 x1 x7 x8 x9 x10 true) else (deadboltlaw18_JudgeTells.j2 k x0 x1 x7 x8 x9 x10 (decide (x1 > 3))))
def deadboltlaw18_JudgeTells.j2 : Nat → List (S33) → Int → List Int → Int → Int → Int → Bool → Option (Bool)
  | 0, _, _, _, _, _, _, _ => none
  | k + 1, x0, x1, x7, x8, x9, x10, x80 => if x80 = true then (if x8 = 3 then (if x10 = 3 then (if (x7.length : Int) = 0 then (some (x9 == 0)) else (some false)) else (some false)) else (some false)) else (if x8 = 0 then (if x10 = 0 then ((deadboltref18_Order.f k x0 x1).bind fun t167 => ((deadboltref07_Same.f k x7 t167).bind fun t170 => (if t170 = true then ((deadboltref18_Long.f k x0 x1).bind fun t171 => (some (x9 == t171))) else (some false)))) else (some false)) else (some false))
end
def deadboltlaw18_JudgeTells.f (k : Nat) (l0 : List (S33)) (a1 : Int) : Option (Bool) := (deadboltlaw18_few.f l0).bind fun t146 => ((judge_Held.f t146).bind fun bt149 => ((judge_Order.f t146 a1).bind fun bt153 => ((judge_Long.f t146 a1).bind fun bt157 => ((judge_Wrong.f t146).bind fun t159 => ((deadboltref18_Wrong.f k t146).bind fun t160 => (if t159 = t160 then ((deadboltlaw18_alive.f).bind fun t161 => (deadboltlaw18_JudgeTells.j0 k t146 a1 bt149.1 bt149.2 bt153.1 bt153.2 bt157.1 bt157.2 (!t161))) else (deadboltlaw18_JudgeTells.j0 k t146 a1 bt149.1 bt149.2 bt153.1 bt153.2 bt157.1 bt157.2 true)))))))
theorem deadboltlaw18_JudgeTells.mono_l : ∀ k, (∀ y0 y1 y2 y3 y4 y5 y6 y7 y8, LeO (deadboltlaw18_JudgeTells.j0 k y0 y1 y2 y3 y4 y5 y6 y7 y8) (deadboltlaw18_JudgeTells.j0 (k + 1) y0 y1 y2 y3 y4 y5 y6 y7 y8)) ∧ (∀ y0 y1 y2 y3 y4 y5 y6, LeO (deadboltlaw18_JudgeTells.j1 k y0 y1 y2 y3 y4 y5 y6) (deadboltlaw18_JudgeTells.j1 (k + 1) y0 y1 y2 y3 y4 y5 y6)) ∧ (∀ y0 y1 y2 y3 y4 y5 y6, LeO (deadboltlaw18_JudgeTells.j2 k y0 y1 y2 y3 y4 y5 y6) (deadboltlaw18_JudgeTells.j2 (k + 1) y0 y1 y2 y3 y4 y5 y6))
  | 0 => ⟨fun _ _ _ _ _ _ _ _ _ r h => by simp [deadboltlaw18_JudgeTells.j0] at h, fun _ _ _ _ _ _ _ r h => by simp [deadboltlaw18_JudgeTells.j1] at h, fun _ _ _ _ _ _ _ r h => by simp [deadboltlaw18_JudgeTells.j2] at h⟩
  | k + 1 => by
    obtain ⟨ih0, ih1, ih2⟩ := deadboltlaw18_JudgeTells.mono_l k
    refine ⟨?_, ?_, ?_⟩
    · intro y0 y1 y2 y3 y4 y5 y6 y7 y8
      unfold deadboltlaw18_JudgeTells.j0
      repeat' first
      | (with_reducible exact ih0 _ _ _ _ _ _ _ _ _)
      | (with_reducible exact ih1 _ _ _ _ _ _ _)
      | (with_reducible exact ih2 _ _ _ _ _ _ _)
      | (with_reducible exact deadboltref07_Same.mono _ _ _)
      | (with_reducible exact deadboltref18_Held.mono _ _)
      | (with_reducible exact deadboltref18_Long.mono _ _ _)
      | (with_reducible exact deadboltref18_Order.mono _ _ _)
      | (with_reducible exact deadboltref18_Wrong.mono _ _)
      | (with_reducible exact LeO.refl _)
      | (with_reducible exact LeO.none _)
      | (with_reducible refine LeO.ite ?_ ?_)
      | (with_reducible refine LeO.bind ?_ (fun _ => ?_))
      | exact ih0 _ _ _ _ _ _ _ _ _
      | exact ih1 _ _ _ _ _ _ _
      | exact ih2 _ _ _ _ _ _ _
      | exact deadboltref07_Same.mono _ _ _
      | exact deadboltref18_Held.mono _ _
      | exact deadboltref18_Long.mono _ _ _
      | exact deadboltref18_Order.mono _ _ _
      | exact deadboltref18_Wrong.mono _ _
      | exact LeO.none _
      | refine LeO.ite ?_ ?_
      | refine LeO.bind ?_ (fun _ => ?_)
    · intro y0 y1 y2 y3 y4 y5 y6
      unfold deadboltlaw18_JudgeTells.j1
      repeat' first
      | (with_reducible exact ih0 _ _ _ _ _ _ _ _ _)
      | (with_reducible exact ih1 _ _ _ _ _ _ _)
      | (with_reducible exact ih2 _ _ _ _ _ _ _)
      | (with_reducible exact deadboltref07_Same.mono _ _ _)
      | (with_reducible exact deadboltref18_Held.mono _ _)
      | (with_reducible exact deadboltref18_Long.mono _ _ _)
      | (with_reducible exact deadboltref18_Order.mono _ _ _)
      | (with_reducible exact deadboltref18_Wrong.mono _ _)
      | (with_reducible exact LeO.refl _)
      | (with_reducible exact LeO.none _)
      | (with_reducible refine LeO.ite ?_ ?_)
      | (with_reducible refine LeO.bind ?_ (fun _ => ?_))
      | exact ih0 _ _ _ _ _ _ _ _ _
      | exact ih1 _ _ _ _ _ _ _
      | exact ih2 _ _ _ _ _ _ _
      | exact deadboltref07_Same.mono _ _ _
      | exact deadboltref18_Held.mono _ _
      | exact deadboltref18_Long.mono _ _ _
      | exact deadboltref18_Order.mono _ _ _
      | exact deadboltref18_Wrong.mono _ _
      | exact LeO.none _
      | refine LeO.ite ?_ ?_
      | refine LeO.bind ?_ (fun _ => ?_)
    · intro y0 y1 y2 y3 y4 y5 y6
      unfold deadboltlaw18_JudgeTells.j2
      repeat' first
      | (with_reducible exact ih0 _ _ _ _ _ _ _ _ _)
      | (with_reducible exact ih1 _ _ _ _ _ _ _)
      | (with_reducible exact ih2 _ _ _ _ _ _ _)
      | (with_reducible exact deadboltref07_Same.mono _ _ _)
      | (with_reducible exact deadboltref18_Held.mono _ _)
      | (with_reducible exact deadboltref18_Long.mono _ _ _)
      | (with_reducible exact deadboltref18_Order.mono _ _ _)
      | (with_reducible exact deadboltref18_Wrong.mono _ _)
      | (with_reducible exact LeO.refl _)
      | (with_reducible exact LeO.none _)
      | (with_reducible refine LeO.ite ?_ ?_)
      | (with_reducible refine LeO.bind ?_ (fun _ => ?_))
      | exact ih0 _ _ _ _ _ _ _ _ _
      | exact ih1 _ _ _ _ _ _ _
      | exact ih2 _ _ _ _ _ _ _
      | exact deadboltref07_Same.mono _ _ _
      | exact deadboltref18_Held.mono _ _
      | exact deadboltref18_Long.mono _ _ _
      | exact deadboltref18_Order.mono _ _ _
      | exact deadboltref18_Wrong.mono _ _
      | exact LeO.none _
      | refine LeO.ite ?_ ?_
      | refine LeO.bind ?_ (fun _ => ?_)
theorem deadboltlaw18_JudgeTells.mono : ∀ a0 a1 k, LeO (deadboltlaw18_JudgeTells.f k a0 a1) (deadboltlaw18_JudgeTells.f (k + 1) a0 a1) := by
  intro a0 a1 k
  obtain ⟨ih0, ih1, ih2⟩ := deadboltlaw18_JudgeTells.mono_l k
  unfold deadboltlaw18_JudgeTells.f
  repeat' first
      | (with_reducible exact ih0 _ _ _ _ _ _ _ _ _)
      | (with_reducible exact ih1 _ _ _ _ _ _ _)
      | (with_reducible exact ih2 _ _ _ _ _ _ _)
      | (with_reducible exact deadboltref07_Same.mono _ _ _)
      | (with_reducible exact deadboltref18_Held.mono _ _)
      | (with_reducible exact deadboltref18_Long.mono _ _ _)
      | (with_reducible exact deadboltref18_Order.mono _ _ _)
      | (with_reducible exact deadboltref18_Wrong.mono _ _)
      | (with_reducible exact LeO.refl _)
      | (with_reducible exact LeO.none _)
      | (with_reducible refine LeO.ite ?_ ?_)
      | (with_reducible refine LeO.bind ?_ (fun _ => ?_))
      | exact ih0 _ _ _ _ _ _ _ _ _
      | exact ih1 _ _ _ _ _ _ _
      | exact ih2 _ _ _ _ _ _ _
      | exact deadboltref07_Same.mono _ _ _
      | exact deadboltref18_Held.mono _ _
      | exact deadboltref18_Long.mono _ _ _
      | exact deadboltref18_Order.mono _ _ _
      | exact deadboltref18_Wrong.mono _ _
      | exact LeO.none _
      | refine LeO.ite ?_ ?_
      | refine LeO.bind ?_ (fun _ => ?_)
set_option maxHeartbeats 8000000 in
set_option maxRecDepth 100000 in
theorem deadboltlaw18_JudgeTells.calls (k : Nat) (A0 : Option Addr) (c0 : Nat) (l0 : List (S33)) (a1 : Int) (r : Bool) (w : World) (hr0 : Kd.C k33 w A0 l0.length l0) (hc0 : l0.length ≤ c0) (h : deadboltlaw18_JudgeTells.f k l0 a1 = some r) :
    Calls Try.prog 4 #[.slice A0 l0.length c0, .int .i64 a1] w fun e w' => e = .returned (.bool r) ∧ Below w.heap.size w w' := by
  have HR0 := Aside0.mk hr0
  have HC0 := Aside0.mk hc0
  clear hr0 hc0
  have HB := Aside0.mk (Below.refl w.heap.size w)
  have H : ((deadboltlaw18_few.f l0).bind fun t146 => ((judge_Held.f t146).bind fun bt149 => ((judge_Order.f t146 a1).bind fun bt153 => ((judge_Long.f t146 a1).bind fun bt157 => ((judge_Wrong.f t146).bind fun t159 => ((deadboltref18_Wrong.f k t146).bind fun t160 => (if t159 = t160 then ((deadboltlaw18_alive.f).bind fun t161 => (deadboltlaw18_JudgeTells.j0 k t146 a1 bt149.1 bt149.2 bt153.1 bt153.2 bt157.1 bt157.2 (!t161))) else (deadboltlaw18_JudgeTells.j0 k t146 a1 bt149.1 bt149.2 bt153.1 bt153.2 bt157.1 bt157.2 true)))))))) = some r := h
  clear h
  replace H := Option.bind_eq_some_iff.mp H
  obtain ⟨t146, A30, H⟩ := H
  replace H : ((judge_Held.f t146).bind fun bt149 => ((judge_Order.f t146 a1).bind fun bt153 => ((judge_Long.f t146 a1).bind fun bt157 => ((judge_Wrong.f t146).bind fun t159 => ((deadboltref18_Wrong.f k t146).bind fun t160 => (if t159 = t160 then ((deadboltlaw18_alive.f).bind fun t161 => (deadboltlaw18_JudgeTells.j0 k t146 a1 bt149.1 bt149.2 bt153.1 bt153.2 bt157.1 bt157.2 (!t161))) else (deadboltlaw18_JudgeTells.j0 k t146 a1 bt149.1 bt149.2 bt153.1 bt153.2 bt157.1 bt157.2 true))))))) = some r := H
  have A3 := Aside0.mk A30
  clear A30
  replace H := Option.bind_eq_some_iff.mp H
  obtain ⟨⟨t149, t150⟩, A40, H⟩ := H
  replace H : ((judge_Order.f t146 a1).bind fun bt153 => ((judge_Long.f t146 a1).bind fun bt157 => ((judge_Wrong.f t146).bind fun t159 => ((deadboltref18_Wrong.f k t146).bind fun t160 => (if t159 = t160 then ((deadboltlaw18_alive.f).bind fun t161 => (deadboltlaw18_JudgeTells.j0 k t146 a1 t149 t150 bt153.1 bt153.2 bt157.1 bt157.2 (!t161))) else (deadboltlaw18_JudgeTells.j0 k t146 a1 t149 t150 bt153.1 bt153.2 bt157.1 bt157.2 true)))))) = some r := H
  have A4 := Aside0.mk A40
  clear A40
  replace H := Option.bind_eq_some_iff.mp H
  obtain ⟨⟨t153, t154⟩, A50, H⟩ := H
  replace H : ((judge_Long.f t146 a1).bind fun bt157 => ((judge_Wrong.f t146).bind fun t159 => ((deadboltref18_Wrong.f k t146).bind fun t160 => (if t159 = t160 then ((deadboltlaw18_alive.f).bind fun t161 => (deadboltlaw18_JudgeTells.j0 k t146 a1 t149 t150 t153 t154 bt157.1 bt157.2 (!t161))) else (deadboltlaw18_JudgeTells.j0 k t146 a1 t149 t150 t153 t154 bt157.1 bt157.2 true))))) = some r := H
  have A5 := Aside0.mk A50
  clear A50
  replace H := Option.bind_eq_some_iff.mp H
  obtain ⟨⟨t157, t158⟩, A60, H⟩ := H
  replace H : ((judge_Wrong.f t146).bind fun t159 => ((deadboltref18_Wrong.f k t146).bind fun t160 => (if t159 = t160 then ((deadboltlaw18_alive.f).bind fun t161 => (deadboltlaw18_JudgeTells.j0 k t146 a1 t149 t150 t153 t154 t157 t158 (!t161))) else (deadboltlaw18_JudgeTells.j0 k t146 a1 t149 t150 t153 t154 t157 t158 true)))) = some r := H
  have A6 := Aside0.mk A60
  clear A60
  have HC7 := Aside0.mk H
  clear H
  go_enter Try.func4, Try.ntmps4
  go_upto_region 5 with (first | ((with_reducible refine gate_callee (f := 13) rfl ?_); refine goesL_ (some 12) rfl rfl Try.func13 (by kernel_rfl) rfl #[.slice A0 l0.length c0] rfl (by (try simp only [List.map_toArray, List.map_cons, List.map_nil]); first | done | rfl | (simp only [List.length_drop, List.length_take]; rfl)) ?_; (with_reducible refine (deadboltlaw18_few.calls _ _ l0 t146 _ ?side1 ?side2 A3.out).mono ?_); (case side1 => repeat (first | exact HR0.out | (with_reducible refine Kd.C_alloc ?_ _) | (with_reducible refine Kd.C_drewN ?_ _) | (with_reducible refine Kd.C_drew ?_))); (case side2 => exact HC0.out); rintro e w8 ⟨v147, rfl, ho0, hb⟩; refine ⟨_, rfl, ?_⟩; have n0_ := Aside0.mk (Kd.R_lower ho0 (below_size (by repeat (first | (with_reducible first | exact HB.out | apply below_alloc | apply pw_below_drewN | apply below_drew1) | exact HB.out)))); have n1_ := Aside0.mk (below_step (by repeat (first | (with_reducible first | exact HB.out | apply below_alloc | apply pw_below_drewN | apply below_drew1) | exact HB.out)) hb); clear HB; have HO148 := n0_; have HB := n1_; clear n0_ n1_; (try clear hb); (try clear hb2); (try clear hk); (try clear hi); (try clear ho0); obtain ⟨Ao9, co9, eo9⟩ := Kd.R_slice HO148.out; subst eo9) | ((with_reducible refine gate_callee (f := 16) rfl ?_); refine goesL_ (some 15) rfl rfl Try.func16 (by kernel_rfl) rfl #[.slice Ao9 t146.length co9] rfl (by (try simp only [List.map_toArray, List.map_cons, List.map_nil]); first | done | rfl | (simp only [List.length_drop, List.length_take]; rfl)) ?_; (with_reducible refine (judge_Held.calls _ _ t146 t149 t150 _ ?side1 ?side2 A4.out).mono ?_); (case side1 => repeat (first | exact (Kd.R_reads' HO148.out).2.2 | (with_reducible refine Kd.C_alloc ?_ _) | (with_reducible refine Kd.C_drewN ?_ _) | (with_reducible refine Kd.C_drew ?_))); (case side2 => exact (Kd.R_reads' HO148.out).2.1); rintro e w10 ⟨v151, rfl, ho0, hb⟩; refine ⟨_, rfl, ?_⟩; have n0_ := Aside0.mk (Kd.R_below (by (with_reducible repeat (first | apply Kd.R_alloc | apply Kd.R_drewN | apply Kd.R_drew)); exact HO148.out) hb); have n1_ := Aside0.mk (Kd.R_lower ho0 (below_size (by repeat (first | (with_reducible first | exact HB.out | apply below_alloc | apply pw_below_drewN | apply below_drew1) | exact HB.out)))); have n2_ := Aside0.mk (below_step (by repeat (first | (with_reducible first | exact HB.out | apply below_alloc | apply pw_below_drewN | apply below_drew1) | exact HB.out)) hb); clear HO148; clear HB; have HO148 := n0_; have HO152 := n1_; have HB := n2_; clear n0_ n1_ n2_; (try clear hb); (try clear hb2); (try clear hk); (try clear hi); (try clear ho0)) | ((with_reducible refine gate_callee (f := 17) rfl ?_); refine goesL_ (some 21) rfl rfl Try.func17 (by kernel_rfl) rfl #[.slice Ao9 t146.length co9, .int .i64 a1] rfl (by (try simp only [List.map_toArray, List.map_cons, List.map_nil]); first | done | rfl | (simp only [List.length_drop, List.length_take]; rfl)) ?_; (with_reducible refine (judge_Order.calls _ _ t146 a1 t153 t154 _ ?side1 ?side2 A5.out).mono ?_); (case side1 => repeat (first | exact (Kd.R_reads' HO148.out).2.2 | (with_reducible refine Kd.C_alloc ?_ _) | (with_reducible refine Kd.C_drewN ?_ _) | (with_reducible refine Kd.C_drew ?_))); (case side2 => exact (Kd.R_reads' HO148.out).2.1); rintro e w11 ⟨v155, rfl, ho0, hb⟩; refine ⟨_, rfl, ?_⟩; have n0_ := Aside0.mk (Kd.R_below (by (with_reducible repeat (first | apply Kd.R_alloc | apply Kd.R_drewN | apply Kd.R_drew)); exact HO148.out) hb); have n1_ := Aside0.mk (Kd.R_elder' (by (with_reducible repeat (first | apply Kd.R_alloc | apply Kd.R_drewN | apply Kd.R_drew)); exact HO152.out) (Kd.R_base ho0) hb); have n2_ := Aside0.mk (Kd.R_lower (Kd.R_new' ho0 (Kd.R_lt (by (with_reducible repeat (first | apply Kd.R_alloc | apply Kd.R_drewN | apply Kd.R_drew)); exact HO152.out))) (below_size (by repeat (first | (with_reducible first | exact HB.out | apply below_alloc | apply pw_below_drewN | apply below_drew1) | exact HB.out)))); have n3_ := Aside0.mk (below_step (by repeat (first | (with_reducible first | exact HB.out | apply below_alloc | apply pw_below_drewN | apply below_drew1) | exact HB.out)) hb); clear HO148; clear HO152; clear HB; have HO148 := n0_; have HO152 := n1_; have HO156 := n2_; have HB := n3_; clear n0_ n1_ n2_ n3_; (try clear hb); (try clear hb2); (try clear hk); (try clear hi); (try clear ho0)) | ((with_reducible refine gate_callee (f := 18) rfl ?_); refine goesL_ (some 27) rfl rfl Try.func18 (by kernel_rfl) rfl #[.slice Ao9 t146.length co9, .int .i64 a1] rfl (by (try simp only [List.map_toArray, List.map_cons, List.map_nil]); first | done | rfl | (simp only [List.length_drop, List.length_take]; rfl)) ?_; (with_reducible refine (judge_Long.calls _ _ t146 a1 t157 t158 _ ?side1 ?side2 A6.out).mono ?_); (case side1 => repeat (first | exact (Kd.R_reads' HO148.out).2.2 | (with_reducible refine Kd.C_alloc ?_ _) | (with_reducible refine Kd.C_drewN ?_ _) | (with_reducible refine Kd.C_drew ?_))); (case side2 => exact (Kd.R_reads' HO148.out).2.1); rintro e w12 ⟨rfl, hb⟩; refine ⟨_, rfl, ?_⟩; have n0_ := Aside0.mk (Kd.R_below (by (with_reducible repeat (first | apply Kd.R_alloc | apply Kd.R_drewN | apply Kd.R_drew)); exact HO148.out) hb); have n1_ := Aside0.mk (Kd.R_below (by (with_reducible repeat (first | apply Kd.R_alloc | apply Kd.R_drewN | apply Kd.R_drew)); exact HO152.out) hb); have n2_ := Aside0.mk (Kd.R_below (by (with_reducible repeat (first | apply Kd.R_alloc | apply Kd.R_drewN | apply Kd.R_drew)); exact HO156.out) hb); have n3_ := Aside0.mk (below_step (by repeat (first | (with_reducible first | exact HB.out | apply below_alloc | apply pw_below_drewN | apply below_drew1) | exact HB.out)) hb); clear HO148; clear HO152; clear HO156; clear HB; have HO148 := n0_; have HO152 := n1_; have HO156 := n2_; have HB := n3_; clear n0_ n1_ n2_ n3_; (try clear hb); (try clear hb2); (try clear hk); (try clear hi)))
  (try simp only [Act.put, List.setIfInBounds_toArray, List.set_cons_zero, List.set_cons_succ])
  go_cut [38] (fun v38 wc => ∃ (kq : Nat) (x38_6 : Bool), v38 = .bool x38_6 ∧ Aside0 (deadboltlaw18_JudgeTells.j0 kq t146 a1 t149 t150 t153 t154 t157 t158 x38_6 = some r) ∧ Aside0 (kq ≤ k) ∧ Aside0 (Kd.R k33 33 wc w.heap.size (fun _ => True) (.slice Ao9 t146.length co9) t146) ∧ Aside0 (Kd.R (Kd.int .i64) 3 wc w.heap.size (fun k_ => some k_ ≠ (v155 : Value).ownBlock) v151 t149) ∧ Aside0 (Kd.R (Kd.int .i64) 3 wc w.heap.size (fun k_ => some k_ ≠ (v151 : Value).ownBlock) v155 t153) ∧ Aside0 (Below w.heap.size w wc))
  case first =>
    have H := HC7.out
    clear HC7
    replace H := Option.bind_eq_some_iff.mp H
    obtain ⟨t159, A130, H⟩ := H
    replace H : ((deadboltref18_Wrong.f k t146).bind fun t160 => (if t159 = t160 then ((deadboltlaw18_alive.f).bind fun t161 => (deadboltlaw18_JudgeTells.j0 k t146 a1 t149 t150 t153 t154 t157 t158 (!t161))) else (deadboltlaw18_JudgeTells.j0 k t146 a1 t149 t150 t153 t154 t157 t158 true))) = some r := H
    have A13 := Aside0.mk A130
    clear A130
    replace H := Option.bind_eq_some_iff.mp H
    obtain ⟨t160, A140, H⟩ := H
    replace H : (if t159 = t160 then ((deadboltlaw18_alive.f).bind fun t161 => (deadboltlaw18_JudgeTells.j0 k t146 a1 t149 t150 t153 t154 t157 t158 (!t161))) else (deadboltlaw18_JudgeTells.j0 k t146 a1 t149 t150 t153 t154 t157 t158 true)) = some r := H
    have A14 := Aside0.mk A140
    clear A140
    by_cases c15 : t159 = t160
    · rw [if_pos c15] at H
      have c15b0 : (t159 == t160) = true := beq_iff_eq.mpr c15
      have c15b1 : (t159 != t160) = false := bne_eq_false_iff_eq.mpr c15
      clear c15
      (first | rw [c15b0] | (simp only [i64_w, i32_w]; rw [c15b0]) | skip)
      replace H := Option.bind_eq_some_iff.mp H
      obtain ⟨t161, A160, H⟩ := H
      replace H : (deadboltlaw18_JudgeTells.j0 k t146 a1 t149 t150 t153 t154 t157 t158 (!t161)) = some r := H
      have A16 := Aside0.mk A160
      clear A160
      have H' := Aside0.mk H
      clear H
      go_wp2_with (first | ((with_reducible refine gate_callee (f := 14) rfl ?_); refine goesL_ (some 31) rfl rfl Try.func14 (by kernel_rfl) rfl #[.slice Ao9 t146.length co9] rfl (by (try simp only [List.map_toArray, List.map_cons, List.map_nil]); first | done | rfl | (simp only [List.length_drop, List.length_take]; rfl)) ?_; (with_reducible refine (judge_Wrong.calls _ _ t146 t159 _ ?side1 ?side2 A13.out).mono ?_); (case side1 => repeat (first | exact (Kd.R_reads' HO148.out).2.2 | (with_reducible refine Kd.C_alloc ?_ _) | (with_reducible refine Kd.C_drewN ?_ _) | (with_reducible refine Kd.C_drew ?_))); (case side2 => exact (Kd.R_reads' HO148.out).2.1); rintro e w17 ⟨rfl, hb⟩; refine ⟨_, rfl, ?_⟩; have n0_ := Aside0.mk (Kd.R_below (by (with_reducible repeat (first | apply Kd.R_alloc | apply Kd.R_drewN | apply Kd.R_drew)); exact HO148.out) hb); have n1_ := Aside0.mk (Kd.R_below (by (with_reducible repeat (first | apply Kd.R_alloc | apply Kd.R_drewN | apply Kd.R_drew)); exact HO152.out) hb); have n2_ := Aside0.mk (Kd.R_below (by (with_reducible repeat (first | apply Kd.R_alloc | apply Kd.R_drewN | apply Kd.R_drew)); exact HO156.out) hb); have n3_ := Aside0.mk (below_step (by repeat (first | (with_reducible first | exact HB.out | apply below_alloc | apply pw_below_drewN | apply below_drew1) | exact HB.out)) hb); clear HO148; clear HO152; clear HO156; clear HB; have HO148 := n0_; have HO152 := n1_; have HO156 := n2_; have HB := n3_; clear n0_ n1_ n2_ n3_; (try clear hb); (try clear hb2); (try clear hk); (try clear hi)) | ((with_reducible refine gate_callee (f := 19) rfl ?_); refine goesL_ (some 33) rfl rfl Try.func19 (by kernel_rfl) rfl #[.slice Ao9 t146.length co9] rfl (by (try simp only [List.map_toArray, List.map_cons, List.map_nil]); first | done | rfl | (simp only [List.length_drop, List.length_take]; rfl)) ?_; (with_reducible refine (deadboltref18_Wrong.calls k _ _ t146 t160 _ ?side1 ?side2 A14.out).mono ?_); (case side1 => repeat (first | exact (Kd.R_reads' HO148.out).2.2 | (with_reducible refine Kd.C_alloc ?_ _) | (with_reducible refine Kd.C_drewN ?_ _) | (with_reducible refine Kd.C_drew ?_))); (case side2 => exact (Kd.R_reads' HO148.out).2.1); rintro e w18 ⟨rfl, hb⟩; refine ⟨_, rfl, ?_⟩; have n0_ := Aside0.mk (Kd.R_below (by (with_reducible repeat (first | apply Kd.R_alloc | apply Kd.R_drewN | apply Kd.R_drew)); exact HO148.out) hb); have n1_ := Aside0.mk (Kd.R_below (by (with_reducible repeat (first | apply Kd.R_alloc | apply Kd.R_drewN | apply Kd.R_drew)); exact HO152.out) hb); have n2_ := Aside0.mk (Kd.R_below (by (with_reducible repeat (first | apply Kd.R_alloc | apply Kd.R_drewN | apply Kd.R_drew)); exact HO156.out) hb); have n3_ := Aside0.mk (below_step (by repeat (first | (with_reducible first | exact HB.out | apply below_alloc | apply pw_below_drewN | apply below_drew1) | exact HB.out)) hb); clear HO148; clear HO152; clear HO156; clear HB; have HO148 := n0_; have HO152 := n1_; have HO156 := n2_; have HB := n3_; clear n0_ n1_ n2_ n3_; (try clear hb); (try clear hb2); (try clear hk); (try clear hi)) | (go_at_call 15; (with_reducible refine (deadboltlaw18_alive.calls  t161 _ A16.out).mono ?_); rintro e w19 ⟨rfl, hb⟩; have n0_ := Aside0.mk (Kd.R_below (by (with_reducible repeat (first | apply Kd.R_alloc | apply Kd.R_drewN | apply Kd.R_drew)); exact HO148.out) hb); have n1_ := Aside0.mk (Kd.R_below (by (with_reducible repeat (first | apply Kd.R_alloc | apply Kd.R_drewN | apply Kd.R_drew)); exact HO152.out) hb); have n2_ := Aside0.mk (Kd.R_below (by (with_reducible repeat (first | apply Kd.R_alloc | apply Kd.R_drewN | apply Kd.R_drew)); exact HO156.out) hb); have n3_ := Aside0.mk (below_step (by repeat (first | (with_reducible first | exact HB.out | apply below_alloc | apply pw_below_drewN | apply below_drew1) | exact HB.out)) hb); clear HO148; clear HO152; clear HO156; clear HB; have HO148 := n0_; have HO152 := n1_; have HO156 := n2_; have HB := n3_; clear n0_ n1_ n2_ n3_; (try clear hb); (try clear hb2); (try clear hk); (try clear hi)))
      go_meet
      case rel => exact ⟨_, (!t161), (by first | rfl | (simp; done) | (simp [*]; done)), H', ⟨by first | omega | exact Nat.le_refl _⟩, ⟨by (with_reducible repeat (first | apply Kd.R_alloc | apply Kd.R_drewN | apply Kd.R_drew)); exact HO148.out⟩, ⟨by (with_reducible repeat (first | apply Kd.R_alloc | apply Kd.R_drewN | apply Kd.R_drew)); exact Kd.R_mono HO152.out (fun _ hk => hk.2)⟩, ⟨by (with_reducible repeat (first | apply Kd.R_alloc | apply Kd.R_drewN | apply Kd.R_drew)); exact Kd.R_mono HO156.out (fun _ hk => hk.2)⟩, ⟨by repeat (first | (with_reducible first | exact HB.out | apply below_alloc | apply pw_below_drewN | apply below_drew1) | exact HB.out)⟩⟩
    · rw [if_neg c15] at H
      have c15b0 : (t159 == t160) = false := beq_eq_false_iff_ne.mpr c15
      have c15b1 : (t159 != t160) = true := bne_iff_ne.mpr c15
      (first | rw [c15b0] | (simp only [i64_w, i32_w]; rw [c15b0]) | skip)
      have H' := Aside0.mk H
      clear H
      go_wp2_with (first | ((with_reducible refine gate_callee (f := 14) rfl ?_); refine goesL_ (some 31) rfl rfl Try.func14 (by kernel_rfl) rfl #[.slice Ao9 t146.length co9] rfl (by (try simp only [List.map_toArray, List.map_cons, List.map_nil]); first | done | rfl | (simp only [List.length_drop, List.length_take]; rfl)) ?_; (with_reducible refine (judge_Wrong.calls _ _ t146 t159 _ ?side1 ?side2 A13.out).mono ?_); (case side1 => repeat (first | exact (Kd.R_reads' HO148.out).2.2 | (with_reducible refine Kd.C_alloc ?_ _) | (with_reducible refine Kd.C_drewN ?_ _) | (with_reducible refine Kd.C_drew ?_))); (case side2 => exact (Kd.R_reads' HO148.out).2.1); rintro e w20 ⟨rfl, hb⟩; refine ⟨_, rfl, ?_⟩; have n0_ := Aside0.mk (Kd.R_below (by (with_reducible repeat (first | apply Kd.R_alloc | apply Kd.R_drewN | apply Kd.R_drew)); exact HO148.out) hb); have n1_ := Aside0.mk (Kd.R_below (by (with_reducible repeat (first | apply Kd.R_alloc | apply Kd.R_drewN | apply Kd.R_drew)); exact HO152.out) hb); have n2_ := Aside0.mk (Kd.R_below (by (with_reducible repeat (first | apply Kd.R_alloc | apply Kd.R_drewN | apply Kd.R_drew)); exact HO156.out) hb); have n3_ := Aside0.mk (below_step (by repeat (first | (with_reducible first | exact HB.out | apply below_alloc | apply pw_below_drewN | apply below_drew1) | exact HB.out)) hb); clear HO148; clear HO152; clear HO156; clear HB; have HO148 := n0_; have HO152 := n1_; have HO156 := n2_; have HB := n3_; clear n0_ n1_ n2_ n3_; (try clear hb); (try clear hb2); (try clear hk); (try clear hi)) | ((with_reducible refine gate_callee (f := 19) rfl ?_); refine goesL_ (some 33) rfl rfl Try.func19 (by kernel_rfl) rfl #[.slice Ao9 t146.length co9] rfl (by (try simp only [List.map_toArray, List.map_cons, List.map_nil]); first | done | rfl | (simp only [List.length_drop, List.length_take]; rfl)) ?_; (with_reducible refine (deadboltref18_Wrong.calls k _ _ t146 t160 _ ?side1 ?side2 A14.out).mono ?_); (case side1 => repeat (first | exact (Kd.R_reads' HO148.out).2.2 | (with_reducible refine Kd.C_alloc ?_ _) | (with_reducible refine Kd.C_drewN ?_ _) | (with_reducible refine Kd.C_drew ?_))); (case side2 => exact (Kd.R_reads' HO148.out).2.1); rintro e w21 ⟨rfl, hb⟩; refine ⟨_, rfl, ?_⟩; have n0_ := Aside0.mk (Kd.R_below (by (with_reducible repeat (first | apply Kd.R_alloc | apply Kd.R_drewN | apply Kd.R_drew)); exact HO148.out) hb); have n1_ := Aside0.mk (Kd.R_below (by (with_reducible repeat (first | apply Kd.R_alloc | apply Kd.R_drewN | apply Kd.R_drew)); exact HO152.out) hb); have n2_ := Aside0.mk (Kd.R_below (by (with_reducible repeat (first | apply Kd.R_alloc | apply Kd.R_drewN | apply Kd.R_drew)); exact HO156.out) hb); have n3_ := Aside0.mk (below_step (by repeat (first | (with_reducible first | exact HB.out | apply below_alloc | apply pw_below_drewN | apply below_drew1) | exact HB.out)) hb); clear HO148; clear HO152; clear HO156; clear HB; have HO148 := n0_; have HO152 := n1_; have HO156 := n2_; have HB := n3_; clear n0_ n1_ n2_ n3_; (try clear hb); (try clear hb2); (try clear hk); (try clear hi)))
      go_meet
      case rel => exact ⟨_, (true), (by first | rfl | (simp; done) | (simp [*]; done)), H', ⟨by first | omega | exact Nat.le_refl _⟩, ⟨by (with_reducible repeat (first | apply Kd.R_alloc | apply Kd.R_drewN | apply Kd.R_drew)); exact HO148.out⟩, ⟨by (with_reducible repeat (first | apply Kd.R_alloc | apply Kd.R_drewN | apply Kd.R_drew)); exact Kd.R_mono HO152.out (fun _ hk => hk.2)⟩, ⟨by (with_reducible repeat (first | apply Kd.R_alloc | apply Kd.R_drewN | apply Kd.R_drew)); exact Kd.R_mono HO156.out (fun _ hk => hk.2)⟩, ⟨by repeat (first | (with_reducible first | exact HB.out | apply below_alloc | apply pw_below_drewN | apply below_drew1) | exact HB.out)⟩⟩
  case rest =>
    clear HC7
    try clear c1
    try clear p2
    try clear c4
    try clear c13
    try clear c14
    try clear c15
    try clear c15b0
    try clear c15b1
    try clear c16
    try clear c17
    try clear c18
    try clear c19
    obtain ⟨kq, x38_6, rfl, HA, HJ6, HO_0, HO_5, HO_7, HB⟩ := hcut
    cases kq with
    | zero => exact absurd HA.out (by simp [deadboltlaw18_JudgeTells.j0])
    | succ kj6 =>
      have H := HA.out
      clear HA
      simp only [deadboltlaw18_JudgeTells.j0] at H
      by_cases c22 : x38_6 = true
      · subst c22
        have H1 : (some false) = some r := by rw [if_pos rfl] at H; exact H
        clear H
        have H := H1
        clear H1
        obtain rfl := Option.some.inj H
        go_wp2
        go_ret
        exact ⟨by first | rfl | (simp [errW_none, errW_some] <;> rfl) | (simp [*, errW_none, errW_some] <;> rfl), by repeat (first | (with_reducible first | exact HB.out | apply below_alloc | apply pw_below_drewN | apply below_drew1) | exact HB.out)⟩
      · replace c22 := Bool.eq_false_iff.mpr c22
        subst c22
        have H1 : ((deadboltref18_Wrong.f kj6 t146).bind fun t162 => (if t162 ≥ 0 then (if t150 = 1 then (if t154 = 1 then (if t158 = 1 then (if (t149.length : Int) = 0 then (if (t153.length : Int) = 0 then (some (t157 == 0)) else (some false)) else (some false)) else (some false)) else (some false)) else (some false)) else (if t150 = 0 then ((deadboltref18_Held.f kj6 t146).bind fun t163 => ((deadboltref07_Same.f kj6 t149 t163).bind fun t166 => (deadboltlaw18_JudgeTells.j1 kj6 t146 a1 t153 t154 t157 t158 (!t166)))) else (deadboltlaw18_JudgeTells.j1 kj6 t146 a1 t153 t154 t157 t158 true)))) = some r := by rw [if_neg (show ¬ (false = true) by decide)] at H; exact H
        clear H
        have H := H1
        clear H1
        replace H := Option.bind_eq_some_iff.mp H
        obtain ⟨t162, A230, H⟩ := H
        replace H : (if t162 ≥ 0 then (if t150 = 1 then (if t154 = 1 then (if t158 = 1 then (if (t149.length : Int) = 0 then (if (t153.length : Int) = 0 then (some (t157 == 0)) else (some false)) else (some false)) else (some false)) else (some false)) else (some false)) else (if t150 = 0 then ((deadboltref18_Held.f kj6 t146).bind fun t163 => ((deadboltref07_Same.f kj6 t149 t163).bind fun t166 => (deadboltlaw18_JudgeTells.j1 kj6 t146 a1 t153 t154 t157 t158 (!t166)))) else (deadboltlaw18_JudgeTells.j1 kj6 t146 a1 t153 t154 t157 t158 true))) = some r := H
        have A23 := Aside0.mk A230
        clear A230
        by_cases c24 : t162 ≥ 0
        · rw [if_pos c24] at H
          have c24b0 : decide (0 ≤ t162) = true := decide_eq_true c24
          clear c24
          by_cases c25 : t150 = 1
          · rw [if_pos c25] at H
            have c25b0 : (t150 == 1) = true := beq_iff_eq.mpr c25
            have c25b1 : (t150 != 1) = false := bne_eq_false_iff_eq.mpr c25
            clear c25
            by_cases c26 : t154 = 1
            · rw [if_pos c26] at H
              have c26b0 : (t154 == 1) = true := beq_iff_eq.mpr c26
              have c26b1 : (t154 != 1) = false := bne_eq_false_iff_eq.mpr c26
              clear c26
              by_cases c27 : t158 = 1
              · rw [if_pos c27] at H
                have c27b0 : (t158 == 1) = true := beq_iff_eq.mpr c27
                have c27b1 : (t158 != 1) = false := bne_eq_false_iff_eq.mpr c27
                clear c27
                by_cases c28 : (t149.length : Int) = 0
                · rw [if_pos c28] at H
                  have c28b0 : ((t149.length : Int) == 0) = true := beq_iff_eq.mpr c28
                  have c28b1 : ((t149.length : Int) != 0) = false := bne_eq_false_iff_eq.mpr c28
                  clear c28
                  by_cases c29 : (t153.length : Int) = 0
                  · rw [if_pos c29] at H
                    have c29b0 : ((t153.length : Int) == 0) = true := beq_iff_eq.mpr c29
                    have c29b1 : ((t153.length : Int) != 0) = false := bne_eq_false_iff_eq.mpr c29
                    clear c29
                    obtain rfl := Option.some.inj H
                    go_wp2_with (first | ((with_reducible refine gate_callee (f := 19) rfl ?_); refine goesL_ (some 40) rfl rfl Try.func19 (by kernel_rfl) rfl #[.slice Ao9 t146.length co9] rfl (by (try simp only [List.map_toArray, List.map_cons, List.map_nil]); first | done | rfl | (simp only [List.length_drop, List.length_take]; rfl)) ?_; (with_reducible refine (deadboltref18_Wrong.calls kj6 _ _ t146 t162 _ ?side1 ?side2 A23.out).mono ?_); (case side1 => repeat (first | exact (Kd.R_reads' HO_0.out).2.2 | (with_reducible refine Kd.C_alloc ?_ _) | (with_reducible refine Kd.C_drewN ?_ _) | (with_reducible refine Kd.C_drew ?_))); (case side2 => exact (Kd.R_reads' HO_0.out).2.1); rintro e w30 ⟨rfl, hb⟩; refine ⟨_, rfl, ?_⟩; have n0_ := Aside0.mk (Kd.R_below (by (with_reducible repeat (first | apply Kd.R_alloc | apply Kd.R_drewN | apply Kd.R_drew)); exact HO_0.out) hb); have n1_ := Aside0.mk (Kd.R_below (by (with_reducible repeat (first | apply Kd.R_alloc | apply Kd.R_drewN | apply Kd.R_drew)); exact HO_5.out) hb); have n2_ := Aside0.mk (Kd.R_below (by (with_reducible repeat (first | apply Kd.R_alloc | apply Kd.R_drewN | apply Kd.R_drew)); exact HO_7.out) hb); have n3_ := Aside0.mk (below_step (by repeat (first | (with_reducible first | exact HB.out | apply below_alloc | apply pw_below_drewN | apply below_drew1) | exact HB.out)) hb); clear HO_0; clear HO_5; clear HO_7; clear HB; have HO_0 := n0_; have HO_5 := n1_; have HO_7 := n2_; have HB := n3_; clear n0_ n1_ n2_ n3_; (try clear hb); (try clear hb2); (try clear hk); (try clear hi); obtain ⟨Ao31, co31, eo31⟩ := Kd.R_slice HO_5.out; subst eo31; obtain ⟨Ao32, co32, eo32⟩ := Kd.R_slice HO_7.out; subst eo32))
                    go_ret
                    exact ⟨by first | rfl | (simp [errW_none, errW_some] <;> rfl) | (simp [*, errW_none, errW_some] <;> rfl), by repeat (first | (with_reducible first | exact HB.out | apply below_alloc | apply pw_below_drewN | apply below_drew1) | exact HB.out)⟩
                  · rw [if_neg c29] at H
                    have c29b0 : ((t153.length : Int) == 0) = false := beq_eq_false_iff_ne.mpr c29
                    have c29b1 : ((t153.length : Int) != 0) = true := bne_iff_ne.mpr c29
                    have c29b2 : ¬ (t153 = []) := fun h_ => c29 (by rw [h_]; rfl)
                    obtain rfl := Option.some.inj H
                    go_wp2_with (first | ((with_reducible refine gate_callee (f := 19) rfl ?_); refine goesL_ (some 40) rfl rfl Try.func19 (by kernel_rfl) rfl #[.slice Ao9 t146.length co9] rfl (by (try simp only [List.map_toArray, List.map_cons, List.map_nil]); first | done | rfl | (simp only [List.length_drop, List.length_take]; rfl)) ?_; (with_reducible refine (deadboltref18_Wrong.calls kj6 _ _ t146 t162 _ ?side1 ?side2 A23.out).mono ?_); (case side1 => repeat (first | exact (Kd.R_reads' HO_0.out).2.2 | (with_reducible refine Kd.C_alloc ?_ _) | (with_reducible refine Kd.C_drewN ?_ _) | (with_reducible refine Kd.C_drew ?_))); (case side2 => exact (Kd.R_reads' HO_0.out).2.1); rintro e w33 ⟨rfl, hb⟩; refine ⟨_, rfl, ?_⟩; have n0_ := Aside0.mk (Kd.R_below (by (with_reducible repeat (first | apply Kd.R_alloc | apply Kd.R_drewN | apply Kd.R_drew)); exact HO_0.out) hb); have n1_ := Aside0.mk (Kd.R_below (by (with_reducible repeat (first | apply Kd.R_alloc | apply Kd.R_drewN | apply Kd.R_drew)); exact HO_5.out) hb); have n2_ := Aside0.mk (Kd.R_below (by (with_reducible repeat (first | apply Kd.R_alloc | apply Kd.R_drewN | apply Kd.R_drew)); exact HO_7.out) hb); have n3_ := Aside0.mk (below_step (by repeat (first | (with_reducible first | exact HB.out | apply below_alloc | apply pw_below_drewN | apply below_drew1) | exact HB.out)) hb); clear HO_0; clear HO_5; clear HO_7; clear HB; have HO_0 := n0_; have HO_5 := n1_; have HO_7 := n2_; have HB := n3_; clear n0_ n1_ n2_ n3_; (try clear hb); (try clear hb2); (try clear hk); (try clear hi); obtain ⟨Ao34, co34, eo34⟩ := Kd.R_slice HO_5.out; subst eo34; obtain ⟨Ao35, co35, eo35⟩ := Kd.R_slice HO_7.out; subst eo35))
                    go_ret
                    exact ⟨by first | rfl | (simp [errW_none, errW_some] <;> rfl) | (simp [*, errW_none, errW_some] <;> rfl), by repeat (first | (with_reducible first | exact HB.out | apply below_alloc | apply pw_below_drewN | apply below_drew1) | exact HB.out)⟩
                · rw [if_neg c28] at H
                  have c28b0 : ((t149.length : Int) == 0) = false := beq_eq_false_iff_ne.mpr c28
                  have c28b1 : ((t149.length : Int) != 0) = true := bne_iff_ne.mpr c28
                  have c28b2 : ¬ (t149 = []) := fun h_ => c28 (by rw [h_]; rfl)
                  obtain rfl := Option.some.inj H
                  go_wp2_with (first | ((with_reducible refine gate_callee (f := 19) rfl ?_); refine goesL_ (some 40) rfl rfl Try.func19 (by kernel_rfl) rfl #[.slice Ao9 t146.length co9] rfl (by (try simp only [List.map_toArray, List.map_cons, List.map_nil]); first | done | rfl | (simp only [List.length_drop, List.length_take]; rfl)) ?_; (with_reducible refine (deadboltref18_Wrong.calls kj6 _ _ t146 t162 _ ?side1 ?side2 A23.out).mono ?_); (case side1 => repeat (first | exact (Kd.R_reads' HO_0.out).2.2 | (with_reducible refine Kd.C_alloc ?_ _) | (with_reducible refine Kd.C_drewN ?_ _) | (with_reducible refine Kd.C_drew ?_))); (case side2 => exact (Kd.R_reads' HO_0.out).2.1); rintro e w36 ⟨rfl, hb⟩; refine ⟨_, rfl, ?_⟩; have n0_ := Aside0.mk (Kd.R_below (by (with_reducible repeat (first | apply Kd.R_alloc | apply Kd.R_drewN | apply Kd.R_drew)); exact HO_0.out) hb); have n1_ := Aside0.mk (Kd.R_below (by (with_reducible repeat (first | apply Kd.R_alloc | apply Kd.R_drewN | apply Kd.R_drew)); exact HO_5.out) hb); have n2_ := Aside0.mk (Kd.R_below (by (with_reducible repeat (first | apply Kd.R_alloc | apply Kd.R_drewN | apply Kd.R_drew)); exact HO_7.out) hb); have n3_ := Aside0.mk (below_step (by repeat (first | (with_reducible first | exact HB.out | apply below_alloc | apply pw_below_drewN | apply below_drew1) | exact HB.out)) hb); clear HO_0; clear HO_5; clear HO_7; clear HB; have HO_0 := n0_; have HO_5 := n1_; have HO_7 := n2_; have HB := n3_; clear n0_ n1_ n2_ n3_; (try clear hb); (try clear hb2); (try clear hk); (try clear hi); obtain ⟨Ao37, co37, eo37⟩ := Kd.R_slice HO_5.out; subst eo37))
                  go_ret
                  exact ⟨by first | rfl | (simp [errW_none, errW_some] <;> rfl) | (simp [*, errW_none, errW_some] <;> rfl), by repeat (first | (with_reducible first | exact HB.out | apply below_alloc | apply pw_below_drewN | apply below_drew1) | exact HB.out)⟩
              · rw [if_neg c27] at H
                have c27b0 : (t158 == 1) = false := beq_eq_false_iff_ne.mpr c27
                have c27b1 : (t158 != 1) = true := bne_iff_ne.mpr c27
                obtain rfl := Option.some.inj H
                go_wp2_with (first | ((with_reducible refine gate_callee (f := 19) rfl ?_); refine goesL_ (some 40) rfl rfl Try.func19 (by kernel_rfl) rfl #[.slice Ao9 t146.length co9] rfl (by (try simp only [List.map_toArray, List.map_cons, List.map_nil]); first | done | rfl | (simp only [List.length_drop, List.length_take]; rfl)) ?_; (with_reducible refine (deadboltref18_Wrong.calls kj6 _ _ t146 t162 _ ?side1 ?side2 A23.out).mono ?_); (case side1 => repeat (first | exact (Kd.R_reads' HO_0.out).2.2 | (with_reducible refine Kd.C_alloc ?_ _) | (with_reducible refine Kd.C_drewN ?_ _) | (with_reducible refine Kd.C_drew ?_))); (case side2 => exact (Kd.R_reads' HO_0.out).2.1); rintro e w38 ⟨rfl, hb⟩; refine ⟨_, rfl, ?_⟩; have n0_ := Aside0.mk (Kd.R_below (by (with_reducible repeat (first | apply Kd.R_alloc | apply Kd.R_drewN | apply Kd.R_drew)); exact HO_0.out) hb); have n1_ := Aside0.mk (Kd.R_below (by (with_reducible repeat (first | apply Kd.R_alloc | apply Kd.R_drewN | apply Kd.R_drew)); exact HO_5.out) hb); have n2_ := Aside0.mk (Kd.R_below (by (with_reducible repeat (first | apply Kd.R_alloc | apply Kd.R_drewN | apply Kd.R_drew)); exact HO_7.out) hb); have n3_ := Aside0.mk (below_step (by repeat (first | (with_reducible first | exact HB.out | apply below_alloc | apply pw_below_drewN | apply below_drew1) | exact HB.out)) hb); clear HO_0; clear HO_5; clear HO_7; clear HB; have HO_0 := n0_; have HO_5 := n1_; have HO_7 := n2_; have HB := n3_; clear n0_ n1_ n2_ n3_; (try clear hb); (try clear hb2); (try clear hk); (try clear hi)))
                go_ret
                exact ⟨by first | rfl | (simp [errW_none, errW_some] <;> rfl) | (simp [*, errW_none, errW_some] <;> rfl), by repeat (first | (with_reducible first | exact HB.out | apply below_alloc | apply pw_below_drewN | apply below_drew1) | exact HB.out)⟩
            · rw [if_neg c26] at H
              have c26b0 : (t154 == 1) = false := beq_eq_false_iff_ne.mpr c26
              have c26b1 : (t154 != 1) = true := bne_iff_ne.mpr c26
              obtain rfl := Option.some.inj H
              go_wp2_with (first | ((with_reducible refine gate_callee (f := 19) rfl ?_); refine goesL_ (some 40) rfl rfl Try.func19 (by kernel_rfl) rfl #[.slice Ao9 t146.length co9] rfl (by (try simp only [List.map_toArray, List.map_cons, List.map_nil]); first | done | rfl | (simp only [List.length_drop, List.length_take]; rfl)) ?_; (with_reducible refine (deadboltref18_Wrong.calls kj6 _ _ t146 t162 _ ?side1 ?side2 A23.out).mono ?_); (case side1 => repeat (first | exact (Kd.R_reads' HO_0.out).2.2 | (with_reducible refine Kd.C_alloc ?_ _) | (with_reducible refine Kd.C_drewN ?_ _) | (with_reducible refine Kd.C_drew ?_))); (case side2 => exact (Kd.R_reads' HO_0.out).2.1); rintro e w39 ⟨rfl, hb⟩; refine ⟨_, rfl, ?_⟩; have n0_ := Aside0.mk (Kd.R_below (by (with_reducible repeat (first | apply Kd.R_alloc | apply Kd.R_drewN | apply Kd.R_drew)); exact HO_0.out) hb); have n1_ := Aside0.mk (Kd.R_below (by (with_reducible repeat (first | apply Kd.R_alloc | apply Kd.R_drewN | apply Kd.R_drew)); exact HO_5.out) hb); have n2_ := Aside0.mk (Kd.R_below (by (with_reducible repeat (first | apply Kd.R_alloc | apply Kd.R_drewN | apply Kd.R_drew)); exact HO_7.out) hb); have n3_ := Aside0.mk (below_step (by repeat (first | (with_reducible first | exact HB.out | apply below_alloc | apply pw_below_drewN | apply below_drew1) | exact HB.out)) hb); clear HO_0; clear HO_5; clear HO_7; clear HB; have HO_0 := n0_; have HO_5 := n1_; have HO_7 := n2_; have HB := n3_; clear n0_ n1_ n2_ n3_; (try clear hb); (try clear hb2); (try clear hk); (try clear hi)))
              go_ret
              exact ⟨by first | rfl | (simp [errW_none, errW_some] <;> rfl) | (simp [*, errW_none, errW_some] <;> rfl), by repeat (first | (with_reducible first | exact HB.out | apply below_alloc | apply pw_below_drewN | apply below_drew1) | exact HB.out)⟩
          · rw [if_neg c25] at H
            have c25b0 : (t150 == 1) = false := beq_eq_false_iff_ne.mpr c25
            have c25b1 : (t150 != 1) = true := bne_iff_ne.mpr c25
            obtain rfl := Option.some.inj H
            go_wp2_with (first | ((with_reducible refine gate_callee (f := 19) rfl ?_); refine goesL_ (some 40) rfl rfl Try.func19 (by kernel_rfl) rfl #[.slice Ao9 t146.length co9] rfl (by (try simp only [List.map_toArray, List.map_cons, List.map_nil]); first | done | rfl | (simp only [List.length_drop, List.length_take]; rfl)) ?_; (with_reducible refine (deadboltref18_Wrong.calls kj6 _ _ t146 t162 _ ?side1 ?side2 A23.out).mono ?_); (case side1 => repeat (first | exact (Kd.R_reads' HO_0.out).2.2 | (with_reducible refine Kd.C_alloc ?_ _) | (with_reducible refine Kd.C_drewN ?_ _) | (with_reducible refine Kd.C_drew ?_))); (case side2 => exact (Kd.R_reads' HO_0.out).2.1); rintro e w40 ⟨rfl, hb⟩; refine ⟨_, rfl, ?_⟩; have n0_ := Aside0.mk (Kd.R_below (by (with_reducible repeat (first | apply Kd.R_alloc | apply Kd.R_drewN | apply Kd.R_drew)); exact HO_0.out) hb); have n1_ := Aside0.mk (Kd.R_below (by (with_reducible repeat (first | apply Kd.R_alloc | apply Kd.R_drewN | apply Kd.R_drew)); exact HO_5.out) hb); have n2_ := Aside0.mk (Kd.R_below (by (with_reducible repeat (first | apply Kd.R_alloc | apply Kd.R_drewN | apply Kd.R_drew)); exact HO_7.out) hb); have n3_ := Aside0.mk (below_step (by repeat (first | (with_reducible first | exact HB.out | apply below_alloc | apply pw_below_drewN | apply below_drew1) | exact HB.out)) hb); clear HO_0; clear HO_5; clear HO_7; clear HB; have HO_0 := n0_; have HO_5 := n1_; have HO_7 := n2_; have HB := n3_; clear n0_ n1_ n2_ n3_; (try clear hb); (try clear hb2); (try clear hk); (try clear hi)))
            go_ret
            exact ⟨by first | rfl | (simp [errW_none, errW_some] <;> rfl) | (simp [*, errW_none, errW_some] <;> rfl), by repeat (first | (with_reducible first | exact HB.out | apply below_alloc | apply pw_below_drewN | apply below_drew1) | exact HB.out)⟩
        · rw [if_neg c24] at H
          have c24b0 : decide (0 ≤ t162) = false := decide_eq_false c24
          clear c24
          have HC41 := Aside0.mk H
          clear H
          go_upto_region 9 with (first | ((with_reducible refine gate_callee (f := 19) rfl ?_); refine goesL_ (some 40) rfl rfl Try.func19 (by kernel_rfl) rfl #[.slice Ao9 t146.length co9] rfl (by (try simp only [List.map_toArray, List.map_cons, List.map_nil]); first | done | rfl | (simp only [List.length_drop, List.length_take]; rfl)) ?_; (with_reducible refine (deadboltref18_Wrong.calls kj6 _ _ t146 t162 _ ?side1 ?side2 A23.out).mono ?_); (case side1 => repeat (first | exact (Kd.R_reads' HO_0.out).2.2 | (with_reducible refine Kd.C_alloc ?_ _) | (with_reducible refine Kd.C_drewN ?_ _) | (with_reducible refine Kd.C_drew ?_))); (case side2 => exact (Kd.R_reads' HO_0.out).2.1); rintro e w42 ⟨rfl, hb⟩; refine ⟨_, rfl, ?_⟩; have n0_ := Aside0.mk (Kd.R_below (by (with_reducible repeat (first | apply Kd.R_alloc | apply Kd.R_drewN | apply Kd.R_drew)); exact HO_0.out) hb); have n1_ := Aside0.mk (Kd.R_below (by (with_reducible repeat (first | apply Kd.R_alloc | apply Kd.R_drewN | apply Kd.R_drew)); exact HO_5.out) hb); have n2_ := Aside0.mk (Kd.R_below (by (with_reducible repeat (first | apply Kd.R_alloc | apply Kd.R_drewN | apply Kd.R_drew)); exact HO_7.out) hb); have n3_ := Aside0.mk (below_step (by repeat (first | (with_reducible first | exact HB.out | apply below_alloc | apply pw_below_drewN | apply below_drew1) | exact HB.out)) hb); clear HO_0; clear HO_5; clear HO_7; clear HB; have HO_0 := n0_; have HO_5 := n1_; have HO_7 := n2_; have HB := n3_; clear n0_ n1_ n2_ n3_; (try clear hb); (try clear hb2); (try clear hk); (try clear hi)))
          (try simp only [Act.put, List.setIfInBounds_toArray, List.set_cons_zero, List.set_cons_succ])
          go_cut [74] (fun v74 wc => ∃ (kq : Nat) (x74_40 : Bool), v74 = .bool x74_40 ∧ Aside0 (deadboltlaw18_JudgeTells.j1 kq t146 a1 t153 t154 t157 t158 x74_40 = some r) ∧ Aside0 (kq ≤ kj6) ∧ Aside0 (Kd.R k33 33 wc w.heap.size (fun _ => True) (.slice Ao9 t146.length co9) t146) ∧ Aside0 (Kd.R (Kd.int .i64) 3 wc w.heap.size (fun _ => True) v155 t153) ∧ Aside0 (Below w.heap.size w wc))
          case first =>
            have H := HC41.out
            clear HC41
            by_cases c43 : t150 = 0
            · rw [if_pos c43] at H
              have c43b0 : (t150 == 0) = true := beq_iff_eq.mpr c43
              have c43b1 : (t150 != 0) = false := bne_eq_false_iff_eq.mpr c43
              clear c43
              (first | rw [c43b0] | (simp only [i64_w, i32_w]; rw [c43b0]) | skip)
              replace H := Option.bind_eq_some_iff.mp H
              obtain ⟨t163, A440, H⟩ := H
              replace H : ((deadboltref07_Same.f kj6 t149 t163).bind fun t166 => (deadboltlaw18_JudgeTells.j1 kj6 t146 a1 t153 t154 t157 t158 (!t166))) = some r := H
              have A44 := Aside0.mk A440
              clear A440
              replace H := Option.bind_eq_some_iff.mp H
              obtain ⟨t166, A450, H⟩ := H
              replace H : (deadboltlaw18_JudgeTells.j1 kj6 t146 a1 t153 t154 t157 t158 (!t166)) = some r := H
              have A45 := Aside0.mk A450
              clear A450
              have H' := Aside0.mk H
              clear H
              go_wp2_with (first | (go_at_call 21; (with_reducible refine (deadboltref18_Held.calls kj6 _ _ t146 t163 _ ?side1 ?side2 A44.out).mono ?_); (case side1 => repeat (first | exact (Kd.R_reads' HO_0.out).2.2 | (with_reducible refine Kd.C_alloc ?_ _) | (with_reducible refine Kd.C_drewN ?_ _) | (with_reducible refine Kd.C_drew ?_))); (case side2 => exact (Kd.R_reads' HO_0.out).2.1); rintro e w46 ⟨v164, rfl, ho0, hb⟩; have n0_ := Aside0.mk (Kd.R_below (by (with_reducible repeat (first | apply Kd.R_alloc | apply Kd.R_drewN | apply Kd.R_drew)); exact HO_0.out) hb); have n1_ := Aside0.mk (Kd.R_elder' (by (with_reducible repeat (first | apply Kd.R_alloc | apply Kd.R_drewN | apply Kd.R_drew)); exact HO_5.out) (Kd.R_base ho0) hb); have n2_ := Aside0.mk (Kd.R_elder' (by (with_reducible repeat (first | apply Kd.R_alloc | apply Kd.R_drewN | apply Kd.R_drew)); exact HO_7.out) (Kd.R_base ho0) hb); have n3_ := Aside0.mk (Kd.R_lower (Kd.R_new' (Kd.R_new' ho0 (Kd.R_lt (by (with_reducible repeat (first | apply Kd.R_alloc | apply Kd.R_drewN | apply Kd.R_drew)); exact HO_5.out))) (Kd.R_lt (by (with_reducible repeat (first | apply Kd.R_alloc | apply Kd.R_drewN | apply Kd.R_drew)); exact HO_7.out))) (below_size (by repeat (first | (with_reducible first | exact HB.out | apply below_alloc | apply pw_below_drewN | apply below_drew1) | exact HB.out)))); have n4_ := Aside0.mk (below_step (by repeat (first | (with_reducible first | exact HB.out | apply below_alloc | apply pw_below_drewN | apply below_drew1) | exact HB.out)) hb); clear HO_0; clear HO_5; clear HO_7; clear HB; have HO_0 := n0_; have HO_5 := n1_; have HO_7 := n2_; have HO165 := n3_; have HB := n4_; clear n0_ n1_ n2_ n3_ n4_; (try clear hb); (try clear hb2); (try clear hk); (try clear hi); (try clear ho0); obtain ⟨Ao47, co47, eo47⟩ := Kd.R_slice HO_5.out; subst eo47; obtain ⟨Ao48, co48, eo48⟩ := Kd.R_slice HO165.out; subst eo48) | (go_at_call 20; (with_reducible refine (deadboltref07_Same.calls kj6 _ _ t149 _ _ t163 t166 _ ?side1 ?side2 ?side3 ?side4 A45.out).mono ?_); (case side1 => repeat (first | exact (Kd.R_reads' HO_5.out).2.2 | (with_reducible refine Kd.C_alloc ?_ _) | (with_reducible refine Kd.C_drewN ?_ _) | (with_reducible refine Kd.C_drew ?_))); (case side2 => exact (Kd.R_reads' HO_5.out).2.1); (case side3 => repeat (first | exact (Kd.R_reads' HO165.out).2.2 | (with_reducible refine Kd.C_alloc ?_ _) | (with_reducible refine Kd.C_drewN ?_ _) | (with_reducible refine Kd.C_drew ?_))); (case side4 => exact (Kd.R_reads' HO165.out).2.1); rintro e w' ⟨rfl, ⟨nd, rfl⟩⟩))
              go_meet
              case rel => exact ⟨_, (!t166), (by first | rfl | (simp; done) | (simp [*]; done)), H', ⟨by have := HJ6.out; first | omega | exact Nat.le_refl _⟩, ⟨by (with_reducible repeat (first | apply Kd.R_alloc | apply Kd.R_drewN | apply Kd.R_drew)); exact HO_0.out⟩, ⟨by (with_reducible repeat (first | apply Kd.R_alloc | apply Kd.R_drewN | apply Kd.R_drew)); exact Kd.R_mono HO_7.out (fun _ hk => trivial)⟩, ⟨by repeat (first | (with_reducible first | exact HB.out | apply below_alloc | apply pw_below_drewN | apply below_drew1) | exact HB.out)⟩⟩
            · rw [if_neg c43] at H
              have c43b0 : (t150 == 0) = false := beq_eq_false_iff_ne.mpr c43
              have c43b1 : (t150 != 0) = true := bne_iff_ne.mpr c43
              (first | rw [c43b0] | (simp only [i64_w, i32_w]; rw [c43b0]) | skip)
              have H' := Aside0.mk H
              clear H
              go_wp2
              go_meet
              case rel => exact ⟨_, (true), (by first | rfl | (simp; done) | (simp [*]; done)), H', ⟨by have := HJ6.out; first | omega | exact Nat.le_refl _⟩, ⟨by (with_reducible repeat (first | apply Kd.R_alloc | apply Kd.R_drewN | apply Kd.R_drew)); exact HO_0.out⟩, ⟨by (with_reducible repeat (first | apply Kd.R_alloc | apply Kd.R_drewN | apply Kd.R_drew)); exact Kd.R_mono HO_7.out (fun _ hk => trivial)⟩, ⟨by repeat (first | (with_reducible first | exact HB.out | apply below_alloc | apply pw_below_drewN | apply below_drew1) | exact HB.out)⟩⟩
          case rest =>
            clear HC41
            try clear c1
            try clear c2
            try clear p2
            try clear c4
            try clear c13
            try clear c14
            try clear c15
            try clear c15b0
            try clear c15b1
            try clear c16
            try clear c17
            try clear c18
            try clear c19
            try clear c22
            try clear c24
            try clear c24b0
            try clear c25
            try clear c25b0
            try clear c25b1
            try clear c26
            try clear c26b0
            try clear c26b1
            try clear c27
            try clear c27b0
            try clear c27b1
            try clear c28
            try clear c28b0
            try clear c28b1
            try clear c28b2
            try clear c29
            try clear c29b0
            try clear c29b1
            try clear c29b2
            try clear c43
            try clear c43b0
            try clear c43b1
            try clear p2
            obtain ⟨kq, x74_40, rfl, HA, HJ40, HO_0, HO_7, HB⟩ := hcut
            cases kq with
            | zero => exact absurd HA.out (by simp [deadboltlaw18_JudgeTells.j1])
            | succ kj40 =>
              have H := HA.out
              clear HA
              simp only [deadboltlaw18_JudgeTells.j1] at H
              by_cases c49 : x74_40 = true
              · subst c49
                have H1 : (some false) = some r := by rw [if_pos rfl] at H; exact H
                clear H
                have H := H1
                clear H1
                obtain rfl := Option.some.inj H
                go_wp2
                go_ret
                exact ⟨by first | rfl | (simp [errW_none, errW_some] <;> rfl) | (simp [*, errW_none, errW_some] <;> rfl), by repeat (first | (with_reducible first | exact HB.out | apply below_alloc | apply pw_below_drewN | apply below_drew1) | exact HB.out)⟩
              · replace c49 := Bool.eq_false_iff.mpr c49
                subst c49
                have H1 : (if a1 < 0 then (deadboltlaw18_JudgeTells.j2 kj40 t146 a1 t153 t154 t157 t158 true) else (deadboltlaw18_JudgeTells.j2 kj40 t146 a1 t153 t154 t157 t158 (decide (a1 > 3)))) = some r := by rw [if_neg (show ¬ (false = true) by decide)] at H; exact H
                clear H
                have H := H1
                clear H1
                have HC50 := Aside0.mk H
                clear H
                go_upto_region 11 with (fail)
                go_cut [80] (fun v80 wc => ∃ (kq : Nat) (x80_49 : Bool), v80 = .bool x80_49 ∧ Aside0 (deadboltlaw18_JudgeTells.j2 kq t146 a1 t153 t154 t157 t158 x80_49 = some r) ∧ Aside0 (kq ≤ kj40) ∧ Aside0 (Kd.R k33 33 wc w.heap.size (fun _ => True) (.slice Ao9 t146.length co9) t146) ∧ Aside0 (Kd.R (Kd.int .i64) 3 wc w.heap.size (fun _ => True) v155 t153) ∧ Aside0 (Below w.heap.size w wc))
                case first =>
                  have H := HC50.out
                  clear HC50
                  by_cases c51 : a1 < 0
                  · rw [if_pos c51] at H
                    have c51b0 : decide (a1 < 0) = true := decide_eq_true c51
                    clear c51
                    (first | rw [c51b0] | (simp only [i64_w, i32_w]; rw [c51b0]) | skip)
                    have H' := Aside0.mk H
                    clear H
                    go_wp2
                    go_meet
                    case rel => exact ⟨_, (true), (by first | rfl | (simp; done) | (simp [*]; done)), H', ⟨by have := HJ6.out; have := HJ40.out; first | omega | exact Nat.le_refl _⟩, ⟨by (with_reducible repeat (first | apply Kd.R_alloc | apply Kd.R_drewN | apply Kd.R_drew)); exact HO_0.out⟩, ⟨by (with_reducible repeat (first | apply Kd.R_alloc | apply Kd.R_drewN | apply Kd.R_drew)); exact HO_7.out⟩, ⟨by repeat (first | (with_reducible first | exact HB.out | apply below_alloc | apply pw_below_drewN | apply below_drew1) | exact HB.out)⟩⟩
                  · rw [if_neg c51] at H
                    have c51b0 : decide (a1 < 0) = false := decide_eq_false c51
                    clear c51
                    (first | rw [c51b0] | (simp only [i64_w, i32_w]; rw [c51b0]) | skip)
                    have H' := Aside0.mk H
                    clear H
                    go_wp2
                    go_meet
                    case rel => exact ⟨_, (decide (a1 > 3)), (by first | rfl | (simp; done) | (simp [*]; done)), H', ⟨by have := HJ6.out; have := HJ40.out; first | omega | exact Nat.le_refl _⟩, ⟨by (with_reducible repeat (first | apply Kd.R_alloc | apply Kd.R_drewN | apply Kd.R_drew)); exact HO_0.out⟩, ⟨by (with_reducible repeat (first | apply Kd.R_alloc | apply Kd.R_drewN | apply Kd.R_drew)); exact HO_7.out⟩, ⟨by repeat (first | (with_reducible first | exact HB.out | apply below_alloc | apply pw_below_drewN | apply below_drew1) | exact HB.out)⟩⟩
                case rest =>
                  clear HC50
                  try clear c1
                  try clear c2
                  try clear p2
                  try clear c4
                  try clear c5
                  try clear c13
                  try clear c14
                  try clear c15
                  try clear c15b0
                  try clear c15b1
                  try clear c16
                  try clear c17
                  try clear c18
                  try clear c19
                  try clear c22
                  try clear c24
                  try clear c24b0
                  try clear c25
                  try clear c25b0
                  try clear c25b1
                  try clear c26
                  try clear c26b0
                  try clear c26b1
                  try clear c27
                  try clear c27b0
                  try clear c27b1
                  try clear c28
                  try clear c28b0
                  try clear c28b1
                  try clear c28b2
                  try clear c29
                  try clear c29b0
                  try clear c29b1
                  try clear c29b2
                  try clear c43
                  try clear c43b0
                  try clear c43b1
                  try clear c49
                  try clear c51
                  try clear c51b0
                  try clear p2
                  obtain ⟨kq, x80_49, rfl, HA, HJ49, HO_0, HO_7, HB⟩ := hcut
                  cases kq with
                  | zero => exact absurd HA.out (by simp [deadboltlaw18_JudgeTells.j2])
                  | succ kj49 =>
                    have H := HA.out
                    clear HA
                    simp only [deadboltlaw18_JudgeTells.j2] at H
                    by_cases c52 : x80_49 = true
                    · subst c52
                      have H1 : (if t154 = 3 then (if t158 = 3 then (if (t153.length : Int) = 0 then (some (t157 == 0)) else (some false)) else (some false)) else (some false)) = some r := by rw [if_pos rfl] at H; exact H
                      clear H
                      have H := H1
                      clear H1
                      by_cases c53 : t154 = 3
                      · rw [if_pos c53] at H
                        have c53b0 : (t154 == 3) = true := beq_iff_eq.mpr c53
                        have c53b1 : (t154 != 3) = false := bne_eq_false_iff_eq.mpr c53
                        clear c53
                        by_cases c54 : t158 = 3
                        · rw [if_pos c54] at H
                          have c54b0 : (t158 == 3) = true := beq_iff_eq.mpr c54
                          have c54b1 : (t158 != 3) = false := bne_eq_false_iff_eq.mpr c54
                          clear c54
                          by_cases c55 : (t153.length : Int) = 0
                          · rw [if_pos c55] at H
                            have c55b0 : ((t153.length : Int) == 0) = true := beq_iff_eq.mpr c55
                            have c55b1 : ((t153.length : Int) != 0) = false := bne_eq_false_iff_eq.mpr c55
                            clear c55
                            obtain rfl := Option.some.inj H
                            obtain ⟨Ao56, co56, eo56⟩ := Kd.R_slice HO_7.out
                            subst eo56
                            go_wp2
                            go_ret
                            exact ⟨by first | rfl | (simp [errW_none, errW_some] <;> rfl) | (simp [*, errW_none, errW_some] <;> rfl), by repeat (first | (with_reducible first | exact HB.out | apply below_alloc | apply pw_below_drewN | apply below_drew1) | exact HB.out)⟩
                          · rw [if_neg c55] at H
                            have c55b0 : ((t153.length : Int) == 0) = false := beq_eq_false_iff_ne.mpr c55
                            have c55b1 : ((t153.length : Int) != 0) = true := bne_iff_ne.mpr c55
                            have c55b2 : ¬ (t153 = []) := fun h_ => c55 (by rw [h_]; rfl)
                            obtain rfl := Option.some.inj H
                            obtain ⟨Ao57, co57, eo57⟩ := Kd.R_slice HO_7.out
                            subst eo57
                            go_wp2
                            go_ret
                            exact ⟨by first | rfl | (simp [errW_none, errW_some] <;> rfl) | (simp [*, errW_none, errW_some] <;> rfl), by repeat (first | (with_reducible first | exact HB.out | apply below_alloc | apply pw_below_drewN | apply below_drew1) | exact HB.out)⟩
                        · rw [if_neg c54] at H
                          have c54b0 : (t158 == 3) = false := beq_eq_false_iff_ne.mpr c54
                          have c54b1 : (t158 != 3) = true := bne_iff_ne.mpr c54
                          obtain rfl := Option.some.inj H
                          go_wp2
                          go_ret
                          exact ⟨by first | rfl | (simp [errW_none, errW_some] <;> rfl) | (simp [*, errW_none, errW_some] <;> rfl), by repeat (first | (with_reducible first | exact HB.out | apply below_alloc | apply pw_below_drewN | apply below_drew1) | exact HB.out)⟩
                      · rw [if_neg c53] at H
                        have c53b0 : (t154 == 3) = false := beq_eq_false_iff_ne.mpr c53
                        have c53b1 : (t154 != 3) = true := bne_iff_ne.mpr c53
                        obtain rfl := Option.some.inj H
                        go_wp2
                        go_ret
                        exact ⟨by first | rfl | (simp [errW_none, errW_some] <;> rfl) | (simp [*, errW_none, errW_some] <;> rfl), by repeat (first | (with_reducible first | exact HB.out | apply below_alloc | apply pw_below_drewN | apply below_drew1) | exact HB.out)⟩
                    · replace c52 := Bool.eq_false_iff.mpr c52
                      subst c52
                      have H1 : (if t154 = 0 then (if t158 = 0 then ((deadboltref18_Order.f kj49 t146 a1).bind fun t167 => ((deadboltref07_Same.f kj49 t153 t167).bind fun t170 => (if t170 = true then ((deadboltref18_Long.f kj49 t146 a1).bind fun t171 => (some (t157 == t171))) else (some false)))) else (some false)) else (some false)) = some r := by rw [if_neg (show ¬ (false = true) by decide)] at H; exact H
                      clear H
                      have H := H1
                      clear H1
                      by_cases c58 : t154 = 0
                      · rw [if_pos c58] at H
                        have c58b0 : (t154 == 0) = true := beq_iff_eq.mpr c58
                        have c58b1 : (t154 != 0) = false := bne_eq_false_iff_eq.mpr c58
                        clear c58
                        by_cases c59 : t158 = 0
                        · rw [if_pos c59] at H
                          have c59b0 : (t158 == 0) = true := beq_iff_eq.mpr c59
                          have c59b1 : (t158 != 0) = false := bne_eq_false_iff_eq.mpr c59
                          clear c59
                          replace H := Option.bind_eq_some_iff.mp H
                          obtain ⟨t167, A600, H⟩ := H
                          replace H : ((deadboltref07_Same.f kj49 t153 t167).bind fun t170 => (if t170 = true then ((deadboltref18_Long.f kj49 t146 a1).bind fun t171 => (some (t157 == t171))) else (some false))) = some r := H
                          have A60 := Aside0.mk A600
                          clear A600
                          replace H := Option.bind_eq_some_iff.mp H
                          obtain ⟨t170, A610, H⟩ := H
                          replace H : (if t170 = true then ((deadboltref18_Long.f kj49 t146 a1).bind fun t171 => (some (t157 == t171))) else (some false)) = some r := H
                          have A61 := Aside0.mk A610
                          clear A610
                          by_cases c62 : t170 = true
                          · subst c62
                            have H1 : ((deadboltref18_Long.f kj49 t146 a1).bind fun t171 => (some (t157 == t171))) = some r := by rw [if_pos rfl] at H; exact H
                            clear H
                            have H := H1
                            clear H1
                            replace H := Option.bind_eq_some_iff.mp H
                            obtain ⟨t171, A630, H⟩ := H
                            replace H : (some (t157 == t171)) = some r := H
                            have A63 := Aside0.mk A630
                            clear A630
                            obtain rfl := Option.some.inj H
                            go_wp2_with (first | (go_at_call 22; (with_reducible refine (deadboltref18_Order.calls kj49 _ _ t146 a1 t167 _ ?side1 ?side2 A60.out).mono ?_); (case side1 => repeat (first | exact (Kd.R_reads' HO_0.out).2.2 | (with_reducible refine Kd.C_alloc ?_ _) | (with_reducible refine Kd.C_drewN ?_ _) | (with_reducible refine Kd.C_drew ?_))); (case side2 => exact (Kd.R_reads' HO_0.out).2.1); rintro e w64 ⟨v168, rfl, ho0, hb⟩; have n0_ := Aside0.mk (Kd.R_below (by (with_reducible repeat (first | apply Kd.R_alloc | apply Kd.R_drewN | apply Kd.R_drew)); exact HO_0.out) hb); have n1_ := Aside0.mk (Kd.R_elder' (by (with_reducible repeat (first | apply Kd.R_alloc | apply Kd.R_drewN | apply Kd.R_drew)); exact HO_7.out) (Kd.R_base ho0) hb); have n2_ := Aside0.mk (Kd.R_lower (Kd.R_new' ho0 (Kd.R_lt (by (with_reducible repeat (first | apply Kd.R_alloc | apply Kd.R_drewN | apply Kd.R_drew)); exact HO_7.out))) (below_size (by repeat (first | (with_reducible first | exact HB.out | apply below_alloc | apply pw_below_drewN | apply below_drew1) | exact HB.out)))); have n3_ := Aside0.mk (below_step (by repeat (first | (with_reducible first | exact HB.out | apply below_alloc | apply pw_below_drewN | apply below_drew1) | exact HB.out)) hb); clear HO_0; clear HO_7; clear HB; have HO_0 := n0_; have HO_7 := n1_; have HO169 := n2_; have HB := n3_; clear n0_ n1_ n2_ n3_; (try clear hb); (try clear hb2); (try clear hk); (try clear hi); (try clear ho0); obtain ⟨Ao65, co65, eo65⟩ := Kd.R_slice HO_7.out; subst eo65; obtain ⟨Ao66, co66, eo66⟩ := Kd.R_slice HO169.out; subst eo66) | (go_at_call 20; (with_reducible refine (deadboltref07_Same.calls kj49 _ _ t153 _ _ t167 true _ ?side1 ?side2 ?side3 ?side4 A61.out).mono ?_); (case side1 => repeat (first | exact (Kd.R_reads' HO_7.out).2.2 | (with_reducible refine Kd.C_alloc ?_ _) | (with_reducible refine Kd.C_drewN ?_ _) | (with_reducible refine Kd.C_drew ?_))); (case side2 => exact (Kd.R_reads' HO_7.out).2.1); (case side3 => repeat (first | exact (Kd.R_reads' HO169.out).2.2 | (with_reducible refine Kd.C_alloc ?_ _) | (with_reducible refine Kd.C_drewN ?_ _) | (with_reducible refine Kd.C_drew ?_))); (case side4 => exact (Kd.R_reads' HO169.out).2.1); rintro e w' ⟨rfl, ⟨nd, rfl⟩⟩) | (go_at_call 23; (with_reducible refine (deadboltref18_Long.calls kj49 _ _ t146 a1 t171 _ ?side1 ?side2 A63.out).mono ?_); (case side1 => repeat (first | exact (Kd.R_reads' HO_0.out).2.2 | (with_reducible refine Kd.C_alloc ?_ _) | (with_reducible refine Kd.C_drewN ?_ _) | (with_reducible refine Kd.C_drew ?_))); (case side2 => exact (Kd.R_reads' HO_0.out).2.1); rintro e w67 ⟨rfl, hb⟩; have n0_ := Aside0.mk (Kd.R_below (by (with_reducible repeat (first | apply Kd.R_alloc | apply Kd.R_drewN | apply Kd.R_drew)); exact HO_0.out) hb); have n1_ := Aside0.mk (Kd.R_below (by (with_reducible repeat (first | apply Kd.R_alloc | apply Kd.R_drewN | apply Kd.R_drew)); exact HO_7.out) hb); have n2_ := Aside0.mk (Kd.R_below (by (with_reducible repeat (first | apply Kd.R_alloc | apply Kd.R_drewN | apply Kd.R_drew)); exact HO169.out) hb); have n3_ := Aside0.mk (below_step (by repeat (first | (with_reducible first | exact HB.out | apply below_alloc | apply pw_below_drewN | apply below_drew1) | exact HB.out)) hb); clear HO_0; clear HO_7; clear HO169; clear HB; have HO_0 := n0_; have HO_7 := n1_; have HO169 := n2_; have HB := n3_; clear n0_ n1_ n2_ n3_; (try clear hb); (try clear hb2); (try clear hk); (try clear hi)))
                            go_ret
                            exact ⟨by first | rfl | (simp [errW_none, errW_some] <;> rfl) | (simp [*, errW_none, errW_some] <;> rfl), by repeat (first | (with_reducible first | exact HB.out | apply below_alloc | apply pw_below_drewN | apply below_drew1) | exact HB.out)⟩
                          · replace c62 := Bool.eq_false_iff.mpr c62
                            subst c62
                            have H1 : (some false) = some r := by rw [if_neg (show ¬ (false = true) by decide)] at H; exact H
                            clear H
                            have H := H1
                            clear H1
                            obtain rfl := Option.some.inj H
                            go_wp2_with (first | (go_at_call 22; (with_reducible refine (deadboltref18_Order.calls kj49 _ _ t146 a1 t167 _ ?side1 ?side2 A60.out).mono ?_); (case side1 => repeat (first | exact (Kd.R_reads' HO_0.out).2.2 | (with_reducible refine Kd.C_alloc ?_ _) | (with_reducible refine Kd.C_drewN ?_ _) | (with_reducible refine Kd.C_drew ?_))); (case side2 => exact (Kd.R_reads' HO_0.out).2.1); rintro e w68 ⟨v168, rfl, ho0, hb⟩; have n0_ := Aside0.mk (Kd.R_below (by (with_reducible repeat (first | apply Kd.R_alloc | apply Kd.R_drewN | apply Kd.R_drew)); exact HO_0.out) hb); have n1_ := Aside0.mk (Kd.R_elder' (by (with_reducible repeat (first | apply Kd.R_alloc | apply Kd.R_drewN | apply Kd.R_drew)); exact HO_7.out) (Kd.R_base ho0) hb); have n2_ := Aside0.mk (Kd.R_lower (Kd.R_new' ho0 (Kd.R_lt (by (with_reducible repeat (first | apply Kd.R_alloc | apply Kd.R_drewN | apply Kd.R_drew)); exact HO_7.out))) (below_size (by repeat (first | (with_reducible first | exact HB.out | apply below_alloc | apply pw_below_drewN | apply below_drew1) | exact HB.out)))); have n3_ := Aside0.mk (below_step (by repeat (first | (with_reducible first | exact HB.out | apply below_alloc | apply pw_below_drewN | apply below_drew1) | exact HB.out)) hb); clear HO_0; clear HO_7; clear HB; have HO_0 := n0_; have HO_7 := n1_; have HO169 := n2_; have HB := n3_; clear n0_ n1_ n2_ n3_; (try clear hb); (try clear hb2); (try clear hk); (try clear hi); (try clear ho0); obtain ⟨Ao69, co69, eo69⟩ := Kd.R_slice HO_7.out; subst eo69; obtain ⟨Ao70, co70, eo70⟩ := Kd.R_slice HO169.out; subst eo70) | (go_at_call 20; (with_reducible refine (deadboltref07_Same.calls kj49 _ _ t153 _ _ t167 false _ ?side1 ?side2 ?side3 ?side4 A61.out).mono ?_); (case side1 => repeat (first | exact (Kd.R_reads' HO_7.out).2.2 | (with_reducible refine Kd.C_alloc ?_ _) | (with_reducible refine Kd.C_drewN ?_ _) | (with_reducible refine Kd.C_drew ?_))); (case side2 => exact (Kd.R_reads' HO_7.out).2.1); (case side3 => repeat (first | exact (Kd.R_reads' HO169.out).2.2 | (with_reducible refine Kd.C_alloc ?_ _) | (with_reducible refine Kd.C_drewN ?_ _) | (with_reducible refine Kd.C_drew ?_))); (case side4 => exact (Kd.R_reads' HO169.out).2.1); rintro e w' ⟨rfl, ⟨nd, rfl⟩⟩))
                            go_ret
                            exact ⟨by first | rfl | (simp [errW_none, errW_some] <;> rfl) | (simp [*, errW_none, errW_some] <;> rfl), by repeat (first | (with_reducible first | exact HB.out | apply below_alloc | apply pw_below_drewN | apply below_drew1) | exact HB.out)⟩
                        · rw [if_neg c59] at H
                          have c59b0 : (t158 == 0) = false := beq_eq_false_iff_ne.mpr c59
                          have c59b1 : (t158 != 0) = true := bne_iff_ne.mpr c59
                          obtain rfl := Option.some.inj H
                          go_wp2
                          go_ret
                          exact ⟨by first | rfl | (simp [errW_none, errW_some] <;> rfl) | (simp [*, errW_none, errW_some] <;> rfl), by repeat (first | (with_reducible first | exact HB.out | apply below_alloc | apply pw_below_drewN | apply below_drew1) | exact HB.out)⟩
                      · rw [if_neg c58] at H
                        have c58b0 : (t154 == 0) = false := beq_eq_false_iff_ne.mpr c58
                        have c58b1 : (t154 != 0) = true := bne_iff_ne.mpr c58
                        obtain rfl := Option.some.inj H
                        go_wp2
                        go_ret
                        exact ⟨by first | rfl | (simp [errW_none, errW_some] <;> rfl) | (simp [*, errW_none, errW_some] <;> rfl), by repeat (first | (with_reducible first | exact HB.out | apply below_alloc | apply pw_below_drewN | apply below_drew1) | exact HB.out)⟩

end Go.Proofs.Ytjdjmhagafmkaaa.PX

namespace Go.Proofs.Ytjdjmhagafmkaaa.PX
open Go.RowKit Go.Proofs.YtjdjmhagafmkaaaW.PrintWords Go.Proofs.YtjdjmhagafmkaaaW.PrintLast Go.Proofs.YtjdjmhagafmkaaaW.PrintMore
attribute [local go_sem] max2_int min2_int max_two min_two max_three min_three max_four min_four   -- for this text's walks alone
set_option linter.unusedVariables false
set_option linter.unusedSimpArgs false

/-! ### deadboltlaw18_JudgeHolds: function 5 -/
def deadboltlaw18_JudgeHolds.j0 : Nat → List (S33) → Int → List Int → List Int → Int → Bool → Option (Bool)
  | 0, _, _, _, _, _, _ => none
  | k + 1, x0, x1, x5, x7, x9, x76 => if x76 = true then (some false) else (if (x7.length : Int) = 0 then (if 0 ≤ x1 then (if x1 < (x5.length : Int) then (if (rd x5 x1) = (-1) then (if x9 = 0 then (some ((x7.length : Int) == 0)) else (some false)) else (some false)) else (none)) else (none)) else (if (x0.length : Int) = 0 then (if 0 ≤ x1 then (if x1 < (x5.length : Int) then (if (rd x5 x1) = (-1) then (if x9 = 0 then (some ((x7.length : Int) == 0)) else (some false)) else (some false)) else (none)) else (none)) else (if 0 ≤ x1 then (if x1 < (x5.length : Int) then (if (rd x5 x1) = (-1) then (if x9 ≥ 0 then (if 0 ≤ (wrap64 ((x0.length : Int) - 1)) then (if (wrap64 ((x0.length : Int) - 1)) < (x0.length : Int) then (if 0 < (x0.length : Int) then (if x9 ≤ (wrap64 (((rd_T33 x0 (wrap64 ((x0.length : Int) - 1))).f1) - ((rd_T33 x0 0).f1))) then (some (decide ((x7.length : Int) ≤ (x0.length : Int)))) else (some false)) else (none)) else (none)) else (none)) else (some false)) else (if 0 ≤ (wrap64 ((x7.length : Int) - 1)) then (if (wrap64 ((x7.length : Int) - 1)) < (x7.length : Int) then (if (rd x5 x1) = (rd x7 (wrap64 ((x7.length : Int) - 1))) then (if x9 ≥ 0 then (if 0 ≤ (wrap64 ((x0.length : Int) - 1)) then (if (wrap64 ((x0.length : Int) - 1)) < (x0.length : Int) then (if 0 < (x0.length : Int) then (if x9 ≤ (wrap64 (((rd_T33 x0 (wrap64 ((x0.length : Int) - 1))).f1) - ((rd_T33 x0 0).f1))) then (some (decide ((x7.length : Int) ≤ (x0.length : Int)))) else (some false)) else (none)) else (none)) else (none)) else (some false)) else (some false)) else (none)) else (none))) else (none)) else (none))))
def deadboltlaw18_JudgeHolds.f (k : Nat) (l0 : List (S33)) (a1 : Int) : Option (Bool) := (deadboltlaw18_few.f l0).bind fun t172 => ((judge_Held.f t172).bind fun bt175 => ((judge_Order.f t172 (Int.tmod (wrap64 ((Int.tmod a1 4) + 4)) 4)).bind fun bt179 => ((judge_Long.f t172 (Int.tmod (wrap64 ((Int.tmod a1 4) + 4)) 4)).bind fun bt183 => (if bt175.2 = 0 then (if bt179.2 = 0 then (if bt183.2 = 0 then (if (bt175.1.length : Int) = 4 then ((deadboltlaw18_alive.f).bind fun t186 => (deadboltlaw18_JudgeHolds.j0 k t172 (Int.tmod (wrap64 ((Int.tmod a1 4) + 4)) 4) bt175.1 bt179.1 bt183.1 (!t186))) else (deadboltlaw18_JudgeHolds.j0 k t172 (Int.tmod (wrap64 ((Int.tmod a1 4) + 4)) 4) bt175.1 bt179.1 bt183.1 true)) else (deadboltlaw18_JudgeHolds.j0 k t172 (Int.tmod (wrap64 ((Int.tmod a1 4) + 4)) 4) bt175.1 bt179.1 bt183.1 true)) else (deadboltlaw18_JudgeHolds.j0 k t172 (Int.tmod (wrap64 ((Int.tmod a1 4) + 4)) 4) bt175.1 bt179.1 bt183.1 true)) else ((deadboltlaw18_alive.f).bind fun t185 => (if t185 = true then (if bt175.2 = bt179.2 then (if bt175.2 = bt183.2 then (if (bt175.1.length : Int) = 0 then (if (bt179.1.length : Int) = 0 then (some (bt183.1 == 0)) else (some false)) else (some false)) else (some false)) else (some false)) else (some false)))))))
theorem deadboltlaw18_JudgeHolds.mono_l : ∀ k, (∀ y0 y1 y2 y3 y4 y5, LeO (deadboltlaw18_JudgeHolds.j0 k y0 y1 y2 y3 y4 y5) (deadboltlaw18_JudgeHolds.j0 (k + 1) y0 y1 y2 y3 y4 y5))
  | 0 => fun _ _ _ _ _ _ r h => by simp [deadboltlaw18_JudgeHolds.j0] at h
  | k + 1 => by
    have ih0 := deadboltlaw18_JudgeHolds.mono_l k
    · intro y0 y1 y2 y3 y4 y5
      unfold deadboltlaw18_JudgeHolds.j0
      repeat' first
      | (with_reducible exact ih0 _ _ _ _ _ _)
      | (with_reducible exact LeO.refl _)
      | (with_reducible exact LeO.none _)
      | (with_reducible refine LeO.ite ?_ ?_)
      | (with_reducible refine LeO.bind ?_ (fun _ => ?_))
      | exact ih0 _ _ _ _ _ _
      | exact LeO.none _
      | refine LeO.ite ?_ ?_
      | refine LeO.bind ?_ (fun _ => ?_)
theorem deadboltlaw18_JudgeHolds.mono : ∀ a0 a1 k, LeO (deadboltlaw18_JudgeHolds.f k a0 a1) (deadboltlaw18_JudgeHolds.f (k + 1) a0 a1) := by
  intro a0 a1 k
  have ih0 := deadboltlaw18_JudgeHolds.mono_l k
  unfold deadboltlaw18_JudgeHolds.f
  repeat' first
      | (with_reducible exact ih0 _ _ _ _ _ _)
      | (with_reducible exact LeO.refl _)
      | (with_reducible exact LeO.none _)
      | (with_reducible refine LeO.ite ?_ ?_)
      | (with_reducible refine LeO.bind ?_ (fun _ => ?_))
      | exact ih0 _ _ _ _ _ _
      | exact LeO.none _
      | refine LeO.ite ?_ ?_
      | refine LeO.bind ?_ (fun _ => ?_)
set_option maxHeartbeats 8000000 in
set_option maxRecDepth 100000 in
theorem deadboltlaw18_JudgeHolds.calls (k : Nat) (A0 : Option Addr) (c0 : Nat) (l0 : List (S33)) (a1 : Int) (r : Bool) (w : World) (hr0 : Kd.C k33 w A0 l0.length l0) (hc0 : l0.length ≤ c0) (h : deadboltlaw18_JudgeHolds.f k l0 a1 = some r) :
    Calls Try.prog 5 #[.slice A0 l0.length c0, .int .i64 a1] w fun e w' => e = .returned (.bool r) ∧ Below w.heap.size w w' := by
  have HR0 := Aside0.mk hr0
  have HC0 := Aside0.mk hc0
  clear hr0 hc0
  have HB := Aside0.mk (Below.refl w.heap.size w)
  have H : ((deadboltlaw18_few.f l0).bind fun t172 => ((judge_Held.f t172).bind fun bt175 => ((judge_Order.f t172 (Int.tmod (wrap64 ((Int.tmod a1 4) + 4)) 4)).bind fun bt179 => ((judge_Long.f t172 (Int.tmod (wrap64 ((Int.tmod a1 4) + 4)) 4)).bind fun bt183 => (if bt175.2 = 0 then (if bt179.2 = 0 then (if bt183.2 = 0 then (if (bt175.1.length : Int) = 4 then ((deadboltlaw18_alive.f).bind fun t186 => (deadboltlaw18_JudgeHolds.j0 k t172 (Int.tmod (wrap64 ((Int.tmod a1 4) + 4)) 4) bt175.1 bt179.1 bt183.1 (!t186))) else (deadboltlaw18_JudgeHolds.j0 k t172 (Int.tmod (wrap64 ((Int.tmod a1 4) + 4)) 4) bt175.1 bt179.1 bt183.1 true)) else (deadboltlaw18_JudgeHolds.j0 k t172 (Int.tmod (wrap64 ((Int.tmod a1 4) + 4)) 4) bt175.1 bt179.1 bt183.1 true)) else (deadboltlaw18_JudgeHolds.j0 k t172 (Int.tmod (wrap64 ((Int.tmod a1 4) + 4)) 4) bt175.1 bt179.1 bt183.1 true)) else ((deadboltlaw18_alive.f).bind fun t185 => (if t185 = true then (if bt175.2 = bt179.2 then (if bt175.2 = bt183.2 then (if (bt175.1.length : Int) = 0 then (if (bt179.1.length : Int) = 0 then (some (bt183.1 == 0)) else (some false)) else (some false)) else (some false)) else (some false)) else (some false)))))))) = some r := h
  clear h
  replace H := Option.bind_eq_some_iff.mp H
  obtain ⟨t172, A30, H⟩ := H
  replace H : ((judge_Held.f t172).bind fun bt175 => ((judge_Order.f t172 (Int.tmod (wrap64 ((Int.tmod a1 4) + 4)) 4)).bind fun bt179 => ((judge_Long.f t172 (Int.tmod (wrap64 ((Int.tmod a1 4) + 4)) 4)).bind fun bt183 => (if bt175.2 = 0 then (if bt179.2 = 0 then (if bt183.2 = 0 then (if (bt175.1.length : Int) = 4 then ((deadboltlaw18_alive.f).bind fun t186 => (deadboltlaw18_JudgeHolds.j0 k t172 (Int.tmod (wrap64 ((Int.tmod a1 4) + 4)) 4) bt175.1 bt179.1 bt183.1 (!t186))) else (deadboltlaw18_JudgeHolds.j0 k t172 (Int.tmod (wrap64 ((Int.tmod a1 4) + 4)) 4) bt175.1 bt179.1 bt183.1 true)) else (deadboltlaw18_JudgeHolds.j0 k t172 (Int.tmod (wrap64 ((Int.tmod a1 4) + 4)) 4) bt175.1 bt179.1 bt183.1 true)) else (deadboltlaw18_JudgeHolds.j0 k t172 (Int.tmod (wrap64 ((Int.tmod a1 4) + 4)) 4) bt175.1 bt179.1 bt183.1 true)) else ((deadboltlaw18_alive.f).bind fun t185 => (if t185 = true then (if bt175.2 = bt179.2 then (if bt175.2 = bt183.2 then (if (bt175.1.length : Int) = 0 then (if (bt179.1.length : Int) = 0 then (some (bt183.1 == 0)) else (some false)) else (some false)) else (some false)) else (some false)) else (some false))))))) = some r := H
  have A3 := Aside0.mk A30
  clear A30
  replace H := Option.bind_eq_some_iff.mp H
  obtain ⟨⟨t175, t176⟩, A40, H⟩ := H
  replace H : ((judge_Order.f t172 (Int.tmod (wrap64 ((Int.tmod a1 4) + 4)) 4)).bind fun bt179 => ((judge_Long.f t172 (Int.tmod (wrap64 ((Int.tmod a1 4) + 4)) 4)).bind fun bt183 => (if t176 = 0 then (if bt179.2 = 0 then (if bt183.2 = 0 then (if (t175.length : Int) = 4 then ((deadboltlaw18_alive.f).bind fun t186 => (deadboltlaw18_JudgeHolds.j0 k t172 (Int.tmod (wrap64 ((Int.tmod a1 4) + 4)) 4) t175 bt179.1 bt183.1 (!t186))) else (deadboltlaw18_JudgeHolds.j0 k t172 (Int.tmod (wrap64 ((Int.tmod a1 4) + 4)) 4) t175 bt179.1 bt183.1 true)) else (deadboltlaw18_JudgeHolds.j0 k t172 (Int.tmod (wrap64 ((Int.tmod a1 4) + 4)) 4) t175 bt179.1 bt183.1 true)) else (deadboltlaw18_JudgeHolds.j0 k t172 (Int.tmod (wrap64 ((Int.tmod a1 4) + 4)) 4) t175 bt179.1 bt183.1 true)) else ((deadboltlaw18_alive.f).bind fun t185 => (if t185 = true then (if t176 = bt179.2 then (if t176 = bt183.2 then (if (t175.length : Int) = 0 then (if (bt179.1.length : Int) = 0 then (some (bt183.1 == 0)) else (some false)) else (some false)) else (some false)) else (some false)) else (some false)))))) = some r := H
  have A4 := Aside0.mk A40
  clear A40
  replace H := Option.bind_eq_some_iff.mp H
  obtain ⟨⟨t179, t180⟩, A50, H⟩ := H
  replace H : ((judge_Long.f t172 (Int.tmod (wrap64 ((Int.tmod a1 4) + 4)) 4)).bind fun bt183 => (if t176 = 0 then (if t180 = 0 then (if bt183.2 = 0 then (if (t175.length : Int) = 4 then ((deadboltlaw18_alive.f).bind fun t186 => (deadboltlaw18_JudgeHolds.j0 k t172 (Int.tmod (wrap64 ((Int.tmod a1 4) + 4)) 4) t175 t179 bt183.1 (!t186))) else (deadboltlaw18_JudgeHolds.j0 k t172 (Int.tmod (wrap64 ((Int.tmod a1 4) + 4)) 4) t175 t179 bt183.1 true)) else (deadboltlaw18_JudgeHolds.j0 k t172 (Int.tmod (wrap64 ((Int.tmod a1 4) + 4)) 4) t175 t179 bt183.1 true)) else (deadboltlaw18_JudgeHolds.j0 k t172 (Int.tmod (wrap64 ((Int.tmod a1 4) + 4)) 4) t175 t179 bt183.1 true)) else ((deadboltlaw18_alive.f).bind fun t185 => (if t185 = true then (if t176 = t180 then (if t176 = bt183.2 then (if (t175.length : Int) = 0 then (if (t179.length : Int) = 0 then (some (bt183.1 == 0)) else (some false)) else (some false)) else (some false)) else (some false)) else (some false))))) = some r := H
  have A5 := Aside0.mk A50
  clear A50
  replace H := Option.bind_eq_some_iff.mp H
  obtain ⟨⟨t183, t184⟩, A60, H⟩ := H
  replace H : (if t176 = 0 then (if t180 = 0 then (if t184 = 0 then (if (t175.length : Int) = 4 then ((deadboltlaw18_alive.f).bind fun t186 => (deadboltlaw18_JudgeHolds.j0 k t172 (Int.tmod (wrap64 ((Int.tmod a1 4) + 4)) 4) t175 t179 t183 (!t186))) else (deadboltlaw18_JudgeHolds.j0 k t172 (Int.tmod (wrap64 ((Int.tmod a1 4) + 4)) 4) t175 t179 t183 true)) else (deadboltlaw18_JudgeHolds.j0 k t172 (Int.tmod (wrap64 ((Int.tmod a1 4) + 4)) 4) t175 t179 t183 true)) else (deadboltlaw18_JudgeHolds.j0 k t172 (Int.tmod (wrap64 ((Int.tmod a1 4) + 4)) 4) t175 t179 t183 true)) else ((deadboltlaw18_alive.f).bind fun t185 => (if t185 = true then (if t176 = t180 then (if t176 = t184 then (if (t175.length : Int) = 0 then (if (t179.length : Int) = 0 then (some (t183 == 0)) else (some false)) else (some false)) else (some false)) else (some false)) else (some false)))) = some r := H
  have A6 := Aside0.mk A60
  clear A60
  by_cases c7 : t176 = 0
  · rw [if_pos c7] at H
    have c7b0 : (t176 == 0) = true := beq_iff_eq.mpr c7
    have c7b1 : (t176 != 0) = false := bne_eq_false_iff_eq.mpr c7
    clear c7
    have HC8 := Aside0.mk H
    clear H
    go_enter Try.func5, Try.ntmps5
    go_upto_region 8 with (first | (go_at_call 13; (with_reducible refine (deadboltlaw18_few.calls _ _ l0 t172 _ ?side1 ?side2 A3.out).mono ?_); (case side1 => repeat (first | exact HR0.out | (with_reducible refine Kd.C_alloc ?_ _) | (with_reducible refine Kd.C_drewN ?_ _) | (with_reducible refine Kd.C_drew ?_))); (case side2 => exact HC0.out); rintro e w9 ⟨v173, rfl, ho0, hb⟩; have n0_ := Aside0.mk (Kd.R_lower ho0 (below_size (by repeat (first | (with_reducible first | exact HB.out | apply below_alloc | apply pw_below_drewN | apply below_drew1) | exact HB.out)))); have n1_ := Aside0.mk (below_step (by repeat (first | (with_reducible first | exact HB.out | apply below_alloc | apply pw_below_drewN | apply below_drew1) | exact HB.out)) hb); clear HB; have HO174 := n0_; have HB := n1_; clear n0_ n1_; (try clear hb); (try clear hb2); (try clear hk); (try clear hi); (try clear ho0); obtain ⟨Ao10, co10, eo10⟩ := Kd.R_slice HO174.out; subst eo10) | (go_at_call 16; (with_reducible refine (judge_Held.calls _ _ t172 t175 t176 _ ?side1 ?side2 A4.out).mono ?_); (case side1 => repeat (first | exact (Kd.R_reads' HO174.out).2.2 | (with_reducible refine Kd.C_alloc ?_ _) | (with_reducible refine Kd.C_drewN ?_ _) | (with_reducible refine Kd.C_drew ?_))); (case side2 => exact (Kd.R_reads' HO174.out).2.1); rintro e w11 ⟨v177, rfl, ho0, hb⟩; have n0_ := Aside0.mk (Kd.R_below (by (with_reducible repeat (first | apply Kd.R_alloc | apply Kd.R_drewN | apply Kd.R_drew)); exact HO174.out) hb); have n1_ := Aside0.mk (Kd.R_lower ho0 (below_size (by repeat (first | (with_reducible first | exact HB.out | apply below_alloc | apply pw_below_drewN | apply below_drew1) | exact HB.out)))); have n2_ := Aside0.mk (below_step (by repeat (first | (with_reducible first | exact HB.out | apply below_alloc | apply pw_below_drewN | apply below_drew1) | exact HB.out)) hb); clear HO174; clear HB; have HO174 := n0_; have HO178 := n1_; have HB := n2_; clear n0_ n1_ n2_; (try clear hb); (try clear hb2); (try clear hk); (try clear hi); (try clear ho0)) | (go_at_call 17; (with_reducible refine (judge_Order.calls _ _ t172 (Int.tmod (wrap64 ((Int.tmod a1 4) + 4)) 4) t179 t180 _ ?side1 ?side2 A5.out).mono ?_); (case side1 => repeat (first | exact (Kd.R_reads' HO174.out).2.2 | (with_reducible refine Kd.C_alloc ?_ _) | (with_reducible refine Kd.C_drewN ?_ _) | (with_reducible refine Kd.C_drew ?_))); (case side2 => exact (Kd.R_reads' HO174.out).2.1); rintro e w12 ⟨v181, rfl, ho0, hb⟩; have n0_ := Aside0.mk (Kd.R_below (by (with_reducible repeat (first | apply Kd.R_alloc | apply Kd.R_drewN | apply Kd.R_drew)); exact HO174.out) hb); have n1_ := Aside0.mk (Kd.R_elder' (by (with_reducible repeat (first | apply Kd.R_alloc | apply Kd.R_drewN | apply Kd.R_drew)); exact HO178.out) (Kd.R_base ho0) hb); have n2_ := Aside0.mk (Kd.R_lower (Kd.R_new' ho0 (Kd.R_lt (by (with_reducible repeat (first | apply Kd.R_alloc | apply Kd.R_drewN | apply Kd.R_drew)); exact HO178.out))) (below_size (by repeat (first | (with_reducible first | exact HB.out | apply below_alloc | apply pw_below_drewN | apply below_drew1) | exact HB.out)))); have n3_ := Aside0.mk (below_step (by repeat (first | (with_reducible first | exact HB.out | apply below_alloc | apply pw_below_drewN | apply below_drew1) | exact HB.out)) hb); clear HO174; clear HO178; clear HB; have HO174 := n0_; have HO178 := n1_; have HO182 := n2_; have HB := n3_; clear n0_ n1_ n2_ n3_; (try clear hb); (try clear hb2); (try clear hk); (try clear hi); (try clear ho0)) | (go_at_call 18; (with_reducible refine (judge_Long.calls _ _ t172 (Int.tmod (wrap64 ((Int.tmod a1 4) + 4)) 4) t183 t184 _ ?side1 ?side2 A6.out).mono ?_); (case side1 => repeat (first | exact (Kd.R_reads' HO174.out).2.2 | (with_reducible refine Kd.C_alloc ?_ _) | (with_reducible refine Kd.C_drewN ?_ _) | (with_reducible refine Kd.C_drew ?_))); (case side2 => exact (Kd.R_reads' HO174.out).2.1); rintro e w13 ⟨rfl, hb⟩; have n0_ := Aside0.mk (Kd.R_below (by (with_reducible repeat (first | apply Kd.R_alloc | apply Kd.R_drewN | apply Kd.R_drew)); exact HO174.out) hb); have n1_ := Aside0.mk (Kd.R_below (by (with_reducible repeat (first | apply Kd.R_alloc | apply Kd.R_drewN | apply Kd.R_drew)); exact HO178.out) hb); have n2_ := Aside0.mk (Kd.R_below (by (with_reducible repeat (first | apply Kd.R_alloc | apply Kd.R_drewN | apply Kd.R_drew)); exact HO182.out) hb); have n3_ := Aside0.mk (below_step (by repeat (first | (with_reducible first | exact HB.out | apply below_alloc | apply pw_below_drewN | apply below_drew1) | exact HB.out)) hb); clear HO174; clear HO178; clear HO182; clear HB; have HO174 := n0_; have HO178 := n1_; have HO182 := n2_; have HB := n3_; clear n0_ n1_ n2_ n3_; (try clear hb); (try clear hb2); (try clear hk); (try clear hi)))
    repeat (go_quiet (first | (go_at_call 13; (with_reducible refine (deadboltlaw18_few.calls _ _ l0 t172 _ ?side1 ?side2 A3.out).mono ?_); (case side1 => repeat (first | exact HR0.out | (with_reducible refine Kd.C_alloc ?_ _) | (with_reducible refine Kd.C_drewN ?_ _) | (with_reducible refine Kd.C_drew ?_))); (case side2 => exact HC0.out); rintro e w9 ⟨v173, rfl, ho0, hb⟩; have n0_ := Aside0.mk (Kd.R_lower ho0 (below_size (by repeat (first | (with_reducible first | exact HB.out | apply below_alloc | apply pw_below_drewN | apply below_drew1) | exact HB.out)))); have n1_ := Aside0.mk (below_step (by repeat (first | (with_reducible first | exact HB.out | apply below_alloc | apply pw_below_drewN | apply below_drew1) | exact HB.out)) hb); clear HB; have HO174 := n0_; have HB := n1_; clear n0_ n1_; (try clear hb); (try clear hb2); (try clear hk); (try clear hi); (try clear ho0); obtain ⟨Ao10, co10, eo10⟩ := Kd.R_slice HO174.out; subst eo10) | (go_at_call 16; (with_reducible refine (judge_Held.calls _ _ t172 t175 t176 _ ?side1 ?side2 A4.out).mono ?_); (case side1 => repeat (first | exact (Kd.R_reads' HO174.out).2.2 | (with_reducible refine Kd.C_alloc ?_ _) | (with_reducible refine Kd.C_drewN ?_ _) | (with_reducible refine Kd.C_drew ?_))); (case side2 => exact (Kd.R_reads' HO174.out).2.1); rintro e w11 ⟨v177, rfl, ho0, hb⟩; have n0_ := Aside0.mk (Kd.R_below (by (with_reducible repeat (first | apply Kd.R_alloc | apply Kd.R_drewN | apply Kd.R_drew)); exact HO174.out) hb); have n1_ := Aside0.mk (Kd.R_lower ho0 (below_size (by repeat (first | (with_reducible first | exact HB.out | apply below_alloc | apply pw_below_drewN | apply below_drew1) | exact HB.out)))); have n2_ := Aside0.mk (below_step (by repeat (first | (with_reducible first | exact HB.out | apply below_alloc | apply pw_below_drewN | apply below_drew1) | exact HB.out)) hb); clear HO174; clear HB; have HO174 := n0_; have HO178 := n1_; have HB := n2_; clear n0_ n1_ n2_; (try clear hb); (try clear hb2); (try clear hk); (try clear hi); (try clear ho0)) | (go_at_call 17; (with_reducible refine (judge_Order.calls _ _ t172 (Int.tmod (wrap64 ((Int.tmod a1 4) + 4)) 4) t179 t180 _ ?side1 ?side2 A5.out).mono ?_); (case side1 => repeat (first | exact (Kd.R_reads' HO174.out).2.2 | (with_reducible refine Kd.C_alloc ?_ _) | (with_reducible refine Kd.C_drewN ?_ _) | (with_reducible refine Kd.C_drew ?_))); (case side2 => exact (Kd.R_reads' HO174.out).2.1); rintro e w12 ⟨v181, rfl, ho0, hb⟩; have n0_ := Aside0.mk (Kd.R_below (by (with_reducible repeat (first | apply Kd.R_alloc | apply Kd.R_drewN | apply Kd.R_drew)); exact HO174.out) hb); have n1_ := Aside0.mk (Kd.R_elder' (by (with_reducible repeat (first | apply Kd.R_alloc | apply Kd.R_drewN | apply Kd.R_drew)); exact HO178.out) (Kd.R_base ho0) hb); have n2_ := Aside0.mk (Kd.R_lower (Kd.R_new' ho0 (Kd.R_lt (by (with_reducible repeat (first | apply Kd.R_alloc | apply Kd.R_drewN | apply Kd.R_drew)); exact HO178.out))) (below_size (by repeat (first | (with_reducible first | exact HB.out | apply below_alloc | apply pw_below_drewN | apply below_drew1) | exact HB.out)))); have n3_ := Aside0.mk (below_step (by repeat (first | (with_reducible first | exact HB.out | apply below_alloc | apply pw_below_drewN | apply below_drew1) | exact HB.out)) hb); clear HO174; clear HO178; clear HB; have HO174 := n0_; have HO178 := n1_; have HO182 := n2_; have HB := n3_; clear n0_ n1_ n2_ n3_; (try clear hb); (try clear hb2); (try clear hk); (try clear hi); (try clear ho0)) | (go_at_call 18; (with_reducible refine (judge_Long.calls _ _ t172 (Int.tmod (wrap64 ((Int.tmod a1 4) + 4)) 4) t183 t184 _ ?side1 ?side2 A6.out).mono ?_); (case side1 => repeat (first | exact (Kd.R_reads' HO174.out).2.2 | (with_reducible refine Kd.C_alloc ?_ _) | (with_reducible refine Kd.C_drewN ?_ _) | (with_reducible refine Kd.C_drew ?_))); (case side2 => exact (Kd.R_reads' HO174.out).2.1); rintro e w13 ⟨rfl, hb⟩; have n0_ := Aside0.mk (Kd.R_below (by (with_reducible repeat (first | apply Kd.R_alloc | apply Kd.R_drewN | apply Kd.R_drew)); exact HO174.out) hb); have n1_ := Aside0.mk (Kd.R_below (by (with_reducible repeat (first | apply Kd.R_alloc | apply Kd.R_drewN | apply Kd.R_drew)); exact HO178.out) hb); have n2_ := Aside0.mk (Kd.R_below (by (with_reducible repeat (first | apply Kd.R_alloc | apply Kd.R_drewN | apply Kd.R_drew)); exact HO182.out) hb); have n3_ := Aside0.mk (below_step (by repeat (first | (with_reducible first | exact HB.out | apply below_alloc | apply pw_below_drewN | apply below_drew1) | exact HB.out)) hb); clear HO174; clear HO178; clear HO182; clear HB; have HO174 := n0_; have HO178 := n1_; have HO182 := n2_; have HB := n3_; clear n0_ n1_ n2_ n3_; (try clear hb); (try clear hb2); (try clear hk); (try clear hi))); go_upto_region 8 with (first | (go_at_call 13; (with_reducible refine (deadboltlaw18_few.calls _ _ l0 t172 _ ?side1 ?side2 A3.out).mono ?_); (case side1 => repeat (first | exact HR0.out | (with_reducible refine Kd.C_alloc ?_ _) | (with_reducible refine Kd.C_drewN ?_ _) | (with_reducible refine Kd.C_drew ?_))); (case side2 => exact HC0.out); rintro e w9 ⟨v173, rfl, ho0, hb⟩; have n0_ := Aside0.mk (Kd.R_lower ho0 (below_size (by repeat (first | (with_reducible first | exact HB.out | apply below_alloc | apply pw_below_drewN | apply below_drew1) | exact HB.out)))); have n1_ := Aside0.mk (below_step (by repeat (first | (with_reducible first | exact HB.out | apply below_alloc | apply pw_below_drewN | apply below_drew1) | exact HB.out)) hb); clear HB; have HO174 := n0_; have HB := n1_; clear n0_ n1_; (try clear hb); (try clear hb2); (try clear hk); (try clear hi); (try clear ho0); obtain ⟨Ao10, co10, eo10⟩ := Kd.R_slice HO174.out; subst eo10) | (go_at_call 16; (with_reducible refine (judge_Held.calls _ _ t172 t175 t176 _ ?side1 ?side2 A4.out).mono ?_); (case side1 => repeat (first | exact (Kd.R_reads' HO174.out).2.2 | (with_reducible refine Kd.C_alloc ?_ _) | (with_reducible refine Kd.C_drewN ?_ _) | (with_reducible refine Kd.C_drew ?_))); (case side2 => exact (Kd.R_reads' HO174.out).2.1); rintro e w11 ⟨v177, rfl, ho0, hb⟩; have n0_ := Aside0.mk (Kd.R_below (by (with_reducible repeat (first | apply Kd.R_alloc | apply Kd.R_drewN | apply Kd.R_drew)); exact HO174.out) hb); have n1_ := Aside0.mk (Kd.R_lower ho0 (below_size (by repeat (first | (with_reducible first | exact HB.out | apply below_alloc | apply pw_below_drewN | apply below_drew1) | exact HB.out)))); have n2_ := Aside0.mk (below_step (by repeat (first | (with_reducible first | exact HB.out | apply below_alloc | apply pw_below_drewN | apply below_drew1) | exact HB.out)) hb); clear HO174; clear HB; have HO174 := n0_; have HO178 := n1_; have HB := n2_; clear n0_ n1_ n2_; (try clear hb); (try clear hb2); (try clear hk); (try clear hi); (try clear ho0)) | (go_at_call 17; (with_reducible refine (judge_Order.calls _ _ t172 (Int.tmod (wrap64 ((Int.tmod a1 4) + 4)) 4) t179 t180 _ ?side1 ?side2 A5.out).mono ?_); (case side1 => repeat (first | exact (Kd.R_reads' HO174.out).2.2 | (with_reducible refine Kd.C_alloc ?_ _) | (with_reducible refine Kd.C_drewN ?_ _) | (with_reducible refine Kd.C_drew ?_))); (case side2 => exact (Kd.R_reads' HO174.out).2.1); rintro e w12 ⟨v181, rfl, ho0, hb⟩; have n0_ := Aside0.mk (Kd.R_below (by (with_reducible repeat (first | apply Kd.R_alloc | apply Kd.R_drewN | apply Kd.R_drew)); exact HO174.out) hb); have n1_ := Aside0.mk (Kd.R_elder' (by (with_reducible repeat (first | apply Kd.R_alloc | apply Kd.R_drewN | apply Kd.R_drew)); exact HO178.out) (Kd.R_base ho0) hb); have n2_ := Aside0.mk (Kd.R_lower (Kd.R_new' ho0 (Kd.R_lt (by (with_reducible repeat (first | apply Kd.R_alloc | apply Kd.R_drewN | apply Kd.R_drew)); exact HO178.out))) (below_size (by repeat (first | (with_reducible first | exact HB.out | apply below_alloc | apply pw_below_drewN | apply below_drew1) | exact HB.out)))); have n3_ := Aside0.mk (below_step (by repeat (first | (with_reducible first | exact HB.out | apply below_alloc | apply pw_below_drewN | apply below_drew1) | exact HB.out)) hb); clear HO174; clear HO178; clear HB; have HO174 := n0_; have HO178 := n1_; have HO182 := n2_; have HB := n3_; clear n0_ n1_ n2_ n3_; (try clear hb); (try clear hb2); (try clear hk); (try clear hi); (try clear ho0)) | (go_at_call 18; (with_reducible refine (judge_Long.calls _ _ t172 (Int.tmod (wrap64 ((Int.tmod a1 4) + 4)) 4) t183 t184 _ ?side1 ?side2 A6.out).mono ?_); (case side1 => repeat (first | exact (Kd.R_reads' HO174.out).2.2 | (with_reducible refine Kd.C_alloc ?_ _) | (with_reducible refine Kd.C_drewN ?_ _) | (with_reducible refine Kd.C_drew ?_))); (case side2 => exact (Kd.R_reads' HO174.out).2.1); rintro e w13 ⟨rfl, hb⟩; have n0_ := Aside0.mk (Kd.R_below (by (with_reducible repeat (first | apply Kd.R_alloc | apply Kd.R_drewN | apply Kd.R_drew)); exact HO174.out) hb); have n1_ := Aside0.mk (Kd.R_below (by (with_reducible repeat (first | apply Kd.R_alloc | apply Kd.R_drewN | apply Kd.R_drew)); exact HO178.out) hb); have n2_ := Aside0.mk (Kd.R_below (by (with_reducible repeat (first | apply Kd.R_alloc | apply Kd.R_drewN | apply Kd.R_drew)); exact HO182.out) hb); have n3_ := Aside0.mk (below_step (by repeat (first | (with_reducible first | exact HB.out | apply below_alloc | apply pw_below_drewN | apply below_drew1) | exact HB.out)) hb); clear HO174; clear HO178; clear HO182; clear HB; have HO174 := n0_; have HO178 := n1_; have HO182 := n2_; have HB := n3_; clear n0_ n1_ n2_ n3_; (try clear hb); (try clear hb2); (try clear hk); (try clear hi))))
    (try simp only [Act.put, List.setIfInBounds_toArray, List.set_cons_zero, List.set_cons_succ])
    go_cut [76] (fun v76 wc => ∃ (kq : Nat) (x76_7 : Bool), v76 = .bool x76_7 ∧ Aside0 (deadboltlaw18_JudgeHolds.j0 kq t172 (Int.tmod (wrap64 ((Int.tmod a1 4) + 4)) 4) t175 t179 t183 x76_7 = some r) ∧ Aside0 (kq ≤ k) ∧ Aside0 (Kd.R k33 33 wc w.heap.size (fun _ => True) (.slice Ao10 t172.length co10) t172) ∧ Aside0 (Kd.R (Kd.int .i64) 3 wc w.heap.size (fun k_ => some k_ ≠ (v181 : Value).ownBlock) v177 t175) ∧ Aside0 (Kd.R (Kd.int .i64) 3 wc w.heap.size (fun k_ => some k_ ≠ (v177 : Value).ownBlock) v181 t179) ∧ Aside0 (Below w.heap.size w wc))
    case first =>
      have H := HC8.out
      clear HC8
      by_cases c14 : t180 = 0
      · rw [if_pos c14] at H
        have c14b0 : (t180 == 0) = true := beq_iff_eq.mpr c14
        have c14b1 : (t180 != 0) = false := bne_eq_false_iff_eq.mpr c14
        clear c14
        (first | rw [c14b0] | (simp only [i64_w, i32_w]; rw [c14b0]) | skip)
        by_cases c15 : t184 = 0
        · rw [if_pos c15] at H
          have c15b0 : (t184 == 0) = true := beq_iff_eq.mpr c15
          have c15b1 : (t184 != 0) = false := bne_eq_false_iff_eq.mpr c15
          clear c15
          by_cases c16 : (t175.length : Int) = 4
          · rw [if_pos c16] at H
            have c16b0 : ((t175.length : Int) == 4) = true := beq_iff_eq.mpr c16
            have c16b1 : ((t175.length : Int) != 4) = false := bne_eq_false_iff_eq.mpr c16
            clear c16
            replace H := Option.bind_eq_some_iff.mp H
            obtain ⟨t186, A170, H⟩ := H
            replace H : (deadboltlaw18_JudgeHolds.j0 k t172 (Int.tmod (wrap64 ((Int.tmod a1 4) + 4)) 4) t175 t179 t183 (!t186)) = some r := H
            have A17 := Aside0.mk A170
            clear A170
            have H' := Aside0.mk H
            clear H
            obtain ⟨Ao18, co18, eo18⟩ := Kd.R_slice HO178.out
            subst eo18
            go_wp2_with (first | (go_at_call 15; (with_reducible refine (deadboltlaw18_alive.calls  t186 _ A17.out).mono ?_); rintro e w19 ⟨rfl, hb⟩; have n0_ := Aside0.mk (Kd.R_below (by (with_reducible repeat (first | apply Kd.R_alloc | apply Kd.R_drewN | apply Kd.R_drew)); exact HO174.out) hb); have n1_ := Aside0.mk (Kd.R_below (by (with_reducible repeat (first | apply Kd.R_alloc | apply Kd.R_drewN | apply Kd.R_drew)); exact HO178.out) hb); have n2_ := Aside0.mk (Kd.R_below (by (with_reducible repeat (first | apply Kd.R_alloc | apply Kd.R_drewN | apply Kd.R_drew)); exact HO182.out) hb); have n3_ := Aside0.mk (below_step (by repeat (first | (with_reducible first | exact HB.out | apply below_alloc | apply pw_below_drewN | apply below_drew1) | exact HB.out)) hb); clear HO174; clear HO178; clear HO182; clear HB; have HO174 := n0_; have HO178 := n1_; have HO182 := n2_; have HB := n3_; clear n0_ n1_ n2_ n3_; (try clear hb); (try clear hb2); (try clear hk); (try clear hi)))
            repeat (go_quiet (first | (go_at_call 15; (with_reducible refine (deadboltlaw18_alive.calls  t186 _ A17.out).mono ?_); rintro e w19 ⟨rfl, hb⟩; have n0_ := Aside0.mk (Kd.R_below (by (with_reducible repeat (first | apply Kd.R_alloc | apply Kd.R_drewN | apply Kd.R_drew)); exact HO174.out) hb); have n1_ := Aside0.mk (Kd.R_below (by (with_reducible repeat (first | apply Kd.R_alloc | apply Kd.R_drewN | apply Kd.R_drew)); exact HO178.out) hb); have n2_ := Aside0.mk (Kd.R_below (by (with_reducible repeat (first | apply Kd.R_alloc | apply Kd.R_drewN | apply Kd.R_drew)); exact HO182.out) hb); have n3_ := Aside0.mk (below_step (by repeat (first | (with_reducible first | exact HB.out | apply below_alloc | apply pw_below_drewN | apply below_drew1) | exact HB.out)) hb); clear HO174; clear HO178; clear HO182; clear HB; have HO174 := n0_; have HO178 := n1_; have HO182 := n2_; have HB := n3_; clear n0_ n1_ n2_ n3_; (try clear hb); (try clear hb2); (try clear hk); (try clear hi))); try go_wp2_with (first | (go_at_call 15; (with_reducible refine (deadboltlaw18_alive.calls  t186 _ A17.out).mono ?_); rintro e w19 ⟨rfl, hb⟩; have n0_ := Aside0.mk (Kd.R_below (by (with_reducible repeat (first | apply Kd.R_alloc | apply Kd.R_drewN | apply Kd.R_drew)); exact HO174.out) hb); have n1_ := Aside0.mk (Kd.R_below (by (with_reducible repeat (first | apply Kd.R_alloc | apply Kd.R_drewN | apply Kd.R_drew)); exact HO178.out) hb); have n2_ := Aside0.mk (Kd.R_below (by (with_reducible repeat (first | apply Kd.R_alloc | apply Kd.R_drewN | apply Kd.R_drew)); exact HO182.out) hb); have n3_ := Aside0.mk (below_step (by repeat (first | (with_reducible first | exact HB.out | apply below_alloc | apply pw_below_drewN | apply below_drew1) | exact HB.out)) hb); clear HO174; clear HO178; clear HO182; clear HB; have HO174 := n0_; have HO178 := n1_; have HO182 := n2_; have HB := n3_; clear n0_ n1_ n2_ n3_; (try clear hb); (try clear hb2); (try clear hk); (try clear hi))))
            go_meet
            case rel => exact ⟨_, (!t186), (by first | rfl | (simp; done) | (simp [*]; done)), H', ⟨by first | omega | exact Nat.le_refl _⟩, ⟨by (with_reducible repeat (first | apply Kd.R_alloc | apply Kd.R_drewN | apply Kd.R_drew)); exact HO174.out⟩, ⟨by (with_reducible repeat (first | apply Kd.R_alloc | apply Kd.R_drewN | apply Kd.R_drew)); exact Kd.R_mono HO178.out (fun _ hk => hk.2)⟩, ⟨by (with_reducible repeat (first | apply Kd.R_alloc | apply Kd.R_drewN | apply Kd.R_drew)); exact Kd.R_mono HO182.out (fun _ hk => hk.2)⟩, ⟨by repeat (first | (with_reducible first | exact HB.out | apply below_alloc | apply pw_below_drewN | apply below_drew1) | exact HB.out)⟩⟩
          · rw [if_neg c16] at H
            have c16b0 : ((t175.length : Int) == 4) = false := beq_eq_false_iff_ne.mpr c16
            have c16b1 : ((t175.length : Int) != 4) = true := bne_iff_ne.mpr c16
            have H' := Aside0.mk H
            clear H
            obtain ⟨Ao20, co20, eo20⟩ := Kd.R_slice HO178.out
            subst eo20
            go_wp2
            repeat (go_quiet (fail); try go_wp2)
            go_meet
            case rel => exact ⟨_, (true), (by first | rfl | (simp; done) | (simp [*]; done)), H', ⟨by first | omega | exact Nat.le_refl _⟩, ⟨by (with_reducible repeat (first | apply Kd.R_alloc | apply Kd.R_drewN | apply Kd.R_drew)); exact HO174.out⟩, ⟨by (with_reducible repeat (first | apply Kd.R_alloc | apply Kd.R_drewN | apply Kd.R_drew)); exact Kd.R_mono HO178.out (fun _ hk => hk.2)⟩, ⟨by (with_reducible repeat (first | apply Kd.R_alloc | apply Kd.R_drewN | apply Kd.R_drew)); exact Kd.R_mono HO182.out (fun _ hk => hk.2)⟩, ⟨by repeat (first | (with_reducible first | exact HB.out | apply below_alloc | apply pw_below_drewN | apply below_drew1) | exact HB.out)⟩⟩
        · rw [if_neg c15] at H
          have c15b0 : (t184 == 0) = false := beq_eq_false_iff_ne.mpr c15
          have c15b1 : (t184 != 0) = true := bne_iff_ne.mpr c15
          have H' := Aside0.mk H
          clear H
          go_wp2
          repeat (go_quiet (fail); try go_wp2)
          go_meet
          case rel => exact ⟨_, (true), (by first | rfl | (simp; done) | (simp [*]; done)), H', ⟨by first | omega | exact Nat.le_refl _⟩, ⟨by (with_reducible repeat (first | apply Kd.R_alloc | apply Kd.R_drewN | apply Kd.R_drew)); exact HO174.out⟩, ⟨by (with_reducible repeat (first | apply Kd.R_alloc | apply Kd.R_drewN | apply Kd.R_drew)); exact Kd.R_mono HO178.out (fun _ hk => hk.2)⟩, ⟨by (with_reducible repeat (first | apply Kd.R_alloc | apply Kd.R_drewN | apply Kd.R_drew)); exact Kd.R_mono HO182.out (fun _ hk => hk.2)⟩, ⟨by repeat (first | (with_reducible first | exact HB.out | apply below_alloc | apply pw_below_drewN | apply below_drew1) | exact HB.out)⟩⟩
      · rw [if_neg c14] at H
        have c14b0 : (t180 == 0) = false := beq_eq_false_iff_ne.mpr c14
        have c14b1 : (t180 != 0) = true := bne_iff_ne.mpr c14
        (first | rw [c14b0] | (simp only [i64_w, i32_w]; rw [c14b0]) | skip)
        have H' := Aside0.mk H
        clear H
        go_wp2
        repeat (go_quiet (fail); try go_wp2)
        go_meet
        case rel => exact ⟨_, (true), (by first | rfl | (simp; done) | (simp [*]; done)), H', ⟨by first | omega | exact Nat.le_refl _⟩, ⟨by (with_reducible repeat (first | apply Kd.R_alloc | apply Kd.R_drewN | apply Kd.R_drew)); exact HO174.out⟩, ⟨by (with_reducible repeat (first | apply Kd.R_alloc | apply Kd.R_drewN | apply Kd.R_drew)); exact Kd.R_mono HO178.out (fun _ hk => hk.2)⟩, ⟨by (with_reducible repeat (first | apply Kd.R_alloc | apply Kd.R_drewN | apply Kd.R_drew)); exact Kd.R_mono HO182.out (fun _ hk => hk.2)⟩, ⟨by repeat (first | (with_reducible first | exact HB.out | apply below_alloc | apply pw_below_drewN | apply below_drew1) | exact HB.out)⟩⟩
    case rest =>
      clear HC8
      try clear c1
      try clear p2
      try clear c5
      try clear p6
      try clear c7
      try clear c7b0
      try clear c7b1
      try clear c14
      try clear c14b0
      try clear c14b1
      try clear c15
      try clear c15b0
      try clear c15b1
      try clear c16
      try clear c16b0
      try clear c16b1
      obtain ⟨kq, x76_7, rfl, HA, HJ7, HO_0, HO_5, HO_7, HB⟩ := hcut
      cases kq with
      | zero => exact absurd HA.out (by simp [deadboltlaw18_JudgeHolds.j0])
      | succ kj7 =>
        have H := HA.out
        clear HA
        simp only [deadboltlaw18_JudgeHolds.j0] at H
        by_cases c21 : x76_7 = true
        · subst c21
          have H1 : (some false) = some r := by rw [if_pos rfl] at H; exact H
          clear H
          have H := H1
          clear H1
          obtain rfl := Option.some.inj H
          go_wp2
          repeat (go_quiet (fail); try go_wp2)
          go_ret
          exact ⟨by first | rfl | (simp [errW_none, errW_some] <;> rfl) | (simp [*, errW_none, errW_some] <;> rfl), by repeat (first | (with_reducible first | exact HB.out | apply below_alloc | apply pw_below_drewN | apply below_drew1) | exact HB.out)⟩
        · replace c21 := Bool.eq_false_iff.mpr c21
          subst c21
          have H1 : (if (t179.length : Int) = 0 then (if 0 ≤ (Int.tmod (wrap64 ((Int.tmod a1 4) + 4)) 4) then (if (Int.tmod (wrap64 ((Int.tmod a1 4) + 4)) 4) < (t175.length : Int) then (if (rd t175 (Int.tmod (wrap64 ((Int.tmod a1 4) + 4)) 4)) = (-1) then (if t183 = 0 then (some ((t179.length : Int) == 0)) else (some false)) else (some false)) else (none)) else (none)) else (if (t172.length : Int) = 0 then (if 0 ≤ (Int.tmod (wrap64 ((Int.tmod a1 4) + 4)) 4) then (if (Int.tmod (wrap64 ((Int.tmod a1 4) + 4)) 4) < (t175.length : Int) then (if (rd t175 (Int.tmod (wrap64 ((Int.tmod a1 4) + 4)) 4)) = (-1) then (if t183 = 0 then (some ((t179.length : Int) == 0)) else (some false)) else (some false)) else (none)) else (none)) else (if 0 ≤ (Int.tmod (wrap64 ((Int.tmod a1 4) + 4)) 4) then (if (Int.tmod (wrap64 ((Int.tmod a1 4) + 4)) 4) < (t175.length : Int) then (if (rd t175 (Int.tmod (wrap64 ((Int.tmod a1 4) + 4)) 4)) = (-1) then (if t183 ≥ 0 then (if 0 ≤ (wrap64 ((t172.length : Int) - 1)) then (if (wrap64 ((t172.length : Int) - 1)) < (t172.length : Int) then (if 0 < (t172.length : Int) then (if t183 ≤ (wrap64 (((rd_T33 t172 (wrap64 ((t172.length : Int) - 1))).f1) - ((rd_T33 t172 0).f1))) then (some (decide ((t179.length : Int) ≤ (t172.length : Int)))) else (some false)) else (none)) else (none)) else (none)) else (some false)) else (if 0 ≤ (wrap64 ((t179.length : Int) - 1)) then (if (wrap64 ((t179.length : Int) - 1)) < (t179.length : Int) then (if (rd t175 (Int.tmod (wrap64 ((Int.tmod a1 4) + 4)) 4)) = (rd t179 (wrap64 ((t179.length : Int) - 1))) then (if t183 ≥ 0 then (if 0 ≤ (wrap64 ((t172.length : Int) - 1)) then (if (wrap64 ((t172.length : Int) - 1)) < (t172.length : Int) then (if 0 < (t172.length : Int) then (if t183 ≤ (wrap64 (((rd_T33 t172 (wrap64 ((t172.length : Int) - 1))).f1) - ((rd_T33 t172 0).f1))) then (some (decide ((t179.length : Int) ≤ (t172.length : Int)))) else (some false)) else (none)) else (none)) else (none)) else (some false)) else (some false)) else (none)) else (none))) else (none)) else (none)))) = some r := by rw [if_neg (show ¬ (false = true) by decide)] at H; exact H
          clear H
          have H := H1
          clear H1
          by_cases c22 : (t179.length : Int) = 0
          · rw [if_pos c22] at H
            have c22b0 : ((t179.length : Int) == 0) = true := beq_iff_eq.mpr c22
            have c22b1 : ((t179.length : Int) != 0) = false := bne_eq_false_iff_eq.mpr c22
            clear c22
            obtain ⟨ji23, hji23⟩ : ∃ j_ : Int, (Int.tmod (wrap64 ((Int.tmod a1 4) + 4)) 4) = j_ := ⟨_, rfl⟩
            replace H : (if 0 ≤ (ji23) then (if (ji23) < (t175.length : Int) then (if (rd t175 (ji23)) = (-1) then (if t183 = 0 then (some ((t179.length : Int) == 0)) else (some false)) else (some false)) else (none)) else (none)) = some r := by first | (rw [hji23] at H; exact H) | (simp only [hji23] at H ⊢; exact H)
            by_cases c24 : 0 ≤ (ji23)
            · rw [if_pos c24] at H
              have c24b0 : decide (0 ≤ (ji23)) = true := decide_eq_true c24
              clear c24
              by_cases c25 : (ji23) < (t175.length : Int)
              · rw [if_pos c25] at H
                have c25b0 : decide ((ji23) < (t175.length : Int)) = true := decide_eq_true c25
                clear c25
                by_cases c26 : (rd t175 (ji23)) = (-1)
                · rw [if_pos c26] at H
                  have c26b0 : ((rd t175 (ji23)) == (-1)) = true := beq_iff_eq.mpr c26
                  have c26b1 : ((rd t175 (ji23)) != (-1)) = false := bne_eq_false_iff_eq.mpr c26
                  clear c26
                  by_cases c27 : t183 = 0
                  · rw [if_pos c27] at H
                    have c27b0 : (t183 == 0) = true := beq_iff_eq.mpr c27
                    have c27b1 : (t183 != 0) = false := bne_eq_false_iff_eq.mpr c27
                    clear c27
                    obtain rfl := Option.some.inj H
                    obtain ⟨Ao28, co28, eo28⟩ := Kd.R_slice HO_7.out
                    subst eo28
                    obtain ⟨Ao29, co29, eo29⟩ := Kd.R_slice HO_5.out
                    subst eo29
                    have p187 : 0 ≤ ((ji23) : Int) := of_decide_eq_true (by first | (with_reducible assumption) | assumption)
                    have q187 : (ji23) < (t175.length : Int) := of_decide_eq_true (by first | (with_reducible assumption) | assumption)
                    obtain ⟨ad187, e187, hx187_0⟩ := Kd.at_int (Kd.R_reads' HO_5.out).2.2 (ji23) p187 q187
                    cases e187
                    replace p187 := eq_true p187
                    replace q187 := eq_true q187
                    go_wp2
                    repeat (go_quiet (fail); try go_wp2)
                    go_ret
                    exact ⟨by first | rfl | (simp [errW_none, errW_some] <;> rfl) | (simp only [← hji23]; first | rfl | (simp [errW_none, errW_some] <;> rfl)) | (simp [*, errW_none, errW_some] <;> rfl), by repeat (first | (with_reducible first | exact HB.out | apply below_alloc | apply pw_below_drewN | apply below_drew1) | exact HB.out)⟩
                  · rw [if_neg c27] at H
                    have c27b0 : (t183 == 0) = false := beq_eq_false_iff_ne.mpr c27
                    have c27b1 : (t183 != 0) = true := bne_iff_ne.mpr c27
                    obtain rfl := Option.some.inj H
                    obtain ⟨Ao30, co30, eo30⟩ := Kd.R_slice HO_7.out
                    subst eo30
                    obtain ⟨Ao31, co31, eo31⟩ := Kd.R_slice HO_5.out
                    subst eo31
                    have p187 : 0 ≤ ((ji23) : Int) := of_decide_eq_true (by first | (with_reducible assumption) | assumption)
                    have q187 : (ji23) < (t175.length : Int) := of_decide_eq_true (by first | (with_reducible assumption) | assumption)
                    obtain ⟨ad187, e187, hx187_0⟩ := Kd.at_int (Kd.R_reads' HO_5.out).2.2 (ji23) p187 q187
                    cases e187
                    replace p187 := eq_true p187
                    replace q187 := eq_true q187
                    go_wp2
                    repeat (go_quiet (fail); try go_wp2)
                    go_ret
                    exact ⟨by first | rfl | (simp [errW_none, errW_some] <;> rfl) | (simp only [← hji23]; first | rfl | (simp [errW_none, errW_some] <;> rfl)) | (simp [*, errW_none, errW_some] <;> rfl), by repeat (first | (with_reducible first | exact HB.out | apply below_alloc | apply pw_below_drewN | apply below_drew1) | exact HB.out)⟩
                · rw [if_neg c26] at H
                  have c26b0 : ((rd t175 (ji23)) == (-1)) = false := beq_eq_false_iff_ne.mpr c26
                  have c26b1 : ((rd t175 (ji23)) != (-1)) = true := bne_iff_ne.mpr c26
                  obtain rfl := Option.some.inj H
                  obtain ⟨Ao32, co32, eo32⟩ := Kd.R_slice HO_7.out
                  subst eo32
                  obtain ⟨Ao33, co33, eo33⟩ := Kd.R_slice HO_5.out
                  subst eo33
                  have p187 : 0 ≤ ((ji23) : Int) := of_decide_eq_true (by first | (with_reducible assumption) | assumption)
                  have q187 : (ji23) < (t175.length : Int) := of_decide_eq_true (by first | (with_reducible assumption) | assumption)
                  obtain ⟨ad187, e187, hx187_0⟩ := Kd.at_int (Kd.R_reads' HO_5.out).2.2 (ji23) p187 q187
                  cases e187
                  replace p187 := eq_true p187
                  replace q187 := eq_true q187
                  go_wp2
                  repeat (go_quiet (fail); try go_wp2)
                  go_ret
                  exact ⟨by first | rfl | (simp [errW_none, errW_some] <;> rfl) | (simp only [← hji23]; first | rfl | (simp [errW_none, errW_some] <;> rfl)) | (simp [*, errW_none, errW_some] <;> rfl), by repeat (first | (with_reducible first | exact HB.out | apply below_alloc | apply pw_below_drewN | apply below_drew1) | exact HB.out)⟩
              · rw [if_neg c25] at H
                exact absurd H (by simp)
            · rw [if_neg c24] at H
              exact absurd H (by simp)
          · rw [if_neg c22] at H
            have c22b0 : ((t179.length : Int) == 0) = false := beq_eq_false_iff_ne.mpr c22
            have c22b1 : ((t179.length : Int) != 0) = true := bne_iff_ne.mpr c22
            have c22b2 : ¬ (t179 = []) := fun h_ => c22 (by rw [h_]; rfl)
            by_cases c34 : (t172.length : Int) = 0
            · rw [if_pos c34] at H
              have c34b0 : ((t172.length : Int) == 0) = true := beq_iff_eq.mpr c34
              have c34b1 : ((t172.length : Int) != 0) = false := bne_eq_false_iff_eq.mpr c34
              clear c34
              obtain ⟨ji35, hji35⟩ : ∃ j_ : Int, (Int.tmod (wrap64 ((Int.tmod a1 4) + 4)) 4) = j_ := ⟨_, rfl⟩
              replace H : (if 0 ≤ (ji35) then (if (ji35) < (t175.length : Int) then (if (rd t175 (ji35)) = (-1) then (if t183 = 0 then (some ((t179.length : Int) == 0)) else (some false)) else (some false)) else (none)) else (none)) = some r := by first | (rw [hji35] at H; exact H) | (simp only [hji35] at H ⊢; exact H)
              by_cases c36 : 0 ≤ (ji35)
              · rw [if_pos c36] at H
                have c36b0 : decide (0 ≤ (ji35)) = true := decide_eq_true c36
                clear c36
                by_cases c37 : (ji35) < (t175.length : Int)
                · rw [if_pos c37] at H
                  have c37b0 : decide ((ji35) < (t175.length : Int)) = true := decide_eq_true c37
                  clear c37
                  by_cases c38 : (rd t175 (ji35)) = (-1)
                  · rw [if_pos c38] at H
                    have c38b0 : ((rd t175 (ji35)) == (-1)) = true := beq_iff_eq.mpr c38
                    have c38b1 : ((rd t175 (ji35)) != (-1)) = false := bne_eq_false_iff_eq.mpr c38
                    clear c38
                    by_cases c39 : t183 = 0
                    · rw [if_pos c39] at H
                      have c39b0 : (t183 == 0) = true := beq_iff_eq.mpr c39
                      have c39b1 : (t183 != 0) = false := bne_eq_false_iff_eq.mpr c39
                      clear c39
                      obtain rfl := Option.some.inj H
                      obtain ⟨Ao40, co40, eo40⟩ := Kd.R_slice HO_7.out
                      subst eo40
                      obtain ⟨Ao41, co41, eo41⟩ := Kd.R_slice HO_5.out
                      subst eo41
                      have p188 : 0 ≤ ((ji35) : Int) := of_decide_eq_true (by first | (with_reducible assumption) | assumption)
                      have q188 : (ji35) < (t175.length : Int) := of_decide_eq_true (by first | (with_reducible assumption) | assumption)
                      obtain ⟨ad188, e188, hx188_0⟩ := Kd.at_int (Kd.R_reads' HO_5.out).2.2 (ji35) p188 q188
                      cases e188
                      replace p188 := eq_true p188
                      replace q188 := eq_true q188
                      go_wp2
                      repeat (go_quiet (fail); try go_wp2)
                      go_ret
                      exact ⟨by first | rfl | (simp [errW_none, errW_some] <;> rfl) | (simp only [← hji35]; first | rfl | (simp [errW_none, errW_some] <;> rfl)) | (simp [*, errW_none, errW_some] <;> rfl), by repeat (first | (with_reducible first | exact HB.out | apply below_alloc | apply pw_below_drewN | apply below_drew1) | exact HB.out)⟩
                    · rw [if_neg c39] at H
                      have c39b0 : (t183 == 0) = false := beq_eq_false_iff_ne.mpr c39
                      have c39b1 : (t183 != 0) = true := bne_iff_ne.mpr c39
                      obtain rfl := Option.some.inj H
                      obtain ⟨Ao42, co42, eo42⟩ := Kd.R_slice HO_7.out
                      subst eo42
                      obtain ⟨Ao43, co43, eo43⟩ := Kd.R_slice HO_5.out
                      subst eo43
                      have p188 : 0 ≤ ((ji35) : Int) := of_decide_eq_true (by first | (with_reducible assumption) | assumption)
                      have q188 : (ji35) < (t175.length : Int) := of_decide_eq_true (by first | (with_reducible assumption) | assumption)
                      obtain ⟨ad188, e188, hx188_0⟩ := Kd.at_int (Kd.R_reads' HO_5.out).2.2 (ji35) p188 q188
                      cases e188
                      replace p188 := eq_true p188
                      replace q188 := eq_true q188
                      go_wp2
                      repeat (go_quiet (fail); try go_wp2)
                      go_ret
                      exact ⟨by first | rfl | (simp [errW_none, errW_some] <;> rfl) | (simp only [← hji35]; first | rfl | (simp [errW_none, errW_some] <;> rfl)) | (simp [*, errW_none, errW_some] <;> rfl), by repeat (first | (with_reducible first | exact HB.out | apply below_alloc | apply pw_below_drewN | apply below_drew1) | exact HB.out)⟩
                  · rw [if_neg c38] at H
                    have c38b0 : ((rd t175 (ji35)) == (-1)) = false := beq_eq_false_iff_ne.mpr c38
                    have c38b1 : ((rd t175 (ji35)) != (-1)) = true := bne_iff_ne.mpr c38
                    obtain rfl := Option.some.inj H
                    obtain ⟨Ao44, co44, eo44⟩ := Kd.R_slice HO_7.out
                    subst eo44
                    obtain ⟨Ao45, co45, eo45⟩ := Kd.R_slice HO_5.out
                    subst eo45
                    have p188 : 0 ≤ ((ji35) : Int) := of_decide_eq_true (by first | (with_reducible assumption) | assumption)
                    have q188 : (ji35) < (t175.length : Int) := of_decide_eq_true (by first | (with_reducible assumption) | assumption)
                    obtain ⟨ad188, e188, hx188_0⟩ := Kd.at_int (Kd.R_reads' HO_5.out).2.2 (ji35) p188 q188
                    cases e188
                    replace p188 := eq_true p188
                    replace q188 := eq_true q188
                    go_wp2
                    repeat (go_quiet (fail); try go_wp2)
                    go_ret
                    exact ⟨by first | rfl | (simp [errW_none, errW_some] <;> rfl) | (simp only [← hji35]; first | rfl | (simp [errW_none, errW_some] <;> rfl)) | (simp [*, errW_none, errW_some] <;> rfl), by repeat (first | (with_reducible first | exact HB.out | apply below_alloc | apply pw_below_drewN | apply below_drew1) | exact HB.out)⟩
                · rw [if_neg c37] at H
                  exact absurd H (by simp)
              · rw [if_neg c36] at H
                exact absurd H (by simp)
            · rw [if_neg c34] at H
              have c34b0 : ((t172.length : Int) == 0) = false := beq_eq_false_iff_ne.mpr c34
              have c34b1 : ((t172.length : Int) != 0) = true := bne_iff_ne.mpr c34
              have c34b2 : ¬ (t172 = []) := fun h_ => c34 (by rw [h_]; rfl)
              obtain ⟨ji46, hji46⟩ : ∃ j_ : Int, (Int.tmod (wrap64 ((Int.tmod a1 4) + 4)) 4) = j_ := ⟨_, rfl⟩
              replace H : (if 0 ≤ (ji46) then (if (ji46) < (t175.length : Int) then (if (rd t175 (ji46)) = (-1) then (if t183 ≥ 0 then (if 0 ≤ (wrap64 ((t172.length : Int) - 1)) then (if (wrap64 ((t172.length : Int) - 1)) < (t172.length : Int) then (if 0 < (t172.length : Int) then (if t183 ≤ (wrap64 (((rd_T33 t172 (wrap64 ((t172.length : Int) - 1))).f1) - ((rd_T33 t172 0).f1))) then (some (decide ((t179.length : Int) ≤ (t172.length : Int)))) else (some false)) else (none)) else (none)) else (none)) else (some false)) else (if 0 ≤ (wrap64 ((t179.length : Int) - 1)) then (if (wrap64 ((t179.length : Int) - 1)) < (t179.length : Int) then (if (rd t175 (ji46)) = (rd t179 (wrap64 ((t179.length : Int) - 1))) then (if t183 ≥ 0 then (if 0 ≤ (wrap64 ((t172.length : Int) - 1)) then (if (wrap64 ((t172.length : Int) - 1)) < (t172.length : Int) then (if 0 < (t172.length : Int) then (if t183 ≤ (wrap64 (((rd_T33 t172 (wrap64 ((t172.length : Int) - 1))).f1) - ((rd_T33 t172 0).f1))) then (some (decide ((t179.length : Int) ≤ (t172.length : Int)))) else (some false)) else (none)) else (none)) else (none)) else (some false)) else (some false)) else (none)) else (none))) else (none)) else (none)) = some r := by first | (rw [hji46] at H; exact H) | (simp only [hji46] at H ⊢; exact H)
              by_cases c47 : 0 ≤ (ji46)
              · rw [if_pos c47] at H
                have c47b0 : decide (0 ≤ (ji46)) = true := decide_eq_true c47
                clear c47
                by_cases c48 : (ji46) < (t175.length : Int)
                · rw [if_pos c48] at H
                  have c48b0 : decide ((ji46) < (t175.length : Int)) = true := decide_eq_true c48
                  clear c48
                  by_cases c49 : (rd t175 (ji46)) = (-1)
                  · rw [if_pos c49] at H
                    have c49b0 : ((rd t175 (ji46)) == (-1)) = true := beq_iff_eq.mpr c49
                    have c49b1 : ((rd t175 (ji46)) != (-1)) = false := bne_eq_false_iff_eq.mpr c49
                    clear c49
                    by_cases c50 : t183 ≥ 0
                    · rw [if_pos c50] at H
                      have c50b0 : decide (0 ≤ t183) = true := decide_eq_true c50
                      clear c50
                      obtain ⟨ji51, hji51⟩ : ∃ j_ : Int, (wrap64 ((t172.length : Int) - 1)) = j_ := ⟨_, rfl⟩
                      replace H : (if 0 ≤ (ji51) then (if (ji51) < (t172.length : Int) then (if 0 < (t172.length : Int) then (if t183 ≤ (wrap64 (((rd_T33 t172 (ji51)).f1) - ((rd_T33 t172 0).f1))) then (some (decide ((t179.length : Int) ≤ (t172.length : Int)))) else (some false)) else (none)) else (none)) else (none)) = some r := by first | (rw [hji51] at H; exact H) | (simp only [hji51] at H ⊢; exact H)
                      have hji51w : (IntKind.i64.wrap ((t172.length : Int) - 1)) = ji51 := (i64_w _).trans hji51
                      by_cases c52 : 0 ≤ (ji51)
                      · rw [if_pos c52] at H
                        have c52b0 : decide (0 ≤ (ji51)) = true := decide_eq_true c52
                        clear c52
                        by_cases c53 : (ji51) < (t172.length : Int)
                        · rw [if_pos c53] at H
                          have c53b0 : decide ((ji51) < (t172.length : Int)) = true := decide_eq_true c53
                          clear c53
                          by_cases c54 : 0 < (t172.length : Int)
                          · rw [if_pos c54] at H
                            have c54b0 : decide (0 < (t172.length : Int)) = true := decide_eq_true c54
                            have c54b1 : decide (0 < t172.length) = true := decide_eq_true (by omega)
                            clear c54
                            by_cases c55 : t183 ≤ (wrap64 (((rd_T33 t172 (ji51)).f1) - ((rd_T33 t172 0).f1)))
                            · rw [if_pos c55] at H
                              have c55b0 : decide (t183 ≤ (wrap64 (((rd_T33 t172 (ji51)).f1) - ((rd_T33 t172 0).f1)))) = true := decide_eq_true c55
                              clear c55
                              obtain rfl := Option.some.inj H
                              obtain ⟨Ao56, co56, eo56⟩ := Kd.R_slice HO_7.out
                              subst eo56
                              obtain ⟨Ao57, co57, eo57⟩ := Kd.R_slice HO_5.out
                              subst eo57
                              have p189 : 0 ≤ ((ji46) : Int) := of_decide_eq_true (by first | (with_reducible assumption) | assumption)
                              have q189 : (ji46) < (t175.length : Int) := of_decide_eq_true (by first | (with_reducible assumption) | assumption)
                              obtain ⟨ad189, e189, hx189_0⟩ := Kd.at_int (Kd.R_reads' HO_5.out).2.2 (ji46) p189 q189
                              cases e189
                              replace p189 := eq_true p189
                              replace q189 := eq_true q189
                              have p190 : 0 ≤ ((ji51) : Int) := of_decide_eq_true (by first | (with_reducible assumption) | assumption)
                              have q190 : (ji51) < (t172.length : Int) := of_decide_eq_true (by first | (with_reducible assumption) | assumption)
                              obtain ⟨ad190, e190, hx190_0, hx190_1, hx190_2, hx190_3, hx190_4⟩ := at_T33 (Kd.R_reads' HO_0.out).2.2 (ji51) p190 q190
                              cases e190
                              replace p190 := eq_true p190
                              replace q190 := eq_true q190
                              have p191 : 0 ≤ (0 : Int) := (by omega)
                              have q191 : 0 < (t172.length : Int) := of_decide_eq_true (by first | (with_reducible assumption) | assumption)
                              obtain ⟨ad191, e191, hx191_0, hx191_1, hx191_2, hx191_3, hx191_4⟩ := at_T33 (Kd.R_reads' HO_0.out).2.2 0 p191 q191
                              obtain rfl : ad190 = ad191 := (by injection e191)
                              have qi191 : (0 < t172.length) = True := eq_true (by omega)
                              (try rw [show ((0 : Int)).toNat = 0 from rfl] at hx191_0)
                              (try rw [show 0 * 5 = 0 from rfl] at hx191_0)
                              (try rw [Addr.add_zero'] at hx191_0)
                              (try rw [show ((0 : Int)).toNat = 0 from rfl] at hx191_1)
                              (try rw [show 0 * 5 = 0 from rfl] at hx191_1)
                              (try rw [Addr.add_zero'] at hx191_1)
                              (try rw [show ((0 : Int)).toNat = 0 from rfl] at hx191_2)
                              (try rw [show 0 * 5 = 0 from rfl] at hx191_2)
                              (try rw [Addr.add_zero'] at hx191_2)
                              (try rw [show ((0 : Int)).toNat = 0 from rfl] at hx191_3)
                              (try rw [show 0 * 5 = 0 from rfl] at hx191_3)
                              (try rw [Addr.add_zero'] at hx191_3)
                              (try rw [show ((0 : Int)).toNat = 0 from rfl] at hx191_4)
                              (try rw [show 0 * 5 = 0 from rfl] at hx191_4)
                              (try rw [Addr.add_zero'] at hx191_4)
                              replace p191 := eq_true p191
                              replace q191 := eq_true q191
                              go_wp2
                              repeat (go_quiet (fail); try go_wp2)
                              go_ret
                              exact ⟨by first | rfl | (simp [errW_none, errW_some] <;> rfl) | (simp only [← hji46, ← hji51]; first | rfl | (simp [errW_none, errW_some] <;> rfl)) | (simp [*, errW_none, errW_some] <;> rfl), by repeat (first | (with_reducible first | exact HB.out | apply below_alloc | apply pw_below_drewN | apply below_drew1) | exact HB.out)⟩
                            · rw [if_neg c55] at H
                              have c55b0 : decide (t183 ≤ (wrap64 (((rd_T33 t172 (ji51)).f1) - ((rd_T33 t172 0).f1)))) = false := decide_eq_false c55
                              clear c55
                              obtain rfl := Option.some.inj H
                              obtain ⟨Ao58, co58, eo58⟩ := Kd.R_slice HO_7.out
                              subst eo58
                              obtain ⟨Ao59, co59, eo59⟩ := Kd.R_slice HO_5.out
                              subst eo59
                              have p189 : 0 ≤ ((ji46) : Int) := of_decide_eq_true (by first | (with_reducible assumption) | assumption)
                              have q189 : (ji46) < (t175.length : Int) := of_decide_eq_true (by first | (with_reducible assumption) | assumption)
                              obtain ⟨ad189, e189, hx189_0⟩ := Kd.at_int (Kd.R_reads' HO_5.out).2.2 (ji46) p189 q189
                              cases e189
                              replace p189 := eq_true p189
                              replace q189 := eq_true q189
                              have p190 : 0 ≤ ((ji51) : Int) := of_decide_eq_true (by first | (with_reducible assumption) | assumption)
                              have q190 : (ji51) < (t172.length : Int) := of_decide_eq_true (by first | (with_reducible assumption) | assumption)
                              obtain ⟨ad190, e190, hx190_0, hx190_1, hx190_2, hx190_3, hx190_4⟩ := at_T33 (Kd.R_reads' HO_0.out).2.2 (ji51) p190 q190
                              cases e190
                              replace p190 := eq_true p190
                              replace q190 := eq_true q190
                              have p191 : 0 ≤ (0 : Int) := (by omega)
                              have q191 : 0 < (t172.length : Int) := of_decide_eq_true (by first | (with_reducible assumption) | assumption)
                              obtain ⟨ad191, e191, hx191_0, hx191_1, hx191_2, hx191_3, hx191_4⟩ := at_T33 (Kd.R_reads' HO_0.out).2.2 0 p191 q191
                              obtain rfl : ad190 = ad191 := (by injection e191)
                              have qi191 : (0 < t172.length) = True := eq_true (by omega)
                              (try rw [show ((0 : Int)).toNat = 0 from rfl] at hx191_0)
                              (try rw [show 0 * 5 = 0 from rfl] at hx191_0)
                              (try rw [Addr.add_zero'] at hx191_0)
                              (try rw [show ((0 : Int)).toNat = 0 from rfl] at hx191_1)
                              (try rw [show 0 * 5 = 0 from rfl] at hx191_1)
                              (try rw [Addr.add_zero'] at hx191_1)
                              (try rw [show ((0 : Int)).toNat = 0 from rfl] at hx191_2)
                              (try rw [show 0 * 5 = 0 from rfl] at hx191_2)
                              (try rw [Addr.add_zero'] at hx191_2)
                              (try rw [show ((0 : Int)).toNat = 0 from rfl] at hx191_3)
                              (try rw [show 0 * 5 = 0 from rfl] at hx191_3)
                              (try rw [Addr.add_zero'] at hx191_3)
                              (try rw [show ((0 : Int)).toNat = 0 from rfl] at hx191_4)
                              (try rw [show 0 * 5 = 0 from rfl] at hx191_4)
                              (try rw [Addr.add_zero'] at hx191_4)
                              replace p191 := eq_true p191
                              replace q191 := eq_true q191
                              go_wp2
                              repeat (go_quiet (fail); try go_wp2)
                              go_ret
                              exact ⟨by first | rfl | (simp [errW_none, errW_some] <;> rfl) | (simp only [← hji46, ← hji51]; first | rfl | (simp [errW_none, errW_some] <;> rfl)) | (simp [*, errW_none, errW_some] <;> rfl), by repeat (first | (with_reducible first | exact HB.out | apply below_alloc | apply pw_below_drewN | apply below_drew1) | exact HB.out)⟩
                          · rw [if_neg c54] at H
                            exact absurd H (by simp)
                        · rw [if_neg c53] at H
                          exact absurd H (by simp)
                      · rw [if_neg c52] at H
                        exact absurd H (by simp)
                    · rw [if_neg c50] at H
                      have c50b0 : decide (0 ≤ t183) = false := decide_eq_false c50
                      clear c50
                      obtain rfl := Option.some.inj H
                      obtain ⟨Ao60, co60, eo60⟩ := Kd.R_slice HO_7.out
                      subst eo60
                      obtain ⟨Ao61, co61, eo61⟩ := Kd.R_slice HO_5.out
                      subst eo61
                      have p189 : 0 ≤ ((ji46) : Int) := of_decide_eq_true (by first | (with_reducible assumption) | assumption)
                      have q189 : (ji46) < (t175.length : Int) := of_decide_eq_true (by first | (with_reducible assumption) | assumption)
                      obtain ⟨ad189, e189, hx189_0⟩ := Kd.at_int (Kd.R_reads' HO_5.out).2.2 (ji46) p189 q189
                      cases e189
                      replace p189 := eq_true p189
                      replace q189 := eq_true q189
                      go_wp2
                      repeat (go_quiet (fail); try go_wp2)
                      go_ret
                      exact ⟨by first | rfl | (simp [errW_none, errW_some] <;> rfl) | (simp only [← hji46]; first | rfl | (simp [errW_none, errW_some] <;> rfl)) | (simp [*, errW_none, errW_some] <;> rfl), by repeat (first | (with_reducible first | exact HB.out | apply below_alloc | apply pw_below_drewN | apply below_drew1) | exact HB.out)⟩
                  · rw [if_neg c49] at H
                    have c49b0 : ((rd t175 (ji46)) == (-1)) = false := beq_eq_false_iff_ne.mpr c49
                    have c49b1 : ((rd t175 (ji46)) != (-1)) = true := bne_iff_ne.mpr c49
                    obtain ⟨ji62, hji62⟩ : ∃ j_ : Int, (wrap64 ((t179.length : Int) - 1)) = j_ := ⟨_, rfl⟩
                    replace H : (if 0 ≤ (ji62) then (if (ji62) < (t179.length : Int) then (if (rd t175 (ji46)) = (rd t179 (ji62)) then (if t183 ≥ 0 then (if 0 ≤ (wrap64 ((t172.length : Int) - 1)) then (if (wrap64 ((t172.length : Int) - 1)) < (t172.length : Int) then (if 0 < (t172.length : Int) then (if t183 ≤ (wrap64 (((rd_T33 t172 (wrap64 ((t172.length : Int) - 1))).f1) - ((rd_T33 t172 0).f1))) then (some (decide ((t179.length : Int) ≤ (t172.length : Int)))) else (some false)) else (none)) else (none)) else (none)) else (some false)) else (some false)) else (none)) else (none)) = some r := by first | (rw [hji62] at H; exact H) | (simp only [hji62] at H ⊢; exact H)
                    have hji62w : (IntKind.i64.wrap ((t179.length : Int) - 1)) = ji62 := (i64_w _).trans hji62
                    by_cases c63 : 0 ≤ (ji62)
                    · rw [if_pos c63] at H
                      have c63b0 : decide (0 ≤ (ji62)) = true := decide_eq_true c63
                      clear c63
                      by_cases c64 : (ji62) < (t179.length : Int)
                      · rw [if_pos c64] at H
                        have c64b0 : decide ((ji62) < (t179.length : Int)) = true := decide_eq_true c64
                        clear c64
                        by_cases c65 : (rd t175 (ji46)) = (rd t179 (ji62))
                        · rw [if_pos c65] at H
                          have c65b0 : ((rd t175 (ji46)) == (rd t179 (ji62))) = true := beq_iff_eq.mpr c65
                          have c65b1 : ((rd t175 (ji46)) != (rd t179 (ji62))) = false := bne_eq_false_iff_eq.mpr c65
                          clear c65
                          by_cases c66 : t183 ≥ 0
                          · rw [if_pos c66] at H
                            have c66b0 : decide (0 ≤ t183) = true := decide_eq_true c66
                            clear c66
                            obtain ⟨ji67, hji67⟩ : ∃ j_ : Int, (wrap64 ((t172.length : Int) - 1)) = j_ := ⟨_, rfl⟩
                            replace H : (if 0 ≤ (ji67) then (if (ji67) < (t172.length : Int) then (if 0 < (t172.length : Int) then (if t183 ≤ (wrap64 (((rd_T33 t172 (ji67)).f1) - ((rd_T33 t172 0).f1))) then (some (decide ((t179.length : Int) ≤ (t172.length : Int)))) else (some false)) else (none)) else (none)) else (none)) = some r := by first | (rw [hji67] at H; exact H) | (simp only [hji67] at H ⊢; exact H)
                            have hji67w : (IntKind.i64.wrap ((t172.length : Int) - 1)) = ji67 := (i64_w _).trans hji67
                            by_cases c68 : 0 ≤ (ji67)
                            · rw [if_pos c68] at H
                              have c68b0 : decide (0 ≤ (ji67)) = true := decide_eq_true c68
                              clear c68
                              by_cases c69 : (ji67) < (t172.length : Int)
                              · rw [if_pos c69] at H
                                have c69b0 : decide ((ji67) < (t172.length : Int)) = true := decide_eq_true c69
                                clear c69
                                by_cases c70 : 0 < (t172.length : Int)
                                · rw [if_pos c70] at H
                                  have c70b0 : decide (0 < (t172.length : Int)) = true := decide_eq_true c70
                                  have c70b1 : decide (0 < t172.length) = true := decide_eq_true (by omega)
                                  clear c70
                                  by_cases c71 : t183 ≤ (wrap64 (((rd_T33 t172 (ji67)).f1) - ((rd_T33 t172 0).f1)))
                                  · rw [if_pos c71] at H
                                    have c71b0 : decide (t183 ≤ (wrap64 (((rd_T33 t172 (ji67)).f1) - ((rd_T33 t172 0).f1)))) = true := decide_eq_true c71
                                    clear c71
                                    obtain rfl := Option.some.inj H
                                    obtain ⟨Ao72, co72, eo72⟩ := Kd.R_slice HO_7.out
                                    subst eo72
                                    obtain ⟨Ao73, co73, eo73⟩ := Kd.R_slice HO_5.out
                                    subst eo73
                                    have p189 : 0 ≤ ((ji46) : Int) := of_decide_eq_true (by first | (with_reducible assumption) | assumption)
                                    have q189 : (ji46) < (t175.length : Int) := of_decide_eq_true (by first | (with_reducible assumption) | assumption)
                                    obtain ⟨ad189, e189, hx189_0⟩ := Kd.at_int (Kd.R_reads' HO_5.out).2.2 (ji46) p189 q189
                                    cases e189
                                    replace p189 := eq_true p189
                                    replace q189 := eq_true q189
                                    have p192 : 0 ≤ ((ji62) : Int) := of_decide_eq_true (by first | (with_reducible assumption) | assumption)
                                    have q192 : (ji62) < (t179.length : Int) := of_decide_eq_true (by first | (with_reducible assumption) | assumption)
                                    obtain ⟨ad192, e192, hx192_0⟩ := Kd.at_int (Kd.R_reads' HO_7.out).2.2 (ji62) p192 q192
                                    cases e192
                                    replace p192 := eq_true p192
                                    replace q192 := eq_true q192
                                    have p193 : 0 ≤ ((ji67) : Int) := of_decide_eq_true (by first | (with_reducible assumption) | assumption)
                                    have q193 : (ji67) < (t172.length : Int) := of_decide_eq_true (by first | (with_reducible assumption) | assumption)
                                    obtain ⟨ad193, e193, hx193_0, hx193_1, hx193_2, hx193_3, hx193_4⟩ := at_T33 (Kd.R_reads' HO_0.out).2.2 (ji67) p193 q193
                                    cases e193
                                    replace p193 := eq_true p193
                                    replace q193 := eq_true q193
                                    have p194 : 0 ≤ (0 : Int) := (by omega)
                                    have q194 : 0 < (t172.length : Int) := of_decide_eq_true (by first | (with_reducible assumption) | assumption)
                                    obtain ⟨ad194, e194, hx194_0, hx194_1, hx194_2, hx194_3, hx194_4⟩ := at_T33 (Kd.R_reads' HO_0.out).2.2 0 p194 q194
                                    obtain rfl : ad193 = ad194 := (by injection e194)
                                    have qi194 : (0 < t172.length) = True := eq_true (by omega)
                                    (try rw [show ((0 : Int)).toNat = 0 from rfl] at hx194_0)
                                    (try rw [show 0 * 5 = 0 from rfl] at hx194_0)
                                    (try rw [Addr.add_zero'] at hx194_0)
                                    (try rw [show ((0 : Int)).toNat = 0 from rfl] at hx194_1)
                                    (try rw [show 0 * 5 = 0 from rfl] at hx194_1)
                                    (try rw [Addr.add_zero'] at hx194_1)
                                    (try rw [show ((0 : Int)).toNat = 0 from rfl] at hx194_2)
                                    (try rw [show 0 * 5 = 0 from rfl] at hx194_2)
                                    (try rw [Addr.add_zero'] at hx194_2)
                                    (try rw [show ((0 : Int)).toNat = 0 from rfl] at hx194_3)
                                    (try rw [show 0 * 5 = 0 from rfl] at hx194_3)
                                    (try rw [Addr.add_zero'] at hx194_3)
                                    (try rw [show ((0 : Int)).toNat = 0 from rfl] at hx194_4)
                                    (try rw [show 0 * 5 = 0 from rfl] at hx194_4)
                                    (try rw [Addr.add_zero'] at hx194_4)
                                    replace p194 := eq_true p194
                                    replace q194 := eq_true q194
                                    go_wp2
                                    repeat (go_quiet (fail); try go_wp2)
                                    go_ret
                                    exact ⟨by first | rfl | (simp [errW_none, errW_some] <;> rfl) | (simp only [← hji46, ← hji62, ← hji67]; first | rfl | (simp [errW_none, errW_some] <;> rfl)) | (simp [*, errW_none, errW_some] <;> rfl), by repeat (first | (with_reducible first | exact HB.out | apply below_alloc | apply pw_below_drewN | apply below_drew1) | exact HB.out)⟩
                                  · rw [if_neg c71] at H
                                    have c71b0 : decide (t183 ≤ (wrap64 (((rd_T33 t172 (ji67)).f1) - ((rd_T33 t172 0).f1)))) = false := decide_eq_false c71
                                    clear c71
                                    obtain rfl := Option.some.inj H
                                    obtain ⟨Ao74, co74, eo74⟩ := Kd.R_slice HO_7.out
                                    subst eo74
                                    obtain ⟨Ao75, co75, eo75⟩ := Kd.R_slice HO_5.out
                                    subst eo75
                                    have p189 : 0 ≤ ((ji46) : Int) := of_decide_eq_true (by first | (with_reducible assumption) | assumption)
                                    have q189 : (ji46) < (t175.length : Int) := of_decide_eq_true (by first | (with_reducible assumption) | assumption)
                                    obtain ⟨ad189, e189, hx189_0⟩ := Kd.at_int (Kd.R_reads' HO_5.out).2.2 (ji46) p189 q189
                                    cases e189
                                    replace p189 := eq_true p189
                                    replace q189 := eq_true q189
                                    have p192 : 0 ≤ ((ji62) : Int) := of_decide_eq_true (by first | (with_reducible assumption) | assumption)
                                    have q192 : (ji62) < (t179.length : Int) := of_decide_eq_true (by first | (with_reducible assumption) | assumption)
                                    obtain ⟨ad192, e192, hx192_0⟩ := Kd.at_int (Kd.R_reads' HO_7.out).2.2 (ji62) p192 q192
                                    cases e192
                                    replace p192 := eq_true p192
                                    replace q192 := eq_true q192
                                    have p193 : 0 ≤ ((ji67) : Int) := of_decide_eq_true (by first | (with_reducible assumption) | assumption)
                                    have q193 : (ji67) < (t172.length : Int) := of_decide_eq_true (by first | (with_reducible assumption) | assumption)
                                    obtain ⟨ad193, e193, hx193_0, hx193_1, hx193_2, hx193_3, hx193_4⟩ := at_T33 (Kd.R_reads' HO_0.out).2.2 (ji67) p193 q193
                                    cases e193
                                    replace p193 := eq_true p193
                                    replace q193 := eq_true q193
                                    have p194 : 0 ≤ (0 : Int) := (by omega)
                                    have q194 : 0 < (t172.length : Int) := of_decide_eq_true (by first | (with_reducible assumption) | assumption)
                                    obtain ⟨ad194, e194, hx194_0, hx194_1, hx194_2, hx194_3, hx194_4⟩ := at_T33 (Kd.R_reads' HO_0.out).2.2 0 p194 q194
                                    obtain rfl : ad193 = ad194 := (by injection e194)
                                    have qi194 : (0 < t172.length) = True := eq_true (by omega)
                                    (try rw [show ((0 : Int)).toNat = 0 from rfl] at hx194_0)
                                    (try rw [show 0 * 5 = 0 from rfl] at hx194_0)
                                    (try rw [Addr.add_zero'] at hx194_0)
                                    (try rw [show ((0 : Int)).toNat = 0 from rfl] at hx194_1)
                                    (try rw [show 0 * 5 = 0 from rfl] at hx194_1)
                                    (try rw [Addr.add_zero'] at hx194_1)
                                    (try rw [show ((0 : Int)).toNat = 0 from rfl] at hx194_2)
                                    (try rw [show 0 * 5 = 0 from rfl] at hx194_2)
                                    (try rw [Addr.add_zero'] at hx194_2)
                                    (try rw [show ((0 : Int)).toNat = 0 from rfl] at hx194_3)
                                    (try rw [show 0 * 5 = 0 from rfl] at hx194_3)
                                    (try rw [Addr.add_zero'] at hx194_3)
                                    (try rw [show ((0 : Int)).toNat = 0 from rfl] at hx194_4)
                                    (try rw [show 0 * 5 = 0 from rfl] at hx194_4)
                                    (try rw [Addr.add_zero'] at hx194_4)
                                    replace p194 := eq_true p194
                                    replace q194 := eq_true q194
                                    go_wp2
                                    repeat (go_quiet (fail); try go_wp2)
                                    go_ret
                                    exact ⟨by first | rfl | (simp [errW_none, errW_some] <;> rfl) | (simp only [← hji46, ← hji62, ← hji67]; first | rfl | (simp [errW_none, errW_some] <;> rfl)) | (simp [*, errW_none, errW_some] <;> rfl), by repeat (first | (with_reducible first | exact HB.out | apply below_alloc | apply pw_below_drewN | apply below_drew1) | exact HB.out)⟩
                                · rw [if_neg c70] at H
                                  exact absurd H (by simp)
                              · rw [if_neg c69] at H
                                exact absurd H (by simp)
                            · rw [if_neg c68] at H
                              exact absurd H (by simp)
                          · rw [if_neg c66] at H
                            have c66b0 : decide (0 ≤ t183) = false := decide_eq_false c66
                            clear c66
                            obtain rfl := Option.some.inj H
                            obtain ⟨Ao76, co76, eo76⟩ := Kd.R_slice HO_7.out
                            subst eo76
                            obtain ⟨Ao77, co77, eo77⟩ := Kd.R_slice HO_5.out
                            subst eo77
                            have p189 : 0 ≤ ((ji46) : Int) := of_decide_eq_true (by first | (with_reducible assumption) | assumption)
                            have q189 : (ji46) < (t175.length : Int) := of_decide_eq_true (by first | (with_reducible assumption) | assumption)
                            obtain ⟨ad189, e189, hx189_0⟩ := Kd.at_int (Kd.R_reads' HO_5.out).2.2 (ji46) p189 q189
                            cases e189
                            replace p189 := eq_true p189
                            replace q189 := eq_true q189
                            have p192 : 0 ≤ ((ji62) : Int) := of_decide_eq_true (by first | (with_reducible assumption) | assumption)
                            have q192 : (ji62) < (t179.length : Int) := of_decide_eq_true (by first | (with_reducible assumption) | assumption)
                            obtain ⟨ad192, e192, hx192_0⟩ := Kd.at_int (Kd.R_reads' HO_7.out).2.2 (ji62) p192 q192
                            cases e192
                            replace p192 := eq_true p192
                            replace q192 := eq_true q192
                            go_wp2
                            repeat (go_quiet (fail); try go_wp2)
                            go_ret
                            exact ⟨by first | rfl | (simp [errW_none, errW_some] <;> rfl) | (simp only [← hji46, ← hji62]; first | rfl | (simp [errW_none, errW_some] <;> rfl)) | (simp [*, errW_none, errW_some] <;> rfl), by repeat (first | (with_reducible first | exact HB.out | apply below_alloc | apply pw_below_drewN | apply below_drew1) | exact HB.out)⟩
                        · rw [if_neg c65] at H
                          have c65b0 : ((rd t175 (ji46)) == (rd t179 (ji62))) = false := beq_eq_false_iff_ne.mpr c65
                          have c65b1 : ((rd t175 (ji46)) != (rd t179 (ji62))) = true := bne_iff_ne.mpr c65
                          obtain rfl := Option.some.inj H
                          obtain ⟨Ao78, co78, eo78⟩ := Kd.R_slice HO_7.out
                          subst eo78
                          obtain ⟨Ao79, co79, eo79⟩ := Kd.R_slice HO_5.out
                          subst eo79
                          have p189 : 0 ≤ ((ji46) : Int) := of_decide_eq_true (by first | (with_reducible assumption) | assumption)
                          have q189 : (ji46) < (t175.length : Int) := of_decide_eq_true (by first | (with_reducible assumption) | assumption)
                          obtain ⟨ad189, e189, hx189_0⟩ := Kd.at_int (Kd.R_reads' HO_5.out).2.2 (ji46) p189 q189
                          cases e189
                          replace p189 := eq_true p189
                          replace q189 := eq_true q189
                          have p192 : 0 ≤ ((ji62) : Int) := of_decide_eq_true (by first | (with_reducible assumption) | assumption)
                          have q192 : (ji62) < (t179.length : Int) := of_decide_eq_true (by first | (with_reducible assumption) | assumption)
                          obtain ⟨ad192, e192, hx192_0⟩ := Kd.at_int (Kd.R_reads' HO_7.out).2.2 (ji62) p192 q192
                          cases e192
                          replace p192 := eq_true p192
                          replace q192 := eq_true q192
                          go_wp2
                          repeat (go_quiet (fail); try go_wp2)
                          go_ret
                          exact ⟨by first | rfl | (simp [errW_none, errW_some] <;> rfl) | (simp only [← hji46, ← hji62]; first | rfl | (simp [errW_none, errW_some] <;> rfl)) | (simp [*, errW_none, errW_some] <;> rfl), by repeat (first | (with_reducible first | exact HB.out | apply below_alloc | apply pw_below_drewN | apply below_drew1) | exact HB.out)⟩
                      · rw [if_neg c64] at H
                        exact absurd H (by simp)
                    · rw [if_neg c63] at H
                      exact absurd H (by simp)
                · rw [if_neg c48] at H
                  exact absurd H (by simp)
              · rw [if_neg c47] at H
                exact absurd H (by simp)
  · rw [if_neg c7] at H
    have c7b0 : (t176 == 0) = false := beq_eq_false_iff_ne.mpr c7
    have c7b1 : (t176 != 0) = true := bne_iff_ne.mpr c7
    replace H := Option.bind_eq_some_iff.mp H
    obtain ⟨t185, A800, H⟩ := H
    replace H : (if t185 = true then (if t176 = t180 then (if t176 = t184 then (if (t175.length : Int) = 0 then (if (t179.length : Int) = 0 then (some (t183 == 0)) else (some false)) else (some false)) else (some false)) else (some false)) else (some false)) = some r := H
    have A80 := Aside0.mk A800
    clear A800
    by_cases c81 : t185 = true
    · subst c81
      have H1 : (if t176 = t180 then (if t176 = t184 then (if (t175.length : Int) = 0 then (if (t179.length : Int) = 0 then (some (t183 == 0)) else (some false)) else (some false)) else (some false)) else (some false)) = some r := by rw [if_pos rfl] at H; exact H
      clear H
      have H := H1
      clear H1
      by_cases c82 : t176 = t180
      · rw [if_pos c82] at H
        have c82b0 : (t176 == t180) = true := beq_iff_eq.mpr c82
        have c82b1 : (t176 != t180) = false := bne_eq_false_iff_eq.mpr c82
        clear c82
        by_cases c83 : t176 = t184
        · rw [if_pos c83] at H
          have c83b0 : (t176 == t184) = true := beq_iff_eq.mpr c83
          have c83b1 : (t176 != t184) = false := bne_eq_false_iff_eq.mpr c83
          clear c83
          by_cases c84 : (t175.length : Int) = 0
          · rw [if_pos c84] at H
            have c84b0 : ((t175.length : Int) == 0) = true := beq_iff_eq.mpr c84
            have c84b1 : ((t175.length : Int) != 0) = false := bne_eq_false_iff_eq.mpr c84
            clear c84
            by_cases c85 : (t179.length : Int) = 0
            · rw [if_pos c85] at H
              have c85b0 : ((t179.length : Int) == 0) = true := beq_iff_eq.mpr c85
              have c85b1 : ((t179.length : Int) != 0) = false := bne_eq_false_iff_eq.mpr c85
              clear c85
              obtain rfl := Option.some.inj H
              go_enter Try.func5, Try.ntmps5
              go_wp2_with (first | (go_at_call 13; (with_reducible refine (deadboltlaw18_few.calls _ _ l0 t172 _ ?side1 ?side2 A3.out).mono ?_); (case side1 => repeat (first | exact HR0.out | (with_reducible refine Kd.C_alloc ?_ _) | (with_reducible refine Kd.C_drewN ?_ _) | (with_reducible refine Kd.C_drew ?_))); (case side2 => exact HC0.out); rintro e w86 ⟨v173, rfl, ho0, hb⟩; have n0_ := Aside0.mk (Kd.R_lower ho0 (below_size (by repeat (first | (with_reducible first | exact HB.out | apply below_alloc | apply pw_below_drewN | apply below_drew1) | exact HB.out)))); have n1_ := Aside0.mk (below_step (by repeat (first | (with_reducible first | exact HB.out | apply below_alloc | apply pw_below_drewN | apply below_drew1) | exact HB.out)) hb); clear HB; have HO174 := n0_; have HB := n1_; clear n0_ n1_; (try clear hb); (try clear hb2); (try clear hk); (try clear hi); (try clear ho0); obtain ⟨Ao87, co87, eo87⟩ := Kd.R_slice HO174.out; subst eo87) | (go_at_call 16; (with_reducible refine (judge_Held.calls _ _ t172 t175 t176 _ ?side1 ?side2 A4.out).mono ?_); (case side1 => repeat (first | exact (Kd.R_reads' HO174.out).2.2 | (with_reducible refine Kd.C_alloc ?_ _) | (with_reducible refine Kd.C_drewN ?_ _) | (with_reducible refine Kd.C_drew ?_))); (case side2 => exact (Kd.R_reads' HO174.out).2.1); rintro e w88 ⟨v177, rfl, ho0, hb⟩; have n0_ := Aside0.mk (Kd.R_below (by (with_reducible repeat (first | apply Kd.R_alloc | apply Kd.R_drewN | apply Kd.R_drew)); exact HO174.out) hb); have n1_ := Aside0.mk (Kd.R_lower ho0 (below_size (by repeat (first | (with_reducible first | exact HB.out | apply below_alloc | apply pw_below_drewN | apply below_drew1) | exact HB.out)))); have n2_ := Aside0.mk (below_step (by repeat (first | (with_reducible first | exact HB.out | apply below_alloc | apply pw_below_drewN | apply below_drew1) | exact HB.out)) hb); clear HO174; clear HB; have HO174 := n0_; have HO178 := n1_; have HB := n2_; clear n0_ n1_ n2_; (try clear hb); (try clear hb2); (try clear hk); (try clear hi); (try clear ho0)) | (go_at_call 17; (with_reducible refine (judge_Order.calls _ _ t172 (Int.tmod (wrap64 ((Int.tmod a1 4) + 4)) 4) t179 t180 _ ?side1 ?side2 A5.out).mono ?_); (case side1 => repeat (first | exact (Kd.R_reads' HO174.out).2.2 | (with_reducible refine Kd.C_alloc ?_ _) | (with_reducible refine Kd.C_drewN ?_ _) | (with_reducible refine Kd.C_drew ?_))); (case side2 => exact (Kd.R_reads' HO174.out).2.1); rintro e w89 ⟨v181, rfl, ho0, hb⟩; have n0_ := Aside0.mk (Kd.R_below (by (with_reducible repeat (first | apply Kd.R_alloc | apply Kd.R_drewN | apply Kd.R_drew)); exact HO174.out) hb); have n1_ := Aside0.mk (Kd.R_elder' (by (with_reducible repeat (first | apply Kd.R_alloc | apply Kd.R_drewN | apply Kd.R_drew)); exact HO178.out) (Kd.R_base ho0) hb); have n2_ := Aside0.mk (Kd.R_lower (Kd.R_new' ho0 (Kd.R_lt (by (with_reducible repeat (first | apply Kd.R_alloc | apply Kd.R_drewN | apply Kd.R_drew)); exact HO178.out))) (below_size (by repeat (first | (with_reducible first | exact HB.out | apply below_alloc | apply pw_below_drewN | apply below_drew1) | exact HB.out)))); have n3_ := Aside0.mk (below_step (by repeat (first | (with_reducible first | exact HB.out | apply below_alloc | apply pw_below_drewN | apply below_drew1) | exact HB.out)) hb); clear HO174; clear HO178; clear HB; have HO174 := n0_; have HO178 := n1_; have HO182 := n2_; have HB := n3_; clear n0_ n1_ n2_ n3_; (try clear hb); (try clear hb2); (try clear hk); (try clear hi); (try clear ho0)) | (go_at_call 18; (with_reducible refine (judge_Long.calls _ _ t172 (Int.tmod (wrap64 ((Int.tmod a1 4) + 4)) 4) t183 t184 _ ?side1 ?side2 A6.out).mono ?_); (case side1 => repeat (first | exact (Kd.R_reads' HO174.out).2.2 | (with_reducible refine Kd.C_alloc ?_ _) | (with_reducible refine Kd.C_drewN ?_ _) | (with_reducible refine Kd.C_drew ?_))); (case side2 => exact (Kd.R_reads' HO174.out).2.1); rintro e w90 ⟨rfl, hb⟩; have n0_ := Aside0.mk (Kd.R_below (by (with_reducible repeat (first | apply Kd.R_alloc | apply Kd.R_drewN | apply Kd.R_drew)); exact HO174.out) hb); have n1_ := Aside0.mk (Kd.R_below (by (with_reducible repeat (first | apply Kd.R_alloc | apply Kd.R_drewN | apply Kd.R_drew)); exact HO178.out) hb); have n2_ := Aside0.mk (Kd.R_below (by (with_reducible repeat (first | apply Kd.R_alloc | apply Kd.R_drewN | apply Kd.R_drew)); exact HO182.out) hb); have n3_ := Aside0.mk (below_step (by repeat (first | (with_reducible first | exact HB.out | apply below_alloc | apply pw_below_drewN | apply below_drew1) | exact HB.out)) hb); clear HO174; clear HO178; clear HO182; clear HB; have HO174 := n0_; have HO178 := n1_; have HO182 := n2_; have HB := n3_; clear n0_ n1_ n2_ n3_; (try clear hb); (try clear hb2); (try clear hk); (try clear hi)) | (go_at_call 15; (with_reducible refine (deadboltlaw18_alive.calls  true _ A80.out).mono ?_); rintro e w91 ⟨rfl, hb⟩; have n0_ := Aside0.mk (Kd.R_below (by (with_reducible repeat (first | apply Kd.R_alloc | apply Kd.R_drewN | apply Kd.R_drew)); exact HO174.out) hb); have n1_ := Aside0.mk (Kd.R_below (by (with_reducible repeat (first | apply Kd.R_alloc | apply Kd.R_drewN | apply Kd.R_drew)); exact HO178.out) hb); have n2_ := Aside0.mk (Kd.R_below (by (with_reducible repeat (first | apply Kd.R_alloc | apply Kd.R_drewN | apply Kd.R_drew)); exact HO182.out) hb); have n3_ := Aside0.mk (below_step (by repeat (first | (with_reducible first | exact HB.out | apply below_alloc | apply pw_below_drewN | apply below_drew1) | exact HB.out)) hb); clear HO174; clear HO178; clear HO182; clear HB; have HO174 := n0_; have HO178 := n1_; have HO182 := n2_; have HB := n3_; clear n0_ n1_ n2_ n3_; (try clear hb); (try clear hb2); (try clear hk); (try clear hi); obtain ⟨Ao92, co92, eo92⟩ := Kd.R_slice HO178.out; subst eo92; obtain ⟨Ao93, co93, eo93⟩ := Kd.R_slice HO182.out; subst eo93))
              repeat (go_quiet (first | (go_at_call 13; (with_reducible refine (deadboltlaw18_few.calls _ _ l0 t172 _ ?side1 ?side2 A3.out).mono ?_); (case side1 => repeat (first | exact HR0.out | (with_reducible refine Kd.C_alloc ?_ _) | (with_reducible refine Kd.C_drewN ?_ _) | (with_reducible refine Kd.C_drew ?_))); (case side2 => exact HC0.out); rintro e w86 ⟨v173, rfl, ho0, hb⟩; have n0_ := Aside0.mk (Kd.R_lower ho0 (below_size (by repeat (first | (with_reducible first | exact HB.out | apply below_alloc | apply pw_below_drewN | apply below_drew1) | exact HB.out)))); have n1_ := Aside0.mk (below_step (by repeat (first | (with_reducible first | exact HB.out | apply below_alloc | apply pw_below_drewN | apply below_drew1) | exact HB.out)) hb); clear HB; have HO174 := n0_; have HB := n1_; clear n0_ n1_; (try clear hb); (try clear hb2); (try clear hk); (try clear hi); (try clear ho0); obtain ⟨Ao87, co87, eo87⟩ := Kd.R_slice HO174.out; subst eo87) | (go_at_call 16; (with_reducible refine (judge_Held.calls _ _ t172 t175 t176 _ ?side1 ?side2 A4.out).mono ?_); (case side1 => repeat (first | exact (Kd.R_reads' HO174.out).2.2 | (with_reducible refine Kd.C_alloc ?_ _) | (with_reducible refine Kd.C_drewN ?_ _) | (with_reducible refine Kd.C_drew ?_))); (case side2 => exact (Kd.R_reads' HO174.out).2.1); rintro e w88 ⟨v177, rfl, ho0, hb⟩; have n0_ := Aside0.mk (Kd.R_below (by (with_reducible repeat (first | apply Kd.R_alloc | apply Kd.R_drewN | apply Kd.R_drew)); exact HO174.out) hb); have n1_ := Aside0.mk (Kd.R_lower ho0 (below_size (by repeat (first | (with_reducible first | exact HB.out | apply below_alloc | apply pw_below_drewN | apply below_drew1) | exact HB.out)))); have n2_ := Aside0.mk (below_step (by repeat (first | (with_reducible first | exact HB.out | apply below_alloc | apply pw_below_drewN | apply below_drew1) | exact HB.out)) hb); clear HO174; clear HB; have HO174 := n0_; have HO178 := n1_; have HB := n2_; clear n0_ n1_ n2_; (try clear hb); (try clear hb2); (try clear hk); (try clear hi); (try clear ho0)) | (go_at_call 17; (with_reducible refine (judge_Order.calls _ _ t172 (Int.tmod (wrap64 ((Int.tmod a1 4) + 4)) 4) t179 t180 _ ?side1 ?side2 A5.out).mono ?_); (case side1 => repeat (first | exact (Kd.R_reads' HO174.out).2.2 | (with_reducible refine Kd.C_alloc ?_ _) | (with_reducible refine Kd.C_drewN ?_ _) | (with_reducible refine Kd.C_drew ?_))); (case side2 => exact (Kd.R_reads' HO174.out).2.1); rintro e w89 ⟨v181, rfl, ho0, hb⟩; have n0_ := Aside0.mk (Kd.R_below (by (with_reducible repeat (first | apply Kd.R_alloc | apply Kd.R_drewN | apply Kd.R_drew)); exact HO174.out) hb); have n1_ := Aside0.mk (Kd.R_elder' (by (with_reducible repeat (first | apply Kd.R_alloc | apply Kd.R_drewN | apply Kd.R_drew)); exact HO178.out) (Kd.R_base ho0) hb); have n2_ := Aside0.mk (Kd.R_lower (Kd.R_new' ho0 (Kd.R_lt (by (with_reducible repeat (first | apply Kd.R_alloc | apply Kd.R_drewN | apply Kd.R_drew)); exact HO178.out))) (below_size (by repeat (first | (with_reducible first | exact HB.out | apply below_alloc | apply pw_below_drewN | apply below_drew1) | exact HB.out)))); have n3_ := Aside0.mk (below_step (by repeat (first | (with_reducible first | exact HB.out | apply below_alloc | apply pw_below_drewN | apply below_drew1) | exact HB.out)) hb); clear HO174; clear HO178; clear HB; have HO174 := n0_; have HO178 := n1_; have HO182 := n2_; have HB := n3_; clear n0_ n1_ n2_ n3_; (try clear hb); (try clear hb2); (try clear hk); (try clear hi); (try clear ho0)) | (go_at_call 18; (with_reducible refine (judge_Long.calls _ _ t172 (Int.tmod (wrap64 ((Int.tmod a1 4) + 4)) 4) t183 t184 _ ?side1 ?side2 A6.out).mono ?_); (case side1 => repeat (first | exact (Kd.R_reads' HO174.out).2.2 | (with_reducible refine Kd.C_alloc ?_ _) | (with_reducible refine Kd.C_drewN ?_ _) | (with_reducible refine Kd.C_drew ?_))); (case side2 => exact (Kd.R_reads' HO174.out).2.1); rintro e w90 ⟨rfl, hb⟩; have n0_ := Aside0.mk (Kd.R_below (by (with_reducible repeat (first | apply Kd.R_alloc | apply Kd.R_drewN | apply Kd.R_drew)); exact HO174.out) hb); have n1_ := Aside0.mk (Kd.R_below (by (with_reducible repeat (first | apply Kd.R_alloc | apply Kd.R_drewN | apply Kd.R_drew)); exact HO178.out) hb); have n2_ := Aside0.mk (Kd.R_below (by (with_reducible repeat (first | apply Kd.R_alloc | apply Kd.R_drewN | apply Kd.R_drew)); exact HO182.out) hb); have n3_ := Aside0.mk (below_step (by repeat (first | (with_reducible first | exact HB.out | apply below_alloc | apply pw_below_drewN | apply below_drew1) | exact HB.out)) hb); clear HO174; clear HO178; clear HO182; clear HB; have HO174 := n0_; have HO178 := n1_; have HO182 := n2_; have HB := n3_; clear n0_ n1_ n2_ n3_; (try clear hb); (try clear hb2); (try clear hk); (try clear hi)) | (go_at_call 15; (with_reducible refine (deadboltlaw18_alive.calls  true _ A80.out).mono ?_); rintro e w91 ⟨rfl, hb⟩; have n0_ := Aside0.mk (Kd.R_below (by (with_reducible repeat (first | apply Kd.R_alloc | apply Kd.R_drewN | apply Kd.R_drew)); exact HO174.out) hb); have n1_ := Aside0.mk (Kd.R_below (by (with_reducible repeat (first | apply Kd.R_alloc | apply Kd.R_drewN | apply Kd.R_drew)); exact HO178.out) hb); have n2_ := Aside0.mk (Kd.R_below (by (with_reducible repeat (first | apply Kd.R_alloc | apply Kd.R_drewN | apply Kd.R_drew)); exact HO182.out) hb); have n3_ := Aside0.mk (below_step (by repeat (first | (with_reducible first | exact HB.out | apply below_alloc | apply pw_below_drewN | apply below_drew1) | exact HB.out)) hb); clear HO174; clear HO178; clear HO182; clear HB; have HO174 := n0_; have HO178 := n1_; have HO182 := n2_; have HB := n3_; clear n0_ n1_ n2_ n3_; (try clear hb); (try clear hb2); (try clear hk); (try clear hi); obtain ⟨Ao92, co92, eo92⟩ := Kd.R_slice HO178.out; subst eo92; obtain ⟨Ao93, co93, eo93⟩ := Kd.R_slice HO182.out; subst eo93)); try go_wp2_with (first | (go_at_call 13; (with_reducible refine (deadboltlaw18_few.calls _ _ l0 t172 _ ?side1 ?side2 A3.out).mono ?_); (case side1 => repeat (first | exact HR0.out | (with_reducible refine Kd.C_alloc ?_ _) | (with_reducible refine Kd.C_drewN ?_ _) | (with_reducible refine Kd.C_drew ?_))); (case side2 => exact HC0.out); rintro e w86 ⟨v173, rfl, ho0, hb⟩; have n0_ := Aside0.mk (Kd.R_lower ho0 (below_size (by repeat (first | (with_reducible first | exact HB.out | apply below_alloc | apply pw_below_drewN | apply below_drew1) | exact HB.out)))); have n1_ := Aside0.mk (below_step (by repeat (first | (with_reducible first | exact HB.out | apply below_alloc | apply pw_below_drewN | apply below_drew1) | exact HB.out)) hb); clear HB; have HO174 := n0_; have HB := n1_; clear n0_ n1_; (try clear hb); (try clear hb2); (try clear hk); (try clear hi); (try clear ho0); obtain ⟨Ao87, co87, eo87⟩ := Kd.R_slice HO174.out; subst eo87) | (go_at_call 16; (with_reducible refine (judge_Held.calls _ _ t172 t175 t176 _ ?side1 ?side2 A4.out).mono ?_); (case side1 => repeat (first | exact (Kd.R_reads' HO174.out).2.2 | (with_reducible refine Kd.C_alloc ?_ _) | (with_reducible refine Kd.C_drewN ?_ _) | (with_reducible refine Kd.C_drew ?_))); (case side2 => exact (Kd.R_reads' HO174.out).2.1); rintro e w88 ⟨v177, rfl, ho0, hb⟩; have n0_ := Aside0.mk (Kd.R_below (by (with_reducible repeat (first | apply Kd.R_alloc | apply Kd.R_drewN | apply Kd.R_drew)); exact HO174.out) hb); have n1_ := Aside0.mk (Kd.R_lower ho0 (below_size (by repeat (first | (with_reducible first | exact HB.out | apply below_alloc | apply pw_below_drewN | apply below_drew1) | exact HB.out)))); have n2_ := Aside0.mk (below_step (by repeat (first | (with_reducible first | exact HB.out | apply below_alloc | apply pw_below_drewN | apply below_drew1) | exact HB.out)) hb); clear HO174; clear HB; have HO174 := n0_; have HO178 := n1_; have HB := n2_; clear n0_ n1_ n2_; (try clear hb); (try clear hb2); (try clear hk); (try clear hi); (try clear ho0)) | (go_at_call 17; (with_reducible refine (judge_Order.calls _ _ t172 (Int.tmod (wrap64 ((Int.tmod a1 4) + 4)) 4) t179 t180 _ ?side1 ?side2 A5.out).mono ?_); (case side1 => repeat (first | exact (Kd.R_reads' HO174.out).2.2 | (with_reducible refine Kd.C_alloc ?_ _) | (with_reducible refine Kd.C_drewN ?_ _) | (with_reducible refine Kd.C_drew ?_))); (case side2 => exact (Kd.R_reads' HO174.out).2.1); rintro e w89 ⟨v181, rfl, ho0, hb⟩; have n0_ := Aside0.mk (Kd.R_below (by (with_reducible repeat (first | apply Kd.R_alloc | apply Kd.R_drewN | apply Kd.R_drew)); exact HO174.out) hb); have n1_ := Aside0.mk (Kd.R_elder' (by (with_reducible repeat (first | apply Kd.R_alloc | apply Kd.R_drewN | apply Kd.R_drew)); exact HO178.out) (Kd.R_base ho0) hb); have n2_ := Aside0.mk (Kd.R_lower (Kd.R_new' ho0 (Kd.R_lt (by (with_reducible repeat (first | apply Kd.R_alloc | apply Kd.R_drewN | apply Kd.R_drew)); exact HO178.out))) (below_size (by repeat (first | (with_reducible first | exact HB.out | apply below_alloc | apply pw_below_drewN | apply below_drew1) | exact HB.out)))); have n3_ := Aside0.mk (below_step (by repeat (first | (with_reducible first | exact HB.out | apply below_alloc | apply pw_below_drewN | apply below_drew1) | exact HB.out)) hb); clear HO174; clear HO178; clear HB; have HO174 := n0_; have HO178 := n1_; have HO182 := n2_; have HB := n3_; clear n0_ n1_ n2_ n3_; (try clear hb); (try clear hb2); (try clear hk); (try clear hi); (try clear ho0)) | (go_at_call 18; (with_reducible refine (judge_Long.calls _ _ t172 (Int.tmod (wrap64 ((Int.tmod a1 4) + 4)) 4) t183 t184 _ ?side1 ?side2 A6.out).mono ?_); (case side1 => repeat (first | exact (Kd.R_reads' HO174.out).2.2 | (with_reducible refine Kd.C_alloc ?_ _) | (with_reducible refine Kd.C_drewN ?_ _) | (with_reducible refine Kd.C_drew ?_))); (case side2 => exact (Kd.R_reads' HO174.out).2.1); rintro e w90 ⟨rfl, hb⟩; have n0_ := Aside0.mk (Kd.R_below (by (with_reducible repeat (first | apply Kd.R_alloc | apply Kd.R_drewN | apply Kd.R_drew)); exact HO174.out) hb); have n1_ := Aside0.mk (Kd.R_below (by (with_reducible repeat (first | apply Kd.R_alloc | apply Kd.R_drewN | apply Kd.R_drew)); exact HO178.out) hb); have n2_ := Aside0.mk (Kd.R_below (by (with_reducible repeat (first | apply Kd.R_alloc | apply Kd.R_drewN | apply Kd.R_drew)); exact HO182.out) hb); have n3_ := Aside0.mk (below_step (by repeat (first | (with_reducible first | exact HB.out | apply below_alloc | apply pw_below_drewN | apply below_drew1) | exact HB.out)) hb); clear HO174; clear HO178; clear HO182; clear HB; have HO174 := n0_; have HO178 := n1_; have HO182 := n2_; have HB := n3_; clear n0_ n1_ n2_ n3_; (try clear hb); (try clear hb2); (try clear hk); (try clear hi)) | (go_at_call 15; (with_reducible refine (deadboltlaw18_alive.calls  true _ A80.out).mono ?_); rintro e w91 ⟨rfl, hb⟩; have n0_ := Aside0.mk (Kd.R_below (by (with_reducible repeat (first | apply Kd.R_alloc | apply Kd.R_drewN | apply Kd.R_drew)); exact HO174.out) hb); have n1_ := Aside0.mk (Kd.R_below (by (with_reducible repeat (first | apply Kd.R_alloc | apply Kd.R_drewN | apply Kd.R_drew)); exact HO178.out) hb); have n2_ := Aside0.mk (Kd.R_below (by (with_reducible repeat (first | apply Kd.R_alloc | apply Kd.R_drewN | apply Kd.R_drew)); exact HO182.out) hb); have n3_ := Aside0.mk (below_step (by repeat (first | (with_reducible first | exact HB.out | apply below_alloc | apply pw_below_drewN | apply below_drew1) | exact HB.out)) hb); clear HO174; clear HO178; clear HO182; clear HB; have HO174 := n0_; have HO178 := n1_; have HO182 := n2_; have HB := n3_; clear n0_ n1_ n2_ n3_; (try clear hb); (try clear hb2); (try clear hk); (try clear hi); obtain ⟨Ao92, co92, eo92⟩ := Kd.R_slice HO178.out; subst eo92; obtain ⟨Ao93, co93, eo93⟩ := Kd.R_slice HO182.out; subst eo93)))
              go_ret
              exact ⟨by first | rfl | (simp [errW_none, errW_some] <;> rfl) | (simp [*, errW_none, errW_some] <;> rfl), by repeat (first | (with_reducible first | exact HB.out | apply below_alloc | apply pw_below_drewN | apply below_drew1) | exact HB.out)⟩
            · rw [if_neg c85] at H
              have c85b0 : ((t179.length : Int) == 0) = false := beq_eq_false_iff_ne.mpr c85
              have c85b1 : ((t179.length : Int) != 0) = true := bne_iff_ne.mpr c85
              have c85b2 : ¬ (t179 = []) := fun h_ => c85 (by rw [h_]; rfl)
              obtain rfl := Option.some.inj H
              go_enter Try.func5, Try.ntmps5
              go_wp2_with (first | (go_at_call 13; (with_reducible refine (deadboltlaw18_few.calls _ _ l0 t172 _ ?side1 ?side2 A3.out).mono ?_); (case side1 => repeat (first | exact HR0.out | (with_reducible refine Kd.C_alloc ?_ _) | (with_reducible refine Kd.C_drewN ?_ _) | (with_reducible refine Kd.C_drew ?_))); (case side2 => exact HC0.out); rintro e w94 ⟨v173, rfl, ho0, hb⟩; have n0_ := Aside0.mk (Kd.R_lower ho0 (below_size (by repeat (first | (with_reducible first | exact HB.out | apply below_alloc | apply pw_below_drewN | apply below_drew1) | exact HB.out)))); have n1_ := Aside0.mk (below_step (by repeat (first | (with_reducible first | exact HB.out | apply below_alloc | apply pw_below_drewN | apply below_drew1) | exact HB.out)) hb); clear HB; have HO174 := n0_; have HB := n1_; clear n0_ n1_; (try clear hb); (try clear hb2); (try clear hk); (try clear hi); (try clear ho0); obtain ⟨Ao95, co95, eo95⟩ := Kd.R_slice HO174.out; subst eo95) | (go_at_call 16; (with_reducible refine (judge_Held.calls _ _ t172 t175 t176 _ ?side1 ?side2 A4.out).mono ?_); (case side1 => repeat (first | exact (Kd.R_reads' HO174.out).2.2 | (with_reducible refine Kd.C_alloc ?_ _) | (with_reducible refine Kd.C_drewN ?_ _) | (with_reducible refine Kd.C_drew ?_))); (case side2 => exact (Kd.R_reads' HO174.out).2.1); rintro e w96 ⟨v177, rfl, ho0, hb⟩; have n0_ := Aside0.mk (Kd.R_below (by (with_reducible repeat (first | apply Kd.R_alloc | apply Kd.R_drewN | apply Kd.R_drew)); exact HO174.out) hb); have n1_ := Aside0.mk (Kd.R_lower ho0 (below_size (by repeat (first | (with_reducible first | exact HB.out | apply below_alloc | apply pw_below_drewN | apply below_drew1) | exact HB.out)))); have n2_ := Aside0.mk (below_step (by repeat (first | (with_reducible first | exact HB.out | apply below_alloc | apply pw_below_drewN | apply below_drew1) | exact HB.out)) hb); clear HO174; clear HB; have HO174 := n0_; have HO178 := n1_; have HB := n2_; clear n0_ n1_ n2_; (try clear hb); (try clear hb2); (try clear hk); (try clear hi); (try clear ho0)) | (go_at_call 17; (with_reducible refine (judge_Order.calls _ _ t172 (Int.tmod (wrap64 ((Int.tmod a1 4) + 4)) 4) t179 t180 _ ?side1 ?side2 A5.out).mono ?_); (case side1 => repeat (first | exact (Kd.R_reads' HO174.out).2.2 | (with_reducible refine Kd.C_alloc ?_ _) | (with_reducible refine Kd.C_drewN ?_ _) | (with_reducible refine Kd.C_drew ?_))); (case side2 => exact (Kd.R_reads' HO174.out).2.1); rintro e w97 ⟨v181, rfl, ho0, hb⟩; have n0_ := Aside0.mk (Kd.R_below (by (with_reducible repeat (first | apply Kd.R_alloc | apply Kd.R_drewN | apply Kd.R_drew)); exact HO174.out) hb); have n1_ := Aside0.mk (Kd.R_elder' (by (with_reducible repeat (first | apply Kd.R_alloc | apply Kd.R_drewN | apply Kd.R_drew)); exact HO178.out) (Kd.R_base ho0) hb); have n2_ := Aside0.mk (Kd.R_lower (Kd.R_new' ho0 (Kd.R_lt (by (with_reducible repeat (first | apply Kd.R_alloc | apply Kd.R_drewN | apply Kd.R_drew)); exact HO178.out))) (below_size (by repeat (first | (with_reducible first | exact HB.out | apply below_alloc | apply pw_below_drewN | apply below_drew1) | exact HB.out)))); have n3_ := Aside0.mk (below_step (by repeat (first | (with_reducible first | exact HB.out | apply below_alloc | apply pw_below_drewN | apply below_drew1) | exact HB.out)) hb); clear HO174; clear HO178; clear HB; have HO174 := n0_; have HO178 := n1_; have HO182 := n2_; have HB := n3_; clear n0_ n1_ n2_ n3_; (try clear hb); (try clear hb2); (try clear hk); (try clear hi); (try clear ho0)) | (go_at_call 18; (with_reducible refine (judge_Long.calls _ _ t172 (Int.tmod (wrap64 ((Int.tmod a1 4) + 4)) 4) t183 t184 _ ?side1 ?side2 A6.out).mono ?_); (case side1 => repeat (first | exact (Kd.R_reads' HO174.out).2.2 | (with_reducible refine Kd.C_alloc ?_ _) | (with_reducible refine Kd.C_drewN ?_ _) | (with_reducible refine Kd.C_drew ?_))); (case side2 => exact (Kd.R_reads' HO174.out).2.1); rintro e w98 ⟨rfl, hb⟩; have n0_ := Aside0.mk (Kd.R_below (by (with_reducible repeat (first | apply Kd.R_alloc | apply Kd.R_drewN | apply Kd.R_drew)); exact HO174.out) hb); have n1_ := Aside0.mk (Kd.R_below (by (with_reducible repeat (first | apply Kd.R_alloc | apply Kd.R_drewN | apply Kd.R_drew)); exact HO178.out) hb); have n2_ := Aside0.mk (Kd.R_below (by (with_reducible repeat (first | apply Kd.R_alloc | apply Kd.R_drewN | apply Kd.R_drew)); exact HO182.out) hb); have n3_ := Aside0.mk (below_step (by repeat (first | (with_reducible first | exact HB.out | apply below_alloc | apply pw_below_drewN | apply below_drew1) | exact HB.out)) hb); clear HO174; clear HO178; clear HO182; clear HB; have HO174 := n0_; have HO178 := n1_; have HO182 := n2_; have HB := n3_; clear n0_ n1_ n2_ n3_; (try clear hb); (try clear hb2); (try clear hk); (try clear hi)) | (go_at_call 15; (with_reducible refine (deadboltlaw18_alive.calls  true _ A80.out).mono ?_); rintro e w99 ⟨rfl, hb⟩; have n0_ := Aside0.mk (Kd.R_below (by (with_reducible repeat (first | apply Kd.R_alloc | apply Kd.R_drewN | apply Kd.R_drew)); exact HO174.out) hb); have n1_ := Aside0.mk (Kd.R_below (by (with_reducible repeat (first | apply Kd.R_alloc | apply Kd.R_drewN | apply Kd.R_drew)); exact HO178.out) hb); have n2_ := Aside0.mk (Kd.R_below (by (with_reducible repeat (first | apply Kd.R_alloc | apply Kd.R_drewN | apply Kd.R_drew)); exact HO182.out) hb); have n3_ := Aside0.mk (below_step (by repeat (first | (with_reducible first | exact HB.out | apply below_alloc | apply pw_below_drewN | apply below_drew1) | exact HB.out)) hb); clear HO174; clear HO178; clear HO182; clear HB; have HO174 := n0_; have HO178 := n1_; have HO182 := n2_; have HB := n3_; clear n0_ n1_ n2_ n3_; (try clear hb); (try clear hb2); (try clear hk); (try clear hi); obtain ⟨Ao100, co100, eo100⟩ := Kd.R_slice HO178.out; subst eo100; obtain ⟨Ao101, co101, eo101⟩ := Kd.R_slice HO182.out; subst eo101))
              repeat (go_quiet (first | (go_at_call 13; (with_reducible refine (deadboltlaw18_few.calls _ _ l0 t172 _ ?side1 ?side2 A3.out).mono ?_); (case side1 => repeat (first | exact HR0.out | (with_reducible refine Kd.C_alloc ?_ _) | (with_reducible refine Kd.C_drewN ?_ _) | (with_reducible refine Kd.C_drew ?_))); (case side2 => exact HC0.out); rintro e w94 ⟨v173, rfl, ho0, hb⟩; have n0_ := Aside0.mk (Kd.R_lower ho0 (below_size (by repeat (first | (with_reducible first | exact HB.out | apply below_alloc | apply pw_below_drewN | apply below_drew1) | exact HB.out)))); have n1_ := Aside0.mk (below_step (by repeat (first | (with_reducible first | exact HB.out | apply below_alloc | apply pw_below_drewN | apply below_drew1) | exact HB.out)) hb); clear HB; have HO174 := n0_; have HB := n1_; clear n0_ n1_; (try clear hb); (try clear hb2); (try clear hk); (try clear hi); (try clear ho0); obtain ⟨Ao95, co95, eo95⟩ := Kd.R_slice HO174.out; subst eo95) | (go_at_call 16; (with_reducible refine (judge_Held.calls _ _ t172 t175 t176 _ ?side1 ?side2 A4.out).mono ?_); (case side1 => repeat (first | exact (Kd.R_reads' HO174.out).2.2 | (with_reducible refine Kd.C_alloc ?_ _) | (with_reducible refine Kd.C_drewN ?_ _) | (with_reducible refine Kd.C_drew ?_))); (case side2 => exact (Kd.R_reads' HO174.out).2.1); rintro e w96 ⟨v177, rfl, ho0, hb⟩; have n0_ := Aside0.mk (Kd.R_below (by (with_reducible repeat (first | apply Kd.R_alloc | apply Kd.R_drewN | apply Kd.R_drew)); exact HO174.out) hb); have n1_ := Aside0.mk (Kd.R_lower ho0 (below_size (by repeat (first | (with_reducible first | exact HB.out | apply below_alloc | apply pw_below_drewN | apply below_drew1) | exact HB.out)))); have n2_ := Aside0.mk (below_step (by repeat (first | (with_reducible first | exact HB.out | apply below_alloc | apply pw_below_drewN | apply below_drew1) | exact HB.out)) hb); clear HO174; clear HB; have HO174 := n0_; have HO178 := n1_; have HB := n2_; clear n0_ n1_ n2_; (try clear hb); (try clear hb2); (try clear hk); (try clear hi); (try clear ho0)) | (go_at_call 17; (with_reducible refine (judge_Order.calls _ _ t172 (Int.tmod (wrap64 ((Int.tmod a1 4) + 4)) 4) t179 t180 _ ?side1 ?side2 A5.out).mono ?_); (case side1 => repeat (first | exact (Kd.R_reads' HO174.out).2.2 | (with_reducible refine Kd.C_alloc ?_ _) | (with_reducible refine Kd.C_drewN ?_ _) | (with_reducible refine Kd.C_drew ?_))); (case side2 => exact (Kd.R_reads' HO174.out).2.1); rintro e w97 ⟨v181, rfl, ho0, hb⟩; have n0_ := Aside0.mk (Kd.R_below (by (with_reducible repeat (first | apply Kd.R_alloc | apply Kd.R_drewN | apply Kd.R_drew)); exact HO174.out) hb); have n1_ := Aside0.mk (Kd.R_elder' (by (with_reducible repeat (first | apply Kd.R_alloc | apply Kd.R_drewN | apply Kd.R_drew)); exact HO178.out) (Kd.R_base ho0) hb); have n2_ := Aside0.mk (Kd.R_lower (Kd.R_new' ho0 (Kd.R_lt (by (with_reducible repeat (first | apply Kd.R_alloc | apply Kd.R_drewN | apply Kd.R_drew)); exact HO178.out))) (below_size (by repeat (first | (with_reducible first | exact HB.out | apply below_alloc | apply pw_below_drewN | apply below_drew1) | exact HB.out)))); have n3_ := Aside0.mk (below_step (by repeat (first | (with_reducible first | exact HB.out | apply below_alloc | apply pw_below_drewN | apply below_drew1) | exact HB.out)) hb); clear HO174; clear HO178; clear HB; have HO174 := n0_; have HO178 := n1_; have HO182 := n2_; have HB := n3_; clear n0_ n1_ n2_ n3_; (try clear hb); (try clear hb2); (try clear hk); (try clear hi); (try clear ho0)) | (go_at_call 18; (with_reducible refine (judge_Long.calls _ _ t172 (Int.tmod (wrap64 ((Int.tmod a1 4) + 4)) 4) t183 t184 _ ?side1 ?side2 A6.out).mono ?_); (case side1 => repeat (first | exact (Kd.R_reads' HO174.out).2.2 | (with_reducible refine Kd.C_alloc ?_ _) | (with_reducible refine Kd.C_drewN ?_ _) | (with_reducible refine Kd.C_drew ?_))); (case side2 => exact (Kd.R_reads' HO174.out).2.1); rintro e w98 ⟨rfl, hb⟩; have n0_ := Aside0.mk (Kd.R_below (by (with_reducible repeat (first | apply Kd.R_alloc | apply Kd.R_drewN | apply Kd.R_drew)); exact HO174.out) hb); have n1_ := Aside0.mk (Kd.R_below (by (with_reducible repeat (first | apply Kd.R_alloc | apply Kd.R_drewN | apply Kd.R_drew)); exact HO178.out) hb); have n2_ := Aside0.mk (Kd.R_below (by (with_reducible repeat (first | apply Kd.R_alloc | apply Kd.R_drewN | apply Kd.R_drew)); exact HO182.out) hb); have n3_ := Aside0.mk (below_step (by repeat (first | (with_reducible first | exact HB.out | apply below_alloc | apply pw_below_drewN | apply below_drew1) | exact HB.out)) hb); clear HO174; clear HO178; clear HO182; clear HB; have HO174 := n0_; have HO178 := n1_; have HO182 := n2_; have HB := n3_; clear n0_ n1_ n2_ n3_; (try clear hb); (try clear hb2); (try clear hk); (try clear hi)) | (go_at_call 15; (with_reducible refine (deadboltlaw18_alive.calls  true _ A80.out).mono ?_); rintro e w99 ⟨rfl, hb⟩; have n0_ := Aside0.mk (Kd.R_below (by (with_reducible repeat (first | apply Kd.R_alloc | apply Kd.R_drewN | apply Kd.R_drew)); exact HO174.out) hb); have n1_ := Aside0.mk (Kd.R_below (by (with_reducible repeat (first | apply Kd.R_alloc | apply Kd.R_drewN | apply Kd.R_drew)); exact HO178.out) hb); have n2_ := Aside0.mk (Kd.R_below (by (with_reducible repeat (first | apply Kd.R_alloc | apply Kd.R_drewN | apply Kd.R_drew)); exact HO182.out) hb); have n3_ := Aside0.mk (below_step (by repeat (first | (with_reducible first | exact HB.out | apply below_alloc | apply pw_below_drewN | apply below_drew1) | exact HB.out)) hb); clear HO174; clear HO178; clear HO182; clear HB; have HO174 := n0_; have HO178 := n1_; have HO182 := n2_; have HB := n3_; clear n0_ n1_ n2_ n3_; (try clear hb); (try clear hb2); (try clear hk); (try clear hi); obtain ⟨Ao100, co100, eo100⟩ := Kd.R_slice HO178.out; subst eo100; obtain ⟨Ao101, co101, eo101⟩ := Kd.R_slice HO182.out; subst eo101)); try go_wp2_with (first | (go_at_call 13; (with_reducible refine (deadboltlaw18_few.calls _ _ l0 t172 _ ?side1 ?side2 A3.out).mono ?_); (case side1 => repeat (first | exact HR0.out | (with_reducible refine Kd.C_alloc ?_ _) | (with_reducible refine Kd.C_drewN ?_ _) | (with_reducible refine Kd.C_drew ?_))); (case side2 => exact HC0.out); rintro e w94 ⟨v173, rfl, ho0, hb⟩; have n0_ := Aside0.mk (Kd.R_lower ho0 (below_size (by repeat (first | (with_reducible first | exact HB.out | apply below_alloc | apply pw_below_drewN | apply below_drew1) | exact HB.out)))); have n1_ := Aside0.mk (below_step (by repeat (first | (with_reducible first | exact HB.out | apply below_alloc | apply pw_below_drewN | apply below_drew1) | exact HB.out)) hb); clear HB; have HO174 := n0_; have HB := n1_; clear n0_ n1_; (try clear hb); (try clear hb2); (try clear hk); (try clear hi); (try clear ho0); obtain ⟨Ao95, co95, eo95⟩ := Kd.R_slice HO174.out; subst eo95) | (go_at_call 16; (with_reducible refine (judge_Held.calls _ _ t172 t175 t176 _ ?side1 ?side2 A4.out).mono ?_); (case side1 => repeat (first | exact (Kd.R_reads' HO174.out).2.2 | (with_reducible refine Kd.C_alloc ?_ _) | (with_reducible refine Kd.C_drewN ?_ _) | (with_reducible refine Kd.C_drew ?_))); (case side2 => exact (Kd.R_reads' HO174.out).2.1); rintro e w96 ⟨v177, rfl, ho0, hb⟩; have n0_ := Aside0.mk (Kd.R_below (by (with_reducible repeat (first | apply Kd.R_alloc | apply Kd.R_drewN | apply Kd.R_drew)); exact HO174.out) hb); have n1_ := Aside0.mk (Kd.R_lower ho0 (below_size (by repeat (first | (with_reducible first | exact HB.out | apply below_alloc | apply pw_below_drewN | apply below_drew1) | exact HB.out)))); have n2_ := Aside0.mk (below_step (by repeat (first | (with_reducible first | exact HB.out | apply below_alloc | apply pw_below_drewN | apply below_drew1) | exact HB.out)) hb); clear HO174; clear HB; have HO174 := n0_; have HO178 := n1_; have HB := n2_; clear n0_ n1_ n2_; (try clear hb); (try clear hb2); (try clear hk); (try clear hi); (try clear ho0)) | (go_at_call 17; (with_reducible refine (judge_Order.calls _ _ t172 (Int.tmod (wrap64 ((Int.tmod a1 4) + 4)) 4) t179 t180 _ ?side1 ?side2 A5.out).mono ?_); (case side1 => repeat (first | exact (Kd.R_reads' HO174.out).2.2 | (with_reducible refine Kd.C_alloc ?_ _) | (with_reducible refine Kd.C_drewN ?_ _) | (with_reducible refine Kd.C_drew ?_))); (case side2 => exact (Kd.R_reads' HO174.out).2.1); rintro e w97 ⟨v181, rfl, ho0, hb⟩; have n0_ := Aside0.mk (Kd.R_below (by (with_reducible repeat (first | apply Kd.R_alloc | apply Kd.R_drewN | apply Kd.R_drew)); exact HO174.out) hb); have n1_ := Aside0.mk (Kd.R_elder' (by (with_reducible repeat (first | apply Kd.R_alloc | apply Kd.R_drewN | apply Kd.R_drew)); exact HO178.out) (Kd.R_base ho0) hb); have n2_ := Aside0.mk (Kd.R_lower (Kd.R_new' ho0 (Kd.R_lt (by (with_reducible repeat (first | apply Kd.R_alloc | apply Kd.R_drewN | apply Kd.R_drew)); exact HO178.out))) (below_size (by repeat (first | (with_reducible first | exact HB.out | apply below_alloc | apply pw_below_drewN | apply below_drew1) | exact HB.out)))); have n3_ := Aside0.mk (below_step (by repeat (first | (with_reducible first | exact HB.out | apply below_alloc | apply pw_below_drewN | apply below_drew1) | exact HB.out)) hb); clear HO174; clear HO178; clear HB; have HO174 := n0_; have HO178 := n1_; have HO182 := n2_; have HB := n3_; clear n0_ n1_ n2_ n3_; (try clear hb); (try clear hb2); (try clear hk); (try clear hi); (try clear ho0)) | (go_at_call 18; (with_reducible refine (judge_Long.calls _ _ t172 (Int.tmod (wrap64 ((Int.tmod a1 4) + 4)) 4) t183 t184 _ ?side1 ?side2 A6.out).mono ?_); (case side1 => repeat (first | exact (Kd.R_reads' HO174.out).2.2 | (with_reducible refine Kd.C_alloc ?_ _) | (with_reducible refine Kd.C_drewN ?_ _) | (with_reducible refine Kd.C_drew ?_))); (case side2 => exact (Kd.R_reads' HO174.out).2.1); rintro e w98 ⟨rfl, hb⟩; have n0_ := Aside0.mk (Kd.R_below (by (with_reducible repeat (first | apply Kd.R_alloc | apply Kd.R_drewN | apply Kd.R_drew)); exact HO174.out) hb); have n1_ := Aside0.mk (Kd.R_below (by (with_reducible repeat (first | apply Kd.R_alloc | apply Kd.R_drewN | apply Kd.R_drew)); exact HO178.out) hb); have n2_ := Aside0.mk (Kd.R_below (by (with_reducible repeat (first | apply Kd.R_alloc | apply Kd.R_drewN | apply Kd.R_drew)); exact HO182.out) hb); have n3_ := Aside0.mk (below_step (by repeat (first | (with_reducible first | exact HB.out | apply below_alloc | apply pw_below_drewN | apply below_drew1) | exact HB.out)) hb); clear HO174; clear HO178; clear HO182; clear HB; have HO174 := n0_; have HO178 := n1_; have HO182 := n2_; have HB := n3_; clear n0_ n1_ n2_ n3_; (try clear hb); (try clear hb2); (try clear hk); (try clear hi)) | (go_at_call 15; (with_reducible refine (deadboltlaw18_alive.calls  true _ A80.out).mono ?_); rintro e w99 ⟨rfl, hb⟩; have n0_ := Aside0.mk (Kd.R_below (by (with_reducible repeat (first | apply Kd.R_alloc | apply Kd.R_drewN | apply Kd.R_drew)); exact HO174.out) hb); have n1_ := Aside0.mk (Kd.R_below (by (with_reducible repeat (first | apply Kd.R_alloc | apply Kd.R_drewN | apply Kd.R_drew)); exact HO178.out) hb); have n2_ := Aside0.mk (Kd.R_below (by (with_reducible repeat (first | apply Kd.R_alloc | apply Kd.R_drewN | apply Kd.R_drew)); exact HO182.out) hb); have n3_ := Aside0.mk (below_step (by repeat (first | (with_reducible first | exact HB.out | apply below_alloc | apply pw_below_drewN | apply below_drew1) | exact HB.out)) hb); clear HO174; clear HO178; clear HO182; clear HB; have HO174 := n0_; have HO178 := n1_; have HO182 := n2_; have HB := n3_; clear n0_ n1_ n2_ n3_; (try clear hb); (try clear hb2); (try clear hk); (try clear hi); obtain ⟨Ao100, co100, eo100⟩ := Kd.R_slice HO178.out; subst eo100; obtain ⟨Ao101, co101, eo101⟩ := Kd.R_slice HO182.out; subst eo101)))
              go_ret
              exact ⟨by first | rfl | (simp [errW_none, errW_some] <;> rfl) | (simp [*, errW_none, errW_some] <;> rfl), by repeat (first | (with_reducible first | exact HB.out | apply below_alloc | apply pw_below_drewN | apply below_drew1) | exact HB.out)⟩
          · rw [if_neg c84] at H
            have c84b0 : ((t175.length : Int) == 0) = false := beq_eq_false_iff_ne.mpr c84
            have c84b1 : ((t175.length : Int) != 0) = true := bne_iff_ne.mpr c84
            have c84b2 : ¬ (t175 = []) := fun h_ => c84 (by rw [h_]; rfl)
            obtain rfl := Option.some.inj H
            go_enter Try.func5, Try.ntmps5
            go_wp2_with (first | (go_at_call 13; (with_reducible refine (deadboltlaw18_few.calls _ _ l0 t172 _ ?side1 ?side2 A3.out).mono ?_); (case side1 => repeat (first | exact HR0.out | (with_reducible refine Kd.C_alloc ?_ _) | (with_reducible refine Kd.C_drewN ?_ _) | (with_reducible refine Kd.C_drew ?_))); (case side2 => exact HC0.out); rintro e w102 ⟨v173, rfl, ho0, hb⟩; have n0_ := Aside0.mk (Kd.R_lower ho0 (below_size (by repeat (first | (with_reducible first | exact HB.out | apply below_alloc | apply pw_below_drewN | apply below_drew1) | exact HB.out)))); have n1_ := Aside0.mk (below_step (by repeat (first | (with_reducible first | exact HB.out | apply below_alloc | apply pw_below_drewN | apply below_drew1) | exact HB.out)) hb); clear HB; have HO174 := n0_; have HB := n1_; clear n0_ n1_; (try clear hb); (try clear hb2); (try clear hk); (try clear hi); (try clear ho0); obtain ⟨Ao103, co103, eo103⟩ := Kd.R_slice HO174.out; subst eo103) | (go_at_call 16; (with_reducible refine (judge_Held.calls _ _ t172 t175 t176 _ ?side1 ?side2 A4.out).mono ?_); (case side1 => repeat (first | exact (Kd.R_reads' HO174.out).2.2 | (with_reducible refine Kd.C_alloc ?_ _) | (with_reducible refine Kd.C_drewN ?_ _) | (with_reducible refine Kd.C_drew ?_))); (case side2 => exact (Kd.R_reads' HO174.out).2.1); rintro e w104 ⟨v177, rfl, ho0, hb⟩; have n0_ := Aside0.mk (Kd.R_below (by (with_reducible repeat (first | apply Kd.R_alloc | apply Kd.R_drewN | apply Kd.R_drew)); exact HO174.out) hb); have n1_ := Aside0.mk (Kd.R_lower ho0 (below_size (by repeat (first | (with_reducible first | exact HB.out | apply below_alloc | apply pw_below_drewN | apply below_drew1) | exact HB.out)))); have n2_ := Aside0.mk (below_step (by repeat (first | (with_reducible first | exact HB.out | apply below_alloc | apply pw_below_drewN | apply below_drew1) | exact HB.out)) hb); clear HO174; clear HB; have HO174 := n0_; have HO178 := n1_; have HB := n2_; clear n0_ n1_ n2_; (try clear hb); (try clear hb2); (try clear hk); (try clear hi); (try clear ho0)) | (go_at_call 17; (with_reducible refine (judge_Order.calls _ _ t172 (Int.tmod (wrap64 ((Int.tmod a1 4) + 4)) 4) t179 t180 _ ?side1 ?side2 A5.out).mono ?_); (case side1 => repeat (first | exact (Kd.R_reads' HO174.out).2.2 | (with_reducible refine Kd.C_alloc ?_ _) | (with_reducible refine Kd.C_drewN ?_ _) | (with_reducible refine Kd.C_drew ?_))); (case side2 => exact (Kd.R_reads' HO174.out).2.1); rintro e w105 ⟨v181, rfl, ho0, hb⟩; have n0_ := Aside0.mk (Kd.R_below (by (with_reducible repeat (first | apply Kd.R_alloc | apply Kd.R_drewN | apply Kd.R_drew)); exact HO174.out) hb); have n1_ := Aside0.mk (Kd.R_elder' (by (with_reducible repeat (first | apply Kd.R_alloc | apply Kd.R_drewN | apply Kd.R_drew)); exact HO178.out) (Kd.R_base ho0) hb); have n2_ := Aside0.mk (Kd.R_lower (Kd.R_new' ho0 (Kd.R_lt (by (with_reducible repeat (first | apply Kd.R_alloc | apply Kd.R_drewN | apply Kd.R_drew)); exact HO178.out))) (below_size (by repeat (first | (with_reducible first | exact HB.out | apply below_alloc | apply pw_below_drewN | apply below_drew1) | exact HB.out)))); have n3_ := Aside0.mk (below_step (by repeat (first | (with_reducible first | exact HB.out | apply below_alloc | apply pw_below_drewN | apply below_drew1) | exact HB.out)) hb); clear HO174; clear HO178; clear HB; have HO174 := n0_; have HO178 := n1_; have HO182 := n2_; have HB := n3_; clear n0_ n1_ n2_ n3_; (try clear hb); (try clear hb2); (try clear hk); (try clear hi); (try clear ho0)) | (go_at_call 18; (with_reducible refine (judge_Long.calls _ _ t172 (Int.tmod (wrap64 ((Int.tmod a1 4) + 4)) 4) t183 t184 _ ?side1 ?side2 A6.out).mono ?_); (case side1 => repeat (first | exact (Kd.R_reads' HO174.out).2.2 | (with_reducible refine Kd.C_alloc ?_ _) | (with_reducible refine Kd.C_drewN ?_ _) | (with_reducible refine Kd.C_drew ?_))); (case side2 => exact (Kd.R_reads' HO174.out).2.1); rintro e w106 ⟨rfl, hb⟩; have n0_ := Aside0.mk (Kd.R_below (by (with_reducible repeat (first | apply Kd.R_alloc | apply Kd.R_drewN | apply Kd.R_drew)); exact HO174.out) hb); have n1_ := Aside0.mk (Kd.R_below (by (with_reducible repeat (first | apply Kd.R_alloc | apply Kd.R_drewN | apply Kd.R_drew)); exact HO178.out) hb); have n2_ := Aside0.mk (Kd.R_below (by (with_reducible repeat (first | apply Kd.R_alloc | apply Kd.R_drewN | apply Kd.R_drew)); exact HO182.out) hb); have n3_ := Aside0.mk (below_step (by repeat (first | (with_reducible first | exact HB.out | apply below_alloc | apply pw_below_drewN | apply below_drew1) | exact HB.out)) hb); clear HO174; clear HO178; clear HO182; clear HB; have HO174 := n0_; have HO178 := n1_; have HO182 := n2_; have HB := n3_; clear n0_ n1_ n2_ n3_; (try clear hb); (try clear hb2); (try clear hk); (try clear hi)) | (go_at_call 15; (with_reducible refine (deadboltlaw18_alive.calls  true _ A80.out).mono ?_); rintro e w107 ⟨rfl, hb⟩; have n0_ := Aside0.mk (Kd.R_below (by (with_reducible repeat (first | apply Kd.R_alloc | apply Kd.R_drewN | apply Kd.R_drew)); exact HO174.out) hb); have n1_ := Aside0.mk (Kd.R_below (by (with_reducible repeat (first | apply Kd.R_alloc | apply Kd.R_drewN | apply Kd.R_drew)); exact HO178.out) hb); have n2_ := Aside0.mk (Kd.R_below (by (with_reducible repeat (first | apply Kd.R_alloc | apply Kd.R_drewN | apply Kd.R_drew)); exact HO182.out) hb); have n3_ := Aside0.mk (below_step (by repeat (first | (with_reducible first | exact HB.out | apply below_alloc | apply pw_below_drewN | apply below_drew1) | exact HB.out)) hb); clear HO174; clear HO178; clear HO182; clear HB; have HO174 := n0_; have HO178 := n1_; have HO182 := n2_; have HB := n3_; clear n0_ n1_ n2_ n3_; (try clear hb); (try clear hb2); (try clear hk); (try clear hi); obtain ⟨Ao108, co108, eo108⟩ := Kd.R_slice HO178.out; subst eo108))
            repeat (go_quiet (first | (go_at_call 13; (with_reducible refine (deadboltlaw18_few.calls _ _ l0 t172 _ ?side1 ?side2 A3.out).mono ?_); (case side1 => repeat (first | exact HR0.out | (with_reducible refine Kd.C_alloc ?_ _) | (with_reducible refine Kd.C_drewN ?_ _) | (with_reducible refine Kd.C_drew ?_))); (case side2 => exact HC0.out); rintro e w102 ⟨v173, rfl, ho0, hb⟩; have n0_ := Aside0.mk (Kd.R_lower ho0 (below_size (by repeat (first | (with_reducible first | exact HB.out | apply below_alloc | apply pw_below_drewN | apply below_drew1) | exact HB.out)))); have n1_ := Aside0.mk (below_step (by repeat (first | (with_reducible first | exact HB.out | apply below_alloc | apply pw_below_drewN | apply below_drew1) | exact HB.out)) hb); clear HB; have HO174 := n0_; have HB := n1_; clear n0_ n1_; (try clear hb); (try clear hb2); (try clear hk); (try clear hi); (try clear ho0); obtain ⟨Ao103, co103, eo103⟩ := Kd.R_slice HO174.out; subst eo103) | (go_at_call 16; (with_reducible refine (judge_Held.calls _ _ t172 t175 t176 _ ?side1 ?side2 A4.out).mono ?_); (case side1 => repeat (first | exact (Kd.R_reads' HO174.out).2.2 | (with_reducible refine Kd.C_alloc ?_ _) | (with_reducible refine Kd.C_drewN ?_ _) | (with_reducible refine Kd.C_drew ?_))); (case side2 => exact (Kd.R_reads' HO174.out).2.1); rintro e w104 ⟨v177, rfl, ho0, hb⟩; have n0_ := Aside0.mk (Kd.R_below (by (with_reducible repeat (first | apply Kd.R_alloc | apply Kd.R_drewN | apply Kd.R_drew)); exact HO174.out) hb); have n1_ := Aside0.mk (Kd.R_lower ho0 (below_size (by repeat (first | (with_reducible first | exact HB.out | apply below_alloc | apply pw_below_drewN | apply below_drew1) | exact HB.out)))); have n2_ := Aside0.mk (below_step (by repeat (first | (with_reducible first | exact HB.out | apply below_alloc | apply pw_below_drewN | apply below_drew1) | exact HB.out)) hb); clear HO174; clear HB; have HO174 := n0_; have HO178 := n1_; have HB := n2_; clear n0_ n1_ n2_; (try clear hb); (try clear hb2); (try clear hk); (try clear hi); (try clear ho0)) | (go_at_call 17; (with_reducible refine (judge_Order.calls _ _ t172 (Int.tmod (wrap64 ((Int.tmod a1 4) + 4)) 4) t179 t180 _ ?side1 ?side2 A5.out).mono ?_); (case side1 => repeat (first | exact (Kd.R_reads' HO174.out).2.2 | (with_reducible refine Kd.C_alloc ?_ _) | (with_reducible refine Kd.C_drewN ?_ _) | (with_reducible refine Kd.C_drew ?_))); (case side2 => exact (Kd.R_reads' HO174.out).2.1); rintro e w105 ⟨v181, rfl, ho0, hb⟩; have n0_ := Aside0.mk (Kd.R_below (by (with_reducible repeat (first | apply Kd.R_alloc | apply Kd.R_drewN | apply Kd.R_drew)); exact HO174.out) hb); have n1_ := Aside0.mk (Kd.R_elder' (by (with_reducible repeat (first | apply Kd.R_alloc | apply Kd.R_drewN | apply Kd.R_drew)); exact HO178.out) (Kd.R_base ho0) hb); have n2_ := Aside0.mk (Kd.R_lower (Kd.R_new' ho0 (Kd.R_lt (by (with_reducible repeat (first | apply Kd.R_alloc | apply Kd.R_drewN | apply Kd.R_drew)); exact HO178.out))) (below_size (by repeat (first | (with_reducible first | exact HB.out | apply below_alloc | apply pw_below_drewN | apply below_drew1) | exact HB.out)))); have n3_ := Aside0.mk (below_step (by repeat (first | (with_reducible first | exact HB.out | apply below_alloc | apply pw_below_drewN | apply below_drew1) | exact HB.out)) hb); clear HO174; clear HO178; clear HB; have HO174 := n0_; have HO178 := n1_; have HO182 := n2_; have HB := n3_; clear n0_ n1_ n2_ n3_; (try clear hb); (try clear hb2); (try clear hk); (try clear hi); (try clear ho0)) | (go_at_call 18; (with_reducible refine (judge_Long.calls _ _ t172 (Int.tmod (wrap64 ((Int.tmod a1 4) + 4)) 4) t183 t184 _ ?side1 ?side2 A6.out).mono ?_); (case side1 => repeat (first | exact (Kd.R_reads' HO174.out).2.2 | (with_reducible refine Kd.C_alloc ?_ _) | (with_reducible refine Kd.C_drewN ?_ _) | (with_reducible refine Kd.C_drew ?_))); (case side2 => exact (Kd.R_reads' HO174.out).2.1); rintro e w106 ⟨rfl, hb⟩; have n0_ := Aside0.mk (Kd.R_below (by (with_reducible repeat (first | apply Kd.R_alloc | apply Kd.R_drewN | apply Kd.R_drew)); exact HO174.out) hb); have n1_ := Aside0.mk (Kd.R_below (by (with_reducible repeat (first | apply Kd.R_alloc | apply Kd.R_drewN | apply Kd.R_drew)); exact HO178.out) hb); have n2_ := Aside0.mk (Kd.R_below (by (with_reducible repeat (first | apply Kd.R_alloc | apply Kd.R_drewN | apply Kd.R_drew)); exact HO182.out) hb); have n3_ := Aside0.mk (below_step (by repeat (first | (with_reducible first | exact HB.out | apply below_alloc | apply pw_below_drewN | apply below_drew1) | exact HB.out)) hb); clear HO174; clear HO178; clear HO182; clear HB; have HO174 := n0_; have HO178 := n1_; have HO182 := n2_; have HB := n3_; clear n0_ n1_ n2_ n3_; (try clear hb); (try clear hb2); (try clear hk); (try clear hi)) | (go_at_call 15; (with_reducible refine (deadboltlaw18_alive.calls  true _ A80.out).mono ?_); rintro e w107 ⟨rfl, hb⟩; have n0_ := Aside0.mk (Kd.R_below (by (with_reducible repeat (first | apply Kd.R_alloc | apply Kd.R_drewN | apply Kd.R_drew)); exact HO174.out) hb); have n1_ := Aside0.mk (Kd.R_below (by (with_reducible repeat (first | apply Kd.R_alloc | apply Kd.R_drewN | apply Kd.R_drew)); exact HO178.out) hb); have n2_ := Aside0.mk (Kd.R_below (by (with_reducible repeat (first | apply Kd.R_alloc | apply Kd.R_drewN | apply Kd.R_drew)); exact HO182.out) hb); have n3_ := Aside0.mk (below_step (by repeat (first | (with_reducible first | exact HB.out | apply below_alloc | apply pw_below_drewN | apply below_drew1) | exact HB.out)) hb); clear HO174; clear HO178; clear HO182; clear HB; have HO174 := n0_; have HO178 := n1_; have HO182 := n2_; have HB := n3_; clear n0_ n1_ n2_ n3_; (try clear hb); (try clear hb2); (try clear hk); (try clear hi); obtain ⟨Ao108, co108, eo108⟩ := Kd.R_slice HO178.out; subst eo108)); try go_wp2_with (first | (go_at_call 13; (with_reducible refine (deadboltlaw18_few.calls _ _ l0 t172 _ ?side1 ?side2 A3.out).mono ?_); (case side1 => repeat (first | exact HR0.out | (with_reducible refine Kd.C_alloc ?_ _) | (with_reducible refine Kd.C_drewN ?_ _) | (with_reducible refine Kd.C_drew ?_))); (case side2 => exact HC0.out); rintro e w102 ⟨v173, rfl, ho0, hb⟩; have n0_ := Aside0.mk (Kd.R_lower ho0 (below_size (by repeat (first | (with_reducible first | exact HB.out | apply below_alloc | apply pw_below_drewN | apply below_drew1) | exact HB.out)))); have n1_ := Aside0.mk (below_step (by repeat (first | (with_reducible first | exact HB.out | apply below_alloc | apply pw_below_drewN | apply below_drew1) | exact HB.out)) hb); clear HB; have HO174 := n0_; have HB := n1_; clear n0_ n1_; (try clear hb); (try clear hb2); (try clear hk); (try clear hi); (try clear ho0); obtain ⟨Ao103, co103, eo103⟩ := Kd.R_slice HO174.out; subst eo103) | (go_at_call 16; (with_reducible refine (judge_Held.calls _ _ t172 t175 t176 _ ?side1 ?side2 A4.out).mono ?_); (case side1 => repeat (first | exact (Kd.R_reads' HO174.out).2.2 | (with_reducible refine Kd.C_alloc ?_ _) | (with_reducible refine Kd.C_drewN ?_ _) | (with_reducible refine Kd.C_drew ?_))); (case side2 => exact (Kd.R_reads' HO174.out).2.1); rintro e w104 ⟨v177, rfl, ho0, hb⟩; have n0_ := Aside0.mk (Kd.R_below (by (with_reducible repeat (first | apply Kd.R_alloc | apply Kd.R_drewN | apply Kd.R_drew)); exact HO174.out) hb); have n1_ := Aside0.mk (Kd.R_lower ho0 (below_size (by repeat (first | (with_reducible first | exact HB.out | apply below_alloc | apply pw_below_drewN | apply below_drew1) | exact HB.out)))); have n2_ := Aside0.mk (below_step (by repeat (first | (with_reducible first | exact HB.out | apply below_alloc | apply pw_below_drewN | apply below_drew1) | exact HB.out)) hb); clear HO174; clear HB; have HO174 := n0_; have HO178 := n1_; have HB := n2_; clear n0_ n1_ n2_; (try clear hb); (try clear hb2); (try clear hk); (try clear hi); (try clear ho0)) | (go_at_call 17; (with_reducible refine (judge_Order.calls _ _ t172 (Int.tmod (wrap64 ((Int.tmod a1 4) + 4)) 4) t179 t180 _ ?side1 ?side2 A5.out).mono ?_); (case side1 => repeat (first | exact (Kd.R_reads' HO174.out).2.2 | (with_reducible refine Kd.C_alloc ?_ _) | (with_reducible refine Kd.C_drewN ?_ _) | (with_reducible refine Kd.C_drew ?_))); (case side2 => exact (Kd.R_reads' HO174.out).2.1); rintro e w105 ⟨v181, rfl, ho0, hb⟩; have n0_ := Aside0.mk (Kd.R_below (by (with_reducible repeat (first | apply Kd.R_alloc | apply Kd.R_drewN | apply Kd.R_drew)); exact HO174.out) hb); have n1_ := Aside0.mk (Kd.R_elder' (by (with_reducible repeat (first | apply Kd.R_alloc | apply Kd.R_drewN | apply Kd.R_drew)); exact HO178.out) (Kd.R_base ho0) hb); have n2_ := Aside0.mk (Kd.R_lower (Kd.R_new' ho0 (Kd.R_lt (by (with_reducible repeat (first | apply Kd.R_alloc | apply Kd.R_drewN | apply Kd.R_drew)); exact HO178.out))) (below_size (by repeat (first | (with_reducible first | exact HB.out | apply below_alloc | apply pw_below_drewN | apply below_drew1) | exact HB.out)))); have n3_ := Aside0.mk (below_step (by repeat (first | (with_reducible first | exact HB.out | apply below_alloc | apply pw_below_drewN | apply below_drew1) | exact HB.out)) hb); clear HO174; clear HO178; clear HB; have HO174 := n0_; have HO178 := n1_; have HO182 := n2_; have HB := n3_; clear n0_ n1_ n2_ n3_; (try clear hb); (try clear hb2); (try clear hk); (try clear hi); (try clear ho0)) | (go_at_call 18; (with_reducible refine (judge_Long.calls _ _ t172 (Int.tmod (wrap64 ((Int.tmod a1 4) + 4)) 4) t183 t184 _ ?side1 ?side2 A6.out).mono ?_); (case side1 => repeat (first | exact (Kd.R_reads' HO174.out).2.2 | (with_reducible refine Kd.C_alloc ?_ _) | (with_reducible refine Kd.C_drewN ?_ _) | (with_reducible refine Kd.C_drew ?_))); (case side2 => exact (Kd.R_reads' HO174.out).2.1); rintro e w106 ⟨rfl, hb⟩; have n0_ := Aside0.mk (Kd.R_below (by (with_reducible repeat (first | apply Kd.R_alloc | apply Kd.R_drewN | apply Kd.R_drew)); exact HO174.out) hb); have n1_ := Aside0.mk (Kd.R_below (by (with_reducible repeat (first | apply Kd.R_alloc | apply Kd.R_drewN | apply Kd.R_drew)); exact HO178.out) hb); have n2_ := Aside0.mk (Kd.R_below (by (with_reducible repeat (first | apply Kd.R_alloc | apply Kd.R_drewN | apply Kd.R_drew)); exact HO182.out) hb); have n3_ := Aside0.mk (below_step (by repeat (first | (with_reducible first | exact HB.out | apply below_alloc | apply pw_below_drewN | apply below_drew1) | exact HB.out)) hb); clear HO174; clear HO178; clear HO182; clear HB; have HO174 := n0_; have HO178 := n1_; have HO182 := n2_; have HB := n3_; clear n0_ n1_ n2_ n3_; (try clear hb); (try clear hb2); (try clear hk); (try clear hi)) | (go_at_call 15; (with_reducible refine (deadboltlaw18_alive.calls  true _ A80.out).mono ?_); rintro e w107 ⟨rfl, hb⟩; have n0_ := Aside0.mk (Kd.R_below (by (with_reducible repeat (first | apply Kd.R_alloc | apply Kd.R_drewN | apply Kd.R_drew)); exact HO174.out) hb); have n1_ := Aside0.mk (Kd.R_below (by (with_reducible repeat (first | apply Kd.R_alloc | apply Kd.R_drewN | apply Kd.R_drew)); exact HO178.out) hb); have n2_ := Aside0.mk (Kd.R_below (by (with_reducible repeat (first | apply Kd.R_alloc | apply Kd.R_drewN | apply Kd.R_drew)); exact HO182.out) hb); have n3_ := Aside0.mk (below_step (by repeat (first | (with_reducible first | exact HB.out | apply below_alloc | apply pw_below_drewN | apply below_drew1) | exact HB.out)) hb); clear HO174; clear HO178; clear HO182; clear HB; have HO174 := n0_; have HO178 := n1_; have HO182 := n2_; have HB := n3_; clear n0_ n1_ n2_ n3_; (try clear hb); (try clear hb2); (try clear hk); (try clear hi); obtain ⟨Ao108, co108, eo108⟩ := Kd.R_slice HO178.out; subst eo108)))
            go_ret
            exact ⟨by first | rfl | (simp [errW_none, errW_some] <;> rfl) | (simp [*, errW_none, errW_some] <;> rfl), by repeat (first | (with_reducible first | exact HB.out | apply below_alloc | apply pw_below_drewN | apply below_drew1) | exact HB.out)⟩
        · rw [if_neg c83] at H
          have c83b0 : (t176 == t184) = false := beq_eq_false_iff_ne.mpr c83
          have c83b1 : (t176 != t184) = true := bne_iff_ne.mpr c83
          obtain rfl := Option.some.inj H
          go_enter Try.func5, Try.ntmps5
          go_wp2_with (first | (go_at_call 13; (with_reducible refine (deadboltlaw18_few.calls _ _ l0 t172 _ ?side1 ?side2 A3.out).mono ?_); (case side1 => repeat (first | exact HR0.out | (with_reducible refine Kd.C_alloc ?_ _) | (with_reducible refine Kd.C_drewN ?_ _) | (with_reducible refine Kd.C_drew ?_))); (case side2 => exact HC0.out); rintro e w109 ⟨v173, rfl, ho0, hb⟩; have n0_ := Aside0.mk (Kd.R_lower ho0 (below_size (by repeat (first | (with_reducible first | exact HB.out | apply below_alloc | apply pw_below_drewN | apply below_drew1) | exact HB.out)))); have n1_ := Aside0.mk (below_step (by repeat (first | (with_reducible first | exact HB.out | apply below_alloc | apply pw_below_drewN | apply below_drew1) | exact HB.out)) hb); clear HB; have HO174 := n0_; have HB := n1_; clear n0_ n1_; (try clear hb); (try clear hb2); (try clear hk); (try clear hi); (try clear ho0); obtain ⟨Ao110, co110, eo110⟩ := Kd.R_slice HO174.out; subst eo110) | (go_at_call 16; (with_reducible refine (judge_Held.calls _ _ t172 t175 t176 _ ?side1 ?side2 A4.out).mono ?_); (case side1 => repeat (first | exact (Kd.R_reads' HO174.out).2.2 | (with_reducible refine Kd.C_alloc ?_ _) | (with_reducible refine Kd.C_drewN ?_ _) | (with_reducible refine Kd.C_drew ?_))); (case side2 => exact (Kd.R_reads' HO174.out).2.1); rintro e w111 ⟨v177, rfl, ho0, hb⟩; have n0_ := Aside0.mk (Kd.R_below (by (with_reducible repeat (first | apply Kd.R_alloc | apply Kd.R_drewN | apply Kd.R_drew)); exact HO174.out) hb); have n1_ := Aside0.mk (Kd.R_lower ho0 (below_size (by repeat (first | (with_reducible first | exact HB.out | apply below_alloc | apply pw_below_drewN | apply below_drew1) | exact HB.out)))); have n2_ := Aside0.mk (below_step (by repeat (first | (with_reducible first | exact HB.out | apply below_alloc | apply pw_below_drewN | apply below_drew1) | exact HB.out)) hb); clear HO174; clear HB; have HO174 := n0_; have HO178 := n1_; have HB := n2_; clear n0_ n1_ n2_; (try clear hb); (try clear hb2); (try clear hk); (try clear hi); (try clear ho0)) | (go_at_call 17; (with_reducible refine (judge_Order.calls _ _ t172 (Int.tmod (wrap64 ((Int.tmod a1 4) + 4)) 4) t179 t180 _ ?side1 ?side2 A5.out).mono ?_); (case side1 => repeat (first | exact (Kd.R_reads' HO174.out).2.2 | (with_reducible refine Kd.C_alloc ?_ _) | (with_reducible refine Kd.C_drewN ?_ _) | (with_reducible refine Kd.C_drew ?_))); (case side2 => exact (Kd.R_reads' HO174.out).2.1); rintro e w112 ⟨v181, rfl, ho0, hb⟩; have n0_ := Aside0.mk (Kd.R_below (by (with_reducible repeat (first | apply Kd.R_alloc | apply Kd.R_drewN | apply Kd.R_drew)); exact HO174.out) hb); have n1_ := Aside0.mk (Kd.R_elder' (by (with_reducible repeat (first | apply Kd.R_alloc | apply Kd.R_drewN | apply Kd.R_drew)); exact HO178.out) (Kd.R_base ho0) hb); have n2_ := Aside0.mk (Kd.R_lower (Kd.R_new' ho0 (Kd.R_lt (by (with_reducible repeat (first | apply Kd.R_alloc | apply Kd.R_drewN | apply Kd.R_drew)); exact HO178.out))) (below_size (by repeat (first | (with_reducible first | exact HB.out | apply below_alloc | apply pw_below_drewN | apply below_drew1) | exact HB.out)))); have n3_ := Aside0.mk (below_step (by repeat (first | (with_reducible first | exact HB.out | apply below_alloc | apply pw_below_drewN | apply below_drew1) | exact HB.out)) hb); clear HO174; clear HO178; clear HB; have HO174 := n0_; have HO178 := n1_; have HO182 := n2_; have HB := n3_; clear n0_ n1_ n2_ n3_; (try clear hb); (try clear hb2); (try clear hk); (try clear hi); (try clear ho0)) | (go_at_call 18; (with_reducible refine (judge_Long.calls _ _ t172 (Int.tmod (wrap64 ((Int.tmod a1 4) + 4)) 4) t183 t184 _ ?side1 ?side2 A6.out).mono ?_); (case side1 => repeat (first | exact (Kd.R_reads' HO174.out).2.2 | (with_reducible refine Kd.C_alloc ?_ _) | (with_reducible refine Kd.C_drewN ?_ _) | (with_reducible refine Kd.C_drew ?_))); (case side2 => exact (Kd.R_reads' HO174.out).2.1); rintro e w113 ⟨rfl, hb⟩; have n0_ := Aside0.mk (Kd.R_below (by (with_reducible repeat (first | apply Kd.R_alloc | apply Kd.R_drewN | apply Kd.R_drew)); exact HO174.out) hb); have n1_ := Aside0.mk (Kd.R_below (by (with_reducible repeat (first | apply Kd.R_alloc | apply Kd.R_drewN | apply Kd.R_drew)); exact HO178.out) hb); have n2_ := Aside0.mk (Kd.R_below (by (with_reducible repeat (first | apply Kd.R_alloc | apply Kd.R_drewN | apply Kd.R_drew)); exact HO182.out) hb); have n3_ := Aside0.mk (below_step (by repeat (first | (with_reducible first | exact HB.out | apply below_alloc | apply pw_below_drewN | apply below_drew1) | exact HB.out)) hb); clear HO174; clear HO178; clear HO182; clear HB; have HO174 := n0_; have HO178 := n1_; have HO182 := n2_; have HB := n3_; clear n0_ n1_ n2_ n3_; (try clear hb); (try clear hb2); (try clear hk); (try clear hi)) | (go_at_call 15; (with_reducible refine (deadboltlaw18_alive.calls  true _ A80.out).mono ?_); rintro e w114 ⟨rfl, hb⟩; have n0_ := Aside0.mk (Kd.R_below (by (with_reducible repeat (first | apply Kd.R_alloc | apply Kd.R_drewN | apply Kd.R_drew)); exact HO174.out) hb); have n1_ := Aside0.mk (Kd.R_below (by (with_reducible repeat (first | apply Kd.R_alloc | apply Kd.R_drewN | apply Kd.R_drew)); exact HO178.out) hb); have n2_ := Aside0.mk (Kd.R_below (by (with_reducible repeat (first | apply Kd.R_alloc | apply Kd.R_drewN | apply Kd.R_drew)); exact HO182.out) hb); have n3_ := Aside0.mk (below_step (by repeat (first | (with_reducible first | exact HB.out | apply below_alloc | apply pw_below_drewN | apply below_drew1) | exact HB.out)) hb); clear HO174; clear HO178; clear HO182; clear HB; have HO174 := n0_; have HO178 := n1_; have HO182 := n2_; have HB := n3_; clear n0_ n1_ n2_ n3_; (try clear hb); (try clear hb2); (try clear hk); (try clear hi)))
          repeat (go_quiet (first | (go_at_call 13; (with_reducible refine (deadboltlaw18_few.calls _ _ l0 t172 _ ?side1 ?side2 A3.out).mono ?_); (case side1 => repeat (first | exact HR0.out | (with_reducible refine Kd.C_alloc ?_ _) | (with_reducible refine Kd.C_drewN ?_ _) | (with_reducible refine Kd.C_drew ?_))); (case side2 => exact HC0.out); rintro e w109 ⟨v173, rfl, ho0, hb⟩; have n0_ := Aside0.mk (Kd.R_lower ho0 (below_size (by repeat (first | (with_reducible first | exact HB.out | apply below_alloc | apply pw_below_drewN | apply below_drew1) | exact HB.out)))); have n1_ := Aside0.mk (below_step (by repeat (first | (with_reducible first | exact HB.out | apply below_alloc | apply pw_below_drewN | apply below_drew1) | exact HB.out)) hb); clear HB; have HO174 := n0_; have HB := n1_; clear n0_ n1_; (try clear hb); (try clear hb2); (try clear hk); (try clear hi); (try clear ho0); obtain ⟨Ao110, co110, eo110⟩ := Kd.R_slice HO174.out; subst eo110) | (go_at_call 16; (with_reducible refine (judge_Held.calls _ _ t172 t175 t176 _ ?side1 ?side2 A4.out).mono ?_); (case side1 => repeat (first | exact (Kd.R_reads' HO174.out).2.2 | (with_reducible refine Kd.C_alloc ?_ _) | (with_reducible refine Kd.C_drewN ?_ _) | (with_reducible refine Kd.C_drew ?_))); (case side2 => exact (Kd.R_reads' HO174.out).2.1); rintro e w111 ⟨v177, rfl, ho0, hb⟩; have n0_ := Aside0.mk (Kd.R_below (by (with_reducible repeat (first | apply Kd.R_alloc | apply Kd.R_drewN | apply Kd.R_drew)); exact HO174.out) hb); have n1_ := Aside0.mk (Kd.R_lower ho0 (below_size (by repeat (first | (with_reducible first | exact HB.out | apply below_alloc | apply pw_below_drewN | apply below_drew1) | exact HB.out)))); have n2_ := Aside0.mk (below_step (by repeat (first | (with_reducible first | exact HB.out | apply below_alloc | apply pw_below_drewN | apply below_drew1) | exact HB.out)) hb); clear HO174; clear HB; have HO174 := n0_; have HO178 := n1_; have HB := n2_; clear n0_ n1_ n2_; (try clear hb); (try clear hb2); (try clear hk); (try clear hi); (try clear ho0)) | (go_at_call 17; (with_reducible refine (judge_Order.calls _ _ t172 (Int.tmod (wrap64 ((Int.tmod a1 4) + 4)) 4) t179 t180 _ ?side1 ?side2 A5.out).mono ?_); (case side1 => repeat (first | exact (Kd.R_reads' HO174.out).2.2 | (with_reducible refine Kd.C_alloc ?_ _) | (with_reducible refine Kd.C_drewN ?_ _) | (with_reducible refine Kd.C_drew ?_))); (case side2 => exact (Kd.R_reads' HO174.out).2.1); rintro e w112 ⟨v181, rfl, ho0, hb⟩; have n0_ := Aside0.mk (Kd.R_below (by (with_reducible repeat (first | apply Kd.R_alloc | apply Kd.R_drewN | apply Kd.R_drew)); exact HO174.out) hb); have n1_ := Aside0.mk (Kd.R_elder' (by (with_reducible repeat (first | apply Kd.R_alloc | apply Kd.R_drewN | apply Kd.R_drew)); exact HO178.out) (Kd.R_base ho0) hb); have n2_ := Aside0.mk (Kd.R_lower (Kd.R_new' ho0 (Kd.R_lt (by (with_reducible repeat (first | apply Kd.R_alloc | apply Kd.R_drewN | apply Kd.R_drew)); exact HO178.out))) (below_size (by repeat (first | (with_reducible first | exact HB.out | apply below_alloc | apply pw_below_drewN | apply below_drew1) | exact HB.out)))); have n3_ := Aside0.mk (below_step (by repeat (first | (with_reducible first | exact HB.out | apply below_alloc | apply pw_below_drewN | apply below_drew1) | exact HB.out)) hb); clear HO174; clear HO178; clear HB; have HO174 := n0_; have HO178 := n1_; have HO182 := n2_; have HB := n3_; clear n0_ n1_ n2_ n3_; (try clear hb); (try clear hb2); (try clear hk); (try clear hi); (try clear ho0)) | (go_at_call 18; (with_reducible refine (judge_Long.calls _ _ t172 (Int.tmod (wrap64 ((Int.tmod a1 4) + 4)) 4) t183 t184 _ ?side1 ?side2 A6.out).mono ?_); (case side1 => repeat (first | exact (Kd.R_reads' HO174.out).2.2 | (with_reducible refine Kd.C_alloc ?_ _) | (with_reducible refine Kd.C_drewN ?_ _) | (with_reducible refine Kd.C_drew ?_))); (case side2 => exact (Kd.R_reads' HO174.out).2.1); rintro e w113 ⟨rfl, hb⟩; have n0_ := Aside0.mk (Kd.R_below (by (with_reducible repeat (first | apply Kd.R_alloc | apply Kd.R_drewN | apply Kd.R_drew)); exact HO174.out) hb); have n1_ := Aside0.mk (Kd.R_below (by (with_reducible repeat (first | apply Kd.R_alloc | apply Kd.R_drewN | apply Kd.R_drew)); exact HO178.out) hb); have n2_ := Aside0.mk (Kd.R_below (by (with_reducible repeat (first | apply Kd.R_alloc | apply Kd.R_drewN | apply Kd.R_drew)); exact HO182.out) hb); have n3_ := Aside0.mk (below_step (by repeat (first | (with_reducible first | exact HB.out | apply below_alloc | apply pw_below_drewN | apply below_drew1) | exact HB.out)) hb); clear HO174; clear HO178; clear HO182; clear HB; have HO174 := n0_; have HO178 := n1_; have HO182 := n2_; have HB := n3_; clear n0_ n1_ n2_ n3_; (try clear hb); (try clear hb2); (try clear hk); (try clear hi)) | (go_at_call 15; (with_reducible refine (deadboltlaw18_alive.calls  true _ A80.out).mono ?_); rintro e w114 ⟨rfl, hb⟩; have n0_ := Aside0.mk (Kd.R_below (by (with_reducible repeat (first | apply Kd.R_alloc | apply Kd.R_drewN | apply Kd.R_drew)); exact HO174.out) hb); have n1_ := Aside0.mk (Kd.R_below (by (with_reducible repeat (first | apply Kd.R_alloc | apply Kd.R_drewN | apply Kd.R_drew)); exact HO178.out) hb); have n2_ := Aside0.mk (Kd.R_below (by (with_reducible repeat (first | apply Kd.R_alloc | apply Kd.R_drewN | apply Kd.R_drew)); exact HO182.out) hb); have n3_ := Aside0.mk (below_step (by repeat (first | (with_reducible first | exact HB.out | apply below_alloc | apply pw_below_drewN | apply below_drew1) | exact HB.out)) hb); clear HO174; clear HO178; clear HO182; clear HB; have HO174 := n0_; have HO178 := n1_; have HO182 := n2_; have HB := n3_; clear n0_ n1_ n2_ n3_; (try clear hb); (try clear hb2); (try clear hk); (try clear hi))); try go_wp2_with (first | (go_at_call 13; (with_reducible refine (deadboltlaw18_few.calls _ _ l0 t172 _ ?side1 ?side2 A3.out).mono ?_); (case side1 => repeat (first | exact HR0.out | (with_reducible refine Kd.C_alloc ?_ _) | (with_reducible refine Kd.C_drewN ?_ _) | (with_reducible refine Kd.C_drew ?_))); (case side2 => exact HC0.out); rintro e w109 ⟨v173, rfl, ho0, hb⟩; have n0_ := Aside0.mk (Kd.R_lower ho0 (below_size (by repeat (first | (with_reducible first | exact HB.out | apply below_alloc | apply pw_below_drewN | apply below_drew1) | exact HB.out)))); have n1_ := Aside0.mk (below_step (by repeat (first | (with_reducible first | exact HB.out | apply below_alloc | apply pw_below_drewN | apply below_drew1) | exact HB.out)) hb); clear HB; have HO174 := n0_; have HB := n1_; clear n0_ n1_; (try clear hb); (try clear hb2); (try clear hk); (try clear hi); (try clear ho0); obtain ⟨Ao110, co110, eo110⟩ := Kd.R_slice HO174.out; subst eo110) | (go_at_call 16; (with_reducible refine (judge_Held.calls _ _ t172 t175 t176 _ ?side1 ?side2 A4.out).mono ?_); (case side1 => repeat (first | exact (Kd.R_reads' HO174.out).2.2 | (with_reducible refine Kd.C_alloc ?_ _) | (with_reducible refine Kd.C_drewN ?_ _) | (with_reducible refine Kd.C_drew ?_))); (case side2 => exact (Kd.R_reads' HO174.out).2.1); rintro e w111 ⟨v177, rfl, ho0, hb⟩; have n0_ := Aside0.mk (Kd.R_below (by (with_reducible repeat (first | apply Kd.R_alloc | apply Kd.R_drewN | apply Kd.R_drew)); exact HO174.out) hb); have n1_ := Aside0.mk (Kd.R_lower ho0 (below_size (by repeat (first | (with_reducible first | exact HB.out | apply below_alloc | apply pw_below_drewN | apply below_drew1) | exact HB.out)))); have n2_ := Aside0.mk (below_step (by repeat (first | (with_reducible first | exact HB.out | apply below_alloc | apply pw_below_drewN | apply below_drew1) | exact HB.out)) hb); clear HO174; clear HB; have HO174 := n0_; have HO178 := n1_; have HB := n2_; clear n0_ n1_ n2_; (try clear hb); (try clear hb2); (try clear hk); (try clear hi); (try clear ho0)) | (go_at_call 17; (with_reducible refine (judge_Order.calls _ _ t172 (Int.tmod (wrap64 ((Int.tmod a1 4) + 4)) 4) t179 t180 _ ?side1 ?side2 A5.out).mono ?_); (case side1 => repeat (first | exact (Kd.R_reads' HO174.out).2.2 | (with_reducible refine Kd.C_alloc ?_ _) | (with_reducible refine Kd.C_drewN ?_ _) | (with_reducible refine Kd.C_drew ?_))); (case side2 => exact (Kd.R_reads' HO174.out).2.1); rintro e w112 ⟨v181, rfl, ho0, hb⟩; have n0_ := Aside0.mk (Kd.R_below (by (with_reducible repeat (first | apply Kd.R_alloc | apply Kd.R_drewN | apply Kd.R_drew)); exact HO174.out) hb); have n1_ := Aside0.mk (Kd.R_elder' (by (with_reducible repeat (first | apply Kd.R_alloc | apply Kd.R_drewN | apply Kd.R_drew)); exact HO178.out) (Kd.R_base ho0) hb); have n2_ := Aside0.mk (Kd.R_lower (Kd.R_new' ho0 (Kd.R_lt (by (with_reducible repeat (first | apply Kd.R_alloc | apply Kd.R_drewN | apply Kd.R_drew)); exact HO178.out))) (below_size (by repeat (first | (with_reducible first | exact HB.out | apply below_alloc | apply pw_below_drewN | apply below_drew1) | exact HB.out)))); have n3_ := Aside0.mk (below_step (by repeat (first | (with_reducible first | exact HB.out | apply below_alloc | apply pw_below_drewN | apply below_drew1) | exact HB.out)) hb); clear HO174; clear HO178; clear HB; have HO174 := n0_; have HO178 := n1_; have HO182 := n2_; have HB := n3_; clear n0_ n1_ n2_ n3_; (try clear hb); (try clear hb2); (try clear hk); (try clear hi); (try clear ho0)) | (go_at_call 18; (with_reducible refine (judge_Long.calls _ _ t172 (Int.tmod (wrap64 ((Int.tmod a1 4) + 4)) 4) t183 t184 _ ?side1 ?side2 A6.out).mono ?_); (case side1 => repeat (first | exact (Kd.R_reads' HO174.out).2.2 | (with_reducible refine Kd.C_alloc ?_ _) | (with_reducible refine Kd.C_drewN ?_ _) | (with_reducible refine Kd.C_drew ?_))); (case side2 => exact (Kd.R_reads' HO174.out).2.1); rintro e w113 ⟨rfl, hb⟩; have n0_ := Aside0.mk (Kd.R_below (by (with_reducible repeat (first | apply Kd.R_alloc | apply Kd.R_drewN | apply Kd.R_drew)); exact HO174.out) hb); have n1_ := Aside0.mk (Kd.R_below (by (with_reducible repeat (first | apply Kd.R_alloc | apply Kd.R_drewN | apply Kd.R_drew)); exact HO178.out) hb); have n2_ := Aside0.mk (Kd.R_below (by (with_reducible repeat (first | apply Kd.R_alloc | apply Kd.R_drewN | apply Kd.R_drew)); exact HO182.out) hb); have n3_ := Aside0.mk (below_step (by repeat (first | (with_reducible first | exact HB.out | apply below_alloc | apply pw_below_drewN | apply below_drew1) | exact HB.out)) hb); clear HO174; clear HO178; clear HO182; clear HB; have HO174 := n0_; have HO178 := n1_; have HO182 := n2_; have HB := n3_; clear n0_ n1_ n2_ n3_; (try clear hb); (try clear hb2); (try clear hk); (try clear hi)) | (go_at_call 15; (with_reducible refine (deadboltlaw18_alive.calls  true _ A80.out).mono ?_); rintro e w114 ⟨rfl, hb⟩; have n0_ := Aside0.mk (Kd.R_below (by (with_reducible repeat (first | apply Kd.R_alloc | apply Kd.R_drewN | apply Kd.R_drew)); exact HO174.out) hb); have n1_ := Aside0.mk (Kd.R_below (by (with_reducible repeat (first | apply Kd.R_alloc | apply Kd.R_drewN | apply Kd.R_drew)); exact HO178.out) hb); have n2_ := Aside0.mk (Kd.R_below (by (with_reducible repeat (first | apply Kd.R_alloc | apply Kd.R_drewN | apply Kd.R_drew)); exact HO182.out) hb); have n3_ := Aside0.mk (below_step (by repeat (first | (with_reducible first | exact HB.out | apply below_alloc | apply pw_below_drewN | apply below_drew1) | exact HB.out)) hb); clear HO174; clear HO178; clear HO182; clear HB; have HO174 := n0_; have HO178 := n1_; have HO182 := n2_; have HB := n3_; clear n0_ n1_ n2_ n3_; (try clear hb); (try clear hb2); (try clear hk); (try clear hi))))
          go_ret
          exact ⟨by first | rfl | (simp [errW_none, errW_some] <;> rfl) | (simp [*, errW_none, errW_some] <;> rfl), by repeat (first | (with_reducible first | exact HB.out | apply below_alloc | apply pw_below_drewN | apply below_drew1) | exact HB.out)⟩
      · rw [if_neg c82] at H
        have c82b0 : (t176 == t180) = false := beq_eq_false_iff_ne.mpr c82
        have c82b1 : (t176 != t180) = true := bne_iff_ne.mpr c82
        obtain rfl := Option.some.inj H
        go_enter Try.func5, Try.ntmps5
        go_wp2_with (first | (go_at_call 13; (with_reducible refine (deadboltlaw18_few.calls _ _ l0 t172 _ ?side1 ?side2 A3.out).mono ?_); (case side1 => repeat (first | exact HR0.out | (with_reducible refine Kd.C_alloc ?_ _) | (with_reducible refine Kd.C_drewN ?_ _) | (with_reducible refine Kd.C_drew ?_))); (case side2 => exact HC0.out); rintro e w115 ⟨v173, rfl, ho0, hb⟩; have n0_ := Aside0.mk (Kd.R_lower ho0 (below_size (by repeat (first | (with_reducible first | exact HB.out | apply below_alloc | apply pw_below_drewN | apply below_drew1) | exact HB.out)))); have n1_ := Aside0.mk (below_step (by repeat (first | (with_reducible first | exact HB.out | apply below_alloc | apply pw_below_drewN | apply below_drew1) | exact HB.out)) hb); clear HB; have HO174 := n0_; have HB := n1_; clear n0_ n1_; (try clear hb); (try clear hb2); (try clear hk); (try clear hi); (try clear ho0); obtain ⟨Ao116, co116, eo116⟩ := Kd.R_slice HO174.out; subst eo116) | (go_at_call 16; (with_reducible refine (judge_Held.calls _ _ t172 t175 t176 _ ?side1 ?side2 A4.out).mono ?_); (case side1 => repeat (first | exact (Kd.R_reads' HO174.out).2.2 | (with_reducible refine Kd.C_alloc ?_ _) | (with_reducible refine Kd.C_drewN ?_ _) | (with_reducible refine Kd.C_drew ?_))); (case side2 => exact (Kd.R_reads' HO174.out).2.1); rintro e w117 ⟨v177, rfl, ho0, hb⟩; have n0_ := Aside0.mk (Kd.R_below (by (with_reducible repeat (first | apply Kd.R_alloc | apply Kd.R_drewN | apply Kd.R_drew)); exact HO174.out) hb); have n1_ := Aside0.mk (Kd.R_lower ho0 (below_size (by repeat (first | (with_reducible first | exact HB.out | apply below_alloc | apply pw_below_drewN | apply below_drew1) | exact HB.out)))); have n2_ := Aside0.mk (below_step (by repeat (first | (with_reducible first | exact HB.out | apply below_alloc | apply pw_below_drewN | apply below_drew1) | exact HB.out)) hb); clear HO174; clear HB; have HO174 := n0_; have HO178 := n1_; have HB := n2_; clear n0_ n1_ n2_; (try clear hb); (try clear hb2); (try clear hk); (try clear hi); (try clear ho0)) | (go_at_call 17; (with_reducible refine (judge_Order.calls _ _ t172 (Int.tmod (wrap64 ((Int.tmod a1 4) + 4)) 4) t179 t180 _ ?side1 ?side2 A5.out).mono ?_); (case side1 => repeat (first | exact (Kd.R_reads' HO174.out).2.2 | (with_reducible refine Kd.C_alloc ?_ _) | (with_reducible refine Kd.C_drewN ?_ _) | (with_reducible refine Kd.C_drew ?_))); (case side2 => exact (Kd.R_reads' HO174.out).2.1); rintro e w118 ⟨v181, rfl, ho0, hb⟩; have n0_ := Aside0.mk (Kd.R_below (by (with_reducible repeat (first | apply Kd.R_alloc | apply Kd.R_drewN | apply Kd.R_drew)); exact HO174.out) hb); have n1_ := Aside0.mk (Kd.R_elder' (by (with_reducible repeat (first | apply Kd.R_alloc | apply Kd.R_drewN | apply Kd.R_drew)); exact HO178.out) (Kd.R_base ho0) hb); have n2_ := Aside0.mk (Kd.R_lower (Kd.R_new' ho0 (Kd.R_lt (by (with_reducible repeat (first | apply Kd.R_alloc | apply Kd.R_drewN | apply Kd.R_drew)); exact HO178.out))) (below_size (by repeat (first | (with_reducible first | exact HB.out | apply below_alloc | apply pw_below_drewN | apply below_drew1) | exact HB.out)))); have n3_ := Aside0.mk (below_step (by repeat (first | (with_reducible first | exact HB.out | apply below_alloc | apply pw_below_drewN | apply below_drew1) | exact HB.out)) hb); clear HO174; clear HO178; clear HB; have HO174 := n0_; have HO178 := n1_; have HO182 := n2_; have HB := n3_; clear n0_ n1_ n2_ n3_; (try clear hb); (try clear hb2); (try clear hk); (try clear hi); (try clear ho0)) | (go_at_call 18; (with_reducible refine (judge_Long.calls _ _ t172 (Int.tmod (wrap64 ((Int.tmod a1 4) + 4)) 4) t183 t184 _ ?side1 ?side2 A6.out).mono ?_); (case side1 => repeat (first | exact (Kd.R_reads' HO174.out).2.2 | (with_reducible refine Kd.C_alloc ?_ _) | (with_reducible refine Kd.C_drewN ?_ _) | (with_reducible refine Kd.C_drew ?_))); (case side2 => exact (Kd.R_reads' HO174.out).2.1); rintro e w119 ⟨rfl, hb⟩; have n0_ := Aside0.mk (Kd.R_below (by (with_reducible repeat (first | apply Kd.R_alloc | apply Kd.R_drewN | apply Kd.R_drew)); exact HO174.out) hb); have n1_ := Aside0.mk (Kd.R_below (by (with_reducible repeat (first | apply Kd.R_alloc | apply Kd.R_drewN | apply Kd.R_drew)); exact HO178.out) hb); have n2_ := Aside0.mk (Kd.R_below (by (with_reducible repeat (first | apply Kd.R_alloc | apply Kd.R_drewN | apply Kd.R_drew)); exact HO182.out) hb); have n3_ := Aside0.mk (below_step (by repeat (first | (with_reducible first | exact HB.out | apply below_alloc | apply pw_below_drewN | apply below_drew1) | exact HB.out)) hb); clear HO174; clear HO178; clear HO182; clear HB; have HO174 := n0_; have HO178 := n1_; have HO182 := n2_; have HB := n3_; clear n0_ n1_ n2_ n3_; (try clear hb); (try clear hb2); (try clear hk); (try clear hi)) | (go_at_call 15; (with_reducible refine (deadboltlaw18_alive.calls  true _ A80.out).mono ?_); rintro e w120 ⟨rfl, hb⟩; have n0_ := Aside0.mk (Kd.R_below (by (with_reducible repeat (first | apply Kd.R_alloc | apply Kd.R_drewN | apply Kd.R_drew)); exact HO174.out) hb); have n1_ := Aside0.mk (Kd.R_below (by (with_reducible repeat (first | apply Kd.R_alloc | apply Kd.R_drewN | apply Kd.R_drew)); exact HO178.out) hb); have n2_ := Aside0.mk (Kd.R_below (by (with_reducible repeat (first | apply Kd.R_alloc | apply Kd.R_drewN | apply Kd.R_drew)); exact HO182.out) hb); have n3_ := Aside0.mk (below_step (by repeat (first | (with_reducible first | exact HB.out | apply below_alloc | apply pw_below_drewN | apply below_drew1) | exact HB.out)) hb); clear HO174; clear HO178; clear HO182; clear HB; have HO174 := n0_; have HO178 := n1_; have HO182 := n2_; have HB := n3_; clear n0_ n1_ n2_ n3_; (try clear hb); (try clear hb2); (try clear hk); (try clear hi)))
        repeat (go_quiet (first | (go_at_call 13; (with_reducible refine (deadboltlaw18_few.calls _ _ l0 t172 _ ?side1 ?side2 A3.out).mono ?_); (case side1 => repeat (first | exact HR0.out | (with_reducible refine Kd.C_alloc ?_ _) | (with_reducible refine Kd.C_drewN ?_ _) | (with_reducible refine Kd.C_drew ?_))); (case side2 => exact HC0.out); rintro e w115 ⟨v173, rfl, ho0, hb⟩; have n0_ := Aside0.mk (Kd.R_lower ho0 (below_size (by repeat (first | (with_reducible first | exact HB.out | apply below_alloc | apply pw_below_drewN | apply below_drew1) | exact HB.out)))); have n1_ := Aside0.mk (below_step (by repeat (first | (with_reducible first | exact HB.out | apply below_alloc | apply pw_below_drewN | apply below_drew1) | exact HB.out)) hb); clear HB; have HO174 := n0_; have HB := n1_; clear n0_ n1_; (try clear hb); (try clear hb2); (try clear hk); (try clear hi); (try clear ho0); obtain ⟨Ao116, co116, eo116⟩ := Kd.R_slice HO174.out; subst eo116) | (go_at_call 16; (with_reducible refine (judge_Held.calls _ _ t172 t175 t176 _ ?side1 ?side2 A4.out).mono ?_); (case side1 => repeat (first | exact (Kd.R_reads' HO174.out).2.2 | (with_reducible refine Kd.C_alloc ?_ _) | (with_reducible refine Kd.C_drewN ?_ _) | (with_reducible refine Kd.C_drew ?_))); (case side2 => exact (Kd.R_reads' HO174.out).2.1); rintro e w117 ⟨v177, rfl, ho0, hb⟩; have n0_ := Aside0.mk (Kd.R_below (by (with_reducible repeat (first | apply Kd.R_alloc | apply Kd.R_drewN | apply Kd.R_drew)); exact HO174.out) hb); have n1_ := Aside0.mk (Kd.R_lower ho0 (below_size (by repeat (first | (with_reducible first | exact HB.out | apply below_alloc | apply pw_below_drewN | apply below_drew1) | exact HB.out)))); have n2_ := Aside0.mk (below_step (by repeat (first | (with_reducible first | exact HB.out | apply below_alloc | apply pw_below_drewN | apply below_drew1) | exact HB.out)) hb); clear HO174; clear HB; have HO174 := n0_; have HO178 := n1_; have HB := n2_; clear n0_ n1_ n2_; (try clear hb); (try clear hb2); (try clear hk); (try clear hi); (try clear ho0)) | (go_at_call 17; (with_reducible refine (judge_Order.calls _ _ t172 (Int.tmod (wrap64 ((Int.tmod a1 4) + 4)) 4) t179 t180 _ ?side1 ?side2 A5.out).mono ?_); (case side1 => repeat (first | exact (Kd.R_reads' HO174.out).2.2 | (with_reducible refine Kd.C_alloc ?_ _) | (with_reducible refine Kd.C_drewN ?_ _) | (with_reducible refine Kd.C_drew ?_))); (case side2 => exact (Kd.R_reads' HO174.out).2.1); rintro e w118 ⟨v181, rfl, ho0, hb⟩; have n0_ := Aside0.mk (Kd.R_below (by (with_reducible repeat (first | apply Kd.R_alloc | apply Kd.R_drewN | apply Kd.R_drew)); exact HO174.out) hb); have n1_ := Aside0.mk (Kd.R_elder' (by (with_reducible repeat (first | apply Kd.R_alloc | apply Kd.R_drewN | apply Kd.R_drew)); exact HO178.out) (Kd.R_base ho0) hb); have n2_ := Aside0.mk (Kd.R_lower (Kd.R_new' ho0 (Kd.R_lt (by (with_reducible repeat (first | apply Kd.R_alloc | apply Kd.R_drewN | apply Kd.R_drew)); exact HO178.out))) (below_size (by repeat (first | (with_reducible first | exact HB.out | apply below_alloc | apply pw_below_drewN | apply below_drew1) | exact HB.out)))); have n3_ := Aside0.mk (below_step (by repeat (first | (with_reducible first | exact HB.out | apply below_alloc | apply pw_below_drewN | apply below_drew1) | exact HB.out)) hb); clear HO174; clear HO178; clear HB; have HO174 := n0_; have HO178 := n1_; have HO182 := n2_; have HB := n3_; clear n0_ n1_ n2_ n3_; (try clear hb); (try clear hb2); (try clear hk); (try clear hi); (try clear ho0)) | (go_at_call 18; (with_reducible refine (judge_Long.calls _ _ t172 (Int.tmod (wrap64 ((Int.tmod a1 4) + 4)) 4) t183 t184 _ ?side1 ?side2 A6.out).mono ?_); (case side1 => repeat (first | exact (Kd.R_reads' HO174.out).2.2 | (with_reducible refine Kd.C_alloc ?_ _) | (with_reducible refine Kd.C_drewN ?_ _) | (with_reducible refine Kd.C_drew ?_))); (case side2 => exact (Kd.R_reads' HO174.out).2.1); rintro e w119 ⟨rfl, hb⟩; have n0_ := Aside0.mk (Kd.R_below (by (with_reducible repeat (first | apply Kd.R_alloc | apply Kd.R_drewN | apply Kd.R_drew)); exact HO174.out) hb); have n1_ := Aside0.mk (Kd.R_below (by (with_reducible repeat (first | apply Kd.R_alloc | apply Kd.R_drewN | apply Kd.R_drew)); exact HO178.out) hb); have n2_ := Aside0.mk (Kd.R_below (by (with_reducible repeat (first | apply Kd.R_alloc | apply Kd.R_drewN | apply Kd.R_drew)); exact HO182.out) hb); have n3_ := Aside0.mk (below_step (by repeat (first | (with_reducible first | exact HB.out | apply below_alloc | apply pw_below_drewN | apply below_drew1) | exact HB.out)) hb); clear HO174; clear HO178; clear HO182; clear HB; have HO174 := n0_; have HO178 := n1_; have HO182 := n2_; have HB := n3_; clear n0_ n1_ n2_ n3_; (try clear hb); (try clear hb2); (try clear hk); (try clear hi)) | (go_at_call 15; (with_reducible refine (deadboltlaw18_alive.calls  true _ A80.out).mono ?_); rintro e w120 ⟨rfl, hb⟩; have n0_ := Aside0.mk (Kd.R_below (by (with_reducible repeat (first | apply Kd.R_alloc | apply Kd.R_drewN | apply Kd.R_drew)); exact HO174.out) hb); have n1_ := Aside0.mk (Kd.R_below (by (with_reducible repeat (first | apply Kd.R_alloc | apply Kd.R_drewN | apply Kd.R_drew)); exact HO178.out) hb); have n2_ := Aside0.mk (Kd.R_below (by (with_reducible repeat (first | apply Kd.R_alloc | apply Kd.R_drewN | apply Kd.R_drew)); exact HO182.out) hb); have n3_ := Aside0.mk (below_step (by repeat (first | (with_reducible first | exact HB.out | apply below_alloc | apply pw_below_drewN | apply below_drew1) | exact HB.out)) hb); clear HO174; clear HO178; clear HO182; clear HB; have HO174 := n0_; have HO178 := n1_; have HO182 := n2_; have HB := n3_; clear n0_ n1_ n2_ n3_; (try clear hb); (try clear hb2); (try clear hk); (try clear hi))); try go_wp2_with (first | (go_at_call 13; (with_reducible refine (deadboltlaw18_few.calls _ _ l0 t172 _ ?side1 ?side2 A3.out).mono ?_); (case side1 => repeat (first | exact HR0.out | (with_reducible refine Kd.C_alloc ?_ _) | (with_reducible refine Kd.C_drewN ?_ _) | (with_reducible refine Kd.C_drew ?_))); (case side2 => exact HC0.out); rintro e w115 ⟨v173, rfl, ho0, hb⟩; have n0_ := Aside0.mk (Kd.R_lower ho0 (below_size (by repeat (first | (with_reducible first | exact HB.out | apply below_alloc | apply pw_below_drewN | apply below_drew1) | exact HB.out)))); have n1_ := Aside0.mk (below_step (by repeat (first | (with_reducible first | exact HB.out | apply below_alloc | apply pw_below_drewN | apply below_drew1) | exact HB.out)) hb); clear HB; have HO174 := n0_; have HB := n1_; clear n0_ n1_; (try clear hb); (try clear hb2); (try clear hk); (try clear hi); (try clear ho0); obtain ⟨Ao116, co116, eo116⟩ := Kd.R_slice HO174.out; subst eo116) | (go_at_call 16; (with_reducible refine (judge_Held.calls _ _ t172 t175 t176 _ ?side1 ?side2 A4.out).mono ?_); (case side1 => repeat (first | exact (Kd.R_reads' HO174.out).2.2 | (with_reducible refine Kd.C_alloc ?_ _) | (with_reducible refine Kd.C_drewN ?_ _) | (with_reducible refine Kd.C_drew ?_))); (case side2 => exact (Kd.R_reads' HO174.out).2.1); rintro e w117 ⟨v177, rfl, ho0, hb⟩; have n0_ := Aside0.mk (Kd.R_below (by (with_reducible repeat (first | apply Kd.R_alloc | apply Kd.R_drewN | apply Kd.R_drew)); exact HO174.out) hb); have n1_ := Aside0.mk (Kd.R_lower ho0 (below_size (by repeat (first | (with_reducible first | exact HB.out | apply below_alloc | apply pw_below_drewN | apply below_drew1) | exact HB.out)))); have n2_ := Aside0.mk (below_step (by repeat (first | (with_reducible first | exact HB.out | apply below_alloc | apply pw_below_drewN | apply below_drew1) | exact HB.out)) hb); clear HO174; clear HB; have HO174 := n0_; have HO178 := n1_; have HB := n2_; clear n0_ n1_ n2_; (try clear hb); (try clear hb2); (try clear hk); (try clear hi); (try clear ho0)) | (go_at_call 17; (with_reducible refine (judge_Order.calls _ _ t172 (Int.tmod (wrap64 ((Int.tmod a1 4) + 4)) 4) t179 t180 _ ?side1 ?side2 A5.out).mono ?_); (case side1 => repeat (first | exact (Kd.R_reads' HO174.out).2.2 | (with_reducible refine Kd.C_alloc ?_ _) | (with_reducible refine Kd.C_drewN ?_ _) | (with_reducible refine Kd.C_drew ?_))); (case side2 => exact (Kd.R_reads' HO174.out).2.1); rintro e w118 ⟨v181, rfl, ho0, hb⟩; have n0_ := Aside0.mk (Kd.R_below (by (with_reducible repeat (first | apply Kd.R_alloc | apply Kd.R_drewN | apply Kd.R_drew)); exact HO174.out) hb); have n1_ := Aside0.mk (Kd.R_elder' (by (with_reducible repeat (first | apply Kd.R_alloc | apply Kd.R_drewN | apply Kd.R_drew)); exact HO178.out) (Kd.R_base ho0) hb); have n2_ := Aside0.mk (Kd.R_lower (Kd.R_new' ho0 (Kd.R_lt (by (with_reducible repeat (first | apply Kd.R_alloc | apply Kd.R_drewN | apply Kd.R_drew)); exact HO178.out))) (below_size (by repeat (first | (with_reducible first | exact HB.out | apply below_alloc | apply pw_below_drewN | apply below_drew1) | exact HB.out)))); have n3_ := Aside0.mk (below_step (by repeat (first | (with_reducible first | exact HB.out | apply below_alloc | apply pw_below_drewN | apply below_drew1) | exact HB.out)) hb); clear HO174; clear HO178; clear HB; have HO174 := n0_; have HO178 := n1_; have HO182 := n2_; have HB := n3_; clear n0_ n1_ n2_ n3_; (try clear hb); (try clear hb2); (try clear hk); (try clear hi); (try clear ho0)) | (go_at_call 18; (with_reducible refine (judge_Long.calls _ _ t172 (Int.tmod (wrap64 ((Int.tmod a1 4) + 4)) 4) t183 t184 _ ?side1 ?side2 A6.out).mono ?_); (case side1 => repeat (first | exact (Kd.R_reads' HO174.out).2.2 | (with_reducible refine Kd.C_alloc ?_ _) | (with_reducible refine Kd.C_drewN ?_ _) | (with_reducible refine Kd.C_drew ?_))); (case side2 => exact (Kd.R_reads' HO174.out).2.1); rintro e w119 ⟨rfl, hb⟩; have n0_ := Aside0.mk (Kd.R_below (by (with_reducible repeat (first | apply Kd.R_alloc | apply Kd.R_drewN | apply Kd.R_drew)); exact HO174.out) hb); have n1_ := Aside0.mk (Kd.R_below (by (with_reducible repeat (first | apply Kd.R_alloc | apply Kd.R_drewN | apply Kd.R_drew)); exact HO178.out) hb); have n2_ := Aside0.mk (Kd.R_below (by (with_reducible repeat (first | apply Kd.R_alloc | apply Kd.R_drewN | apply Kd.R_drew)); exact HO182.out) hb); have n3_ := Aside0.mk (below_step (by repeat (first | (with_reducible first | exact HB.out | apply below_alloc | apply pw_below_drewN | apply below_drew1) | exact HB.out)) hb); clear HO174; clear HO178; clear HO182; clear HB; have HO174 := n0_; have HO178 := n1_; have HO182 := n2_; have HB := n3_; clear n0_ n1_ n2_ n3_; (try clear hb); (try clear hb2); (try clear hk); (try clear hi)) | (go_at_call 15; (with_reducible refine (deadboltlaw18_alive.calls  true _ A80.out).mono ?_); rintro e w120 ⟨rfl, hb⟩; have n0_ := Aside0.mk (Kd.R_below (by (with_reducible repeat (first | apply Kd.R_alloc | apply Kd.R_drewN | apply Kd.R_drew)); exact HO174.out) hb); have n1_ := Aside0.mk (Kd.R_below (by (with_reducible repeat (first | apply Kd.R_alloc | apply Kd.R_drewN | apply Kd.R_drew)); exact HO178.out) hb); have n2_ := Aside0.mk (Kd.R_below (by (with_reducible repeat (first | apply Kd.R_alloc | apply Kd.R_drewN | apply Kd.R_drew)); exact HO182.out) hb); have n3_ := Aside0.mk (below_step (by repeat (first | (with_reducible first | exact HB.out | apply below_alloc | apply pw_below_drewN | apply below_drew1) | exact HB.out)) hb); clear HO174; clear HO178; clear HO182; clear HB; have HO174 := n0_; have HO178 := n1_; have HO182 := n2_; have HB := n3_; clear n0_ n1_ n2_ n3_; (try clear hb); (try clear hb2); (try clear hk); (try clear hi))))
        go_ret
        exact ⟨by first | rfl | (simp [errW_none, errW_some] <;> rfl) | (simp [*, errW_none, errW_some] <;> rfl), by repeat (first | (with_reducible first | exact HB.out | apply below_alloc | apply pw_below_drewN | apply below_drew1) | exact HB.out)⟩
    · replace c81 := Bool.eq_false_iff.mpr c81
      subst c81
      have H1 : (some false) = some r := by rw [if_neg (show ¬ (false = true) by decide)] at H; exact H
      clear H
      have H := H1
      clear H1
      obtain rfl := Option.some.inj H
      go_enter Try.func5, Try.ntmps5
      go_wp2_with (first | (go_at_call 13; (with_reducible refine (deadboltlaw18_few.calls _ _ l0 t172 _ ?side1 ?side2 A3.out).mono ?_); (case side1 => repeat (first | exact HR0.out | (with_reducible refine Kd.C_alloc ?_ _) | (with_reducible refine Kd.C_drewN ?_ _) | (with_reducible refine Kd.C_drew ?_))); (case side2 => exact HC0.out); rintro e w121 ⟨v173, rfl, ho0, hb⟩; have n0_ := Aside0.mk (Kd.R_lower ho0 (below_size (by repeat (first | (with_reducible first | exact HB.out | apply below_alloc | apply pw_below_drewN | apply below_drew1) | exact HB.out)))); have n1_ := Aside0.mk (below_step (by repeat (first | (with_reducible first | exact HB.out | apply below_alloc | apply pw_below_drewN | apply below_drew1) | exact HB.out)) hb); clear HB; have HO174 := n0_; have HB := n1_; clear n0_ n1_; (try clear hb); (try clear hb2); (try clear hk); (try clear hi); (try clear ho0); obtain ⟨Ao122, co122, eo122⟩ := Kd.R_slice HO174.out; subst eo122) | (go_at_call 16; (with_reducible refine (judge_Held.calls _ _ t172 t175 t176 _ ?side1 ?side2 A4.out).mono ?_); (case side1 => repeat (first | exact (Kd.R_reads' HO174.out).2.2 | (with_reducible refine Kd.C_alloc ?_ _) | (with_reducible refine Kd.C_drewN ?_ _) | (with_reducible refine Kd.C_drew ?_))); (case side2 => exact (Kd.R_reads' HO174.out).2.1); rintro e w123 ⟨v177, rfl, ho0, hb⟩; have n0_ := Aside0.mk (Kd.R_below (by (with_reducible repeat (first | apply Kd.R_alloc | apply Kd.R_drewN | apply Kd.R_drew)); exact HO174.out) hb); have n1_ := Aside0.mk (Kd.R_lower ho0 (below_size (by repeat (first | (with_reducible first | exact HB.out | apply below_alloc | apply pw_below_drewN | apply below_drew1) | exact HB.out)))); have n2_ := Aside0.mk (below_step (by repeat (first | (with_reducible first | exact HB.out | apply below_alloc | apply pw_below_drewN | apply below_drew1) | exact HB.out)) hb); clear HO174; clear HB; have HO174 := n0_; have HO178 := n1_; have HB := n2_; clear n0_ n1_ n2_; (try clear hb); (try clear hb2); (try clear hk); (try clear hi); (try clear ho0)) | (go_at_call 17; (with_reducible refine (judge_Order.calls _ _ t172 (Int.tmod (wrap64 ((Int.tmod a1 4) + 4)) 4) t179 t180 _ ?side1 ?side2 A5.out).mono ?_); (case side1 => repeat (first | exact (Kd.R_reads' HO174.out).2.2 | (with_reducible refine Kd.C_alloc ?_ _) | (with_reducible refine Kd.C_drewN ?_ _) | (with_reducible refine Kd.C_drew ?_))); (case side2 => exact (Kd.R_reads' HO174.out).2.1); rintro e w124 ⟨v181, rfl, ho0, hb⟩; have n0_ := Aside0.mk (Kd.R_below (by (with_reducible repeat (first | apply Kd.R_alloc | apply Kd.R_drewN | apply Kd.R_drew)); exact HO174.out) hb); have n1_ := Aside0.mk (Kd.R_elder' (by (with_reducible repeat (first | apply Kd.R_alloc | apply Kd.R_drewN | apply Kd.R_drew)); exact HO178.out) (Kd.R_base ho0) hb); have n2_ := Aside0.mk (Kd.R_lower (Kd.R_new' ho0 (Kd.R_lt (by (with_reducible repeat (first | apply Kd.R_alloc | apply Kd.R_drewN | apply Kd.R_drew)); exact HO178.out))) (below_size (by repeat (first | (with_reducible first | exact HB.out | apply below_alloc | apply pw_below_drewN | apply below_drew1) | exact HB.out)))); have n3_ := Aside0.mk (below_step (by repeat (first | (with_reducible first | exact HB.out | apply below_alloc | apply pw_below_drewN | apply below_drew1) | exact HB.out)) hb); clear HO174; clear HO178; clear HB; have HO174 := n0_; have HO178 := n1_; have HO182 := n2_; have HB := n3_; clear n0_ n1_ n2_ n3_; (try clear hb); (try clear hb2); (try clear hk); (try clear hi); (try clear ho0)) | (go_at_call 18; (with_reducible refine (judge_Long.calls _ _ t172 (Int.tmod (wrap64 ((Int.tmod a1 4) + 4)) 4) t183 t184 _ ?side1 ?side2 A6.out).mono ?_); (case side1 => repeat (first | exact (Kd.R_reads' HO174.out).2.2 | (with_reducible refine Kd.C_alloc ?_ _) | (with_reducible refine Kd.C_drewN ?_ _) | (with_reducible refine Kd.C_drew ?_))); (case side2 => exact (Kd.R_reads' HO174.out).2.1); rintro e w125 ⟨rfl, hb⟩; have n0_ := Aside0.mk (Kd.R_below (by (with_reducible repeat (first | apply Kd.R_alloc | apply Kd.R_drewN | apply Kd.R_drew)); exact HO174.out) hb); have n1_ := Aside0.mk (Kd.R_below (by (with_reducible repeat (first | apply Kd.R_alloc | apply Kd.R_drewN | apply Kd.R_drew)); exact HO178.out) hb); have n2_ := Aside0.mk (Kd.R_below (by (with_reducible repeat (first | apply Kd.R_alloc | apply Kd.R_drewN | apply Kd.R_drew)); exact HO182.out) hb); have n3_ := Aside0.mk (below_step (by repeat (first | (with_reducible first | exact HB.out | apply below_alloc | apply pw_below_drewN | apply below_drew1) | exact HB.out)) hb); clear HO174; clear HO178; clear HO182; clear HB; have HO174 := n0_; have HO178 := n1_; have HO182 := n2_; have HB := n3_; clear n0_ n1_ n2_ n3_; (try clear hb); (try clear hb2); (try clear hk); (try clear hi)) | (go_at_call 15; (with_reducible refine (deadboltlaw18_alive.calls  false _ A80.out).mono ?_); rintro e w126 ⟨rfl, hb⟩; have n0_ := Aside0.mk (Kd.R_below (by (with_reducible repeat (first | apply Kd.R_alloc | apply Kd.R_drewN | apply Kd.R_drew)); exact HO174.out) hb); have n1_ := Aside0.mk (Kd.R_below (by (with_reducible repeat (first | apply Kd.R_alloc | apply Kd.R_drewN | apply Kd.R_drew)); exact HO178.out) hb); have n2_ := Aside0.mk (Kd.R_below (by (with_reducible repeat (first | apply Kd.R_alloc | apply Kd.R_drewN | apply Kd.R_drew)); exact HO182.out) hb); have n3_ := Aside0.mk (below_step (by repeat (first | (with_reducible first | exact HB.out | apply below_alloc | apply pw_below_drewN | apply below_drew1) | exact HB.out)) hb); clear HO174; clear HO178; clear HO182; clear HB; have HO174 := n0_; have HO178 := n1_; have HO182 := n2_; have HB := n3_; clear n0_ n1_ n2_ n3_; (try clear hb); (try clear hb2); (try clear hk); (try clear hi)))
      repeat (go_quiet (first | (go_at_call 13; (with_reducible refine (deadboltlaw18_few.calls _ _ l0 t172 _ ?side1 ?side2 A3.out).mono ?_); (case side1 => repeat (first | exact HR0.out | (with_reducible refine Kd.C_alloc ?_ _) | (with_reducible refine Kd.C_drewN ?_ _) | (with_reducible refine Kd.C_drew ?_))); (case side2 => exact HC0.out); rintro e w121 ⟨v173, rfl, ho0, hb⟩; have n0_ := Aside0.mk (Kd.R_lower ho0 (below_size (by repeat (first | (with_reducible first | exact HB.out | apply below_alloc | apply pw_below_drewN | apply below_drew1) | exact HB.out)))); have n1_ := Aside0.mk (below_step (by repeat (first | (with_reducible first | exact HB.out | apply below_alloc | apply pw_below_drewN | apply below_drew1) | exact HB.out)) hb); clear HB; have HO174 := n0_; have HB := n1_; clear n0_ n1_; (try clear hb); (try clear hb2); (try clear hk); (try clear hi); (try clear ho0); obtain ⟨Ao122, co122, eo122⟩ := Kd.R_slice HO174.out; subst eo122) | (go_at_call 16; (with_reducible refine (judge_Held.calls _ _ t172 t175 t176 _ ?side1 ?side2 A4.out).mono ?_); (case side1 => repeat (first | exact (Kd.R_reads' HO174.out).2.2 | (with_reducible refine Kd.C_alloc ?_ _) | (with_reducible refine Kd.C_drewN ?_ _) | (with_reducible refine Kd.C_drew ?_))); (case side2 => exact (Kd.R_reads' HO174.out).2.1); rintro e w123 ⟨v177, rfl, ho0, hb⟩; have n0_ := Aside0.mk (Kd.R_below (by (with_reducible repeat (first | apply Kd.R_alloc | apply Kd.R_drewN | apply Kd.R_drew)); exact HO174.out) hb); have n1_ := Aside0.mk (Kd.R_lower ho0 (below_size (by repeat (first | (with_reducible first | exact HB.out | apply below_alloc | apply pw_below_drewN | apply below_drew1) | exact HB.out)))); have n2_ := Aside0.mk (below_step (by repeat (first | (with_reducible first | exact HB.out | apply below_alloc | apply pw_below_drewN | apply below_drew1) | exact HB.out)) hb); clear HO174; clear HB; have HO174 := n0_; have HO178 := n1_; have HB := n2_; clear n0_ n1_ n2_; (try clear hb); (try clear hb2); (try clear hk); (try clear hi); (try clear ho0)) | (go_at_call 17; (with_reducible refine (judge_Order.calls _ _ t172 (Int.tmod (wrap64 ((Int.tmod a1 4) + 4)) 4) t179 t180 _ ?side1 ?side2 A5.out).mono ?_); (case side1 => repeat (first | exact (Kd.R_reads' HO174.out).2.2 | (with_reducible refine Kd.C_alloc ?_ _) | (with_reducible refine Kd.C_drewN ?_ _) | (with_reducible refine Kd.C_drew ?_))); (case side2 => exact (Kd.R_reads' HO174.out).2.1); rintro e w124 ⟨v181, rfl, ho0, hb⟩; have n0_ := Aside0.mk (Kd.R_below (by (with_reducible repeat (first | apply Kd.R_alloc | apply Kd.R_drewN | apply Kd.R_drew)); exact HO174.out) hb); have n1_ := Aside0.mk (Kd.R_elder' (by (with_reducible repeat (first | apply Kd.R_alloc | apply Kd.R_drewN | apply Kd.R_drew)); exact HO178.out) (Kd.R_base ho0) hb); have n2_ := Aside0.mk (Kd.R_lower (Kd.R_new' ho0 (Kd.R_lt (by (with_reducible repeat (first | apply Kd.R_alloc | apply Kd.R_drewN | apply Kd.R_drew)); exact HO178.out))) (below_size (by repeat (first | (with_reducible first | exact HB.out | apply below_alloc | apply pw_below_drewN | apply below_drew1) | exact HB.out)))); have n3_ := Aside0.mk (below_step (by repeat (first | (with_reducible first | exact HB.out | apply below_alloc | apply pw_below_drewN | apply below_drew1) | exact HB.out)) hb); clear HO174; clear HO178; clear HB; have HO174 := n0_; have HO178 := n1_; have HO182 := n2_; have HB := n3_; clear n0_ n1_ n2_ n3_; (try clear hb); (try clear hb2); (try clear hk); (try clear hi); (try clear ho0)) | (go_at_call 18; (with_reducible refine (judge_Long.calls _ _ t172 (Int.tmod (wrap64 ((Int.tmod a1 4) + 4)) 4) t183 t184 _ ?side1 ?side2 A6.out).mono ?_); (case side1 => repeat (first | exact (Kd.R_reads' HO174.out).2.2 | (with_reducible refine Kd.C_alloc ?_ _) | (with_reducible refine Kd.C_drewN ?_ _) | (with_reducible refine Kd.C_drew ?_))); (case side2 => exact (Kd.R_reads' HO174.out).2.1); rintro e w125 ⟨rfl, hb⟩; have n0_ := Aside0.mk (Kd.R_below (by (with_reducible repeat (first | apply Kd.R_alloc | apply Kd.R_drewN | apply Kd.R_drew)); exact HO174.out) hb); have n1_ := Aside0.mk (Kd.R_below (by (with_reducible repeat (first | apply Kd.R_alloc | apply Kd.R_drewN | apply Kd.R_drew)); exact HO178.out) hb); have n2_ := Aside0.mk (Kd.R_below (by (with_reducible repeat (first | apply Kd.R_alloc | apply Kd.R_drewN | apply Kd.R_drew)); exact HO182.out) hb); have n3_ := Aside0.mk (below_step (by repeat (first | (with_reducible first | exact HB.out | apply below_alloc | apply pw_below_drewN | apply below_drew1) | exact HB.out)) hb); clear HO174; clear HO178; clear HO182; clear HB; have HO174 := n0_; have HO178 := n1_; have HO182 := n2_; have HB := n3_; clear n0_ n1_ n2_ n3_; (try clear hb); (try clear hb2); (try clear hk); (try clear hi)) | (go_at_call 15; (with_reducible refine (deadboltlaw18_alive.calls  false _ A80.out).mono ?_); rintro e w126 ⟨rfl, hb⟩; have n0_ := Aside0.mk (Kd.R_below (by (with_reducible repeat (first | apply Kd.R_alloc | apply Kd.R_drewN | apply Kd.R_drew)); exact HO174.out) hb); have n1_ := Aside0.mk (Kd.R_below (by (with_reducible repeat (first | apply Kd.R_alloc | apply Kd.R_drewN | apply Kd.R_drew)); exact HO178.out) hb); have n2_ := Aside0.mk (Kd.R_below (by (with_reducible repeat (first | apply Kd.R_alloc | apply Kd.R_drewN | apply Kd.R_drew)); exact HO182.out) hb); have n3_ := Aside0.mk (below_step (by repeat (first | (with_reducible first | exact HB.out | apply below_alloc | apply pw_below_drewN | apply below_drew1) | exact HB.out)) hb); clear HO174; clear HO178; clear HO182; clear HB; have HO174 := n0_; have HO178 := n1_; have HO182 := n2_; have HB := n3_; clear n0_ n1_ n2_ n3_; (try clear hb); (try clear hb2); (try clear hk); (try clear hi))); try go_wp2_with (first | (go_at_call 13; (with_reducible refine (deadboltlaw18_few.calls _ _ l0 t172 _ ?side1 ?side2 A3.out).mono ?_); (case side1 => repeat (first | exact HR0.out | (with_reducible refine Kd.C_alloc ?_ _) | (with_reducible refine Kd.C_drewN ?_ _) | (with_reducible refine Kd.C_drew ?_))); (case side2 => exact HC0.out); rintro e w121 ⟨v173, rfl, ho0, hb⟩; have n0_ := Aside0.mk (Kd.R_lower ho0 (below_size (by repeat (first | (with_reducible first | exact HB.out | apply below_alloc | apply pw_below_drewN | apply below_drew1) | exact HB.out)))); have n1_ := Aside0.mk (below_step (by repeat (first | (with_reducible first | exact HB.out | apply below_alloc | apply pw_below_drewN | apply below_drew1) | exact HB.out)) hb); clear HB; have HO174 := n0_; have HB := n1_; clear n0_ n1_; (try clear hb); (try clear hb2); (try clear hk); (try clear hi); (try clear ho0); obtain ⟨Ao122, co122, eo122⟩ := Kd.R_slice HO174.out; subst eo122) | (go_at_call 16; (with_reducible refine (judge_Held.calls _ _ t172 t175 t176 _ ?side1 ?side2 A4.out).mono ?_); (case side1 => repeat (first | exact (Kd.R_reads' HO174.out).2.2 | (with_reducible refine Kd.C_alloc ?_ _) | (with_reducible refine Kd.C_drewN ?_ _) | (with_reducible refine Kd.C_drew ?_))); (case side2 => exact (Kd.R_reads' HO174.out).2.1); rintro e w123 ⟨v177, rfl, ho0, hb⟩; have n0_ := Aside0.mk (Kd.R_below (by (with_reducible repeat (first | apply Kd.R_alloc | apply Kd.R_drewN | apply Kd.R_drew)); exact HO174.out) hb); have n1_ := Aside0.mk (Kd.R_lower ho0 (below_size (by repeat (first | (with_reducible first | exact HB.out | apply below_alloc | apply pw_below_drewN | apply below_drew1) | exact HB.out)))); have n2_ := Aside0.mk (below_step (by repeat (first | (with_reducible first | exact HB.out | apply below_alloc | apply pw_below_drewN | apply below_drew1) | exact HB.out)) hb); clear HO174; clear HB; have HO174 := n0_; have HO178 := n1_; have HB := n2_; clear n0_ n1_ n2_; (try clear hb); (try clear hb2); (try clear hk); (try clear hi); (try clear ho0)) | (go_at_call 17; (with_reducible refine (judge_Order.calls _ _ t172 (Int.tmod (wrap64 ((Int.tmod a1 4) + 4)) 4) t179 t180 _ ?side1 ?side2 A5.out).mono ?_); (case side1 => repeat (first | exact (Kd.R_reads' HO174.out).2.2 | (with_reducible refine Kd.C_alloc ?_ _) | (with_reducible refine Kd.C_drewN ?_ _) | (with_reducible refine Kd.C_drew ?_))); (case side2 => exact (Kd.R_reads' HO174.out).2.1); rintro e w124 ⟨v181, rfl, ho0, hb⟩; have n0_ := Aside0.mk (Kd.R_below (by (with_reducible repeat (first | apply Kd.R_alloc | apply Kd.R_drewN | apply Kd.R_drew)); exact HO174.out) hb); have n1_ := Aside0.mk (Kd.R_elder' (by (with_reducible repeat (first | apply Kd.R_alloc | apply Kd.R_drewN | apply Kd.R_drew)); exact HO178.out) (Kd.R_base ho0) hb); have n2_ := Aside0.mk (Kd.R_lower (Kd.R_new' ho0 (Kd.R_lt (by (with_reducible repeat (first | apply Kd.R_alloc | apply Kd.R_drewN | apply Kd.R_drew)); exact HO178.out))) (below_size (by repeat (first | (with_reducible first | exact HB.out | apply below_alloc | apply pw_below_drewN | apply below_drew1) | exact HB.out)))); have n3_ := Aside0.mk (below_step (by repeat (first | (with_reducible first | exact HB.out | apply below_alloc | apply pw_below_drewN | apply below_drew1) | exact HB.out)) hb); clear HO174; clear HO178; clear HB; have HO174 := n0_; have HO178 := n1_; have HO182 := n2_; have HB := n3_; clear n0_ n1_ n2_ n3_; (try clear hb); (try clear hb2); (try clear hk); (try clear hi); (try clear ho0)) | (go_at_call 18; (with_reducible refine (judge_Long.calls _ _ t172 (Int.tmod (wrap64 ((Int.tmod a1 4) + 4)) 4) t183 t184 _ ?side1 ?side2 A6.out).mono ?_); (case side1 => repeat (first | exact (Kd.R_reads' HO174.out).2.2 | (with_reducible refine Kd.C_alloc ?_ _) | (with_reducible refine Kd.C_drewN ?_ _) | (with_reducible refine Kd.C_drew ?_))); (case side2 => exact (Kd.R_reads' HO174.out).2.1); rintro e w125 ⟨rfl, hb⟩; have n0_ := Aside0.mk (Kd.R_below (by (with_reducible repeat (first | apply Kd.R_alloc | apply Kd.R_drewN | apply Kd.R_drew)); exact HO174.out) hb); have n1_ := Aside0.mk (Kd.R_below (by (with_reducible repeat (first | apply Kd.R_alloc | apply Kd.R_drewN | apply Kd.R_drew)); exact HO178.out) hb); have n2_ := Aside0.mk (Kd.R_below (by (with_reducible repeat (first | apply Kd.R_alloc | apply Kd.R_drewN | apply Kd.R_drew)); exact HO182.out) hb); have n3_ := Aside0.mk (below_step (by repeat (first | (with_reducible first | exact HB.out | apply below_alloc | apply pw_below_drewN | apply below_drew1) | exact HB.out)) hb); clear HO174; clear HO178; clear HO182; clear HB; have HO174 := n0_; have HO178 := n1_; have HO182 := n2_; have HB := n3_; clear n0_ n1_ n2_ n3_; (try clear hb); (try clear hb2); (try clear hk); (try clear hi)) | (go_at_call 15; (with_reducible refine (deadboltlaw18_alive.calls  false _ A80.out).mono ?_); rintro e w126 ⟨rfl, hb⟩; have n0_ := Aside0.mk (Kd.R_below (by (with_reducible repeat (first | apply Kd.R_alloc | apply Kd.R_drewN | apply Kd.R_drew)); exact HO174.out) hb); have n1_ := Aside0.mk (Kd.R_below (by (with_reducible repeat (first | apply Kd.R_alloc | apply Kd.R_drewN | apply Kd.R_drew)); exact HO178.out) hb); have n2_ := Aside0.mk (Kd.R_below (by (with_reducible repeat (first | apply Kd.R_alloc | apply Kd.R_drewN | apply Kd.R_drew)); exact HO182.out) hb); have n3_ := Aside0.mk (below_step (by repeat (first | (with_reducible first | exact HB.out | apply below_alloc | apply pw_below_drewN | apply below_drew1) | exact HB.out)) hb); clear HO174; clear HO178; clear HO182; clear HB; have HO174 := n0_; have HO178 := n1_; have HO182 := n2_; have HB := n3_; clear n0_ n1_ n2_ n3_; (try clear hb); (try clear hb2); (try clear hk); (try clear hi))))
      go_ret
      exact ⟨by first | rfl | (simp [errW_none, errW_some] <;> rfl) | (simp [*, errW_none, errW_some] <;> rfl), by repeat (first | (with_reducible first | exact HB.out | apply below_alloc | apply pw_below_drewN | apply below_drew1) | exact HB.out)⟩

end Go.Proofs.Ytjdjmhagafmkaaa.PX

/-
  The statements on JudgeTells and JudgeHolds, over plain lists: what the printed functions come to is true.
-/
namespace Go.Proofs.Ytjdjmhagafmkaaa.PX
open Go.RowKit Judge Go.Proofs.YtjdjmhagafmkaaaW.PrintWords Go.Proofs.YtjdjmhagafmkaaaW.PrintLast Go.Proofs.YtjdjmhagafmkaaaW.PrintMore

theorem fewS_80 (l : List S33) : (fewS l).length ≤ 80 := by rw [fewS_len]; omega
theorem refOrder_len (m : Int) (L : List H) : (refOrder m L).length ≤ L.length := List.length_filterMap_le _ _
theorem tells_pure (l0 : List S33) (a1 : Int) : deadboltlaw18_JudgeTells.f 2000 l0 a1 = some true := by
  unfold deadboltlaw18_JudgeTells.f deadboltlaw18_few.f
  rw [Option.bind_some]
  have hs : (fewS l0).length ≤ 80 := fewS_80 l0
  generalize fewS l0 = s at hs
  have hs1 : s.length ≤ 1000 := by omega
  have hW := wrong_f s hs1
  unfold judge_Held.f judge_Order.f judge_Long.f judge_Wrong.f
  rw [if_pos hs1, if_pos hs1, if_pos hs1, if_pos hs1]
  by_cases hw : wrong (s.map toH) = -1
  · rw [if_pos hw, if_pos hw, if_pos hw]
    simp only [Option.bind_some]
    have hfull : ∀ (o : List Int) (n e : Int), (0 ≤ a1 ∧ a1 < 4 → e = 0 ∧ o = refOrder a1 (s.map toH) ∧ deadboltref18_Long.f 1997 s a1 = some n) → (¬ (0 ≤ a1 ∧ a1 < 4) → e = 3 ∧ o = [] ∧ n = 0) →
        (deadboltref18_Wrong.f 2000 s).bind (fun t160 => if wrong (s.map toH) = t160 then deadboltlaw18_alive.f.bind fun t161 => deadboltlaw18_JudgeTells.j0 2000 s a1 ((book (s.map toH)).map (· - 1)) 0 o e n e (!t161) else deadboltlaw18_JudgeTells.j0 2000 s a1 ((book (s.map toH)).map (· - 1)) 0 o e n e true) = some true := by
      intro o n e hin hout
      rw [hW 2000 (by omega), Option.bind_some, if_pos rfl, alive_f, Option.bind_some, deadboltlaw18_JudgeTells.j0, if_neg (by simp), hW 1999 (by omega), Option.bind_some, hw, if_neg (by decide), if_pos rfl, held_f s hs1 1999 (by omega), Option.bind_some, same_f _ _ (by rw [held_ref hw]; simp) 1999 (by rw [held_ref hw]; simp), Option.bind_some, held_ref hw, decide_eq_true rfl, deadboltlaw18_JudgeTells.j1, if_neg (by simp)]
      by_cases ha : 0 ≤ a1 ∧ a1 < 4
      · obtain ⟨rfl, rfl, hl⟩ := hin ha
        rw [if_neg (by omega), decide_eq_false (by omega), deadboltlaw18_JudgeTells.j2, if_neg (by simp), if_pos rfl, if_pos rfl, order_f a1 s hs1 1997 (by omega), Option.bind_some, same_f _ _ (by have := refOrder_len a1 (s.map toH); rw [List.length_map] at this; omega) 1997 (by have := refOrder_len a1 (s.map toH); rw [List.length_map] at this; omega), Option.bind_some, decide_eq_true rfl, if_pos rfl, hl, Option.bind_some]
        simp
      · obtain ⟨rfl, rfl, rfl⟩ := hout ha
        have hj2 : deadboltlaw18_JudgeTells.j2 1998 s a1 [] 3 0 3 true = some true := by
          rw [deadboltlaw18_JudgeTells.j2, if_pos rfl, if_pos rfl, if_pos rfl]
          rfl
        by_cases h0 : a1 < 0
        · rw [if_pos h0, hj2]
        · rw [if_neg h0, decide_eq_true (by omega), hj2]
    by_cases ha : 0 ≤ a1 ∧ a1 < 4
    · rw [if_pos ha, if_pos ha]
      simp only [Option.bind_some]
      refine hfull _ _ _ (fun _ => ⟨rfl, order_ref hw a1, ?_⟩) (fun h => absurd ha h)
      cases hg : s.getLast? with
      | none =>
        have : s = [] := List.getLast?_eq_none_iff.1 hg
        subst this
        rfl
      | some g =>
        have hg' : (s.map toH).getLast? = some (toH g) := by
          rw [List.getLast?_map, hg]; rfl
        rw [long_ref hw a1 hg']
        refine long_f a1 s hs1 _ (fun x hx => ?_) 1997 (by omega)
        rw [← List.getLast?_eq_getElem?, hg] at hx
        obtain rfl := Option.some.inj hx
        rfl
    · rw [if_neg ha, if_neg ha]
      simp only [Option.bind_some]
      exact hfull _ _ _ (fun h => absurd h ha) (fun _ => ⟨rfl, rfl, rfl⟩)
  · rw [if_neg hw, if_neg hw, if_neg hw]
    simp only [Option.bind_some]
    have hw0 : wrong (s.map toH) ≥ 0 := by have := wrong_range (s.map toH); omega
    rw [hW 2000 (by omega), Option.bind_some, if_pos rfl, alive_f, Option.bind_some, deadboltlaw18_JudgeTells.j0, if_neg (by simp), hW 1999 (by omega), Option.bind_some, if_pos hw0, if_pos rfl, if_pos rfl, if_pos rfl]
    rfl

/-- Times do not go back. -/
theorem late_now {x h : H} (hl : late x h = false) : x.now ≤ h.now := by
  unfold late at hl
  rw [Bool.or_eq_false_iff, Bool.or_eq_false_iff] at hl
  have := hl.1.2
  simp at this
  omega
theorem now_of : ∀ (l pre : List H), refWrongFrom pre l = -1 → (∀ x, lastO none pre = some x → ∀ h ∈ l, x.now ≤ h.now) ∧ l.Pairwise (fun a b => a.now ≤ b.now) := by
  intro l
  induction l with
  | nil => exact fun _ _ => ⟨fun _ _ => by simp, List.Pairwise.nil⟩
  | cons h l ih =>
    intro pre hw
    unfold refWrongFrom at hw
    by_cases hb : refBad pre h = true
    · rw [if_pos hb] at hw; omega
    rw [if_neg hb] at hw
    obtain ⟨h1, h2⟩ := ih (pre ++ [h]) hw
    have h3 := h1 h (lastO_snoc pre h)
    refine ⟨fun x hx y hy => ?_, List.Pairwise.cons h3 h2⟩
    have hl : refLate pre h = false := by
      unfold refBad at hb
      cases hq : refLate pre h with
      | false => rfl
      | true => rw [hq] at hb; simp at hb
    unfold refLate at hl
    rw [hx] at hl
    have hxh : x.now ≤ h.now := late_now hl
    rcases List.mem_cons.1 hy with rfl | hy
    · exact hxh
    · exact Int.le_trans hxh (h3 y hy)
theorem now_all {L : List H} (hw : wrong L = -1) : L.Pairwise (fun a b => a.now ≤ b.now) := (now_of L [] (by rw [← wrong_ref]; exact hw)).2
theorem now_ends {L : List H} (hp : L.Pairwise (fun a b => a.now ≤ b.now)) {a g : H} (ha : L.head? = some a) (hg : L.getLast? = some g) : ∀ h ∈ L, a.now ≤ h.now ∧ h.now ≤ g.now := by
  intro h hh
  constructor
  · cases L with
    | nil => cases hh
    | cons x l =>
      obtain rfl : x = a := Option.some.inj ha
      rcases List.mem_cons.1 hh with rfl | hq
      · exact Int.le_refl _
      · exact (List.pairwise_cons.1 hp).1 h hq
  · clear ha
    induction L with
    | nil => cases hh
    | cons x l ih' =>
      rcases List.mem_cons.1 hh with rfl | hq
      · cases l with
        | nil =>
          obtain rfl : h = g := Option.some.inj hg
          exact Int.le_refl _
        | cons y l =>
          have hgm : g ∈ y :: l := by
            rw [List.getLast?_cons_cons] at hg
            exact List.mem_of_getLast? hg
          exact (List.pairwise_cons.1 hp).1 g hgm
      · cases l with
        | nil => cases hq
        | cons y l =>
          rw [List.getLast?_cons_cons] at hg
          exact ih' (List.pairwise_cons.1 hp).2 hg hq
theorem until_bd (m last lo : Int) : ∀ l : List H, (∀ h ∈ l, lo ≤ h.now ∧ h.now ≤ last) → lo ≤ last → lo ≤ untilOf m last l ∧ untilOf m last l ≤ last := by
  intro l
  induction l with
  | nil => exact fun _ h => ⟨h, Int.le_refl _⟩
  | cons h l ih =>
    intro hb hl
    unfold untilOf
    split
    · exact hb h (by simp)
    · exact ih (fun x hx => hb x (by simp [hx])) hl
theorem long_bd (m last lo : Int) (h0 : 0 ≤ lo) (h1 : last < 1152921504606846976) (hl : lo ≤ last) : ∀ (l : List H) (acc : Int), (∀ h ∈ l, lo ≤ h.now ∧ h.now ≤ last) → acc ≤ last - lo → acc ≤ refLong m last acc l ∧ refLong m last acc l ≤ last - lo := by
  intro l
  induction l with
  | nil => exact fun acc _ h => ⟨Int.le_refl _, h⟩
  | cons h l ih =>
    intro acc hb ha
    unfold refLong
    have hh := hb h (by simp)
    have hu := until_bd m last lo l (fun x hx => hb x (by simp [hx])) hl
    split
    · have e : wrap64 (untilOf m last l - h.now) = untilOf m last l - h.now := by unfold wrap64; omega
      rw [e]
      have := ih (mx acc (untilOf m last l - h.now)) (fun x hx => hb x (by simp [hx])) (by unfold mx; split <;> omega)
      have hm : acc ≤ mx acc (untilOf m last l - h.now) := by unfold mx; split <;> omega
      omega
    · exact ih acc (fun x hx => hb x (by simp [hx])) ha
theorem holder_order (m : Int) : ∀ (l : List H) (out : Int) (row : List Int), (out = -1 ∨ row.getLast? = some out) → (l.foldl (hstep m) out = -1 ∨ (row ++ refOrder m l).getLast? = some (l.foldl (hstep m) out)) := by
  intro l
  induction l with
  | nil => intro out row h; simpa [refOrder] using h
  | cons h l ih =>
    intro out row hr
    rw [List.foldl_cons]
    have e : refOrder m (h :: l) = (if h.mutex = m ∧ h.kind ≤ 1 then [h.who] else []) ++ refOrder m l := by
      unfold refOrder
      rw [List.filterMap_cons]
      by_cases hc : h.mutex = m ∧ h.kind ≤ 1
      · rw [if_pos hc, if_pos hc]; rfl
      · rw [if_neg hc, if_neg hc]; rfl
    rw [e, ← List.append_assoc]
    apply ih
    unfold hstep
    by_cases hm : h.mutex = m
    · rw [if_pos hm]
      by_cases h3 : h.kind = 3
      · rw [if_pos h3]; exact .inl rfl
      · rw [if_neg h3]
        by_cases h1 : h.kind ≤ 1
        · rw [if_pos h1, if_pos ⟨hm, h1⟩]
          exact .inr (by simp)
        · rw [if_neg h1, if_neg (fun hq => h1 hq.2), List.append_nil]
          exact hr
    · rw [if_neg hm, if_neg (fun hq => hm hq.1), List.append_nil]
      exact hr
theorem holder_last (m : Int) (l : List H) : refHolder l m = -1 ∨ (refOrder m l).getLast? = some (refHolder l m) := by
  have := holder_order m l (-1) [] (.inl rfl)
  simpa [refHolder] using this
theorem long_none (m last : Int) : ∀ (l : List H) (acc : Int), refOrder m l = [] → refLong m last acc l = acc := by
  intro l
  induction l with
  | nil => exact fun _ _ => rfl
  | cons h l ih =>
    intro acc hr
    unfold refOrder at hr
    rw [List.filterMap_cons] at hr
    unfold refLong
    by_cases hc : h.mutex = m ∧ h.kind ≤ 1
    · rw [if_pos hc] at hr; cases hr
    · rw [if_neg hc] at hr ⊢
      exact ih acc hr
theorem few_now (l : List S33) : ∀ h ∈ fewS l, 0 ≤ h.f1 ∧ h.f1 < 1152921504606846976 := by
  intro h hh
  have := List.mem_of_mem_take hh
  obtain ⟨x, _, rfl⟩ := List.mem_map.1 this
  exact JudgeLaws.nowOf_bd _
theorem mod4 (a : Int) : 0 ≤ Int.tmod (wrap64 ((Int.tmod a 4) + 4)) 4 ∧ Int.tmod (wrap64 ((Int.tmod a 4) + 4)) 4 < 4 := by
  have h1 : -4 < a.tmod 4 ∧ a.tmod 4 < 4 := ⟨by have := Int.lt_tmod_of_pos a (show (0 : Int) < 4 by omega); omega, Int.tmod_lt_of_pos a (by omega)⟩
  have e : wrap64 (a.tmod 4 + 4) = a.tmod 4 + 4 := by unfold wrap64; omega
  rw [e, Int.tmod_eq_emod_of_nonneg (by omega)]
  omega
theorem held_at {L : List H} (hw : wrong L = -1) {m : Int} (h0 : 0 ≤ m) (h4 : m < 4) : rd ((book L).map (· - 1)) m = refHolder L m ∧ m < (((book L).map (· - 1)).length : Int) := by
  rw [held_ref hw]
  rcases (show m = 0 ∨ m = 1 ∨ m = 2 ∨ m = 3 by omega) with rfl | rfl | rfl | rfl <;> exact ⟨rfl, by simp⟩
theorem holds_pure (l0 : List S33) (a1 : Int) : deadboltlaw18_JudgeHolds.f 10 l0 a1 = some true := by
  unfold deadboltlaw18_JudgeHolds.f deadboltlaw18_few.f
  rw [Option.bind_some]
  have hs : (fewS l0).length ≤ 80 := fewS_80 l0
  have hnow := few_now l0
  generalize fewS l0 = s at hs hnow
  have hs1 : s.length ≤ 1000 := by omega
  obtain ⟨m0, m4⟩ := mod4 a1
  generalize Int.tmod (wrap64 ((Int.tmod a1 4) + 4)) 4 = m at m0 m4
  unfold judge_Held.f judge_Order.f judge_Long.f
  rw [if_pos hs1, if_pos hs1, if_pos hs1]
  by_cases hw : wrong (s.map toH) = -1
  · rw [if_pos hw, if_pos hw, if_pos hw, if_pos ⟨m0, m4⟩, if_pos ⟨m0, m4⟩]
    simp only [Option.bind_some]
    rw [if_pos trivial, if_pos trivial, if_pos trivial]
    obtain ⟨hrd, hlt⟩ := held_at hw m0 m4
    have hl4 : (((book (s.map toH)).map (· - 1)).length : Int) = 4 := by rw [held_ref hw]; rfl
    rw [if_pos hl4, alive_f, Option.bind_some, order_ref hw m, deadboltlaw18_JudgeHolds.j0, if_neg (by simp)]
    have hlong : ∀ g, s.getLast? = some g → longAll ((s.map toH).filter (keepB m)) (s.map toH) = refLong m g.f1 0 (s.map toH) := fun g hg => by
      have hg' : (s.map toH).getLast? = some (toH g) := by rw [List.getLast?_map, hg]; rfl
      exact long_ref hw m hg'
    by_cases ho : refOrder m (s.map toH) = []
    · have hh : refHolder (s.map toH) m = -1 := by
        rcases holder_last m (s.map toH) with h | h
        · exact h
        · rw [ho] at h; cases h
      have hn : longAll ((s.map toH).filter (keepB m)) (s.map toH) = 0 := by
        cases hg : s.getLast? with
        | none =>
          have : s = [] := List.getLast?_eq_none_iff.1 hg
          subst this
          rfl
        | some g => rw [hlong g hg, long_none m _ _ _ ho]
      rw [ho, if_pos (by simp), if_pos m0, if_pos hlt, hrd, if_pos hh, hn, if_pos rfl]
      rfl
    · have hop : 0 < (refOrder m (s.map toH)).length := List.length_pos_iff.2 ho
      have hos := refOrder_len m (s.map toH)
      rw [List.length_map] at hos
      have hsp : 0 < s.length := by omega
      rw [if_neg (by omega), if_neg (by omega), if_pos m0, if_pos hlt, hrd]
      have hgl : s.getLast? = some (s[s.length - 1]'(by omega)) := by rw [List.getLast?_eq_getElem?, List.getElem?_eq_getElem (by omega)]
      have hhd : (s.map toH).head? = some (toH (s[0]'hsp)) := by rw [List.head?_map, List.head?_eq_getElem?, List.getElem?_eq_getElem hsp]; rfl
      have hgl' : (s.map toH).getLast? = some (toH (s[s.length - 1]'(by omega))) := by rw [List.getLast?_map, hgl]; rfl
      have hends := now_ends (now_all hw) hhd hgl'
      have hfirst := hnow _ (List.getElem_mem hsp)
      have hlast := hnow _ (List.getElem_mem (show s.length - 1 < s.length by omega))
      have hord : (s[0]'hsp).f1 ≤ (s[s.length - 1]'(by omega)).f1 := (hends (toH (s[0]'hsp)) (List.mem_of_mem_head? hhd)).2
      have hbd := long_bd m (s[s.length - 1]'(by omega)).f1 (s[0]'hsp).f1 hfirst.1 hlast.2 hord (s.map toH) 0 (fun h hh => hends h hh) (by omega)
      have hw1 : wrap64 ((s[s.length - 1]'(by omega)).f1 - (s[0]'hsp).f1) = (s[s.length - 1]'(by omega)).f1 - (s[0]'hsp).f1 := by unfold wrap64; omega
      have hz : rd_T33 s 0 = s[0]'hsp := rdS (i := 0) hsp
      have hrest : (if 0 ≤ wrap64 ((s.length : Int) - 1) then (if wrap64 ((s.length : Int) - 1) < (s.length : Int) then (if 0 < (s.length : Int) then (if longAll ((s.map toH).filter (keepB m)) (s.map toH) ≤ (wrap64 (((rd_T33 s (wrap64 ((s.length : Int) - 1))).f1) - ((rd_T33 s 0).f1))) then (some (decide (((refOrder m (s.map toH)).length : Int) ≤ (s.length : Int)))) else (some false)) else (none)) else (none)) else (none)) = some true := by
        rw [w64_pred hsp hs1, if_pos (by omega), if_pos (by omega), if_pos (by omega), rdS (show s.length - 1 < s.length by omega), hz, hw1, hlong _ hgl, if_pos hbd.2, decide_eq_true (by omega)]
      rcases holder_last m (s.map toH) with hh | hh
      · rw [if_pos hh, if_pos (by rw [hlong _ hgl]; exact hbd.1), hrest]
      · by_cases hm1 : refHolder (s.map toH) m = -1
        · rw [if_pos hm1, if_pos (by rw [hlong _ hgl]; exact hbd.1), hrest]
        · rw [if_neg hm1, w64_pred hop (by omega), if_pos (by omega), if_pos (by omega), rdI (show (refOrder m (s.map toH)).length - 1 < (refOrder m (s.map toH)).length by omega)]
          rw [List.getLast?_eq_getElem?, List.getElem?_eq_getElem (show (refOrder m (s.map toH)).length - 1 < (refOrder m (s.map toH)).length by omega)] at hh
          rw [Option.some.inj hh, if_pos rfl, if_pos (by rw [hlong _ hgl]; exact hbd.1), hrest]
  · rw [if_neg hw, if_neg hw, if_neg hw]
    simp only [Option.bind_some]
    rw [if_neg (by decide), alive_f, Option.bind_some, if_pos rfl]
    rfl
end Go.Proofs.Ytjdjmhagafmkaaa.PX

/-
  What happened, opened.
-/
namespace Go.Proofs.Ytjdjmhagafmkaaa.PX
open Go.RowKit Go.Proofs.YtjdjmhagafmkaaaW.PrintWords
theorem opensE {H : Type} {enc : TypeId × Value → H} {w : World} : Opens enc Try.prog w 31 k31 (fun _ => True) := by
  intro fuel cs x h
  obtain ⟨a, hk, _⟩ := Opens.struct (g := fun x : S31 => (x.f0, x.f1, x.f2)) Try.underlying31 (by kernel_rfl) (fun x : Int × Int × Int => ⟨x.1, x.2.1, x.2.2⟩) (fun _ => rfl)
    (OpensF.cons rfl (by kernel_rfl) (Opens.int Try.underlying3) rfl (OpensF.cons rfl (by kernel_rfl) (Opens.int Try.underlying3) rfl (OpensF.one rfl (by kernel_rfl) (Opens.int Try.underlying3)))) fuel cs x h
  exact ⟨a, hk, trivial⟩
theorem opensH {H : Type} {enc : TypeId × Value → H} {w : World} : Opens enc Try.prog w 33 k33 (fun _ => True) := by
  intro fuel cs x h
  obtain ⟨a, hk, _⟩ := Opens.struct (g := fun x : S33 => (x.f0, x.f1, x.f2)) Try.underlying33 (by kernel_rfl) (fun x : Int × Int × S31 => ⟨x.1, x.2.1, x.2.2⟩) (fun _ => rfl)
    (OpensF.cons rfl (by kernel_rfl) (Opens.int Try.underlying3) rfl (OpensF.cons rfl (by kernel_rfl) (Opens.int Try.underlying3) rfl (OpensF.one rfl (by kernel_rfl) opensE))) fuel cs x h
  exact ⟨a, hk, trivial⟩
end Go.Proofs.Ytjdjmhagafmkaaa.PX
