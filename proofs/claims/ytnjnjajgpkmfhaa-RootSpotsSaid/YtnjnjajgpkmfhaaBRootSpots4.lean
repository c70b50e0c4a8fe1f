/-
  The statement on RootSpots, out of what its printed form comes to: for every input the call returns true, and each argument reads behind it as it read before.
-/
import Derived.Test.YtnjnjajgpkmfhaaBRootSpots3
import Derived.Test.YtnjnjajgpkmfhaaRows
namespace Go.Proofs.Ytnjnjajgpkmfhaa.PX
open Go.RowKit Go.Proofs.YtnjnjajgpkmfhaaW.PrintWords Go.Proofs.YtnjnjajgpkmfhaaW.PrintLast Go.Proofs.YtnjnjajgpkmfhaaW.PrintMore
attribute [local go_sem] max2_int min2_int max_two min_two max_three min_three max_four min_four   -- for this text's walks alone
set_option linter.unusedVariables false
set_option linter.unusedSimpArgs false

/-! ### deadboltlaw09_RootSpots: function 3 -/
mutual
def deadboltlaw09_RootSpots.l0 : Nat → List (S33) → Int → Int → Option (Bool)
  | 0, _, _, _ => none
  | k + 1, x0, x5, x33 => if x33 < 251 then ((root_Under.f k x0 x33).bind fun bt157 => (if bt157.2 = 0 then (deadboltlaw09_RootSpots.l1 k x0 x5 x33 x33 bt157.1 (bt157.1.length : Int) 0) else (some false))) else ((deadboltlaw09_alive.f).bind fun t156 => (if t156 = true then (some (x5 == (x0.length : Int))) else (some false)))
def deadboltlaw09_RootSpots.l1 : Nat → List (S33) → Int → Int → Int → List Int → Int → Int → Option (Bool)
  | 0, _, _, _, _, _, _, _ => none
  | k + 1, x0, x5, x6, x33, x44, x45, x46 => if x46 < x45 then (if 0 ≤ x46 then (if x46 < (x44.length : Int) then ((root_Root.f (rd x44 x46)).bind fun bt162 => (if bt162.2 = 0 then (if bt162.1 = x6 then (if x5 ≥ (x0.length : Int) then (some false) else (if 0 ≤ x5 then (if x5 < (x0.length : Int) then (if ((rd_T33 x0 x5).f0) = (rd x44 x46) then (deadboltlaw09_RootSpots.l1 k x0 (wrap64 (x5 + 1)) x6 x33 x44 x45 (wrap64 (x46 + 1))) else (some false)) else (none)) else (none))) else (some false)) else (some false))) else (none)) else (none)) else (deadboltlaw09_RootSpots.l0 k x0 x5 (wrap64 (x33 + 1)))
end
def deadboltlaw09_RootSpots.f (k : Nat) (l0 : List (S33)) : Option (Bool) := (deadboltlaw09_few.f k l0).bind fun t147 => ((root_Right.f k t147).bind fun t150 => (if t150 = true then (deadboltlaw09_RootSpots.l0 k t147 0 0) else ((root_Under.f k t147 0).bind fun bt151 => ((deadboltlaw09_alive.f).bind fun t155 => (if t155 = true then (if bt151.2 = 1 then (some ((bt151.1.length : Int) == 0)) else (some false)) else (some false))))))
theorem deadboltlaw09_RootSpots.mono_l : ∀ k, (∀ y0 y1 y2, LeO (deadboltlaw09_RootSpots.l0 k y0 y1 y2) (deadboltlaw09_RootSpots.l0 (k + 1) y0 y1 y2)) ∧ (∀ y0 y1 y2 y3 y4 y5 y6, LeO (deadboltlaw09_RootSpots.l1 k y0 y1 y2 y3 y4 y5 y6) (deadboltlaw09_RootSpots.l1 (k + 1) y0 y1 y2 y3 y4 y5 y6))
  | 0 => ⟨fun _ _ _ r h => by simp [deadboltlaw09_RootSpots.l0] at h, fun _ _ _ _ _ _ _ r h => by simp [deadboltlaw09_RootSpots.l1] at h⟩
  | k + 1 => by
    obtain ⟨ih0, ih1⟩ := deadboltlaw09_RootSpots.mono_l k
    refine ⟨?_, ?_⟩
    · intro y0 y1 y2
      unfold deadboltlaw09_RootSpots.l0
      repeat' first
      | (with_reducible exact ih0 _ _ _)
      | (with_reducible exact ih1 _ _ _ _ _ _ _)
      | (with_reducible exact deadboltlaw09_few.mono _ _)
      | (with_reducible exact root_Right.mono _ _)
      | (with_reducible exact root_Under.mono _ _ _)
      | (with_reducible exact LeO.refl _)
      | (with_reducible exact LeO.none _)
      | (with_reducible refine LeO.ite ?_ ?_)
      | (with_reducible refine LeO.bind ?_ (fun _ => ?_))
      | exact ih0 _ _ _
      | exact ih1 _ _ _ _ _ _ _
      | exact deadboltlaw09_few.mono _ _
      | exact root_Right.mono _ _
      | exact root_Under.mono _ _ _
      | exact LeO.none _
      | refine LeO.ite ?_ ?_
      | refine LeO.bind ?_ (fun _ => ?_)
    · intro y0 y1 y2 y3 y4 y5 y6
      unfold deadboltlaw09_RootSpots.l1
      repeat' first
      | (with_reducible exact ih0 _ _ _)
      | (with_reducible exact ih1 _ _ _ _ _ _ _)
      | (with_reducible exact deadboltlaw09_few.mono _ _)
      | (with_reducible exact root_Right.mono _ _)
      | (with_reducible exact root_Under.mono _ _ _)
      | (with_reducible exact LeO.refl _)
      | (with_reducible exact LeO.none _)
      | (with_reducible refine LeO.ite ?_ ?_)
      | (with_reducible refine LeO.bind ?_ (fun _ => ?_))
      | exact ih0 _ _ _
      | exact ih1 _ _ _ _ _ _ _
      | exact deadboltlaw09_few.mono _ _
      | exact root_Right.mono _ _
      | exact root_Under.mono _ _ _
      | exact LeO.none _
      | refine LeO.ite ?_ ?_
      | refine LeO.bind ?_ (fun _ => ?_)
theorem deadboltlaw09_RootSpots.mono : ∀ a0 k, LeO (deadboltlaw09_RootSpots.f k a0) (deadboltlaw09_RootSpots.f (k + 1) a0) := by
  intro a0 k
  obtain ⟨ih0, ih1⟩ := deadboltlaw09_RootSpots.mono_l k
  unfold deadboltlaw09_RootSpots.f
  repeat' first
      | (with_reducible exact ih0 _ _ _)
      | (with_reducible exact ih1 _ _ _ _ _ _ _)
      | (with_reducible exact deadboltlaw09_few.mono _ _)
      | (with_reducible exact root_Right.mono _ _)
      | (with_reducible exact root_Under.mono _ _ _)
      | (with_reducible exact LeO.refl _)
      | (with_reducible exact LeO.none _)
      | (with_reducible refine LeO.ite ?_ ?_)
      | (with_reducible refine LeO.bind ?_ (fun _ => ?_))
      | exact ih0 _ _ _
      | exact ih1 _ _ _ _ _ _ _
      | exact deadboltlaw09_few.mono _ _
      | exact root_Right.mono _ _
      | exact root_Under.mono _ _ _
      | exact LeO.none _
      | refine LeO.ite ?_ ?_
      | refine LeO.bind ?_ (fun _ => ?_)
set_option maxHeartbeats 8000000 in
set_option maxRecDepth 100000 in
theorem deadboltlaw09_RootSpots.calls (k : Nat) (A0 : Option Addr) (c0 : Nat) (l0 : List (S33)) (r : Bool) (w : World) (hr0 : Kd.C k33 w A0 l0.length l0) (hc0 : l0.length ≤ c0) (h : deadboltlaw09_RootSpots.f k l0 = some r) :
    Calls Try.prog 3 #[.slice A0 l0.length c0] w fun e w' => e = .returned (.bool r) ∧ Below w.heap.size w w' := by
  have HR0 := Aside0.mk hr0
  have HC0 := Aside0.mk hc0
  clear hr0 hc0
  have HB := Aside0.mk (Below.refl w.heap.size w)
  have H : ((deadboltlaw09_few.f k l0).bind fun t147 => ((root_Right.f k t147).bind fun t150 => (if t150 = true then (deadboltlaw09_RootSpots.l0 k t147 0 0) else ((root_Under.f k t147 0).bind fun bt151 => ((deadboltlaw09_alive.f).bind fun t155 => (if t155 = true then (if bt151.2 = 1 then (some ((bt151.1.length : Int) == 0)) else (some false)) else (some false))))))) = some r := h
  clear h
  replace H := Option.bind_eq_some_iff.mp H
  obtain ⟨t147, A20, H⟩ := H
  replace H : ((root_Right.f k t147).bind fun t150 => (if t150 = true then (deadboltlaw09_RootSpots.l0 k t147 0 0) else ((root_Under.f k t147 0).bind fun bt151 => ((deadboltlaw09_alive.f).bind fun t155 => (if t155 = true then (if bt151.2 = 1 then (some ((bt151.1.length : Int) == 0)) else (some false)) else (some false)))))) = some r := H
  have A2 := Aside0.mk A20
  clear A20
  replace H := Option.bind_eq_some_iff.mp H
  obtain ⟨t150, A30, H⟩ := H
  replace H : (if t150 = true then (deadboltlaw09_RootSpots.l0 k t147 0 0) else ((root_Under.f k t147 0).bind fun bt151 => ((deadboltlaw09_alive.f).bind fun t155 => (if t155 = true then (if bt151.2 = 1 then (some ((bt151.1.length : Int) == 0)) else (some false)) else (some false))))) = some r := H
  have A3 := Aside0.mk A30
  clear A30
  by_cases c4 : t150 = true
  · subst c4
    have H1 : (deadboltlaw09_RootSpots.l0 k t147 0 0) = some r := by rw [if_pos rfl] at H; exact H
    clear H
    have H := H1
    clear H1
    have H' := Aside0.mk H
    clear H
    go_enter Try.func3, Try.ntmps3
    go_wp2_with (first | ((with_reducible refine gate_callee (f := 10) rfl ?_); refine goesL_ (some 14) rfl rfl Try.func10 (by kernel_rfl) rfl #[.slice A0 l0.length c0] rfl (by (try simp only [List.map_toArray, List.map_cons, List.map_nil]); first | done | rfl | (simp only [List.length_drop, List.length_take]; rfl)) ?_; (with_reducible refine (deadboltlaw09_few.calls k (fun k_ => k_ < w.heap.size) _ _ l0 t147 _ ?side1 A2.out).mono ?_); (case side1 => exact Kd.V_mk HC0.out (Kd.F_below (Kd.C_F k33_heap HR0.out) (by repeat (first | (with_reducible first | exact HB.out | apply below_alloc | apply pw_below_drewN | apply below_drew1) | exact HB.out)))); rintro e w5 ⟨v148, rfl, ho0, hb⟩; refine ⟨_, rfl, ?_⟩; have n0_ := Aside0.mk (Kd.N_lower (Kd.N_mono (ok' := fun k_ => True) ho0 (fun k_ hk_ => trivial)) (below_size (by repeat (first | (with_reducible first | exact HB.out | apply below_alloc | apply pw_below_drewN | apply below_drew1) | exact HB.out)))); have n1_ := Aside0.mk (below_step (by repeat (first | (with_reducible first | exact HB.out | apply below_alloc | apply pw_below_drewN | apply below_drew1) | exact HB.out)) hb); clear HB; have HO149 := n0_; have HB := n1_; clear n0_ n1_; (try clear hb); (try clear hb2); (try clear hk); (try clear hi); (try clear ho0); obtain ⟨Ao6, co6, eo6⟩ := Kd.N_slice HO149.out; subst eo6) | ((with_reducible refine gate_callee (f := 11) rfl ?_); refine goesL_ (some 16) rfl rfl Try.func11 (by kernel_rfl) rfl #[.slice Ao6 t147.length co6] rfl (by (try simp only [List.map_toArray, List.map_cons, List.map_nil]); first | done | rfl | (simp only [List.length_drop, List.length_take]; rfl)) ?_; (with_reducible refine (root_Right.calls k _ _ t147 true _ ?side1 ?side2 A3.out).mono ?_); (case side1 => repeat (first | exact (Kd.N_reads' HO149.out).2.2 | (with_reducible refine Kd.C_alloc ?_ _) | (with_reducible refine Kd.C_drewN ?_ _) | (with_reducible refine Kd.C_drew ?_))); (case side2 => exact (Kd.N_reads' HO149.out).2.1); rintro e w7 ⟨rfl, hb⟩; refine ⟨_, rfl, ?_⟩; have n0_ := Aside0.mk (Kd.N_below (by (with_reducible repeat (first | apply Kd.N_alloc | apply Kd.N_drewN | apply Kd.N_drew)); exact HO149.out) hb); have n1_ := Aside0.mk (below_step (by repeat (first | (with_reducible first | exact HB.out | apply below_alloc | apply pw_below_drewN | apply below_drew1) | exact HB.out)) hb); clear HO149; clear HB; have HO149 := n0_; have HB := n1_; clear n0_ n1_; (try clear hb); (try clear hb2); (try clear hk); (try clear hi)))
    go_loopg [5, 33] k (fun kq v5 v33 w' => ∃ (x5_1 : Int) (x33_1 : Int), v5 = .int .i64 x5_1 ∧ v33 = .int .i64 x33_1 ∧ Aside0 (deadboltlaw09_RootSpots.l0 kq t147 x5_1 x33_1 = some r) ∧ Aside0 (kq ≤ k) ∧ Aside0 (Kd.N k33 33 w' w.heap.size (fun _ => True) (.slice Ao6 t147.length co6) t147) ∧ Aside0 (Below w.heap.size w w'))
    case atStart => exact ⟨(0), (0), (by first | rfl | (simp; done) | (simp [*]; done)), (by first | rfl | (simp; done) | (simp [*]; done)), H', ⟨Nat.le_refl _⟩, ⟨by (with_reducible repeat (first | apply Kd.N_alloc | apply Kd.N_drewN | apply Kd.N_drew)); exact HO149.out⟩, ⟨by repeat (first | (with_reducible first | exact HB.out | apply below_alloc | apply pw_below_drewN | apply below_drew1) | exact HB.out)⟩⟩
    case round =>
      clear H'
      try clear c1
      try clear p2
      try clear c3
      try clear c4
      obtain ⟨x5_1, x33_1, rfl, rfl, HA, HK1, HO_0, HB⟩ := hrel
      cases gk with
      | zero => exact absurd HA.out (by simp [deadboltlaw09_RootSpots.l0])
      | succ k1 =>
        have H := HA.out
        clear HA
        simp only [deadboltlaw09_RootSpots.l0] at H
        by_cases c8 : x33_1 < 251
        · rw [if_pos c8] at H
          have c8b0 : decide (x33_1 < 251) = true := decide_eq_true c8
          clear c8
          replace H := Option.bind_eq_some_iff.mp H
          obtain ⟨⟨t157, t158⟩, A90, H⟩ := H
          replace H : (if t158 = 0 then (deadboltlaw09_RootSpots.l1 k1 t147 x5_1 x33_1 x33_1 t157 (t157.length : Int) 0) else (some false)) = some r := H
          have A9 := Aside0.mk A90
          clear A90
          by_cases c10 : t158 = 0
          · rw [if_pos c10] at H
            have c10b0 : (t158 == 0) = true := beq_iff_eq.mpr c10
            have c10b1 : (t158 != 0) = false := bne_eq_false_iff_eq.mpr c10
            clear c10
            have H' := Aside0.mk H
            clear H
            go_wp2_with (first | ((with_reducible refine gate_callee (f := 12) rfl ?_); refine goesL_ (some 39) rfl rfl Try.func12 (by kernel_rfl) rfl #[.slice Ao6 t147.length co6, .int .i64 x33_1] rfl (by (try simp only [List.map_toArray, List.map_cons, List.map_nil]); first | done | rfl | (simp only [List.length_drop, List.length_take]; rfl)) ?_; (with_reducible refine (root_Under.calls k1 _ _ t147 x33_1 t157 t158 _ ?side1 ?side2 A9.out).mono ?_); (case side1 => repeat (first | exact (Kd.N_reads' HO_0.out).2.2 | (with_reducible refine Kd.C_alloc ?_ _) | (with_reducible refine Kd.C_drewN ?_ _) | (with_reducible refine Kd.C_drew ?_))); (case side2 => exact (Kd.N_reads' HO_0.out).2.1); rintro e w11 ⟨v159, rfl, ho0, hb⟩; refine ⟨_, rfl, ?_⟩; have n0_ := Aside0.mk (Kd.N_elder' (by (with_reducible repeat (first | apply Kd.N_alloc | apply Kd.N_drewN | apply Kd.N_drew)); exact HO_0.out) (Kd.R_base ho0) hb); have n1_ := Aside0.mk (Kd.R_lower ho0 (below_size (by repeat (first | (with_reducible first | exact HB.out | apply below_alloc | apply pw_below_drewN | apply below_drew1) | exact HB.out)))); have n2_ := Aside0.mk (below_step (by repeat (first | (with_reducible first | exact HB.out | apply below_alloc | apply pw_below_drewN | apply below_drew1) | exact HB.out)) hb); clear HO_0; clear HB; have HO_0 := n0_; have HO160 := n1_; have HB := n2_; clear n0_ n1_ n2_; (try clear hb); (try clear hb2); (try clear hk); (try clear hi); (try clear ho0); obtain ⟨Ao12, co12, eo12⟩ := Kd.R_slice HO160.out; subst eo12))
            go_loopg [5, 46] k1 (fun kq v5 v46 w' => ∃ (x5_2 : Int) (x46_2 : Int), v5 = .int .i64 x5_2 ∧ v46 = .int .i64 x46_2 ∧ Aside0 (deadboltlaw09_RootSpots.l1 kq t147 x5_2 x33_1 x33_1 t157 (t157.length : Int) x46_2 = some r) ∧ Aside0 (kq ≤ k1) ∧ Aside0 (Kd.N k33 33 w' w.heap.size (fun k_ => some k_ ≠ ((.slice Ao12 t157.length co12) : Value).ownBlock) (.slice Ao6 t147.length co6) t147) ∧ Aside0 (Kd.R (Kd.int .i64) 3 w' w.heap.size (fun _ => True) (.slice Ao12 t157.length co12) t157) ∧ Aside0 (Below w.heap.size w w'))
            case atStart => exact ⟨(x5_1), (0), (by first | rfl | (simp; done) | (simp [*]; done)), (by first | rfl | (simp; done) | (simp [*]; done)), H', ⟨Nat.le_refl _⟩, ⟨by (with_reducible repeat (first | apply Kd.N_alloc | apply Kd.N_drewN | apply Kd.N_drew)); exact Kd.N_mono HO_0.out (fun _ hk => hk.2)⟩, ⟨by (with_reducible repeat (first | apply Kd.R_alloc | apply Kd.R_drewN | apply Kd.R_drew)); exact HO160.out⟩, ⟨by repeat (first | (with_reducible first | exact HB.out | apply below_alloc | apply pw_below_drewN | apply below_drew1) | exact HB.out)⟩⟩
            case round =>
              clear H'
              try clear c1
              try clear p2
              try clear c3
              try clear c4
              try clear c8
              try clear c8b0
              try clear c10
              try clear c10b0
              try clear c10b1
              try clear c11
              try clear c12
              try clear p2
              obtain ⟨x5_2, x46_2, rfl, rfl, HA, HK2, HO_0, HO_44, HB⟩ := hrel
              cases gk with
              | zero => exact absurd HA.out (by simp [deadboltlaw09_RootSpots.l1])
              | succ k2 =>
                have H := HA.out
                clear HA
                simp only [deadboltlaw09_RootSpots.l1] at H
                by_cases c13 : x46_2 < (t157.length : Int)
                · rw [if_pos c13] at H
                  have c13b0 : decide (x46_2 < (t157.length : Int)) = true := decide_eq_true c13
                  clear c13
                  by_cases c14 : 0 ≤ x46_2
                  · rw [if_pos c14] at H
                    have c14b0 : decide (0 ≤ x46_2) = true := decide_eq_true c14
                    clear c14
                    by_cases c15 : x46_2 < (t157.length : Int)
                    · rw [if_pos c15] at H
                      have c15b0 : decide (x46_2 < (t157.length : Int)) = true := decide_eq_true c15
                      clear c15
                      replace H := Option.bind_eq_some_iff.mp H
                      obtain ⟨⟨t162, t163⟩, A160, H⟩ := H
                      replace H : (if t163 = 0 then (if t162 = x33_1 then (if x5_2 ≥ (t147.length : Int) then (some false) else (if 0 ≤ x5_2 then (if x5_2 < (t147.length : Int) then (if ((rd_T33 t147 x5_2).f0) = (rd t157 x46_2) then (deadboltlaw09_RootSpots.l1 k2 t147 (wrap64 (x5_2 + 1)) x33_1 x33_1 t157 (t157.length : Int) (wrap64 (x46_2 + 1))) else (some false)) else (none)) else (none))) else (some false)) else (some false)) = some r := H
                      have A16 := Aside0.mk A160
                      clear A160
                      by_cases c17 : t163 = 0
                      · rw [if_pos c17] at H
                        have c17b0 : (t163 == 0) = true := beq_iff_eq.mpr c17
                        have c17b1 : (t163 != 0) = false := bne_eq_false_iff_eq.mpr c17
                        clear c17
                        by_cases c18 : t162 = x33_1
                        · rw [if_pos c18] at H
                          have c18b0 : (t162 == x33_1) = true := beq_iff_eq.mpr c18
                          have c18b1 : (t162 != x33_1) = false := bne_eq_false_iff_eq.mpr c18
                          clear c18
                          by_cases c19 : x5_2 ≥ (t147.length : Int)
                          · rw [if_pos c19] at H
                            have c19b0 : decide ((t147.length : Int) ≤ x5_2) = true := decide_eq_true c19
                            clear c19
                            obtain rfl := Option.some.inj H
                            have p161 : 0 ≤ (x46_2 : Int) := of_decide_eq_true (by first | (with_reducible assumption) | assumption)
                            have q161 : x46_2 < (t157.length : Int) := of_decide_eq_true (by first | (with_reducible assumption) | assumption)
                            obtain ⟨ad161, e161, hx161_0⟩ := Kd.at_int (Kd.R_reads' HO_44.out).2.2 x46_2 p161 q161
                            cases e161
                            replace p161 := eq_true p161
                            replace q161 := eq_true q161
                            go_wp2_with (first | ((with_reducible refine gate_callee (f := 14) rfl ?_); refine goesL_ (some 52) rfl rfl Try.func14 (by kernel_rfl) rfl #[.int .i64 (rd t157 x46_2)] rfl (by (try simp only [List.map_toArray, List.map_cons, List.map_nil]); first | done | rfl | (simp only [List.length_drop, List.length_take]; rfl)) ?_; (with_reducible refine (root_Root.calls (rd t157 x46_2) t162 t163 _ A16.out).mono ?_); rintro e w' ⟨rfl, ⟨nd, rfl⟩⟩; refine ⟨_, rfl, ?_⟩))
                            go_ret
                            exact ⟨by first | rfl | (simp [errW_none, errW_some] <;> rfl) | (simp [*, errW_none, errW_some] <;> rfl), by repeat (first | (with_reducible first | exact HB.out | apply below_alloc | apply pw_below_drewN | apply below_drew1) | exact HB.out)⟩
                          · rw [if_neg c19] at H
                            have c19b0 : decide ((t147.length : Int) ≤ x5_2) = false := decide_eq_false c19
                            clear c19
                            by_cases c20 : 0 ≤ x5_2
                            · rw [if_pos c20] at H
                              have c20b0 : decide (0 ≤ x5_2) = true := decide_eq_true c20
                              clear c20
                              by_cases c21 : x5_2 < (t147.length : Int)
                              · rw [if_pos c21] at H
                                have c21b0 : decide (x5_2 < (t147.length : Int)) = true := decide_eq_true c21
                                clear c21
                                by_cases c22 : ((rd_T33 t147 x5_2).f0) = (rd t157 x46_2)
                                · rw [if_pos c22] at H
                                  have c22b0 : (((rd_T33 t147 x5_2).f0) == (rd t157 x46_2)) = true := beq_iff_eq.mpr c22
                                  have c22b1 : (((rd_T33 t147 x5_2).f0) != (rd t157 x46_2)) = false := bne_eq_false_iff_eq.mpr c22
                                  clear c22
                                  have H' := Aside0.mk H
                                  clear H
                                  have p161 : 0 ≤ (x46_2 : Int) := of_decide_eq_true (by first | (with_reducible assumption) | assumption)
                                  have q161 : x46_2 < (t157.length : Int) := of_decide_eq_true (by first | (with_reducible assumption) | assumption)
                                  obtain ⟨ad161, e161, hx161_0⟩ := Kd.at_int (Kd.R_reads' HO_44.out).2.2 x46_2 p161 q161
                                  cases e161
                                  replace p161 := eq_true p161
                                  replace q161 := eq_true q161
                                  go_wp2_with (first | ((with_reducible refine gate_callee (f := 14) rfl ?_); refine goesL_ (some 52) rfl rfl Try.func14 (by kernel_rfl) rfl #[.int .i64 (rd t157 x46_2)] rfl (by (try simp only [List.map_toArray, List.map_cons, List.map_nil]); first | done | rfl | (simp only [List.length_drop, List.length_take]; rfl)) ?_; (with_reducible refine (root_Root.calls (rd t157 x46_2) t162 t163 _ A16.out).mono ?_); rintro e w' ⟨rfl, ⟨nd, rfl⟩⟩; refine ⟨_, rfl, ?_⟩; have p164 : 0 ≤ (x5_2 : Int) := of_decide_eq_true (by first | (with_reducible assumption) | assumption); have q164 : x5_2 < (t147.length : Int) := of_decide_eq_true (by first | (with_reducible assumption) | assumption); obtain ⟨ad164, A164_2, c164_2, e164, hx164_0, hx164_1, hx164_2, hl164_2, hi164_2⟩ := at_T33 (Kd.N_reads' HO_0.out).2.2 x5_2 p164 q164; cases e164; obtain ⟨ce164, hce164, hMe164, hcc164⟩ := Kd.N_get HO_0.out z33 x5_2 p164 (by first | exact q164 | exact of_decide_eq_true (by first | (with_reducible assumption) | assumption) | (have e_ := (Kd.N_reads' HO_0.out).1; omega)); obtain ⟨ua164_2, uc164_2, rfl, ul164_2, ge164_2⟩ := k33_openF hMe164; have hv164_2 := hcc164 2 _ rfl; rw [add_field _ _ 2 (by omega)] at hv164_2; replace hv164_2 := Option.some.inj (hv164_2.symm.trans hx164_2); injection hv164_2 with hva_ hvn_ hvc_; rw [hva_] at ge164_2; rw [hvc_] at ul164_2; have HL164_2 := Aside0.mk (show Kd.V (Kd.int .i64) 3 _ w.heap.size _ _ ((rd_T33 t147 x5_2).f2) from Kd.V_mk ul164_2 ge164_2); clear hva_ hvn_ hvc_ ge164_2 ul164_2; clear hcc164 hce164; have HR164_2 := Aside0.mk hi164_2; have HC164_2 := Aside0.mk hl164_2; clear hi164_2 hl164_2; replace p164 := eq_true p164; replace q164 := eq_true q164))
                                  go_roundg k2
                                  case measure => have := HK1.out; have := HK2.out; omega
                                  case rel => exact ⟨(wrap64 (x5_2 + 1)), (wrap64 (x46_2 + 1)), (by first | rfl | (simp; done) | (simp [*]; done)), (by first | rfl | (simp; done) | (simp [*]; done)), H', ⟨by have := HK1.out; have := HK2.out; omega⟩, ⟨by (with_reducible repeat (first | apply Kd.N_alloc | apply Kd.N_drewN | apply Kd.N_drew)); exact HO_0.out⟩, ⟨by (with_reducible repeat (first | apply Kd.R_alloc | apply Kd.R_drewN | apply Kd.R_drew)); exact HO_44.out⟩, ⟨by repeat (first | (with_reducible first | exact HB.out | apply below_alloc | apply pw_below_drewN | apply below_drew1) | exact HB.out)⟩⟩
                                · rw [if_neg c22] at H
                                  have c22b0 : (((rd_T33 t147 x5_2).f0) == (rd t157 x46_2)) = false := beq_eq_false_iff_ne.mpr c22
                                  have c22b1 : (((rd_T33 t147 x5_2).f0) != (rd t157 x46_2)) = true := bne_iff_ne.mpr c22
                                  obtain rfl := Option.some.inj H
                                  have p161 : 0 ≤ (x46_2 : Int) := of_decide_eq_true (by first | (with_reducible assumption) | assumption)
                                  have q161 : x46_2 < (t157.length : Int) := of_decide_eq_true (by first | (with_reducible assumption) | assumption)
                                  obtain ⟨ad161, e161, hx161_0⟩ := Kd.at_int (Kd.R_reads' HO_44.out).2.2 x46_2 p161 q161
                                  cases e161
                                  replace p161 := eq_true p161
                                  replace q161 := eq_true q161
                                  go_wp2_with (first | ((with_reducible refine gate_callee (f := 14) rfl ?_); refine goesL_ (some 52) rfl rfl Try.func14 (by kernel_rfl) rfl #[.int .i64 (rd t157 x46_2)] rfl (by (try simp only [List.map_toArray, List.map_cons, List.map_nil]); first | done | rfl | (simp only [List.length_drop, List.length_take]; rfl)) ?_; (with_reducible refine (root_Root.calls (rd t157 x46_2) t162 t163 _ A16.out).mono ?_); rintro e w' ⟨rfl, ⟨nd, rfl⟩⟩; refine ⟨_, rfl, ?_⟩; have p164 : 0 ≤ (x5_2 : Int) := of_decide_eq_true (by first | (with_reducible assumption) | assumption); have q164 : x5_2 < (t147.length : Int) := of_decide_eq_true (by first | (with_reducible assumption) | assumption); obtain ⟨ad164, A164_2, c164_2, e164, hx164_0, hx164_1, hx164_2, hl164_2, hi164_2⟩ := at_T33 (Kd.N_reads' HO_0.out).2.2 x5_2 p164 q164; cases e164; obtain ⟨ce164, hce164, hMe164, hcc164⟩ := Kd.N_get HO_0.out z33 x5_2 p164 (by first | exact q164 | exact of_decide_eq_true (by first | (with_reducible assumption) | assumption) | (have e_ := (Kd.N_reads' HO_0.out).1; omega)); obtain ⟨ua164_2, uc164_2, rfl, ul164_2, ge164_2⟩ := k33_openF hMe164; have hv164_2 := hcc164 2 _ rfl; rw [add_field _ _ 2 (by omega)] at hv164_2; replace hv164_2 := Option.some.inj (hv164_2.symm.trans hx164_2); injection hv164_2 with hva_ hvn_ hvc_; rw [hva_] at ge164_2; rw [hvc_] at ul164_2; have HL164_2 := Aside0.mk (show Kd.V (Kd.int .i64) 3 _ w.heap.size _ _ ((rd_T33 t147 x5_2).f2) from Kd.V_mk ul164_2 ge164_2); clear hva_ hvn_ hvc_ ge164_2 ul164_2; clear hcc164 hce164; have HR164_2 := Aside0.mk hi164_2; have HC164_2 := Aside0.mk hl164_2; clear hi164_2 hl164_2; replace p164 := eq_true p164; replace q164 := eq_true q164))
                                  go_ret
                                  exact ⟨by first | rfl | (simp [errW_none, errW_some] <;> rfl) | (simp [*, errW_none, errW_some] <;> rfl), by repeat (first | (with_reducible first | exact HB.out | apply below_alloc | apply pw_below_drewN | apply below_drew1) | exact HB.out)⟩
                              · rw [if_neg c21] at H
                                exact absurd H (by simp)
                            · rw [if_neg c20] at H
                              exact absurd H (by simp)
                        · rw [if_neg c18] at H
                          have c18b0 : (t162 == x33_1) = false := beq_eq_false_iff_ne.mpr c18
                          have c18b1 : (t162 != x33_1) = true := bne_iff_ne.mpr c18
                          obtain rfl := Option.some.inj H
                          have p161 : 0 ≤ (x46_2 : Int) := of_decide_eq_true (by first | (with_reducible assumption) | assumption)
                          have q161 : x46_2 < (t157.length : Int) := of_decide_eq_true (by first | (with_reducible assumption) | assumption)
                          obtain ⟨ad161, e161, hx161_0⟩ := Kd.at_int (Kd.R_reads' HO_44.out).2.2 x46_2 p161 q161
                          cases e161
                          replace p161 := eq_true p161
                          replace q161 := eq_true q161
                          go_wp2_with (first | ((with_reducible refine gate_callee (f := 14) rfl ?_); refine goesL_ (some 52) rfl rfl Try.func14 (by kernel_rfl) rfl #[.int .i64 (rd t157 x46_2)] rfl (by (try simp only [List.map_toArray, List.map_cons, List.map_nil]); first | done | rfl | (simp only [List.length_drop, List.length_take]; rfl)) ?_; (with_reducible refine (root_Root.calls (rd t157 x46_2) t162 t163 _ A16.out).mono ?_); rintro e w' ⟨rfl, ⟨nd, rfl⟩⟩; refine ⟨_, rfl, ?_⟩))
                          go_ret
                          exact ⟨by first | rfl | (simp [errW_none, errW_some] <;> rfl) | (simp [*, errW_none, errW_some] <;> rfl), by repeat (first | (with_reducible first | exact HB.out | apply below_alloc | apply pw_below_drewN | apply below_drew1) | exact HB.out)⟩
                      · rw [if_neg c17] at H
                        have c17b0 : (t163 == 0) = false := beq_eq_false_iff_ne.mpr c17
                        have c17b1 : (t163 != 0) = true := bne_iff_ne.mpr c17
                        obtain rfl := Option.some.inj H
                        have p161 : 0 ≤ (x46_2 : Int) := of_decide_eq_true (by first | (with_reducible assumption) | assumption)
                        have q161 : x46_2 < (t157.length : Int) := of_decide_eq_true (by first | (with_reducible assumption) | assumption)
                        obtain ⟨ad161, e161, hx161_0⟩ := Kd.at_int (Kd.R_reads' HO_44.out).2.2 x46_2 p161 q161
                        cases e161
                        replace p161 := eq_true p161
                        replace q161 := eq_true q161
                        go_wp2_with (first | ((with_reducible refine gate_callee (f := 14) rfl ?_); refine goesL_ (some 52) rfl rfl Try.func14 (by kernel_rfl) rfl #[.int .i64 (rd t157 x46_2)] rfl (by (try simp only [List.map_toArray, List.map_cons, List.map_nil]); first | done | rfl | (simp only [List.length_drop, List.length_take]; rfl)) ?_; (with_reducible refine (root_Root.calls (rd t157 x46_2) t162 t163 _ A16.out).mono ?_); rintro e w' ⟨rfl, ⟨nd, rfl⟩⟩; refine ⟨_, rfl, ?_⟩))
                        go_ret
                        exact ⟨by first | rfl | (simp [errW_none, errW_some] <;> rfl) | (simp [*, errW_none, errW_some] <;> rfl), by repeat (first | (with_reducible first | exact HB.out | apply below_alloc | apply pw_below_drewN | apply below_drew1) | exact HB.out)⟩
                    · rw [if_neg c15] at H
                      exact absurd H (by simp)
                  · rw [if_neg c14] at H
                    exact absurd H (by simp)
                · rw [if_neg c13] at H
                  have c13b0 : decide (x46_2 < (t157.length : Int)) = false := decide_eq_false c13
                  clear c13
                  have H' := Aside0.mk H
                  clear H
                  go_wp2
                  go_roundg k2
                  case measure => have := HK1.out; have := HK2.out; omega
                  case rel => exact ⟨(x5_2), (wrap64 (x33_1 + 1)), (by first | rfl | (simp; done) | (simp [*]; done)), (by first | rfl | (simp; done) | (simp [*]; done)), H', ⟨by have := HK1.out; have := HK2.out; omega⟩, ⟨by (with_reducible repeat (first | apply Kd.N_alloc | apply Kd.N_drewN | apply Kd.N_drew)); exact Kd.N_mono HO_0.out (fun _ hk => trivial)⟩, ⟨by repeat (first | (with_reducible first | exact HB.out | apply below_alloc | apply pw_below_drewN | apply below_drew1) | exact HB.out)⟩⟩
          · rw [if_neg c10] at H
            have c10b0 : (t158 == 0) = false := beq_eq_false_iff_ne.mpr c10
            have c10b1 : (t158 != 0) = true := bne_iff_ne.mpr c10
            obtain rfl := Option.some.inj H
            go_wp2_with (first | ((with_reducible refine gate_callee (f := 12) rfl ?_); refine goesL_ (some 39) rfl rfl Try.func12 (by kernel_rfl) rfl #[.slice Ao6 t147.length co6, .int .i64 x33_1] rfl (by (try simp only [List.map_toArray, List.map_cons, List.map_nil]); first | done | rfl | (simp only [List.length_drop, List.length_take]; rfl)) ?_; (with_reducible refine (root_Under.calls k1 _ _ t147 x33_1 t157 t158 _ ?side1 ?side2 A9.out).mono ?_); (case side1 => repeat (first | exact (Kd.N_reads' HO_0.out).2.2 | (with_reducible refine Kd.C_alloc ?_ _) | (with_reducible refine Kd.C_drewN ?_ _) | (with_reducible refine Kd.C_drew ?_))); (case side2 => exact (Kd.N_reads' HO_0.out).2.1); rintro e w23 ⟨v159, rfl, ho0, hb⟩; refine ⟨_, rfl, ?_⟩; have n0_ := Aside0.mk (Kd.N_elder' (by (with_reducible repeat (first | apply Kd.N_alloc | apply Kd.N_drewN | apply Kd.N_drew)); exact HO_0.out) (Kd.R_base ho0) hb); have n1_ := Aside0.mk (Kd.R_lower ho0 (below_size (by repeat (first | (with_reducible first | exact HB.out | apply below_alloc | apply pw_below_drewN | apply below_drew1) | exact HB.out)))); have n2_ := Aside0.mk (below_step (by repeat (first | (with_reducible first | exact HB.out | apply below_alloc | apply pw_below_drewN | apply below_drew1) | exact HB.out)) hb); clear HO_0; clear HB; have HO_0 := n0_; have HO160 := n1_; have HB := n2_; clear n0_ n1_ n2_; (try clear hb); (try clear hb2); (try clear hk); (try clear hi); (try clear ho0)))
            go_ret
            exact ⟨by first | rfl | (simp [errW_none, errW_some] <;> rfl) | (simp [*, errW_none, errW_some] <;> rfl), by repeat (first | (with_reducible first | exact HB.out | apply below_alloc | apply pw_below_drewN | apply below_drew1) | exact HB.out)⟩
        · rw [if_neg c8] at H
          have c8b0 : decide (x33_1 < 251) = false := decide_eq_false c8
          clear c8
          replace H := Option.bind_eq_some_iff.mp H
          obtain ⟨t156, A240, H⟩ := H
          replace H : (if t156 = true then (some (x5_1 == (t147.length : Int))) else (some false)) = some r := H
          have A24 := Aside0.mk A240
          clear A240
          by_cases c25 : t156 = true
          · subst c25
            have H1 : (some (x5_1 == (t147.length : Int))) = some r := by rw [if_pos rfl] at H; exact H
            clear H
            have H := H1
            clear H1
            obtain rfl := Option.some.inj H
            go_wp2_with (first | ((with_reducible refine gate_callee (f := 13) rfl ?_); refine goesL_ (some 81) rfl rfl Try.func13 (by kernel_rfl) rfl #[] rfl (by (try simp only [List.map_toArray, List.map_cons, List.map_nil]); first | done | rfl | (simp only [List.length_drop, List.length_take]; rfl)) ?_; (with_reducible refine (deadboltlaw09_alive.calls  true _ A24.out).mono ?_); rintro e w26 ⟨rfl, hb⟩; refine ⟨_, rfl, ?_⟩; have n0_ := Aside0.mk (Kd.N_below (by (with_reducible repeat (first | apply Kd.N_alloc | apply Kd.N_drewN | apply Kd.N_drew)); exact HO_0.out) hb); have n1_ := Aside0.mk (below_step (by repeat (first | (with_reducible first | exact HB.out | apply below_alloc | apply pw_below_drewN | apply below_drew1) | exact HB.out)) hb); clear HO_0; clear HB; have HO_0 := n0_; have HB := n1_; clear n0_ n1_; (try clear hb); (try clear hb2); (try clear hk); (try clear hi)))
            go_ret
            exact ⟨by first | rfl | (simp [errW_none, errW_some] <;> rfl) | (simp [*, errW_none, errW_some] <;> rfl), by repeat (first | (with_reducible first | exact HB.out | apply below_alloc | apply pw_below_drewN | apply below_drew1) | exact HB.out)⟩
          · replace c25 := Bool.eq_false_iff.mpr c25
            subst c25
            have H1 : (some false) = some r := by rw [if_neg (show ¬ (false = true) by decide)] at H; exact H
            clear H
            have H := H1
            clear H1
            obtain rfl := Option.some.inj H
            go_wp2_with (first | ((with_reducible refine gate_callee (f := 13) rfl ?_); refine goesL_ (some 81) rfl rfl Try.func13 (by kernel_rfl) rfl #[] rfl (by (try simp only [List.map_toArray, List.map_cons, List.map_nil]); first | done | rfl | (simp only [List.length_drop, List.length_take]; rfl)) ?_; (with_reducible refine (deadboltlaw09_alive.calls  false _ A24.out).mono ?_); rintro e w27 ⟨rfl, hb⟩; refine ⟨_, rfl, ?_⟩; have n0_ := Aside0.mk (Kd.N_below (by (with_reducible repeat (first | apply Kd.N_alloc | apply Kd.N_drewN | apply Kd.N_drew)); exact HO_0.out) hb); have n1_ := Aside0.mk (below_step (by repeat (first | (with_reducible first | exact HB.out | apply below_alloc | apply pw_below_drewN | apply below_drew1) | exact HB.out)) hb); clear HO_0; clear HB; have HO_0 := n0_; have HB := n1_; clear n0_ n1_; (try clear hb); (try clear hb2); (try clear hk); (try clear hi)))
            go_ret
            exact ⟨by first | rfl | (simp [errW_none, errW_some] <;> rfl) | (simp [*, errW_none, errW_some] <;> rfl), by repeat (first | (with_reducible first | exact HB.out | apply below_alloc | apply pw_below_drewN | apply below_drew1) | exact HB.out)⟩
  · replace c4 := Bool.eq_false_iff.mpr c4
    subst c4
    have H1 : ((root_Under.f k t147 0).bind fun bt151 => ((deadboltlaw09_alive.f).bind fun t155 => (if t155 = true then (if bt151.2 = 1 then (some ((bt151.1.length : Int) == 0)) else (some false)) else (some false)))) = some r := by rw [if_neg (show ¬ (false = true) by decide)] at H; exact H
    clear H
    have H := H1
    clear H1
    replace H := Option.bind_eq_some_iff.mp H
    obtain ⟨⟨t151, t152⟩, A280, H⟩ := H
    replace H : ((deadboltlaw09_alive.f).bind fun t155 => (if t155 = true then (if t152 = 1 then (some ((t151.length : Int) == 0)) else (some false)) else (some false))) = some r := H
    have A28 := Aside0.mk A280
    clear A280
    replace H := Option.bind_eq_some_iff.mp H
    obtain ⟨t155, A290, H⟩ := H
    replace H : (if t155 = true then (if t152 = 1 then (some ((t151.length : Int) == 0)) else (some false)) else (some false)) = some r := H
    have A29 := Aside0.mk A290
    clear A290
    by_cases c30 : t155 = true
    · subst c30
      have H1 : (if t152 = 1 then (some ((t151.length : Int) == 0)) else (some false)) = some r := by rw [if_pos rfl] at H; exact H
      clear H
      have H := H1
      clear H1
      by_cases c31 : t152 = 1
      · rw [if_pos c31] at H
        have c31b0 : (t152 == 1) = true := beq_iff_eq.mpr c31
        have c31b1 : (t152 != 1) = false := bne_eq_false_iff_eq.mpr c31
        clear c31
        obtain rfl := Option.some.inj H
        go_enter Try.func3, Try.ntmps3
        go_wp2_with (first | ((with_reducible refine gate_callee (f := 10) rfl ?_); refine goesL_ (some 14) rfl rfl Try.func10 (by kernel_rfl) rfl #[.slice A0 l0.length c0] rfl (by (try simp only [List.map_toArray, List.map_cons, List.map_nil]); first | done | rfl | (simp only [List.length_drop, List.length_take]; rfl)) ?_; (with_reducible refine (deadboltlaw09_few.calls k (fun k_ => k_ < w.heap.size) _ _ l0 t147 _ ?side1 A2.out).mono ?_); (case side1 => exact Kd.V_mk HC0.out (Kd.F_below (Kd.C_F k33_heap HR0.out) (by repeat (first | (with_reducible first | exact HB.out | apply below_alloc | apply pw_below_drewN | apply below_drew1) | exact HB.out)))); rintro e w32 ⟨v148, rfl, ho0, hb⟩; refine ⟨_, rfl, ?_⟩; have n0_ := Aside0.mk (Kd.N_lower (Kd.N_mono (ok' := fun k_ => True) ho0 (fun k_ hk_ => trivial)) (below_size (by repeat (first | (with_reducible first | exact HB.out | apply below_alloc | apply pw_below_drewN | apply below_drew1) | exact HB.out)))); have n1_ := Aside0.mk (below_step (by repeat (first | (with_reducible first | exact HB.out | apply below_alloc | apply pw_below_drewN | apply below_drew1) | exact HB.out)) hb); clear HB; have HO149 := n0_; have HB := n1_; clear n0_ n1_; (try clear hb); (try clear hb2); (try clear hk); (try clear hi); (try clear ho0); obtain ⟨Ao33, co33, eo33⟩ := Kd.N_slice HO149.out; subst eo33) | ((with_reducible refine gate_callee (f := 11) rfl ?_); refine goesL_ (some 16) rfl rfl Try.func11 (by kernel_rfl) rfl #[.slice Ao33 t147.length co33] rfl (by (try simp only [List.map_toArray, List.map_cons, List.map_nil]); first | done | rfl | (simp only [List.length_drop, List.length_take]; rfl)) ?_; (with_reducible refine (root_Right.calls k _ _ t147 false _ ?side1 ?side2 A3.out).mono ?_); (case side1 => repeat (first | exact (Kd.N_reads' HO149.out).2.2 | (with_reducible refine Kd.C_alloc ?_ _) | (with_reducible refine Kd.C_drewN ?_ _) | (with_reducible refine Kd.C_drew ?_))); (case side2 => exact (Kd.N_reads' HO149.out).2.1); rintro e w34 ⟨rfl, hb⟩; refine ⟨_, rfl, ?_⟩; have n0_ := Aside0.mk (Kd.N_below (by (with_reducible repeat (first | apply Kd.N_alloc | apply Kd.N_drewN | apply Kd.N_drew)); exact HO149.out) hb); have n1_ := Aside0.mk (below_step (by repeat (first | (with_reducible first | exact HB.out | apply below_alloc | apply pw_below_drewN | apply below_drew1) | exact HB.out)) hb); clear HO149; clear HB; have HO149 := n0_; have HB := n1_; clear n0_ n1_; (try clear hb); (try clear hb2); (try clear hk); (try clear hi)) | ((with_reducible refine gate_callee (f := 12) rfl ?_); refine goesL_ (some 20) rfl rfl Try.func12 (by kernel_rfl) rfl #[.slice Ao33 t147.length co33, .int .i64 0] rfl (by (try simp only [List.map_toArray, List.map_cons, List.map_nil]); first | done | rfl | (simp only [List.length_drop, List.length_take]; rfl)) ?_; (with_reducible refine (root_Under.calls k _ _ t147 0 t151 t152 _ ?side1 ?side2 A28.out).mono ?_); (case side1 => repeat (first | exact (Kd.N_reads' HO149.out).2.2 | (with_reducible refine Kd.C_alloc ?_ _) | (with_reducible refine Kd.C_drewN ?_ _) | (with_reducible refine Kd.C_drew ?_))); (case side2 => exact (Kd.N_reads' HO149.out).2.1); rintro e w35 ⟨v153, rfl, ho0, hb⟩; refine ⟨_, rfl, ?_⟩; have n0_ := Aside0.mk (Kd.N_elder' (by (with_reducible repeat (first | apply Kd.N_alloc | apply Kd.N_drewN | apply Kd.N_drew)); exact HO149.out) (Kd.R_base ho0) hb); have n1_ := Aside0.mk (Kd.R_lower ho0 (below_size (by repeat (first | (with_reducible first | exact HB.out | apply below_alloc | apply pw_below_drewN | apply below_drew1) | exact HB.out)))); have n2_ := Aside0.mk (below_step (by repeat (first | (with_reducible first | exact HB.out | apply below_alloc | apply pw_below_drewN | apply below_drew1) | exact HB.out)) hb); clear HO149; clear HB; have HO149 := n0_; have HO154 := n1_; have HB := n2_; clear n0_ n1_ n2_; (try clear hb); (try clear hb2); (try clear hk); (try clear hi); (try clear ho0)) | ((with_reducible refine gate_callee (f := 13) rfl ?_); refine goesL_ (some 23) rfl rfl Try.func13 (by kernel_rfl) rfl #[] rfl (by (try simp only [List.map_toArray, List.map_cons, List.map_nil]); first | done | rfl | (simp only [List.length_drop, List.length_take]; rfl)) ?_; (with_reducible refine (deadboltlaw09_alive.calls  true _ A29.out).mono ?_); rintro e w36 ⟨rfl, hb⟩; refine ⟨_, rfl, ?_⟩; have n0_ := Aside0.mk (Kd.N_below (by (with_reducible repeat (first | apply Kd.N_alloc | apply Kd.N_drewN | apply Kd.N_drew)); exact HO149.out) hb); have n1_ := Aside0.mk (Kd.R_below (by (with_reducible repeat (first | apply Kd.R_alloc | apply Kd.R_drewN | apply Kd.R_drew)); exact HO154.out) hb); have n2_ := Aside0.mk (below_step (by repeat (first | (with_reducible first | exact HB.out | apply below_alloc | apply pw_below_drewN | apply below_drew1) | exact HB.out)) hb); clear HO149; clear HO154; clear HB; have HO149 := n0_; have HO154 := n1_; have HB := n2_; clear n0_ n1_ n2_; (try clear hb); (try clear hb2); (try clear hk); (try clear hi); obtain ⟨Ao37, co37, eo37⟩ := Kd.R_slice HO154.out; subst eo37))
        go_ret
        exact ⟨by first | rfl | (simp [errW_none, errW_some] <;> rfl) | (simp [*, errW_none, errW_some] <;> rfl), by repeat (first | (with_reducible first | exact HB.out | apply below_alloc | apply pw_below_drewN | apply below_drew1) | exact HB.out)⟩
      · rw [if_neg c31] at H
        have c31b0 : (t152 == 1) = false := beq_eq_false_iff_ne.mpr c31
        have c31b1 : (t152 != 1) = true := bne_iff_ne.mpr c31
        obtain rfl := Option.some.inj H
        go_enter Try.func3, Try.ntmps3
        go_wp2_with (first | ((with_reducible refine gate_callee (f := 10) rfl ?_); refine goesL_ (some 14) rfl rfl Try.func10 (by kernel_rfl) rfl #[.slice A0 l0.length c0] rfl (by (try simp only [List.map_toArray, List.map_cons, List.map_nil]); first | done | rfl | (simp only [List.length_drop, List.length_take]; rfl)) ?_; (with_reducible refine (deadboltlaw09_few.calls k (fun k_ => k_ < w.heap.size) _ _ l0 t147 _ ?side1 A2.out).mono ?_); (case side1 => exact Kd.V_mk HC0.out (Kd.F_below (Kd.C_F k33_heap HR0.out) (by repeat (first | (with_reducible first | exact HB.out | apply below_alloc | apply pw_below_drewN | apply below_drew1) | exact HB.out)))); rintro e w38 ⟨v148, rfl, ho0, hb⟩; refine ⟨_, rfl, ?_⟩; have n0_ := Aside0.mk (Kd.N_lower (Kd.N_mono (ok' := fun k_ => True) ho0 (fun k_ hk_ => trivial)) (below_size (by repeat (first | (with_reducible first | exact HB.out | apply below_alloc | apply pw_below_drewN | apply below_drew1) | exact HB.out)))); have n1_ := Aside0.mk (below_step (by repeat (first | (with_reducible first | exact HB.out | apply below_alloc | apply pw_below_drewN | apply below_drew1) | exact HB.out)) hb); clear HB; have HO149 := n0_; have HB := n1_; clear n0_ n1_; (try clear hb); (try clear hb2); (try clear hk); (try clear hi); (try clear ho0); obtain ⟨Ao39, co39, eo39⟩ := Kd.N_slice HO149.out; subst eo39) | ((with_reducible refine gate_callee (f := 11) rfl ?_); refine goesL_ (some 16) rfl rfl Try.func11 (by kernel_rfl) rfl #[.slice Ao39 t147.length co39] rfl (by (try simp only [List.map_toArray, List.map_cons, List.map_nil]); first | done | rfl | (simp only [List.length_drop, List.length_take]; rfl)) ?_; (with_reducible refine (root_Right.calls k _ _ t147 false _ ?side1 ?side2 A3.out).mono ?_); (case side1 => repeat (first | exact (Kd.N_reads' HO149.out).2.2 | (with_reducible refine Kd.C_alloc ?_ _) | (with_reducible refine Kd.C_drewN ?_ _) | (with_reducible refine Kd.C_drew ?_))); (case side2 => exact (Kd.N_reads' HO149.out).2.1); rintro e w40 ⟨rfl, hb⟩; refine ⟨_, rfl, ?_⟩; have n0_ := Aside0.mk (Kd.N_below (by (with_reducible repeat (first | apply Kd.N_alloc | apply Kd.N_drewN | apply Kd.N_drew)); exact HO149.out) hb); have n1_ := Aside0.mk (below_step (by repeat (first | (with_reducible first | exact HB.out | apply below_alloc | apply pw_below_drewN | apply below_drew1) | exact HB.out)) hb); clear HO149; clear HB; have HO149 := n0_; have HB := n1_; clear n0_ n1_; (try clear hb); (try clear hb2); (try clear hk); (try clear hi)) | ((with_reducible refine gate_callee (f := 12) rfl ?_); refine goesL_ (some 20) rfl rfl Try.func12 (by kernel_rfl) rfl #[.slice Ao39 t147.length co39, .int .i64 0] rfl (by (try simp only [List.map_toArray, List.map_cons, List.map_nil]); first | done | rfl | (simp only [List.length_drop, List.length_take]; rfl)) ?_; (with_reducible refine (root_Under.calls k _ _ t147 0 t151 t152 _ ?side1 ?side2 A28.out).mono ?_); (case side1 => repeat (first | exact (Kd.N_reads' HO149.out).2.2 | (with_reducible refine Kd.C_alloc ?_ _) | (with_reducible refine Kd.C_drewN ?_ _) | (with_reducible refine Kd.C_drew ?_))); (case side2 => exact (Kd.N_reads' HO149.out).2.1); rintro e w41 ⟨v153, rfl, ho0, hb⟩; refine ⟨_, rfl, ?_⟩; have n0_ := Aside0.mk (Kd.N_elder' (by (with_reducible repeat (first | apply Kd.N_alloc | apply Kd.N_drewN | apply Kd.N_drew)); exact HO149.out) (Kd.R_base ho0) hb); have n1_ := Aside0.mk (Kd.R_lower ho0 (below_size (by repeat (first | (with_reducible first | exact HB.out | apply below_alloc | apply pw_below_drewN | apply below_drew1) | exact HB.out)))); have n2_ := Aside0.mk (below_step (by repeat (first | (with_reducible first | exact HB.out | apply below_alloc | apply pw_below_drewN | apply below_drew1) | exact HB.out)) hb); clear HO149; clear HB; have HO149 := n0_; have HO154 := n1_; have HB := n2_; clear n0_ n1_ n2_; (try clear hb); (try clear hb2); (try clear hk); (try clear hi); (try clear ho0)) | ((with_reducible refine gate_callee (f := 13) rfl ?_); refine goesL_ (some 23) rfl rfl Try.func13 (by kernel_rfl) rfl #[] rfl (by (try simp only [List.map_toArray, List.map_cons, List.map_nil]); first | done | rfl | (simp only [List.length_drop, List.length_take]; rfl)) ?_; (with_reducible refine (deadboltlaw09_alive.calls  true _ A29.out).mono ?_); rintro e w42 ⟨rfl, hb⟩; refine ⟨_, rfl, ?_⟩; have n0_ := Aside0.mk (Kd.N_below (by (with_reducible repeat (first | apply Kd.N_alloc | apply Kd.N_drewN | apply Kd.N_drew)); exact HO149.out) hb); have n1_ := Aside0.mk (Kd.R_below (by (with_reducible repeat (first | apply Kd.R_alloc | apply Kd.R_drewN | apply Kd.R_drew)); exact HO154.out) hb); have n2_ := Aside0.mk (below_step (by repeat (first | (with_reducible first | exact HB.out | apply below_alloc | apply pw_below_drewN | apply below_drew1) | exact HB.out)) hb); clear HO149; clear HO154; clear HB; have HO149 := n0_; have HO154 := n1_; have HB := n2_; clear n0_ n1_ n2_; (try clear hb); (try clear hb2); (try clear hk); (try clear hi)))
        go_ret
        exact ⟨by first | rfl | (simp [errW_none, errW_some] <;> rfl) | (simp [*, errW_none, errW_some] <;> rfl), by repeat (first | (with_reducible first | exact HB.out | apply below_alloc | apply pw_below_drewN | apply below_drew1) | exact HB.out)⟩
    · replace c30 := Bool.eq_false_iff.mpr c30
      subst c30
      have H1 : (some false) = some r := by rw [if_neg (show ¬ (false = true) by decide)] at H; exact H
      clear H
      have H := H1
      clear H1
      obtain rfl := Option.some.inj H
      go_enter Try.func3, Try.ntmps3
      go_wp2_with (first | ((with_reducible refine gate_callee (f := 10) rfl ?_); refine goesL_ (some 14) rfl rfl Try.func10 (by kernel_rfl) rfl #[.slice A0 l0.length c0] rfl (by (try simp only [List.map_toArray, List.map_cons, List.map_nil]); first | done | rfl | (simp only [List.length_drop, List.length_take]; rfl)) ?_; (with_reducible refine (deadboltlaw09_few.calls k (fun k_ => k_ < w.heap.size) _ _ l0 t147 _ ?side1 A2.out).mono ?_); (case side1 => exact Kd.V_mk HC0.out (Kd.F_below (Kd.C_F k33_heap HR0.out) (by repeat (first | (with_reducible first | exact HB.out | apply below_alloc | apply pw_below_drewN | apply below_drew1) | exact HB.out)))); rintro e w43 ⟨v148, rfl, ho0, hb⟩; refine ⟨_, rfl, ?_⟩; have n0_ := Aside0.mk (Kd.N_lower (Kd.N_mono (ok' := fun k_ => True) ho0 (fun k_ hk_ => trivial)) (below_size (by repeat (first | (with_reducible first | exact HB.out | apply below_alloc | apply pw_below_drewN | apply below_drew1) | exact HB.out)))); have n1_ := Aside0.mk (below_step (by repeat (first | (with_reducible first | exact HB.out | apply below_alloc | apply pw_below_drewN | apply below_drew1) | exact HB.out)) hb); clear HB; have HO149 := n0_; have HB := n1_; clear n0_ n1_; (try clear hb); (try clear hb2); (try clear hk); (try clear hi); (try clear ho0); obtain ⟨Ao44, co44, eo44⟩ := Kd.N_slice HO149.out; subst eo44) | ((with_reducible refine gate_callee (f := 11) rfl ?_); refine goesL_ (some 16) rfl rfl Try.func11 (by kernel_rfl) rfl #[.slice Ao44 t147.length co44] rfl (by (try simp only [List.map_toArray, List.map_cons, List.map_nil]); first | done | rfl | (simp only [List.length_drop, List.length_take]; rfl)) ?_; (with_reducible refine (root_Right.calls k _ _ t147 false _ ?side1 ?side2 A3.out).mono ?_); (case side1 => repeat (first | exact (Kd.N_reads' HO149.out).2.2 | (with_reducible refine Kd.C_alloc ?_ _) | (with_reducible refine Kd.C_drewN ?_ _) | (with_reducible refine Kd.C_drew ?_))); (case side2 => exact (Kd.N_reads' HO149.out).2.1); rintro e w45 ⟨rfl, hb⟩; refine ⟨_, rfl, ?_⟩; have n0_ := Aside0.mk (Kd.N_below (by (with_reducible repeat (first | apply Kd.N_alloc | apply Kd.N_drewN | apply Kd.N_drew)); exact HO149.out) hb); have n1_ := Aside0.mk (below_step (by repeat (first | (with_reducible first | exact HB.out | apply below_alloc | apply pw_below_drewN | apply below_drew1) | exact HB.out)) hb); clear HO149; clear HB; have HO149 := n0_; have HB := n1_; clear n0_ n1_; (try clear hb); (try clear hb2); (try clear hk); (try clear hi)) | ((with_reducible refine gate_callee (f := 12) rfl ?_); refine goesL_ (some 20) rfl rfl Try.func12 (by kernel_rfl) rfl #[.slice Ao44 t147.length co44, .int .i64 0] rfl (by (try simp only [List.map_toArray, List.map_cons, List.map_nil]); first | done | rfl | (simp only [List.length_drop, List.length_take]; rfl)) ?_; (with_reducible refine (root_Under.calls k _ _ t147 0 t151 t152 _ ?side1 ?side2 A28.out).mono ?_); (case side1 => repeat (first | exact (Kd.N_reads' HO149.out).2.2 | (with_reducible refine Kd.C_alloc ?_ _) | (with_reducible refine Kd.C_drewN ?_ _) | (with_reducible refine Kd.C_drew ?_))); (case side2 => exact (Kd.N_reads' HO149.out).2.1); rintro e w46 ⟨v153, rfl, ho0, hb⟩; refine ⟨_, rfl, ?_⟩; have n0_ := Aside0.mk (Kd.N_elder' (by (with_reducible repeat (first | apply Kd.N_alloc | apply Kd.N_drewN | apply Kd.N_drew)); exact HO149.out) (Kd.R_base ho0) hb); have n1_ := Aside0.mk (Kd.R_lower ho0 (below_size (by repeat (first | (with_reducible first | exact HB.out | apply below_alloc | apply pw_below_drewN | apply below_drew1) | exact HB.out)))); have n2_ := Aside0.mk (below_step (by repeat (first | (with_reducible first | exact HB.out | apply below_alloc | apply pw_below_drewN | apply below_drew1) | exact HB.out)) hb); clear HO149; clear HB; have HO149 := n0_; have HO154 := n1_; have HB := n2_; clear n0_ n1_ n2_; (try clear hb); (try clear hb2); (try clear hk); (try clear hi); (try clear ho0)) | ((with_reducible refine gate_callee (f := 13) rfl ?_); refine goesL_ (some 23) rfl rfl Try.func13 (by kernel_rfl) rfl #[] rfl (by (try simp only [List.map_toArray, List.map_cons, List.map_nil]); first | done | rfl | (simp only [List.length_drop, List.length_take]; rfl)) ?_; (with_reducible refine (deadboltlaw09_alive.calls  false _ A29.out).mono ?_); rintro e w47 ⟨rfl, hb⟩; refine ⟨_, rfl, ?_⟩; have n0_ := Aside0.mk (Kd.N_below (by (with_reducible repeat (first | apply Kd.N_alloc | apply Kd.N_drewN | apply Kd.N_drew)); exact HO149.out) hb); have n1_ := Aside0.mk (Kd.R_below (by (with_reducible repeat (first | apply Kd.R_alloc | apply Kd.R_drewN | apply Kd.R_drew)); exact HO154.out) hb); have n2_ := Aside0.mk (below_step (by repeat (first | (with_reducible first | exact HB.out | apply below_alloc | apply pw_below_drewN | apply below_drew1) | exact HB.out)) hb); clear HO149; clear HO154; clear HB; have HO149 := n0_; have HO154 := n1_; have HB := n2_; clear n0_ n1_ n2_; (try clear hb); (try clear hb2); (try clear hk); (try clear hi)))
      go_ret
      exact ⟨by first | rfl | (simp [errW_none, errW_some] <;> rfl) | (simp [*, errW_none, errW_some] <;> rfl), by repeat (first | (with_reducible first | exact HB.out | apply below_alloc | apply pw_below_drewN | apply below_drew1) | exact HB.out)⟩

end Go.Proofs.Ytnjnjajgpkmfhaa.PX

/-
  The addresses under a root; all roots together have all spots, each once, rising.
-/
namespace Go.Proofs.Ytnjnjajgpkmfhaa.PX
open Go.RowKit Go.Proofs.YtnjnjajgpkmfhaaW.PrintWords Go.Proofs.YtnjnjajgpkmfhaaW.PrintLast Go.Proofs.YtnjnjajgpkmfhaaW.PrintMore
/-- What has root n. -/
def isAt (n : Int) (s : Sp) : Bool := decide (rootI s.f0 = n)
theorem at_up {l : List Sp} (h : Tab l) (n : Int) : ((l.filter (isAt n)).map (·.f0)).Pairwise (· < ·) := by
  rw [List.pairwise_map]
  have h1 := List.pairwise_map.1 h.up
  have h2 : (l.filter (isAt n)).Pairwise (fun a b => LessP a.f0 b.f0) := h1.sublist List.filter_sublist
  refine h2.imp_of_mem fun {a b} ha hb hl => ?_
  have ea := (List.mem_filter.1 ha).2
  have eb := (List.mem_filter.1 hb).2
  simp only [isAt, decide_eq_true_eq] at ea eb
  unfold LessP at hl
  omega
theorem map_nd (ns : List Treap.Nd) : (ns.map ofNd).map toNd = ns := by
  rw [List.map_map]
  conv => rhs; rw [← List.map_id ns]
  exact List.map_congr_left fun _ _ => rfl
theorem under_f {l : List Sp} (h : Tab l) {n : Int} (h0 : 0 ≤ n) (h1 : n < 251) (h2 : ∀ s ∈ l, s.f2.length ≤ 1000) {k : Nat} (hk : 100 ≤ k) : root_Under.f k l n = some ((l.filter (isAt n)).map (·.f0), 0) := by
  have hf := h.few
  obtain ⟨b, e1, e2⟩ := right_f l (by omega) h2 k (by omega)
  obtain rfl := e2.2 h
  obtain ⟨k, rfl⟩ : ∃ q, k = q + 1 := ⟨k - 1, by omega⟩
  unfold root_Under.f
  rw [e1]
  simp only [Option.bind_some]
  rw [if_pos trivial, if_neg (by omega), root_Under.j0, if_neg (by simp; omega)]
  unfold root_tree.f
  rw [if_pos (by omega)]
  simp only [Option.bind_some]
  have hlen : ((l.filter (isAt n)).map (·.f0)).length ≤ 64 := by
    have := List.length_filter_le (isAt n) l
    rw [List.length_map]
    omega
  obtain ⟨g1, t, hg, ht⟩ := treeOf_good ((l.filter (isAt n)).map (·.f0)) hlen (fun a ha => by
    obtain ⟨s, hs, rfl⟩ := List.mem_map.1 ha
    have := (h.spot s (List.mem_filter.1 hs).1).1.1
    simpa [Treap.isKey] using this) (at_up h n)
  have hE : (fun s : Sp => decide (rootI s.f0 = n)) = isAt n := rfl
  rw [hE]
  generalize treeOf ((l.filter (isAt n)).map (·.f0)) = T at g1 hg ht ⊢
  unfold treap_Keys.f Treap.keysF
  rw [map_nd, if_pos (by rw [List.length_map]; omega), if_pos (hg.right (by omega))]
  simp only [Option.bind_some]
  rw [hg.keysL, ht]
theorem under_bad {l : List Sp} (h : ¬ Tab l) (hl : l.length ≤ 80) (h2 : ∀ s ∈ l, s.f2.length ≤ 1000) {n : Int} {k : Nat} (hk : 100 ≤ k) : root_Under.f k l n = some ([], 1) := by
  obtain ⟨b, e1, e2⟩ := right_f l (by omega) h2 k (by omega)
  obtain ⟨k, rfl⟩ : ∃ q, k = q + 1 := ⟨k - 1, by omega⟩
  unfold root_Under.f
  rw [e1]
  simp only [Option.bind_some]
  rw [if_neg (fun hb => h (e2.1 hb)), root_Under.j0, if_pos rfl]
/-- A row whose elements have a property only in its first part. -/
theorem part_of {α : Type _} (p : α → Bool) : ∀ (l : List α), l.Pairwise (fun a b => p b = true → p a = true) → l.filter p ++ l.filter (fun a => !p a) = l
  | [], _ => rfl
  | a :: l, h => by
    obtain ⟨h1, h2⟩ := List.pairwise_cons.1 h
    have ih := part_of p l h2
    cases hp : p a with
    | true =>
      rw [List.filter_cons_of_pos hp, List.filter_cons_of_neg (by rw [hp]; simp), List.cons_append, ih]
    | false =>
      have hn : l.filter p = [] := List.filter_eq_nil_iff.2 fun b hb hb' => by
        have := h1 b hb hb'
        rw [hp] at this
        cases this
      rw [hn, List.nil_append] at ih
      rw [List.filter_cons_of_neg (by rw [hp]; simp), List.filter_cons_of_pos (by rw [hp]; rfl), hn, List.nil_append, ih]
def upto (n : Int) (s : Sp) : Bool := decide (rootI s.f0 < n)
theorem upto_pre {l : List Sp} (h : l.Pairwise (fun a b => LessP a.f0 b.f0)) (n : Int) : l.Pairwise (fun a b => upto n b = true → upto n a = true) := by
  refine h.imp fun {a b} hl hb => ?_
  simp only [upto, decide_eq_true_eq] at *
  unfold LessP at hl
  omega
theorem upto_more {l : List Sp} (h : Tab l) (n : Int) : l.filter (upto (n + 1)) = l.filter (upto n) ++ l.filter (isAt n) := by
  have h1 : l.Pairwise (fun a b => LessP a.f0 b.f0) := List.pairwise_map.1 h.up
  have h2 := part_of (upto n) (l.filter (upto (n + 1))) ((upto_pre h1 n).sublist List.filter_sublist)
  rw [List.filter_filter, List.filter_filter] at h2
  rw [← h2]
  congr 1
  · refine List.filter_congr fun s _ => ?_
    simp only [upto, ← Bool.decide_and, decide_eq_decide]
    omega
  · refine List.filter_congr fun s _ => ?_
    simp only [upto, isAt]
    by_cases hs : rootI s.f0 = n
    · simp [hs]; omega
    · simp [hs]; omega
theorem upto_split {l : List Sp} (h : Tab l) (n : Int) : ∃ r, l.filter (upto n) ++ l.filter (isAt n) ++ r = l := by
  have h1 : l.Pairwise (fun a b => LessP a.f0 b.f0) := List.pairwise_map.1 h.up
  rw [← upto_more h]
  exact ⟨_, part_of (upto (n + 1)) l (upto_pre h1 _)⟩
theorem root_ok {a : Int} (h : 0 ≤ a ∧ a ≤ 4294967295) : root_Root.f a = some (rootI a, 0) := by
  unfold root_Root.f root_isAddr.f rootI
  simp [h.1, h.2]
theorem rootspots_l1 {l : List Sp} (h : Tab l) {n : Int} (h0 : 0 ≤ n) (h1 : n < 251) : ∀ (d j k : Nat), j + d = (l.filter (isAt n)).length →
    deadboltlaw09_RootSpots.l1 (k + d + 1) l (((l.filter (upto n)).length + j : Nat) : Int) n n ((l.filter (isAt n)).map (·.f0)) (((l.filter (isAt n)).map (·.f0)).length : Int) (j : Int) =
      deadboltlaw09_RootSpots.l0 k l ((l.filter (upto (n + 1))).length : Int) (n + 1) := by
  have hf := h.few
  obtain ⟨r, hr⟩ := upto_split h n
  have hlen := congrArg List.length hr
  rw [List.length_append, List.length_append] at hlen
  intro d
  induction d with
  | zero =>
    intro j k hj
    rw [deadboltlaw09_RootSpots.l1, if_neg (by rw [List.length_map]; omega), wrap_id (by omega) (by omega)]
    congr 1
    rw [upto_more h, List.length_append]
    omega
  | succ d ih =>
    intro j k hj
    have hx : (l.filter (isAt n))[j]? = some (l.filter (isAt n))[j] := List.getElem?_eq_getElem (by omega)
    have hrd : rd ((l.filter (isAt n)).map (·.f0)) (j : Int) = (l.filter (isAt n))[j].f0 := by
      unfold rd
      rw [Int.toNat_natCast, List.getD_eq_getElem?_getD, List.getElem?_map, hx]
      rfl
    have hat := (List.mem_filter.1 (List.getElem_mem (l := l.filter (isAt n)) (n := j) (by omega))).2
    simp only [isAt, decide_eq_true_eq] at hat
    have hly : l[(l.filter (upto n)).length + j]? = some (l.filter (isAt n))[j] := by
      have e : (l.filter (upto n) ++ (l.filter (isAt n) ++ r))[(l.filter (upto n)).length + j]? = some (l.filter (isAt n))[j] := by
        rw [List.getElem?_append_right (by omega), show (l.filter (upto n)).length + j - (l.filter (upto n)).length = j by omega, List.getElem?_append_left (by omega), hx]
      rw [← List.append_assoc, hr] at e
      exact e
    have hm : (l.filter (isAt n))[j] ∈ l := (List.mem_filter.1 (List.getElem_mem (l := l.filter (isAt n)) (n := j) (by omega))).1
    have he := root_ok (h.spot _ hm).1.1
    rw [show k + (d + 1) + 1 = (k + d + 1) + 1 by omega, deadboltlaw09_RootSpots.l1, if_pos (by rw [List.length_map]; omega), if_pos (by omega), if_pos (by rw [List.length_map]; omega), hrd]
    rw [he]
    simp only [Option.bind_some]
    rw [if_pos trivial, if_pos hat, if_neg (by omega), if_pos (by omega), if_pos (by omega), rd_sp hly, if_pos rfl, wrap_id (by omega) (by omega), wrap_id (by omega) (by omega), show (((l.filter (upto n)).length + j : Nat) : Int) + 1 = (((l.filter (upto n)).length + (j + 1) : Nat) : Int) by omega, show (j : Int) + 1 = ((j + 1 : Nat) : Int) by omega]
    exact ih (j + 1) k (by omega)
theorem alive_ok : deadboltlaw09_alive.f = some true := by decide +kernel
theorem rootspots_l0 {l : List Sp} (h : Tab l) (h2 : ∀ s ∈ l, s.f2.length ≤ 1000) : ∀ (m : Nat) (n : Int) (k : Nat), n + m = 251 → 0 ≤ n → 2 * m + (l.length - (l.filter (upto n)).length) + 200 ≤ k →
    deadboltlaw09_RootSpots.l0 k l ((l.filter (upto n)).length : Int) n = some true := by
  intro m
  induction m with
  | zero =>
    intro n k hn h0 hk
    obtain ⟨k, rfl⟩ : ∃ q, k = q + 1 := ⟨k - 1, by omega⟩
    have hall : l.filter (upto n) = l := List.filter_eq_self.2 fun s _ => by
      have := rootI_bd s.f0
      simp only [upto, decide_eq_true_eq]
      omega
    rw [deadboltlaw09_RootSpots.l0, if_neg (by omega), alive_ok, hall]
    simp
  | succ m ih =>
    intro n k hn h0 hk
    have hlen := upto_more h n
    have hle := List.length_filter_le (upto (n + 1)) l
    have hll := congrArg List.length hlen
    rw [List.length_append] at hll
    obtain ⟨k, rfl⟩ : ∃ q, k = q + (l.filter (isAt n)).length + 1 + 1 := ⟨k - (l.filter (isAt n)).length - 2, by omega⟩
    rw [deadboltlaw09_RootSpots.l0, if_pos (by omega), under_f h h0 (by omega) h2 (by omega)]
    simp only [Option.bind_some]
    rw [if_pos trivial]
    have := rootspots_l1 h h0 (show n < 251 by omega) (l.filter (isAt n)).length 0 k (by omega)
    rw [Nat.add_zero] at this
    refine Eq.trans this ?_
    exact ih (n + 1) k (by omega) (by omega) (by omega)
theorem rootspots_true (l : List Sp) (k : Nat) (hk : 1000 ≤ k) : deadboltlaw09_RootSpots.f k l = some true := by
  have hl : (fewF l).length ≤ 70 := by
    unfold fewF
    rw [List.length_map, List.length_take]
    omega
  have h2 : ∀ s ∈ fewF l, s.f2.length ≤ 1000 := fun s hs => by
    obtain ⟨x, _, rfl⟩ := List.mem_map.1 hs
    show (x.f2.take 70).length ≤ 1000
    rw [List.length_take]
    omega
  unfold deadboltlaw09_RootSpots.f
  rw [few_f l k (by omega)]
  simp only [Option.bind_some]
  obtain ⟨b, e1, e2⟩ := right_f (fewF l) (by omega) h2 k (by omega)
  rw [e1]
  simp only [Option.bind_some]
  cases b with
  | true =>
    have h := e2.1 rfl
    have hz : (fewF l).filter (upto 0) = [] := List.filter_eq_nil_iff.2 fun s _ hs => by
      have := rootI_bd s.f0
      simp only [upto, decide_eq_true_eq] at hs
      omega
    have hf := h.few
    have := rootspots_l0 h h2 251 0 k (by omega) (by omega) (by omega)
    rw [hz] at this
    rw [if_pos rfl]
    exact this
  | false =>
    have h : ¬ Tab (fewF l) := fun h => by have := e2.2 h; cases this
    rw [if_neg (by simp), under_bad h (by omega) h2 (by omega), alive_ok]
    simp
end Go.Proofs.Ytnjnjajgpkmfhaa.PX

/-
  A spot, opened.
-/
namespace Go.Proofs.Ytnjnjajgpkmfhaa.PX
open Go.RowKit Go.Proofs.YtnjnjajgpkmfhaaW.PrintWords
theorem opensP {H : Type} {enc : TypeId × Value → H} {w : World} : Opens enc Try.prog w 33 k33 (fun x => (Lit.int .i64 x.f0).wf = true ∧ (Lit.int .i64 x.f1).wf = true) := by
  intro fuel cs x h
  obtain ⟨a, hk, hw⟩ := Opens.struct (g := fun x : S33 => (x.f0, x.f1, x.f2)) Try.underlying33 (by kernel_rfl) (fun x : Int × Int × List Int => ⟨x.1, x.2.1, x.2.2⟩) (fun _ => rfl)
    (OpensF.cons rfl (by kernel_rfl) (Opens.int Try.underlying3) rfl (OpensF.cons rfl (by kernel_rfl) (Opens.int Try.underlying3) rfl (OpensF.one rfl (by kernel_rfl) (Opens.slice Try.underlying25 (by kernel_rfl) (Opens.int Try.underlying3))))) fuel cs x h
  exact ⟨a, hk, hw.1, hw.2.1⟩
theorem spot_k {w : World} {P : Array Value → Prop} {cs : List Value} {x : S33} (hK : k33.K w x cs) (h : ∀ A c, x.f2.length ≤ c → Kd.C (Kd.int .i64) w A x.f2.length x.f2 → P #[.int .i64 x.f0, .int .i64 x.f1, .slice A x.f2.length c]) : P cs.toArray := by
  obtain ⟨A, c, rfl, hc, hC⟩ := k33_open hK
  exact h A c hc hC
end Go.Proofs.Ytnjnjajgpkmfhaa.PX

/-
  The statement on RootSpots, out of what its printed form comes to: for every input the call returns true, and each argument reads behind it as it read before.
-/
namespace Go.Proofs.Ytnjnjajgpkmfhaa.rootSpots
open Go.ChangeShapes Go.WideShapes Go.ChangeAt Go.RowKit Go.Proofs.YtnjnjajgpkmfhaaW.PrintWords Go.Proofs.Ytnjnjajgpkmfhaa.PX
set_option linter.unusedVariables false
theorem own : ownKnob Try.prog.godebug = none := by kernel_rfl
set_option maxRecDepth 100000 in
theorem lifted (os : Os) (started : os.Started) (H : Type) (enc : TypeId × Value → H) :
    ReturnsInHanded {} Try.checked os 3 .any (Rows.rootSpotsSpec.pre6 enc Try.prog Try.f3 Rows.rootSpotsRow.domain false) (Rows.rootSpotsSpec.post enc Try.prog Try.f3 false true false false) := by
  refine returnsInHanded_of_change (C := Try.checked) own started (by kernel_rfl) Try.func3
    (ChangeSpec.witness6 (enc := enc) (C := Try.checked) false ⟨#[], #[.slice none 0 0], []⟩ 8 (by kernel_rfl) (by kernel_rfl) (by kernel_rfl) (by kernel_rfl)) ?_
  intro W base args ds gs before hval0 hW hcnd _
  have hval : ∀ (j : Nat) t v, Try.f3.params[j]? = some t → args[j]? = some v → Value.okWide Try.prog W .any base t v := hval0
  have hW' := hW
  obtain ⟨p, q, hA0, hV, hpq, hfz, hnd⟩ := hW
  have hA : DataW.TrodAll enc Try.prog W 0 (fun _ => true) true Try.f3.params.toList args.toList ds p := hA0
  rw [Try.params3] at hA hval
  obtain ⟨v0, vs0, d0, ds0, p0, q0, hargs, rfl, hp0, h0, r0⟩ := trodAll_cons hA
  obtain ⟨rfl, rfl, _⟩ := trodAll_nil r0
  obtain rfl : args = #[v0] := by cases args; simp_all
  obtain ⟨rfl, _⟩ := trodVars_none hV
  obtain ⟨A0, c0, l0, rfl, hl0, hC0, hw0⟩ := open_C Try.underlying22 (by kernel_rfl) opensP (hval 0 22 v0 rfl rfl) h0
  refine (deadboltlaw09_RootSpots.calls 1000 A0 c0 l0 true W hC0 hl0 (rootspots_true l0 1000 (Nat.le_refl _))).mono fun e W' ⟨he, hb⟩ => ?_
  subst he
  exact ⟨_, rfl, law_post (by kernel_rfl) (by kernel_rfl) (by kernel_rfl) Try.underlying4 rfl hW' rfl hb⟩

theorem rowOver : Rows.rootSpotsRow.holds Try.pinned (OpenSpec.ofChange Rows.rootSpotsSpec) :=
  OpenClaim.holds_of_wide 3 Try.f3 rfl rfl rfl rfl rfl rfl rfl ⟨rfl, rfl, rfl, rfl, rfl⟩ rfl rfl rfl rfl rfl (by kernel_rfl) Try.func3 (by kernel_rfl)
    (of_decide_eq_true (by kernel_rfl)) (by unfold Func.isWrapper; first | (rw [if_pos (by decide +kernel)]; kernel_rfl) | (rw [if_neg (by decide +kernel)]; exact ⟨rfl, rfl⟩))
    (fun os started H enc _ => lifted os started H enc)

theorem proved : Rows.RootSpotsSaid := rowOver
#print axioms proved
end Go.Proofs.Ytnjnjajgpkmfhaa.rootSpots
