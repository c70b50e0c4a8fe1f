/-
  The statement on GaugeShares, out of what its printed form comes to: for every input the call returns true, and each argument reads behind it as it read before.
-/
import Derived.Test.YtjdjmhagafmkaaaBGaugeShares2
import Derived.Laws.FloatBits
import Derived.Laws.Externs
import Derived.BigQuiet
import Derived.Test.YtjdjmhagafmkaaaRows
namespace Go.Proofs.Ytjdjmhagafmkaaa.PX
open Go.RowKit Go.Proofs.YtjdjmhagafmkaaaW.PrintWords Go.Proofs.YtjdjmhagafmkaaaW.PrintLast Go.Proofs.YtjdjmhagafmkaaaW.PrintMore
attribute [local go_sem] max2_int min2_int max_two min_two max_three min_three max_four min_four   -- for this text's walks alone
set_option linter.unusedVariables false
set_option linter.unusedSimpArgs false

/-! ### gauge_Counts: function 25 -/
def gauge_Counts.l0 : Nat → Int → List Int → List (S33) → Int → Int → Option (List Int × Int)
  | 0, _, _, _, _, _ => none
  | k + 1, x1, x6, x22, x23, x24 => if x24 < x23 then (if 0 ≤ x24 then (if x24 < (x22.length : Int) then ((gauge_gets.f ((rd_T33 x22 x24).f0) ((rd_T33 x22 x24).f1) ((rd_T33 x22 x24).f2.f0) ((rd_T33 x22 x24).f2.f1) ((rd_T33 x22 x24).f2.f2)).bind fun t202 => (if t202 = true then (if ((rd_T33 x22 x24).f2.f0) < x1 then (if 0 ≤ ((rd_T33 x22 x24).f2.f0) then (if ((rd_T33 x22 x24).f2.f0) < (x6.length : Int) then (gauge_Counts.l0 k x1 (x6.set (((rd_T33 x22 x24).f2.f0) : Int).toNat (wrap64 ((rd x6 ((rd_T33 x22 x24).f2.f0)) + 1))) x22 x23 (wrap64 (x24 + 1))) else (none)) else (none)) else (gauge_Counts.l0 k x1 x6 x22 x23 (wrap64 (x24 + 1)))) else (gauge_Counts.l0 k x1 x6 x22 x23 (wrap64 (x24 + 1))))) else (none)) else (none)) else (some (x6, 0))
def gauge_Counts.f (k : Nat) (l0 : List (S33)) (a1 : Int) : Option (List Int × Int) := (judge_Wrong.f l0).bind fun t196 => (if t196 ≥ 0 then (some (([] : List Int), 1)) else (if a1 < 1 then (some (([] : List Int), 3)) else (if a1 > 8 then (some (([] : List Int), 3)) else (if 0 ≤ a1 then (if (a1 : Int).toNat ≤ 35184372088832 then (gauge_Counts.l0 k a1 (List.replicate (a1 : Int).toNat 0) l0 (l0.length : Int) 0) else (none)) else (none)))))
theorem gauge_Counts.mono_l : ∀ k, (∀ y0 y1 y2 y3 y4, LeO (gauge_Counts.l0 k y0 y1 y2 y3 y4) (gauge_Counts.l0 (k + 1) y0 y1 y2 y3 y4))
  | 0 => fun _ _ _ _ _ r h => by simp [gauge_Counts.l0] at h
  | k + 1 => by
    have ih0 := gauge_Counts.mono_l k
    · intro y0 y1 y2 y3 y4
      unfold gauge_Counts.l0
      repeat' first
      | (with_reducible exact ih0 _ _ _ _ _)
      | (with_reducible exact LeO.refl _)
      | (with_reducible exact LeO.none _)
      | (with_reducible refine LeO.ite ?_ ?_)
      | (with_reducible refine LeO.bind ?_ (fun _ => ?_))
      | exact ih0 _ _ _ _ _
      | exact LeO.none _
      | refine LeO.ite ?_ ?_
      | refine LeO.bind ?_ (fun _ => ?_)
theorem gauge_Counts.mono : ∀ a0 a1 k, LeO (gauge_Counts.f k a0 a1) (gauge_Counts.f (k + 1) a0 a1) := by
  intro a0 a1 k
  have ih0 := gauge_Counts.mono_l k
  unfold gauge_Counts.f
  repeat' first
      | (with_reducible exact ih0 _ _ _ _ _)
      | (with_reducible exact LeO.refl _)
      | (with_reducible exact LeO.none _)
      | (with_reducible refine LeO.ite ?_ ?_)
      | (with_reducible refine LeO.bind ?_ (fun _ => ?_))
      | exact ih0 _ _ _ _ _
      | exact LeO.none _
      | refine LeO.ite ?_ ?_
      | refine LeO.bind ?_ (fun _ => ?_)
set_option maxHeartbeats 8000000 in
set_option maxRecDepth 100000 in
theorem gauge_Counts.calls (k : Nat) (A0 : Option Addr) (c0 : Nat) (l0 : List (S33)) (a1 : Int) (r1 : List Int) (r2 : Int) (w : World) (hr0 : Kd.C k33 w A0 l0.length l0) (hc0 : l0.length ≤ c0) (h : gauge_Counts.f k l0 a1 = some (r1, r2)) :
    Calls Try.prog 25 #[.slice A0 l0.length c0, .int .i64 a1] w fun e w' => ∃ v0_ : Value, e = .returned (.tuple #[v0_, .int .i64 r2]) ∧ Kd.R (Kd.int .i64) 3 w' w.heap.size (fun _ => True) v0_ r1 ∧ Below w.heap.size w w' := by
  have hu33 := Try.underlying33
  have HR0 := Aside0.mk hr0
  have HC0 := Aside0.mk hc0
  clear hr0 hc0
  have HB := Aside0.mk (Below.refl w.heap.size w)
  have H : ((judge_Wrong.f l0).bind fun t196 => (if t196 ≥ 0 then (some (([] : List Int), 1)) else (if a1 < 1 then (some (([] : List Int), 3)) else (if a1 > 8 then (some (([] : List Int), 3)) else (if 0 ≤ a1 then (if (a1 : Int).toNat ≤ 35184372088832 then (gauge_Counts.l0 k a1 (List.replicate (a1 : Int).toNat 0) l0 (l0.length : Int) 0) else (none)) else (none)))))) = some (r1, r2) := h
  clear h
  replace H := Option.bind_eq_some_iff.mp H
  obtain ⟨t196, A30, H⟩ := H
  replace H : (if t196 ≥ 0 then (some (([] : List Int), 1)) else (if a1 < 1 then (some (([] : List Int), 3)) else (if a1 > 8 then (some (([] : List Int), 3)) else (if 0 ≤ a1 then (if (a1 : Int).toNat ≤ 35184372088832 then (gauge_Counts.l0 k a1 (List.replicate (a1 : Int).toNat 0) l0 (l0.length : Int) 0) else (none)) else (none))))) = some (r1, r2) := H
  have A3 := Aside0.mk A30
  clear A30
  by_cases c4 : t196 ≥ 0
  · rw [if_pos c4] at H
    have c4b0 : decide (0 ≤ t196) = true := decide_eq_true c4
    clear c4
    simp only [Option.some.injEq, Prod.mk.injEq] at H
    obtain ⟨rfl, rfl⟩ := H
    go_enter Try.func25, Try.ntmps25
    go_wp2_with (first | ((with_reducible refine gate_callee (f := 14) rfl ?_); refine goesL_ (some 11) rfl rfl Try.func14 (by kernel_rfl) rfl #[.slice A0 l0.length c0] rfl (by (try simp only [List.map_toArray, List.map_cons, List.map_nil]); first | done | rfl | (simp only [List.length_drop, List.length_take]; rfl)) ?_; (with_reducible refine (judge_Wrong.calls _ _ l0 t196 _ ?side1 ?side2 A3.out).mono ?_); (case side1 => repeat (first | exact HR0.out | (with_reducible refine Kd.C_alloc ?_ _) | (with_reducible refine Kd.C_drewN ?_ _) | (with_reducible refine Kd.C_drew ?_))); (case side2 => exact HC0.out); rintro e w5 ⟨rfl, hb⟩; refine ⟨_, rfl, ?_⟩; have n0_ := Aside0.mk (below_step (by repeat (first | (with_reducible first | exact HB.out | apply below_alloc | apply pw_below_drewN | apply below_drew1) | exact HB.out)) hb); clear HB; have HB := n0_; clear n0_; (try clear hb); (try clear hb2); (try clear hk); (try clear hi)))
    go_ret2
    exact ⟨_, by first | rfl | (simp [errW_none, errW_some] <;> rfl) | (simp [*, errW_none, errW_some] <;> rfl), by first | exact Kd.R_nil _ _ _ _ _ | exact Kd.N_nil _ _ _ _ _ | exact Kd.V_nil _ _ _ _ _ | exact Kd.Q_nil _ _ _ _ _ | exact Kd.S_nil _ _ _ _ _, by repeat (first | (with_reducible first | exact HB.out | apply below_alloc | apply pw_below_drewN | apply below_drew1) | exact HB.out)⟩
  · rw [if_neg c4] at H
    have c4b0 : decide (0 ≤ t196) = false := decide_eq_false c4
    clear c4
    by_cases c6 : a1 < 1
    · rw [if_pos c6] at H
      have c6b0 : decide (a1 < 1) = true := decide_eq_true c6
      clear c6
      simp only [Option.some.injEq, Prod.mk.injEq] at H
      obtain ⟨rfl, rfl⟩ := H
      go_enter Try.func25, Try.ntmps25
      go_wp2_with (first | ((with_reducible refine gate_callee (f := 14) rfl ?_); refine goesL_ (some 11) rfl rfl Try.func14 (by kernel_rfl) rfl #[.slice A0 l0.length c0] rfl (by (try simp only [List.map_toArray, List.map_cons, List.map_nil]); first | done | rfl | (simp only [List.length_drop, List.length_take]; rfl)) ?_; (with_reducible refine (judge_Wrong.calls _ _ l0 t196 _ ?side1 ?side2 A3.out).mono ?_); (case side1 => repeat (first | exact HR0.out | (with_reducible refine Kd.C_alloc ?_ _) | (with_reducible refine Kd.C_drewN ?_ _) | (with_reducible refine Kd.C_drew ?_))); (case side2 => exact HC0.out); rintro e w7 ⟨rfl, hb⟩; refine ⟨_, rfl, ?_⟩; have n0_ := Aside0.mk (below_step (by repeat (first | (with_reducible first | exact HB.out | apply below_alloc | apply pw_below_drewN | apply below_drew1) | exact HB.out)) hb); clear HB; have HB := n0_; clear n0_; (try clear hb); (try clear hb2); (try clear hk); (try clear hi)))
      go_ret2
      exact ⟨_, by first | rfl | (simp [errW_none, errW_some] <;> rfl) | (simp [*, errW_none, errW_some] <;> rfl), by first | exact Kd.R_nil _ _ _ _ _ | exact Kd.N_nil _ _ _ _ _ | exact Kd.V_nil _ _ _ _ _ | exact Kd.Q_nil _ _ _ _ _ | exact Kd.S_nil _ _ _ _ _, by repeat (first | (with_reducible first | exact HB.out | apply below_alloc | apply pw_below_drewN | apply below_drew1) | exact HB.out)⟩
    · rw [if_neg c6] at H
      have c6b0 : decide (a1 < 1) = false := decide_eq_false c6
      clear c6
      by_cases c8 : a1 > 8
      · rw [if_pos c8] at H
        have c8b0 : decide (8 < a1) = true := decide_eq_true c8
        clear c8
        simp only [Option.some.injEq, Prod.mk.injEq] at H
        obtain ⟨rfl, rfl⟩ := H
        go_enter Try.func25, Try.ntmps25
        go_wp2_with (first | ((with_reducible refine gate_callee (f := 14) rfl ?_); refine goesL_ (some 11) rfl rfl Try.func14 (by kernel_rfl) rfl #[.slice A0 l0.length c0] rfl (by (try simp only [List.map_toArray, List.map_cons, List.map_nil]); first | done | rfl | (simp only [List.length_drop, List.length_take]; rfl)) ?_; (with_reducible refine (judge_Wrong.calls _ _ l0 t196 _ ?side1 ?side2 A3.out).mono ?_); (case side1 => repeat (first | exact HR0.out | (with_reducible refine Kd.C_alloc ?_ _) | (with_reducible refine Kd.C_drewN ?_ _) | (with_reducible refine Kd.C_drew ?_))); (case side2 => exact HC0.out); rintro e w9 ⟨rfl, hb⟩; refine ⟨_, rfl, ?_⟩; have n0_ := Aside0.mk (below_step (by repeat (first | (with_reducible first | exact HB.out | apply below_alloc | apply pw_below_drewN | apply below_drew1) | exact HB.out)) hb); clear HB; have HB := n0_; clear n0_; (try clear hb); (try clear hb2); (try clear hk); (try clear hi)))
        go_ret2
        exact ⟨_, by first | rfl | (simp [errW_none, errW_some] <;> rfl) | (simp [*, errW_none, errW_some] <;> rfl), by first | exact Kd.R_nil _ _ _ _ _ | exact Kd.N_nil _ _ _ _ _ | exact Kd.V_nil _ _ _ _ _ | exact Kd.Q_nil _ _ _ _ _ | exact Kd.S_nil _ _ _ _ _, by repeat (first | (with_reducible first | exact HB.out | apply below_alloc | apply pw_below_drewN | apply below_drew1) | exact HB.out)⟩
      · rw [if_neg c8] at H
        have c8b0 : decide (8 < a1) = false := decide_eq_false c8
        clear c8
        by_cases c10 : 0 ≤ a1
        · rw [if_pos c10] at H
          have c10b0 := eq_true c10
          have c10b1 : decide (0 ≤ a1) = true := decide_eq_true c10
          clear c10
          by_cases c11 : (a1 : Int).toNat ≤ 35184372088832
          · rw [if_pos c11] at H
            have c11b0 := eq_true c11
            have c11b1 : decide ((a1 : Int).toNat ≤ 35184372088832) = true := decide_eq_true c11
            clear c11
            obtain ⟨y197, hy197⟩ : ∃ y_ : List Int, y_ = (List.replicate (a1 : Int).toNat 0) := ⟨_, rfl⟩
            replace H : (gauge_Counts.l0 k a1 y197 l0 (l0.length : Int) 0) = some (r1, r2) := by first | (rw [hy197]; with_reducible exact H) | (have H2_ := (Option.bind_some _ _).symm.trans H; rw [hy197]; with_reducible exact H2_) | (have H2_ := (Option.bind_some _ _).symm.trans H; with_reducible exact H2_) | with_reducible exact H | (rw [hy197]; exact H) | exact H
            have Ny197 := Aside0.mk hy197
            clear hy197
            have H' := Aside0.mk H
            clear H
            go_enter Try.func25, Try.ntmps25
            go_wp2_with (first | ((with_reducible refine gate_callee (f := 14) rfl ?_); refine goesL_ (some 11) rfl rfl Try.func14 (by kernel_rfl) rfl #[.slice A0 l0.length c0] rfl (by (try simp only [List.map_toArray, List.map_cons, List.map_nil]); first | done | rfl | (simp only [List.length_drop, List.length_take]; rfl)) ?_; (with_reducible refine (judge_Wrong.calls _ _ l0 t196 _ ?side1 ?side2 A3.out).mono ?_); (case side1 => repeat (first | exact HR0.out | (with_reducible refine Kd.C_alloc ?_ _) | (with_reducible refine Kd.C_drewN ?_ _) | (with_reducible refine Kd.C_drew ?_))); (case side2 => exact HC0.out); rintro e w12 ⟨rfl, hb⟩; refine ⟨_, rfl, ?_⟩; have n0_ := Aside0.mk (below_step (by repeat (first | (with_reducible first | exact HB.out | apply below_alloc | apply pw_below_drewN | apply below_drew1) | exact HB.out)) hb); clear HB; have HB := n0_; clear n0_; (try clear hb); (try clear hb2); (try clear hk); (try clear hi)) | ((with_reducible refine gate_dst (N := 21) rfl ?_); refine Kd.R_make (Kd.int .i64) _ 3 rfl (N := 21) rfl 26 _ _ rfl a1 rfl rfl Try.underlying26 (.int .i64 0) 8 info3 rfl (by decide) (by omega) 0 (ok := fun _ => True) (okp := fun _ => True) rfl (fun _ hk => hk) trivial (of_decide_eq_true (by first | (with_reducible assumption) | assumption)) (Nat.le_trans (Nat.mul_le_mul_right _ (of_decide_eq_true (by first | (with_reducible assumption) | assumption) : a1.toNat ≤ 35184372088832)) (by omega)) (Below.refl _ _) (Nat.le_refl _) ?_; intro v198 w13 ho14 hb hg_ hnew_; clear hg_ hnew_; (first | rw [← Ny197.out] at ho14 | (simp only [Int.reduceToNat] at ho14; rw [← Ny197.out] at ho14)); have n0_ := Aside0.mk (Kd.R_lower ho14 (below_size (by repeat (first | (with_reducible first | exact HB.out | apply below_alloc | apply pw_below_drewN | apply below_drew1) | exact HB.out)))); have n1_ := Aside0.mk (below_step (by repeat (first | (with_reducible first | exact HB.out | apply below_alloc | apply pw_below_drewN | apply below_drew1) | exact HB.out)) hb); clear HB; have HO199 := n0_; have HB := n1_; clear n0_ n1_; clear hb ho14))
            go_loopg [24] k (fun kq v24 w' => ∃ (x6_1 : List Int) (x24_1 : Int), v24 = .int .i64 x24_1 ∧ Aside0 (gauge_Counts.l0 kq a1 x6_1 l0 (l0.length : Int) x24_1 = some (r1, r2)) ∧ Aside0 (kq ≤ k) ∧ Aside0 (Kd.R (Kd.int .i64) 3 w' w.heap.size (fun _ => True) v198 x6_1) ∧ Aside0 (Below w.heap.size w w'))
            case atStart => exact ⟨(y197), (0), (by first | rfl | (simp; done) | (simp [*]; done)), H', ⟨Nat.le_refl _⟩, ⟨by (with_reducible repeat (first | apply Kd.R_alloc | apply Kd.R_drewN | apply Kd.R_drew)); exact HO199.out⟩, ⟨by repeat (first | (with_reducible first | exact HB.out | apply below_alloc | apply pw_below_drewN | apply below_drew1) | exact HB.out)⟩⟩
            case round =>
              clear H'
              try clear c1
              try clear c2
              try clear p2
              try clear c4
              try clear c4b0
              try clear c6
              try clear c6b0
              try clear c8
              try clear c8b0
              try clear c10
              try clear c10b0
              try clear c10b1
              try clear c11
              try clear c11b0
              try clear c11b1
              try clear c14
              obtain ⟨x6_1, x24_1, rfl, HA, HK1, HO_6, HB⟩ := hrel
              cases gk with
              | zero => exact absurd HA.out (by simp [gauge_Counts.l0])
              | succ k1 =>
                have H := HA.out
                clear HA
                simp only [gauge_Counts.l0] at H
                by_cases c15 : x24_1 < (l0.length : Int)
                · rw [if_pos c15] at H
                  have c15b0 : decide (x24_1 < (l0.length : Int)) = true := decide_eq_true c15
                  clear c15
                  by_cases c16 : 0 ≤ x24_1
                  · rw [if_pos c16] at H
                    have c16b0 : decide (0 ≤ x24_1) = true := decide_eq_true c16
                    clear c16
                    by_cases c17 : x24_1 < (l0.length : Int)
                    · rw [if_pos c17] at H
                      have c17b0 : decide (x24_1 < (l0.length : Int)) = true := decide_eq_true c17
                      clear c17
                      replace H := Option.bind_eq_some_iff.mp H
                      obtain ⟨t202, A180, H⟩ := H
                      replace H : (if t202 = true then (if ((rd_T33 l0 x24_1).f2.f0) < a1 then (if 0 ≤ ((rd_T33 l0 x24_1).f2.f0) then (if ((rd_T33 l0 x24_1).f2.f0) < (x6_1.length : Int) then (gauge_Counts.l0 k1 a1 (x6_1.set (((rd_T33 l0 x24_1).f2.f0) : Int).toNat (wrap64 ((rd x6_1 ((rd_T33 l0 x24_1).f2.f0)) + 1))) l0 (l0.length : Int) (wrap64 (x24_1 + 1))) else (none)) else (none)) else (gauge_Counts.l0 k1 a1 x6_1 l0 (l0.length : Int) (wrap64 (x24_1 + 1)))) else (gauge_Counts.l0 k1 a1 x6_1 l0 (l0.length : Int) (wrap64 (x24_1 + 1)))) = some (r1, r2) := H
                      have A18 := Aside0.mk A180
                      clear A180
                      by_cases c19 : t202 = true
                      · subst c19
                        have H1 : (if ((rd_T33 l0 x24_1).f2.f0) < a1 then (if 0 ≤ ((rd_T33 l0 x24_1).f2.f0) then (if ((rd_T33 l0 x24_1).f2.f0) < (x6_1.length : Int) then (gauge_Counts.l0 k1 a1 (x6_1.set (((rd_T33 l0 x24_1).f2.f0) : Int).toNat (wrap64 ((rd x6_1 ((rd_T33 l0 x24_1).f2.f0)) + 1))) l0 (l0.length : Int) (wrap64 (x24_1 + 1))) else (none)) else (none)) else (gauge_Counts.l0 k1 a1 x6_1 l0 (l0.length : Int) (wrap64 (x24_1 + 1)))) = some (r1, r2) := by rw [if_pos rfl] at H; exact H
                        clear H
                        have H := H1
                        clear H1
                        by_cases c20 : ((rd_T33 l0 x24_1).f2.f0) < a1
                        · rw [if_pos c20] at H
                          have c20b0 : decide (((rd_T33 l0 x24_1).f2.f0) < a1) = true := decide_eq_true c20
                          clear c20
                          by_cases c21 : 0 ≤ ((rd_T33 l0 x24_1).f2.f0)
                          · rw [if_pos c21] at H
                            have c21b0 : decide (0 ≤ ((rd_T33 l0 x24_1).f2.f0)) = true := decide_eq_true c21
                            clear c21
                            by_cases c22 : ((rd_T33 l0 x24_1).f2.f0) < (x6_1.length : Int)
                            · rw [if_pos c22] at H
                              have c22b0 : decide (((rd_T33 l0 x24_1).f2.f0) < (x6_1.length : Int)) = true := decide_eq_true c22
                              clear c22
                              obtain ⟨y204, hy204⟩ : ∃ y_ : List Int, y_ = (x6_1.set (((rd_T33 l0 x24_1).f2.f0) : Int).toNat (wrap64 ((rd x6_1 ((rd_T33 l0 x24_1).f2.f0)) + 1))) := ⟨_, rfl⟩
                              replace H : (gauge_Counts.l0 k1 a1 y204 l0 (l0.length : Int) (wrap64 (x24_1 + 1))) = some (r1, r2) := by first | (rw [hy204]; with_reducible exact H) | (have H2_ := (Option.bind_some _ _).symm.trans H; rw [hy204]; with_reducible exact H2_) | (have H2_ := (Option.bind_some _ _).symm.trans H; with_reducible exact H2_) | with_reducible exact H | (rw [hy204]; exact H) | exact H
                              have Ny204 := Aside0.mk hy204
                              clear hy204
                              have H' := Aside0.mk H
                              clear H
                              have p200 : 0 ≤ (x24_1 : Int) := of_decide_eq_true (by first | (with_reducible assumption) | assumption)
                              have q200 : x24_1 < (l0.length : Int) := of_decide_eq_true (by first | (with_reducible assumption) | assumption)
                              obtain ⟨ad200, e200, hx200_0, hx200_1, hx200_2, hx200_3, hx200_4⟩ := at_T33 HR0.out x24_1 p200 q200
                              cases e200
                              replace hx200_0 := (HB.out.cell (World.block_lt_of_cell? w _ hx200_0)).trans hx200_0
                              replace hx200_1 := (HB.out.cell (World.block_lt_of_cell? w _ hx200_1)).trans hx200_1
                              replace hx200_2 := (HB.out.cell (World.block_lt_of_cell? w _ hx200_2)).trans hx200_2
                              replace hx200_3 := (HB.out.cell (World.block_lt_of_cell? w _ hx200_3)).trans hx200_3
                              replace hx200_4 := (HB.out.cell (World.block_lt_of_cell? w _ hx200_4)).trans hx200_4
                              replace p200 := eq_true p200
                              replace q200 := eq_true q200
                              go_wp2_with (first | ((with_reducible refine gate_dst (N := 8) rfl ?_); refine box_event ?hg (N := 8) ?hd (cs := #[.int .i64 0, .int .i64 0, .int .i64 0, .int .i64 0, .int .i64 0]) (t := 33) ?hr ?_; (case hd => rfl); (case hg => rfl); (case hr => first | (go_simp; done) | (go_simp; rfl)); intro gb201 hg w24 hbox hb; have n0_ := Aside0.mk (Kd.R_below (by (with_reducible repeat (first | apply Kd.R_alloc | apply Kd.R_drewN | apply Kd.R_drew)); exact HO_6.out) hb); have n1_ := Aside0.mk (below_step (by repeat (first | (with_reducible first | exact HB.out | apply below_alloc | apply pw_below_drewN | apply below_drew1) | exact HB.out)) hb); have n2_ := Aside0.mk (hbox); have n3_ := Aside0.mk ((by rw [hg]; exact (below_size (by repeat (first | (with_reducible first | exact HB.out | apply below_alloc | apply pw_below_drewN | apply below_drew1) | exact HB.out))) : w.heap.size ≤ gb201)); have n4_ := Aside0.mk ((by rw [hg]; exact (below_size (by repeat (first | (with_reducible first | exact HB.out | apply below_alloc | apply pw_below_drewN | apply below_drew1) | exact HB.out))) : w.heap.size ≤ gb201)); clear HO_6; clear HB; have HO_6 := n0_; have HB := n1_; have BK201 := n2_; have GW201 := n3_; have GE201 := n4_; clear n0_ n1_ n2_ n3_ n4_; clear hb hbox hg; have hcz25_0 : w24.cell? ⟨gb201, 0, none⟩ = some (.int .i64 0) := (blk_cell BK201.out 0).trans rfl; have hcz25_1 : w24.cell? ⟨gb201, 1, none⟩ = some (.int .i64 0) := (blk_cell BK201.out 1).trans rfl; have hcz25_2 : w24.cell? ⟨gb201, 2, none⟩ = some (.int .i64 0) := (blk_cell BK201.out 2).trans rfl; have hcz25_3 : w24.cell? ⟨gb201, 3, none⟩ = some (.int .i64 0) := (blk_cell BK201.out 3).trans rfl; have hcz25_4 : w24.cell? ⟨gb201, 4, none⟩ = some (.int .i64 0) := (blk_cell BK201.out 4).trans rfl; have hfz25_0 := blk_frozen BK201.out 0; have hfz25_1 := blk_frozen BK201.out 1; have hfz25_2 := blk_frozen BK201.out 2; have hfz25_3 := blk_frozen BK201.out 3; have hfz25_4 := blk_frozen BK201.out 4) | ((with_reducible refine gate_callee (f := 56) rfl ?_); refine goesL_ (some 29) rfl rfl Try.func56 (by kernel_rfl) rfl #[.agg #[.int .i64 ((rd_T33 l0 x24_1).f0), .int .i64 ((rd_T33 l0 x24_1).f1), .int .i64 ((rd_T33 l0 x24_1).f2.f0), .int .i64 ((rd_T33 l0 x24_1).f2.f1), .int .i64 ((rd_T33 l0 x24_1).f2.f2)]] rfl (by (try simp only [List.map_toArray, List.map_cons, List.map_nil]); first | done | rfl | (simp only [List.length_drop, List.length_take]; rfl)) ?_; (with_reducible refine (gauge_gets.calls ((rd_T33 l0 x24_1).f0) ((rd_T33 l0 x24_1).f1) ((rd_T33 l0 x24_1).f2.f0) ((rd_T33 l0 x24_1).f2.f1) ((rd_T33 l0 x24_1).f2.f2) true _ A18.out).mono ?_); rintro e w26 ⟨rfl, hb⟩; refine ⟨_, rfl, ?_⟩; have n0_ := Aside0.mk (Kd.R_below (by (with_reducible repeat (first | apply Kd.R_alloc | apply Kd.R_drewN | apply Kd.R_drew)); exact (Kd.R_mono (Kd.R_far (p := ⟨gb201, 4, none⟩) (Kd.R_far (p := ⟨gb201, 3, none⟩) (Kd.R_far (p := ⟨gb201, 2, none⟩) (Kd.R_far (p := ⟨gb201, 1, none⟩) (Kd.R_far (p := ⟨gb201, 0, none⟩) (Kd.R_types HO_6.out BK201.out (by decide)) (fun _ hk => hk.2) (.int .i64 ((rd_T33 l0 x24_1).f0))) (fun _ hk => hk.2) (.int .i64 ((rd_T33 l0 x24_1).f1))) (fun _ hk => hk.2) (.int .i64 ((rd_T33 l0 x24_1).f2.f0))) (fun _ hk => hk.2) (.int .i64 ((rd_T33 l0 x24_1).f2.f1))) (fun _ hk => hk.2) (.int .i64 ((rd_T33 l0 x24_1).f2.f2))) (fun _ h_ => h_.1))) hb); have n1_ := Aside0.mk (blk_below (g := gb201) (o := .cells #[.int .i64 ((rd_T33 l0 x24_1).f0), .int .i64 ((rd_T33 l0 x24_1).f1), .int .i64 ((rd_T33 l0 x24_1).f2.f0), .int .i64 ((rd_T33 l0 x24_1).f2.f1), .int .i64 ((rd_T33 l0 x24_1).f2.f2)] 33 (0, 0)) (by (with_reducible repeat (first | refine blk_drewN ?_ _ | refine blk_drew ?_ | refine blk_alloc ?_ _)); refine blk_put (cs := #[.int .i64 ((rd_T33 l0 x24_1).f0), .int .i64 ((rd_T33 l0 x24_1).f1), .int .i64 ((rd_T33 l0 x24_1).f2.f0), .int .i64 ((rd_T33 l0 x24_1).f2.f1), .int .i64 0]) ?_ 4 _ rfl; (with_reducible repeat (first | refine blk_drewN ?_ _ | refine blk_drew ?_ | refine blk_alloc ?_ _)); refine blk_put (cs := #[.int .i64 ((rd_T33 l0 x24_1).f0), .int .i64 ((rd_T33 l0 x24_1).f1), .int .i64 ((rd_T33 l0 x24_1).f2.f0), .int .i64 0, .int .i64 0]) ?_ 3 _ rfl; (with_reducible repeat (first | refine blk_drewN ?_ _ | refine blk_drew ?_ | refine blk_alloc ?_ _)); refine blk_put (cs := #[.int .i64 ((rd_T33 l0 x24_1).f0), .int .i64 ((rd_T33 l0 x24_1).f1), .int .i64 0, .int .i64 0, .int .i64 0]) ?_ 2 _ rfl; (with_reducible repeat (first | refine blk_drewN ?_ _ | refine blk_drew ?_ | refine blk_alloc ?_ _)); refine blk_put (cs := #[.int .i64 ((rd_T33 l0 x24_1).f0), .int .i64 0, .int .i64 0, .int .i64 0, .int .i64 0]) ?_ 1 _ rfl; (with_reducible repeat (first | refine blk_drewN ?_ _ | refine blk_drew ?_ | refine blk_alloc ?_ _)); refine blk_put (cs := #[.int .i64 0, .int .i64 0, .int .i64 0, .int .i64 0, .int .i64 0]) ?_ 0 _ rfl; (with_reducible repeat (first | refine blk_drewN ?_ _ | refine blk_drew ?_ | refine blk_alloc ?_ _)); exact BK201.out) hb); have n2_ := Aside0.mk (below_step (by repeat (first | (with_reducible first | exact HB.out | apply below_alloc | apply pw_below_drewN | apply below_drew1 | refine below_set ?_ GE201.out) | exact HB.out)) hb); clear HO_6; clear BK201; clear HB; have HO_6 := n0_; have BK201 := n1_; have HB := n2_; clear n0_ n1_ n2_; (try clear hb); (try clear hb2); (try clear hk); (try clear hi); have hcz27_0 : w26.cell? ⟨gb201, 0, none⟩ = some (.int .i64 ((rd_T33 l0 x24_1).f0)) := (blk_cell BK201.out 0).trans rfl; have hcz27_1 : w26.cell? ⟨gb201, 1, none⟩ = some (.int .i64 ((rd_T33 l0 x24_1).f1)) := (blk_cell BK201.out 1).trans rfl; have hcz27_2 : w26.cell? ⟨gb201, 2, none⟩ = some (.int .i64 ((rd_T33 l0 x24_1).f2.f0)) := (blk_cell BK201.out 2).trans rfl; have hcz27_3 : w26.cell? ⟨gb201, 3, none⟩ = some (.int .i64 ((rd_T33 l0 x24_1).f2.f1)) := (blk_cell BK201.out 3).trans rfl; have hcz27_4 : w26.cell? ⟨gb201, 4, none⟩ = some (.int .i64 ((rd_T33 l0 x24_1).f2.f2)) := (blk_cell BK201.out 4).trans rfl; have hfz27_0 := blk_frozen BK201.out 0; have hfz27_1 := blk_frozen BK201.out 1; have hfz27_2 := blk_frozen BK201.out 2; have hfz27_3 := blk_frozen BK201.out 3; have hfz27_4 := blk_frozen BK201.out 4; obtain ⟨Ao28, co28, eo28⟩ := Kd.R_slice HO_6.out; subst eo28; have p203 : 0 ≤ (((rd_T33 l0 x24_1).f2.f0) : Int) := of_decide_eq_true (by first | (with_reducible assumption) | assumption); have q203 : ((rd_T33 l0 x24_1).f2.f0) < (x6_1.length : Int) := of_decide_eq_true (by first | (with_reducible assumption) | assumption); obtain ⟨ad203, e203, hx203_0⟩ := Kd.at_int (Kd.R_reads' HO_6.out).2.2 ((rd_T33 l0 x24_1).f2.f0) p203 q203; cases e203; replace p203 := eq_true p203; replace q203 := eq_true q203; have p23 : 0 ≤ (((rd_T33 l0 x24_1).f2.f0) : Int) := of_decide_eq_true (by first | (with_reducible assumption) | assumption); have q23 : (((rd_T33 l0 x24_1).f2.f0) : Int) < ((x6_1.length : Int) : Int) := of_decide_eq_true (by first | (with_reducible assumption) | assumption); obtain ⟨go23, co23, eo23, gb23, gl23, cl23, HG23⟩ := Kd.R_form HO_6.out (by omega); (first | cases eo23 | (injection eo23 with ea_ en_ ec_; (first | subst ea_ | (injection ea_ with ea_; subst ea_)); subst ec_; clear en_)); have GB23 := Aside0.mk gb23; have GG23 := Aside0.mk HG23; clear gb23 gl23 HG23; (first | simp only [add_plain] at hx203_0 | skip); obtain ⟨hx23_0, hf23_0⟩ := Kd.R_celln 0 HO_6.out (((rd_T33 l0 x24_1).f2.f0) : Int) p23 q23; replace p23 := eq_true p23; replace q23 := eq_true q23; obtain ⟨hy29_, hz29_⟩ := Kd.R_celln 0 HO_6.out (((rd_T33 l0 x24_1).f2.f0) : Int) (of_decide_eq_true (by first | (with_reducible assumption) | assumption)) (of_decide_eq_true (by first | (with_reducible assumption) | assumption)); have HP29 := Kd.R_putg HO_6.out (((rd_T33 l0 x24_1).f2.f0) : Int) (wrap64 ((rd x6_1 ((rd_T33 l0 x24_1).f2.f0)) + 1))) | ((with_reducible refine gate_store (t := 3) (p := 44) rfl ?_); refine store_event (t := 3) (p := 44) (v := ?vo_w30) (w1 := (w26.setCell ⟨go23, (((rd_T33 l0 x24_1).f2.f0) : Int).toNat, none⟩ (.int .i64 (wrap64 ((rd x6_1 ((rd_T33 l0 x24_1).f2.f0)) + 1))))) ?hg ?ho ?hn ?hr ?_; (case ho => rfl); (case hg => rfl); (case hn => rfl); (case hr => first | (go_simp; done) | (go_simp; rfl)); intro w30 hw; have hg : w26.grownBy w30 (some go23) := (by rw [hw]; exact HP29.2); have hp_ : Kd.R (Kd.int .i64) 3 w30 w.heap.size (fun _ => True) (.slice (some ⟨go23, 0, none⟩) x6_1.length co28) y204 := (by rw [hw, Ny204.out]; exact HP29.1); clear HP29; have n0_ := Aside0.mk (hp_); have n1_ := Aside0.mk (blk_grown (g := gb201) (o := .cells #[.int .i64 ((rd_T33 l0 x24_1).f0), .int .i64 ((rd_T33 l0 x24_1).f1), .int .i64 ((rd_T33 l0 x24_1).f2.f0), .int .i64 ((rd_T33 l0 x24_1).f2.f1), .int .i64 ((rd_T33 l0 x24_1).f2.f2)] 33 (0, 0)) (by (with_reducible repeat (first | refine blk_drewN ?_ _ | refine blk_drew ?_ | refine blk_alloc ?_ _)); exact BK201.out) hg (Kd.R_ne HO_6.out BK201.out (by decide))); have n2_ := Aside0.mk ((by rw [hw]; exact below_set (HB.out) GB23.out : Below w.heap.size w w30)); clear HO_6; clear BK201; clear HB; have HO_6 := n0_; have BK201 := n1_; have HB := n2_; clear n0_ n1_ n2_; clear hg hw hp_))
                              go_roundg k1
                              case measure => have := HK1.out; omega
                              case rel => exact ⟨(y204), (wrap64 (x24_1 + 1)), (by first | rfl | (simp; done) | (simp [*]; done)), H', ⟨by have := HK1.out; omega⟩, ⟨by (with_reducible repeat (first | apply Kd.R_alloc | apply Kd.R_drewN | apply Kd.R_drew)); exact HO_6.out⟩, ⟨by repeat (first | (with_reducible first | exact HB.out | apply below_alloc | apply pw_below_drewN | apply below_drew1 | refine below_set ?_ GE201.out) | exact HB.out)⟩⟩
                            · rw [if_neg c22] at H
                              exact absurd H (by simp)
                          · rw [if_neg c21] at H
                            exact absurd H (by simp)
                        · rw [if_neg c20] at H
                          have c20b0 : decide (((rd_T33 l0 x24_1).f2.f0) < a1) = false := decide_eq_false c20
                          clear c20
                          have H' := Aside0.mk H
                          clear H
                          have p200 : 0 ≤ (x24_1 : Int) := of_decide_eq_true (by first | (with_reducible assumption) | assumption)
                          have q200 : x24_1 < (l0.length : Int) := of_decide_eq_true (by first | (with_reducible assumption) | assumption)
                          obtain ⟨ad200, e200, hx200_0, hx200_1, hx200_2, hx200_3, hx200_4⟩ := at_T33 HR0.out x24_1 p200 q200
                          cases e200
                          replace hx200_0 := (HB.out.cell (World.block_lt_of_cell? w _ hx200_0)).trans hx200_0
                          replace hx200_1 := (HB.out.cell (World.block_lt_of_cell? w _ hx200_1)).trans hx200_1
                          replace hx200_2 := (HB.out.cell (World.block_lt_of_cell? w _ hx200_2)).trans hx200_2
                          replace hx200_3 := (HB.out.cell (World.block_lt_of_cell? w _ hx200_3)).trans hx200_3
                          replace hx200_4 := (HB.out.cell (World.block_lt_of_cell? w _ hx200_4)).trans hx200_4
                          replace p200 := eq_true p200
                          replace q200 := eq_true q200
                          go_wp2_with (first | ((with_reducible refine gate_dst (N := 8) rfl ?_); refine box_event ?hg (N := 8) ?hd (cs := #[.int .i64 0, .int .i64 0, .int .i64 0, .int .i64 0, .int .i64 0]) (t := 33) ?hr ?_; (case hd => rfl); (case hg => rfl); (case hr => first | (go_simp; done) | (go_simp; rfl)); intro gb201 hg w31 hbox hb; have n0_ := Aside0.mk (Kd.R_below (by (with_reducible repeat (first | apply Kd.R_alloc | apply Kd.R_drewN | apply Kd.R_drew)); exact HO_6.out) hb); have n1_ := Aside0.mk (below_step (by repeat (first | (with_reducible first | exact HB.out | apply below_alloc | apply pw_below_drewN | apply below_drew1) | exact HB.out)) hb); have n2_ := Aside0.mk (hbox); have n3_ := Aside0.mk ((by rw [hg]; exact (below_size (by repeat (first | (with_reducible first | exact HB.out | apply below_alloc | apply pw_below_drewN | apply below_drew1) | exact HB.out))) : w.heap.size ≤ gb201)); have n4_ := Aside0.mk ((by rw [hg]; exact (below_size (by repeat (first | (with_reducible first | exact HB.out | apply below_alloc | apply pw_below_drewN | apply below_drew1) | exact HB.out))) : w.heap.size ≤ gb201)); clear HO_6; clear HB; have HO_6 := n0_; have HB := n1_; have BK201 := n2_; have GW201 := n3_; have GE201 := n4_; clear n0_ n1_ n2_ n3_ n4_; clear hb hbox hg; have hcz32_0 : w31.cell? ⟨gb201, 0, none⟩ = some (.int .i64 0) := (blk_cell BK201.out 0).trans rfl; have hcz32_1 : w31.cell? ⟨gb201, 1, none⟩ = some (.int .i64 0) := (blk_cell BK201.out 1).trans rfl; have hcz32_2 : w31.cell? ⟨gb201, 2, none⟩ = some (.int .i64 0) := (blk_cell BK201.out 2).trans rfl; have hcz32_3 : w31.cell? ⟨gb201, 3, none⟩ = some (.int .i64 0) := (blk_cell BK201.out 3).trans rfl; have hcz32_4 : w31.cell? ⟨gb201, 4, none⟩ = some (.int .i64 0) := (blk_cell BK201.out 4).trans rfl; have hfz32_0 := blk_frozen BK201.out 0; have hfz32_1 := blk_frozen BK201.out 1; have hfz32_2 := blk_frozen BK201.out 2; have hfz32_3 := blk_frozen BK201.out 3; have hfz32_4 := blk_frozen BK201.out 4) | ((with_reducible refine gate_callee (f := 56) rfl ?_); refine goesL_ (some 29) rfl rfl Try.func56 (by kernel_rfl) rfl #[.agg #[.int .i64 ((rd_T33 l0 x24_1).f0), .int .i64 ((rd_T33 l0 x24_1).f1), .int .i64 ((rd_T33 l0 x24_1).f2.f0), .int .i64 ((rd_T33 l0 x24_1).f2.f1), .int .i64 ((rd_T33 l0 x24_1).f2.f2)]] rfl (by (try simp only [List.map_toArray, List.map_cons, List.map_nil]); first | done | rfl | (simp only [List.length_drop, List.length_take]; rfl)) ?_; (with_reducible refine (gauge_gets.calls ((rd_T33 l0 x24_1).f0) ((rd_T33 l0 x24_1).f1) ((rd_T33 l0 x24_1).f2.f0) ((rd_T33 l0 x24_1).f2.f1) ((rd_T33 l0 x24_1).f2.f2) true _ A18.out).mono ?_); rintro e w33 ⟨rfl, hb⟩; refine ⟨_, rfl, ?_⟩; have n0_ := Aside0.mk (Kd.R_below (by (with_reducible repeat (first | apply Kd.R_alloc | apply Kd.R_drewN | apply Kd.R_drew)); exact (Kd.R_mono (Kd.R_far (p := ⟨gb201, 4, none⟩) (Kd.R_far (p := ⟨gb201, 3, none⟩) (Kd.R_far (p := ⟨gb201, 2, none⟩) (Kd.R_far (p := ⟨gb201, 1, none⟩) (Kd.R_far (p := ⟨gb201, 0, none⟩) (Kd.R_types HO_6.out BK201.out (by decide)) (fun _ hk => hk.2) (.int .i64 ((rd_T33 l0 x24_1).f0))) (fun _ hk => hk.2) (.int .i64 ((rd_T33 l0 x24_1).f1))) (fun _ hk => hk.2) (.int .i64 ((rd_T33 l0 x24_1).f2.f0))) (fun _ hk => hk.2) (.int .i64 ((rd_T33 l0 x24_1).f2.f1))) (fun _ hk => hk.2) (.int .i64 ((rd_T33 l0 x24_1).f2.f2))) (fun _ h_ => h_.1))) hb); have n1_ := Aside0.mk (blk_below (g := gb201) (o := .cells #[.int .i64 ((rd_T33 l0 x24_1).f0), .int .i64 ((rd_T33 l0 x24_1).f1), .int .i64 ((rd_T33 l0 x24_1).f2.f0), .int .i64 ((rd_T33 l0 x24_1).f2.f1), .int .i64 ((rd_T33 l0 x24_1).f2.f2)] 33 (0, 0)) (by (with_reducible repeat (first | refine blk_drewN ?_ _ | refine blk_drew ?_ | refine blk_alloc ?_ _)); refine blk_put (cs := #[.int .i64 ((rd_T33 l0 x24_1).f0), .int .i64 ((rd_T33 l0 x24_1).f1), .int .i64 ((rd_T33 l0 x24_1).f2.f0), .int .i64 ((rd_T33 l0 x24_1).f2.f1), .int .i64 0]) ?_ 4 _ rfl; (with_reducible repeat (first | refine blk_drewN ?_ _ | refine blk_drew ?_ | refine blk_alloc ?_ _)); refine blk_put (cs := #[.int .i64 ((rd_T33 l0 x24_1).f0), .int .i64 ((rd_T33 l0 x24_1).f1), .int .i64 ((rd_T33 l0 x24_1).f2.f0), .int .i64 0, .int .i64 0]) ?_ 3 _ rfl; (with_reducible repeat (first | refine blk_drewN ?_ _ | refine blk_drew ?_ | refine blk_alloc ?_ _)); refine blk_put (cs := #[.int .i64 ((rd_T33 l0 x24_1).f0), .int .i64 ((rd_T33 l0 x24_1).f1), .int .i64 0, .int .i64 0, .int .i64 0]) ?_ 2 _ rfl; (with_reducible repeat (first | refine blk_drewN ?_ _ | refine blk_drew ?_ | refine blk_alloc ?_ _)); refine blk_put (cs := #[.int .i64 ((rd_T33 l0 x24_1).f0), .int .i64 0, .int .i64 0, .int .i64 0, .int .i64 0]) ?_ 1 _ rfl; (with_reducible repeat (first | refine blk_drewN ?_ _ | refine blk_drew ?_ | refine blk_alloc ?_ _)); refine blk_put (cs := #[.int .i64 0, .int .i64 0, .int .i64 0, .int .i64 0, .int .i64 0]) ?_ 0 _ rfl; (with_reducible repeat (first | refine blk_drewN ?_ _ | refine blk_drew ?_ | refine blk_alloc ?_ _)); exact BK201.out) hb); have n2_ := Aside0.mk (below_step (by repeat (first | (with_reducible first | exact HB.out | apply below_alloc | apply pw_below_drewN | apply below_drew1 | refine below_set ?_ GE201.out) | exact HB.out)) hb); clear HO_6; clear BK201; clear HB; have HO_6 := n0_; have BK201 := n1_; have HB := n2_; clear n0_ n1_ n2_; (try clear hb); (try clear hb2); (try clear hk); (try clear hi); have hcz34_0 : w33.cell? ⟨gb201, 0, none⟩ = some (.int .i64 ((rd_T33 l0 x24_1).f0)) := (blk_cell BK201.out 0).trans rfl; have hcz34_1 : w33.cell? ⟨gb201, 1, none⟩ = some (.int .i64 ((rd_T33 l0 x24_1).f1)) := (blk_cell BK201.out 1).trans rfl; have hcz34_2 : w33.cell? ⟨gb201, 2, none⟩ = some (.int .i64 ((rd_T33 l0 x24_1).f2.f0)) := (blk_cell BK201.out 2).trans rfl; have hcz34_3 : w33.cell? ⟨gb201, 3, none⟩ = some (.int .i64 ((rd_T33 l0 x24_1).f2.f1)) := (blk_cell BK201.out 3).trans rfl; have hcz34_4 : w33.cell? ⟨gb201, 4, none⟩ = some (.int .i64 ((rd_T33 l0 x24_1).f2.f2)) := (blk_cell BK201.out 4).trans rfl; have hfz34_0 := blk_frozen BK201.out 0; have hfz34_1 := blk_frozen BK201.out 1; have hfz34_2 := blk_frozen BK201.out 2; have hfz34_3 := blk_frozen BK201.out 3; have hfz34_4 := blk_frozen BK201.out 4))
                          go_roundg k1
                          case measure => have := HK1.out; omega
                          case rel => exact ⟨(x6_1), (wrap64 (x24_1 + 1)), (by first | rfl | (simp; done) | (simp [*]; done)), H', ⟨by have := HK1.out; omega⟩, ⟨by (with_reducible repeat (first | apply Kd.R_alloc | apply Kd.R_drewN | apply Kd.R_drew)); exact HO_6.out⟩, ⟨by repeat (first | (with_reducible first | exact HB.out | apply below_alloc | apply pw_below_drewN | apply below_drew1 | refine below_set ?_ GE201.out) | exact HB.out)⟩⟩
                      · replace c19 := Bool.eq_false_iff.mpr c19
                        subst c19
                        have H1 : (gauge_Counts.l0 k1 a1 x6_1 l0 (l0.length : Int) (wrap64 (x24_1 + 1))) = some (r1, r2) := by rw [if_neg (show ¬ (false = true) by decide)] at H; exact H
                        clear H
                        have H := H1
                        clear H1
                        have H' := Aside0.mk H
                        clear H
                        have p200 : 0 ≤ (x24_1 : Int) := of_decide_eq_true (by first | (with_reducible assumption) | assumption)
                        have q200 : x24_1 < (l0.length : Int) := of_decide_eq_true (by first | (with_reducible assumption) | assumption)
                        obtain ⟨ad200, e200, hx200_0, hx200_1, hx200_2, hx200_3, hx200_4⟩ := at_T33 HR0.out x24_1 p200 q200
                        cases e200
                        replace hx200_0 := (HB.out.cell (World.block_lt_of_cell? w _ hx200_0)).trans hx200_0
                        replace hx200_1 := (HB.out.cell (World.block_lt_of_cell? w _ hx200_1)).trans hx200_1
                        replace hx200_2 := (HB.out.cell (World.block_lt_of_cell? w _ hx200_2)).trans hx200_2
                        replace hx200_3 := (HB.out.cell (World.block_lt_of_cell? w _ hx200_3)).trans hx200_3
                        replace hx200_4 := (HB.out.cell (World.block_lt_of_cell? w _ hx200_4)).trans hx200_4
                        replace p200 := eq_true p200
                        replace q200 := eq_true q200
                        go_wp2_with (first | ((with_reducible refine gate_dst (N := 8) rfl ?_); refine box_event ?hg (N := 8) ?hd (cs := #[.int .i64 0, .int .i64 0, .int .i64 0, .int .i64 0, .int .i64 0]) (t := 33) ?hr ?_; (case hd => rfl); (case hg => rfl); (case hr => first | (go_simp; done) | (go_simp; rfl)); intro gb201 hg w35 hbox hb; have n0_ := Aside0.mk (Kd.R_below (by (with_reducible repeat (first | apply Kd.R_alloc | apply Kd.R_drewN | apply Kd.R_drew)); exact HO_6.out) hb); have n1_ := Aside0.mk (below_step (by repeat (first | (with_reducible first | exact HB.out | apply below_alloc | apply pw_below_drewN | apply below_drew1) | exact HB.out)) hb); have n2_ := Aside0.mk (hbox); have n3_ := Aside0.mk ((by rw [hg]; exact (below_size (by repeat (first | (with_reducible first | exact HB.out | apply below_alloc | apply pw_below_drewN | apply below_drew1) | exact HB.out))) : w.heap.size ≤ gb201)); have n4_ := Aside0.mk ((by rw [hg]; exact (below_size (by repeat (first | (with_reducible first | exact HB.out | apply below_alloc | apply pw_below_drewN | apply below_drew1) | exact HB.out))) : w.heap.size ≤ gb201)); clear HO_6; clear HB; have HO_6 := n0_; have HB := n1_; have BK201 := n2_; have GW201 := n3_; have GE201 := n4_; clear n0_ n1_ n2_ n3_ n4_; clear hb hbox hg; have hcz36_0 : w35.cell? ⟨gb201, 0, none⟩ = some (.int .i64 0) := (blk_cell BK201.out 0).trans rfl; have hcz36_1 : w35.cell? ⟨gb201, 1, none⟩ = some (.int .i64 0) := (blk_cell BK201.out 1).trans rfl; have hcz36_2 : w35.cell? ⟨gb201, 2, none⟩ = some (.int .i64 0) := (blk_cell BK201.out 2).trans rfl; have hcz36_3 : w35.cell? ⟨gb201, 3, none⟩ = some (.int .i64 0) := (blk_cell BK201.out 3).trans rfl; have hcz36_4 : w35.cell? ⟨gb201, 4, none⟩ = some (.int .i64 0) := (blk_cell BK201.out 4).trans rfl; have hfz36_0 := blk_frozen BK201.out 0; have hfz36_1 := blk_frozen BK201.out 1; have hfz36_2 := blk_frozen BK201.out 2; have hfz36_3 := blk_frozen BK201.out 3; have hfz36_4 := blk_frozen BK201.out 4) | ((with_reducible refine gate_callee (f := 56) rfl ?_); refine goesL_ (some 29) rfl rfl Try.func56 (by kernel_rfl) rfl #[.agg #[.int .i64 ((rd_T33 l0 x24_1).f0), .int .i64 ((rd_T33 l0 x24_1).f1), .int .i64 ((rd_T33 l0 x24_1).f2.f0), .int .i64 ((rd_T33 l0 x24_1).f2.f1), .int .i64 ((rd_T33 l0 x24_1).f2.f2)]] rfl (by (try simp only [List.map_toArray, List.map_cons, List.map_nil]); first | done | rfl | (simp only [List.length_drop, List.length_take]; rfl)) ?_; (with_reducible refine (gauge_gets.calls ((rd_T33 l0 x24_1).f0) ((rd_T33 l0 x24_1).f1) ((rd_T33 l0 x24_1).f2.f0) ((rd_T33 l0 x24_1).f2.f1) ((rd_T33 l0 x24_1).f2.f2) false _ A18.out).mono ?_); rintro e w37 ⟨rfl, hb⟩; refine ⟨_, rfl, ?_⟩; have n0_ := Aside0.mk (Kd.R_below (by (with_reducible repeat (first | apply Kd.R_alloc | apply Kd.R_drewN | apply Kd.R_drew)); exact (Kd.R_mono (Kd.R_far (p := ⟨gb201, 4, none⟩) (Kd.R_far (p := ⟨gb201, 3, none⟩) (Kd.R_far (p := ⟨gb201, 2, none⟩) (Kd.R_far (p := ⟨gb201, 1, none⟩) (Kd.R_far (p := ⟨gb201, 0, none⟩) (Kd.R_types HO_6.out BK201.out (by decide)) (fun _ hk => hk.2) (.int .i64 ((rd_T33 l0 x24_1).f0))) (fun _ hk => hk.2) (.int .i64 ((rd_T33 l0 x24_1).f1))) (fun _ hk => hk.2) (.int .i64 ((rd_T33 l0 x24_1).f2.f0))) (fun _ hk => hk.2) (.int .i64 ((rd_T33 l0 x24_1).f2.f1))) (fun _ hk => hk.2) (.int .i64 ((rd_T33 l0 x24_1).f2.f2))) (fun _ h_ => h_.1))) hb); have n1_ := Aside0.mk (blk_below (g := gb201) (o := .cells #[.int .i64 ((rd_T33 l0 x24_1).f0), .int .i64 ((rd_T33 l0 x24_1).f1), .int .i64 ((rd_T33 l0 x24_1).f2.f0), .int .i64 ((rd_T33 l0 x24_1).f2.f1), .int .i64 ((rd_T33 l0 x24_1).f2.f2)] 33 (0, 0)) (by (with_reducible repeat (first | refine blk_drewN ?_ _ | refine blk_drew ?_ | refine blk_alloc ?_ _)); refine blk_put (cs := #[.int .i64 ((rd_T33 l0 x24_1).f0), .int .i64 ((rd_T33 l0 x24_1).f1), .int .i64 ((rd_T33 l0 x24_1).f2.f0), .int .i64 ((rd_T33 l0 x24_1).f2.f1), .int .i64 0]) ?_ 4 _ rfl; (with_reducible repeat (first | refine blk_drewN ?_ _ | refine blk_drew ?_ | refine blk_alloc ?_ _)); refine blk_put (cs := #[.int .i64 ((rd_T33 l0 x24_1).f0), .int .i64 ((rd_T33 l0 x24_1).f1), .int .i64 ((rd_T33 l0 x24_1).f2.f0), .int .i64 0, .int .i64 0]) ?_ 3 _ rfl; (with_reducible repeat (first | refine blk_drewN ?_ _ | refine blk_drew ?_ | refine blk_alloc ?_ _)); refine blk_put (cs := #[.int .i64 ((rd_T33 l0 x24_1).f0), .int .i64 ((rd_T33 l0 x24_1).f1), .int .i64 0, .int .i64 0, .int .i64 0]) ?_ 2 _ rfl; (with_reducible repeat (first | refine blk_drewN ?_ _ | refine blk_drew ?_ | refine blk_alloc ?_ _)); refine blk_put (cs := #[.int .i64 ((rd_T33 l0 x24_1).f0), .int .i64 0, .int .i64 0, .int .i64 0, .int .i64 0]) ?_ 1 _ rfl; (with_reducible repeat (first | refine blk_drewN ?_ _ | refine blk_drew ?_ | refine blk_alloc ?_ _)); refine blk_put (cs := #[.int .i64 0, .int .i64 0, .int .i64 0, .int .i64 0, .int .i64 0]) ?_ 0 _ rfl; (with_reducible repeat (first | refine blk_drewN ?_ _ | refine blk_drew ?_ | refine blk_alloc ?_ _)); exact BK201.out) hb); have n2_ := Aside0.mk (below_step (by repeat (first | (with_reducible first | exact HB.out | apply below_alloc | apply pw_below_drewN | apply below_drew1 | refine below_set ?_ GE201.out) | exact HB.out)) hb); clear HO_6; clear BK201; clear HB; have HO_6 := n0_; have BK201 := n1_; have HB := n2_; clear n0_ n1_ n2_; (try clear hb); (try clear hb2); (try clear hk); (try clear hi)))
                        go_roundg k1
                        case measure => have := HK1.out; omega
                        case rel => exact ⟨(x6_1), (wrap64 (x24_1 + 1)), (by first | rfl | (simp; done) | (simp [*]; done)), H', ⟨by have := HK1.out; omega⟩, ⟨by (with_reducible repeat (first | apply Kd.R_alloc | apply Kd.R_drewN | apply Kd.R_drew)); exact HO_6.out⟩, ⟨by repeat (first | (with_reducible first | exact HB.out | apply below_alloc | apply pw_below_drewN | apply below_drew1 | refine below_set ?_ GE201.out) | exact HB.out)⟩⟩
                    · rw [if_neg c17] at H
                      exact absurd H (by simp)
                  · rw [if_neg c16] at H
                    exact absurd H (by simp)
                · rw [if_neg c15] at H
                  have c15b0 : decide (x24_1 < (l0.length : Int)) = false := decide_eq_false c15
                  clear c15
                  simp only [Option.some.injEq, Prod.mk.injEq] at H
                  obtain ⟨rfl, rfl⟩ := H
                  go_wp2
                  go_ret2
                  exact ⟨_, by first | rfl | (simp [errW_none, errW_some] <;> rfl) | (simp [*, errW_none, errW_some] <;> rfl), by (with_reducible repeat (first | apply Kd.R_alloc | apply Kd.R_drewN | apply Kd.R_drew)); exact HO_6.out, by repeat (first | (with_reducible first | exact HB.out | apply below_alloc | apply pw_below_drewN | apply below_drew1) | exact HB.out)⟩
          · rw [if_neg c11] at H
            exact absurd H (by simp)
        · rw [if_neg c10] at H
          exact absurd H (by simp)

end Go.Proofs.Ytjdjmhagafmkaaa.PX

/-
  Counts: what gauge.Counts comes to, over plain lists.
-/
namespace Go.Proofs.Ytjdjmhagafmkaaa.PX
open Go.RowKit Judge Go.Proofs.YtjdjmhagafmkaaaW.PrintWords Go.Proofs.YtjdjmhagafmkaaaW.PrintLast Go.Proofs.YtjdjmhagafmkaaaW.PrintMore

def got (h : H) : Bool := h.kind == 0 || h.kind == 1
/-- How often somebody got a mutex. -/
def cnt (j : Int) : List H → Int
  | [] => 0
  | h :: l => (if got h = true ∧ h.who = j then 1 else 0) + cnt j l
theorem cnt_app (j : Int) (l m : List H) : cnt j (l ++ m) = cnt j l + cnt j m := by
  induction l with
  | nil => simp [cnt]
  | cons h l ih => simp only [List.cons_append, cnt, ih]; omega
theorem cnt_bd (j : Int) (l : List H) : 0 ≤ cnt j l ∧ cnt j l ≤ l.length := by
  induction l with
  | nil => exact ⟨Int.le_refl _, by simp [cnt]⟩
  | cons h l ih =>
    simp only [cnt, List.length_cons]
    split <;> omega
theorem cnt_take (j : Int) (l : List H) (k : Nat) : cnt j (l.take k) ≤ cnt j l := by
  have e := cnt_app j (l.take k) (l.drop k)
  rw [List.take_append_drop] at e
  have := (cnt_bd j (l.drop k)).1
  omega
def rowOf (n : Nat) (l : List H) : List Int := (List.range n).map fun (j : Nat) => cnt (j : Int) l
theorem rowOf_len (n : Nat) (l : List H) : (rowOf n l).length = n := by simp [rowOf]
theorem rowOf_at {n j : Nat} (l : List H) (h : j < n) : (rowOf n l)[j]? = some (cnt (j : Int) l) := by simp [rowOf, h]
theorem rowOf_rd {n j : Nat} (l : List H) (h : j < n) : rd (rowOf n l) (j : Int) = cnt (j : Int) l := by
  unfold rd
  rw [Int.toNat_natCast, List.getD_eq_getElem?_getD, rowOf_at l h]
  rfl
/-- Nobody and nothing is out of bounds in a trace that is not wrong. -/
theorem wrong_bd : ∀ (l pre : List H), refWrongFrom pre l = -1 → ∀ h ∈ l, 0 ≤ h.who ∧ h.who ≤ 7 ∧ 0 ≤ h.mutex ∧ h.mutex ≤ 3 ∧ 0 ≤ h.kind ∧ h.kind ≤ 4 := by
  intro l
  induction l with
  | nil => exact fun _ _ h hh => by cases hh
  | cons x l ih =>
    intro pre hw h hh
    unfold refWrongFrom at hw
    by_cases hb : refBad pre x = true
    · rw [if_pos hb] at hw; omega
    rw [if_neg hb] at hw
    have hb' : refBad pre x = false := by simpa using hb
    rcases List.mem_cons.1 hh with rfl | hq
    · have h1 := refBad_kind hb'
      have h2 := refBad_who hb'
      omega
    · exact ih _ hw h hq
theorem gets_f (h : S33) : gauge_gets.f h.f0 h.f1 h.f2.f0 h.f2.f1 h.f2.f2 = some (got (toH h)) := by
  unfold gauge_gets.f
  show _ = some (h.f2.f1 == 0 || h.f2.f1 == 1)
  by_cases h0 : h.f2.f1 = 0
  · rw [if_pos h0]; simp [h0]
  · rw [if_neg h0]; simp [h0]
theorem counts_l0 (n : Nat) (l : List S33) (hn : l.length ≤ 1000) (hb : ∀ h ∈ l, 0 ≤ h.f2.f0) : ∀ (d i k : Nat), i + d = l.length → d < k →
    gauge_Counts.l0 k (n : Int) (rowOf n ((l.map toH).take i)) l (l.length : Int) (i : Int) = some (rowOf n (l.map toH), 0) := by
  intro d
  induction d with
  | zero =>
    intro i k hi hk
    obtain ⟨k, rfl⟩ : ∃ q, k = q + 1 := ⟨k - 1, by omega⟩
    rw [gauge_Counts.l0, if_neg (by omega), List.take_of_length_le (by simp; omega)]
  | succ d ih =>
    intro i k hi hk
    obtain ⟨k, rfl⟩ : ∃ q, k = q + 1 := ⟨k - 1, by omega⟩
    have hlt : i < l.length := by omega
    have hnx := ih (i + 1) k (by omega) (by omega)
    have ht : (l.map toH).take (i + 1) = (l.map toH).take i ++ [toH l[i]] := by
      rw [List.take_add_one, List.getElem?_map, List.getElem?_eq_getElem hlt]
      rfl
    rw [ht] at hnx
    have hlen : ((l.map toH).take i).length ≤ 1000 := by rw [List.length_take]; omega
    generalize (l.map toH).take i = p at hnx hlen
    rw [gauge_Counts.l0, if_pos (by omega), if_pos (by omega), if_pos (by omega), w64_next hlt hn, rdS hlt, gets_f, Option.bind_some]
    have hw := hb _ (List.getElem_mem hlt)
    have hone : ∀ j : Int, cnt j [toH l[i]] = if got (toH l[i]) = true ∧ l[i].f2.f0 = j then 1 else 0 := fun j => by show (if got (toH l[i]) = true ∧ l[i].f2.f0 = j then 1 else 0) + (0 : Int) = _; rw [Int.add_zero]
    by_cases hg : got (toH l[i]) = true
    · rw [if_pos hg]
      by_cases hwn : l[i].f2.f0 < (n : Int)
      · obtain ⟨m, hm⟩ : ∃ m : Nat, l[i].f2.f0 = (m : Int) := ⟨l[i].f2.f0.toNat, by omega⟩
        have hmn : m < n := by omega
        rw [if_pos hwn, if_pos hw, if_pos (by rw [rowOf_len]; exact hwn)]
        have hrow : (rowOf n p).set l[i].f2.f0.toNat (wrap64 (rd (rowOf n p) l[i].f2.f0 + 1)) = rowOf n (p ++ [toH l[i]]) := by
          rw [hm, Int.toNat_natCast, rowOf_rd p hmn]
          have hcb := cnt_bd (m : Int) p
          have e : wrap64 (cnt (m : Int) p + 1) = cnt (m : Int) p + 1 := by unfold wrap64; omega
          rw [e]
          apply List.ext_getElem?
          intro j
          rw [List.getElem?_set, rowOf_len]
          by_cases hj : m = j
          · subst hj
            rw [if_pos rfl, if_pos hmn, rowOf_at _ hmn, cnt_app, hone, if_pos ⟨hg, hm⟩]
          · rw [if_neg hj]
            rcases Nat.lt_or_ge j n with hjn | hjn
            · rw [rowOf_at _ hjn, rowOf_at _ hjn, cnt_app, hone, if_neg (fun hq => by omega), Int.add_zero]
            · rw [List.getElem?_eq_none (by rw [rowOf_len]; exact hjn), List.getElem?_eq_none (by rw [rowOf_len]; exact hjn)]
        rw [hrow]
        exact hnx
      · rw [if_neg hwn]
        have hrow : rowOf n p = rowOf n (p ++ [toH l[i]]) := by
          apply List.ext_getElem?
          intro j
          rcases Nat.lt_or_ge j n with hjn | hjn
          · rw [rowOf_at _ hjn, rowOf_at _ hjn, cnt_app, hone, if_neg (fun hq => by omega), Int.add_zero]
          · rw [List.getElem?_eq_none (by rw [rowOf_len]; exact hjn), List.getElem?_eq_none (by rw [rowOf_len]; exact hjn)]
        rw [hrow]
        exact hnx
    · rw [if_neg hg]
      have hrow : rowOf n p = rowOf n (p ++ [toH l[i]]) := by
        apply List.ext_getElem?
        intro j
        rcases Nat.lt_or_ge j n with hjn | hjn
        · rw [rowOf_at _ hjn, rowOf_at _ hjn, cnt_app, hone, if_neg (fun hq => hg hq.1), Int.add_zero]
        · rw [List.getElem?_eq_none (by rw [rowOf_len]; exact hjn), List.getElem?_eq_none (by rw [rowOf_len]; exact hjn)]
      rw [hrow]
      exact hnx
theorem counts_f (n : Nat) (h1 : 1 ≤ n) (h8 : n ≤ 8) (l : List S33) (hn : l.length ≤ 1000) (hw : wrong (l.map toH) = -1) (k : Nat) (hk : l.length < k) : gauge_Counts.f k l (n : Int) = some (rowOf n (l.map toH), 0) := by
  unfold gauge_Counts.f judge_Wrong.f
  rw [if_pos hn, Option.bind_some, hw, if_neg (by decide), if_neg (by omega), if_neg (by omega), if_pos (by omega), if_pos (by omega), Int.toNat_natCast]
  have hb : ∀ h ∈ l, 0 ≤ h.f2.f0 := fun h hh => (wrong_bd _ _ (by rw [← wrong_ref]; exact hw) (toH h) (List.mem_map_of_mem hh)).1
  have := counts_l0 n l hn hb l.length 0 k (by omega) hk
  have e : rowOf n ((l.map toH).take 0) = List.replicate n 0 := by
    rw [List.take_zero]
    apply List.ext_getElem?
    intro j
    rcases Nat.lt_or_ge j n with hjn | hjn
    · rw [rowOf_at _ hjn, List.getElem?_replicate, if_pos hjn]
      rfl
    · rw [List.getElem?_eq_none (by rw [rowOf_len]; exact hjn), List.getElem?_eq_none (by simpa using hjn)]
  rw [e] at this
  exact this
theorem counts_wrong (n : Int) (l : List S33) (hn : l.length ≤ 1000) (hw : wrong (l.map toH) ≠ -1) (k : Nat) : gauge_Counts.f k l n = some ([], 1) := by
  have := wrong_range (l.map toH)
  unfold gauge_Counts.f judge_Wrong.f
  rw [if_pos hn, Option.bind_some, if_pos (by omega)]
theorem counts_range (n : Int) (l : List S33) (hn : l.length ≤ 1000) (hw : wrong (l.map toH) = -1) (hr : n < 1 ∨ 8 < n) (k : Nat) : gauge_Counts.f k l n = some ([], 3) := by
  unfold gauge_Counts.f judge_Wrong.f
  rw [if_pos hn, Option.bind_some, hw, if_neg (by decide)]
  by_cases h1 : n < 1
  · rw [if_pos h1]
  · rw [if_neg h1, if_pos (by omega)]
end Go.Proofs.Ytjdjmhagafmkaaa.PX

/-
  Floats (64 bits), read as whole numbers in their order: a plain law on Ieee's words.
-/
namespace Go.Proofs.Ytjdjmhagafmkaaa
namespace Fl
open Ieee

def rung (b : Nat) : Nat := b % 9223372036854775808
def sgn (b : Nat) : Bool := b / 9223372036854775808 % 2 == 1
def nan (b : Nat) : Bool := decide (9218868437227405312 < rung b)
def key (b : Nat) : Int := if sgn b then -(rung b : Int) else rung b
def val (r : Nat) : Nat := if r < 4503599627370496 then r else (4503599627370496 + r % 4503599627370496) * 2 ^ (r / 4503599627370496 - 1)

theorem val_lt {r s : Nat} (h : r < s) : val r < val s := by
  unfold val
  by_cases hr : r < 4503599627370496
  · rw [if_pos hr]
    by_cases hs : s < 4503599627370496
    · rw [if_pos hs]; exact h
    · rw [if_neg hs]
      have : 4503599627370496 + s % 4503599627370496 ≤ (4503599627370496 + s % 4503599627370496) * 2 ^ (s / 4503599627370496 - 1) := Nat.le_mul_of_pos_right _ (Nat.two_pow_pos _)
      omega
  · have hs : ¬ s < 4503599627370496 := by omega
    rw [if_neg hr, if_neg hs]
    have ht : r % 4503599627370496 < 4503599627370496 := Nat.mod_lt _ (by omega)
    have hq : r / 4503599627370496 ≤ s / 4503599627370496 := Nat.div_le_div_right (by omega)
    have hq1 : 1 ≤ r / 4503599627370496 := by omega
    by_cases he : r / 4503599627370496 = s / 4503599627370496
    · rw [he]
      exact Nat.mul_lt_mul_of_pos_right (by omega) (Nat.two_pow_pos _)
    · have h1 : (4503599627370496 + r % 4503599627370496) * 2 ^ (r / 4503599627370496 - 1) < (4503599627370496 * 2) * 2 ^ (r / 4503599627370496 - 1) := Nat.mul_lt_mul_of_pos_right (by omega) (Nat.two_pow_pos _)
      have h2 : (4503599627370496 * 2) * 2 ^ (r / 4503599627370496 - 1) = 4503599627370496 * 2 ^ (r / 4503599627370496) := by
        rw [Nat.mul_assoc, Nat.mul_comm 2, ← Nat.pow_succ]
        congr 2
        omega
      have h3 : 4503599627370496 * 2 ^ (r / 4503599627370496) ≤ 4503599627370496 * 2 ^ (s / 4503599627370496 - 1) := Nat.mul_le_mul_left _ (Nat.pow_le_pow_right (by omega) (by omega))
      have h4 : 4503599627370496 * 2 ^ (s / 4503599627370496 - 1) ≤ (4503599627370496 + s % 4503599627370496) * 2 ^ (s / 4503599627370496 - 1) := Nat.mul_le_mul_right _ (by omega)
      omega

theorem val_inj {r s : Nat} (h : val r = val s) : r = s := by
  rcases Nat.lt_trichotomy r s with h1 | h1 | h1
  · have := val_lt h1; omega
  · exact h1
  · have := val_lt h1; omega

theorem val_zero : val 0 = 0 := rfl

theorem dsw : double.signWeight = 9223372036854775808 := by decide
theorem dbin : double.binade = 4503599627370496 := by decide
theorem dinf : double.infRung = 9218868437227405312 := by decide
theorem dlp : double.leastPlace = -1074 := by decide

theorem read_fin {b : Nat} (h : rung b < 9218868437227405312) : ∃ m i, double.read b = .number (sgn b) m i ∧ -1074 ≤ i ∧ m * 2 ^ (i + 1074).toNat = val (rung b) := by
  unfold Format.read
  rw [dsw, dbin, dinf, dlp]
  by_cases h1 : rung b < 4503599627370496
  · refine ⟨rung b, -1074, ?_, by omega, ?_⟩
    · simp only [rung] at h1 ⊢
      simp [h1, sgn]
    · simp [val, h1]
  · refine ⟨4503599627370496 + rung b % 4503599627370496, -1074 + (rung b / 4503599627370496 - 1 : Nat), ?_, by omega, ?_⟩
    · simp only [rung] at h1 h ⊢
      simp [h1, h, sgn]
    · simp only [val, if_neg h1]
      congr 2
      omega

theorem read_inf {b : Nat} (h : rung b = 9218868437227405312) : double.read b = .infinity (sgn b) := by
  unfold Format.read
  rw [dsw, dbin, dinf]
  simp only [rung] at h
  simp [h, sgn]

theorem read_nan {b : Nat} (h : 9218868437227405312 < rung b) : ∃ f, double.read b = .nan (sgn b) f := by
  unfold Format.read
  rw [dsw, dbin, dinf]
  simp only [rung] at h
  exact ⟨_, by rw [if_neg (by omega), if_neg (by omega), if_neg (by omega)]; rfl⟩

def sg (s : Bool) (v : Nat) : Int := if s then -(v : Int) else v

theorem cmp_mul (a b : Int) (c : Nat) (hc : 0 < c) : compare (a * c) (b * c) = compare a b := by
  have hc' : (0 : Int) < c := by omega
  simp only [compare, compareOfLessAndEq, Int.mul_lt_mul_right hc']
  by_cases h : a < b
  · simp [h]
  · by_cases h2 : a = b
    · simp [h2]
    · have : a * c ≠ b * c := by
        intro e
        exact h2 (Int.eq_of_mul_eq_mul_right (by omega) e)
      simp [h, h2, this]

theorem order_num (s t : Bool) (m n : Nat) (i j : Int) (hi : -1074 ≤ i) (hj : -1074 ≤ j) :
    Datum.order (.number s m i) (.number t n j) = some (compare (sg s (m * 2 ^ (i + 1074).toNat)) (sg t (n * 2 ^ (j + 1074).toNat))) := by
  have key : ∀ (s : Bool) (m : Nat) (i : Int), min (α := Int) 0 0 = 0 → ∀ base : Int, -1074 ≤ base → base ≤ i → signed s m (i - base).toNat * ((2 ^ (base + 1074).toNat : Nat) : Int) = sg s (m * 2 ^ (i + 1074).toNat) := by
    intro s m i _ base h1 h2
    unfold signed sg
    rw [Nat.shiftLeft_eq]
    have e : m * 2 ^ (i - base).toNat * 2 ^ (base + 1074).toNat = m * 2 ^ (i + 1074).toNat := by
      rw [Nat.mul_assoc, ← Nat.pow_add]
      congr 2
      omega
    cases s
    · simp only [Bool.false_eq_true, if_false]
      rw [← Int.natCast_mul, e]
    · simp only [if_true]
      rw [Int.neg_mul, ← Int.natCast_mul, e]
  have hb : -1074 ≤ min i j := by omega
  unfold Datum.order
  simp only
  rw [← key s m i rfl (min i j) hb (by omega), ← key t n j rfl (min i j) hb (by omega), cmp_mul _ _ _ (Nat.two_pow_pos _)]

theorem cmp_val (s t : Bool) (r q : Nat) : compare (sg s (val r)) (sg t (val q)) = compare (sg s r) (sg t q) := by
  have z : ∀ r, 0 < r → 0 < val r := fun r h => by have := val_lt h; rw [val_zero] at this; omega
  have lt : (sg s (val r) < sg t (val q)) ↔ (sg s r < sg t q) := by
    have h1 : r < q ↔ val r < val q := ⟨val_lt, fun h => by
      rcases Nat.lt_trichotomy r q with h1 | h1 | h1
      · exact h1
      · subst h1; omega
      · have := val_lt h1; omega⟩
    have h2 : q < r ↔ val q < val r := ⟨val_lt, fun h => by
      rcases Nat.lt_trichotomy q r with h1 | h1 | h1
      · exact h1
      · subst h1; omega
      · have := val_lt h1; omega⟩
    have h3 : 0 < r ↔ 0 < val r := ⟨z r, fun h => by
      rcases Nat.eq_zero_or_pos r with h1 | h1
      · subst h1; rw [val_zero] at h; omega
      · exact h1⟩
    have h4 : 0 < q ↔ 0 < val q := ⟨z q, fun h => by
      rcases Nat.eq_zero_or_pos q with h1 | h1
      · subst h1; rw [val_zero] at h; omega
      · exact h1⟩
    cases s <;> cases t <;> simp [sg] <;> omega
  have eq : (sg s (val r) = sg t (val q)) ↔ (sg s r = sg t q) := by
    have h1 : r = q ↔ val r = val q := ⟨fun h => by rw [h], val_inj⟩
    have h3 : r = 0 ↔ val r = 0 := ⟨fun h => by rw [h]; rfl, fun h => val_inj (h.trans val_zero.symm)⟩
    have h4 : q = 0 ↔ val q = 0 := ⟨fun h => by rw [h]; rfl, fun h => val_inj (h.trans val_zero.symm)⟩
    cases s <;> cases t <;> simp [sg] <;> omega
  simp only [compare, compareOfLessAndEq, lt, eq]

theorem cmp_lt {a b : Int} (h : a < b) : compare a b = .lt := by simp [compare, compareOfLessAndEq, h]
theorem cmp_gt {a b : Int} (h : b < a) : compare a b = .gt := by
  have h1 : ¬ a < b := by omega
  have h2 : ¬ a = b := by omega
  simp [compare, compareOfLessAndEq, h1, h2]
theorem cmp_eq (a : Int) : compare a a = .eq := by simp [compare, compareOfLessAndEq]
theorem key_eq (b : Nat) : key b = sg (sgn b) (rung b) := rfl

/-- How two floats stand to each other. -/
theorem order_eq (x y : Nat) : double.order x y = if nan x || nan y then none else some (compare (key x) (key y)) := by
  unfold Format.order
  by_cases hx : 9218868437227405312 < rung x
  · obtain ⟨f, hf⟩ := read_nan hx
    rw [hf]
    simp [Datum.order, nan, hx]
  · by_cases hy : 9218868437227405312 < rung y
    · obtain ⟨f, hf⟩ := read_nan hy
      rw [hf]
      have : nan y = true := by simp [nan, hy]
      rw [this, Bool.or_true, if_pos rfl]
      cases double.read x <;> simp [Datum.order]
    · have n1 : (nan x || nan y) = false := by simp [nan, hx, hy]
      rw [n1]
      simp only [Bool.false_eq_true, if_false]
      rw [key_eq, key_eq]
      by_cases hx1 : rung x = 9218868437227405312
      · rw [read_inf hx1]
        by_cases hy1 : rung y = 9218868437227405312
        · rw [read_inf hy1]
          rw [hx1, hy1]
          cases sgn x <;> cases sgn y <;> rfl
        · obtain ⟨n, j, e2, _, _⟩ := read_fin (b := y) (by omega)
          rw [e2, hx1]
          have : rung y < 9218868437227405312 := by omega
          cases sgn x <;> cases sgn y <;> simp only [Datum.order, sg, if_true, Bool.false_eq_true, if_false] <;> first | rw [cmp_lt (by omega)] | rw [cmp_gt (by omega)]
      · obtain ⟨m, i, e1, hi, hv⟩ := read_fin (b := x) (by omega)
        by_cases hy1 : rung y = 9218868437227405312
        · rw [e1, read_inf hy1, hy1]
          have : rung x < 9218868437227405312 := by omega
          cases sgn x <;> cases sgn y <;> simp only [Datum.order, sg, if_true, Bool.false_eq_true, if_false] <;> first | rw [cmp_lt (by omega)] | rw [cmp_gt (by omega)]
        · obtain ⟨n, j, e2, hj, hv2⟩ := read_fin (b := y) (by omega)
          rw [e1, e2, order_num _ _ _ _ _ _ hi hj, hv, hv2, cmp_val]
def lt (x y : Nat) : Bool := !nan x && !nan y && decide (key x < key y)
def eq (x y : Nat) : Bool := !nan x && !nan y && decide (key x = key y)
theorem order_lt (x y : Nat) : (double.order x y == some .lt) = lt x y := by
  rw [order_eq, lt]
  cases nan x <;> cases nan y <;> simp
  rcases Int.lt_trichotomy (key x) (key y) with h | h | h
  · simp [cmp_lt h, h]
  · simp [h]
  · rw [cmp_gt h]; simp; omega
theorem order_gt (x y : Nat) : (double.order x y == some .gt) = lt y x := by
  rw [order_eq, lt]
  cases nan x <;> cases nan y <;> simp
  rcases Int.lt_trichotomy (key x) (key y) with h | h | h
  · rw [cmp_lt h]; simp; omega
  · simp [h]
  · simp [cmp_gt h, h]
theorem order_is (x y : Nat) : (double.order x y == some .eq) = eq x y := by
  rw [order_eq, eq]
  cases nan x <;> cases nan y <;> simp
  rcases Int.lt_trichotomy (key x) (key y) with h | h | h
  · rw [cmp_lt h]; simp; omega
  · simp [h]
  · rw [cmp_gt h]; simp; omega
theorem order_ne (x y : Nat) : (double.order x y != some .eq) = !eq x y := by
  rw [← order_is]; rfl

/-- The class of a float. -/
def cls (b : Nat) : Int := if nan b then 6 else if key b = -9218868437227405312 then 0 else if key b = 9218868437227405312 then 5 else if key b < 0 then 1 else if 0 < key b then 4 else if sgn b then 2 else 3
/-- Where a float stands among all: what is no number comes last. -/
def rank (b : Nat) : Int := if nan b then 100000000000000000000 else if 0 < key b then 2 * key b + 1 else if key b = 0 then if sgn b then 0 else 1 else 2 * key b
def ahead (a b : Nat) : Bool := decide (rank a < rank b)
theorem key_bd {b : Nat} (h : nan b = false) : -9218868437227405312 ≤ key b ∧ key b ≤ 9218868437227405312 := by
  simp [nan] at h
  unfold key
  split <;> omega
theorem cls_bd (b : Nat) : 0 ≤ cls b ∧ cls b ≤ 6 := by
  unfold cls
  repeat' split
  all_goals omega
theorem ahead_eq (a b : Nat) : ahead a b = (decide (cls a < cls b) || decide (cls a = cls b) && lt a b) := by
  rw [Bool.eq_iff_iff]
  simp only [ahead, lt, Bool.or_eq_true, Bool.and_eq_true, decide_eq_true_eq, Bool.not_eq_true']
  cases ha : nan a <;> cases hb : nan b
  · have h1 := key_bd ha
    have h2 := key_bd hb
    simp only [rank, cls, ha, hb, Bool.false_eq_true, if_false, true_and]
    repeat' split
    all_goals omega
  · have h1 := key_bd ha
    have h2 := cls_bd a
    have h3 : cls a ≠ 6 := by
      simp only [cls, ha, Bool.false_eq_true, if_false]
      repeat' split
      all_goals omega
    simp only [rank, ha, hb, cls, Bool.false_eq_true, if_false, if_true]
    simp only [cls, ha, Bool.false_eq_true, if_false] at h2 h3
    repeat' split
    all_goals simp_all
    all_goals omega
  · have h1 := key_bd hb
    have h2 := cls_bd b
    simp only [rank, ha, hb, cls, Bool.false_eq_true, if_false, if_true]
    simp only [cls, hb, Bool.false_eq_true, if_false] at h2
    repeat' split
    all_goals simp_all
    all_goals omega
  · simp [rank, cls, ha, hb]
end Fl
end Go.Proofs.Ytjdjmhagafmkaaa

/-
  More on floats: a float halved, one over nought, the sign turned (plain laws on Ieee's words).
-/
namespace Go.Proofs.Ytjdjmhagafmkaaa
namespace Fl
open Ieee

theorem sgn_word (s : Bool) {r : Nat} (h : r < 9223372036854775808) : sgn (double.word s r) = s ∧ rung (double.word s r) = r ∧ double.word s r < 18446744073709551616 := by
  unfold Format.word
  rw [dsw]
  cases s
  · simp [sgn, rung]; omega
  · simp [sgn, rung]; omega

theorem nan_word (s : Bool) {r : Nat} (h : r ≤ 9218868437227405312) : nan (double.word s r) = false := by
  simp only [nan, (sgn_word s (r := r) (by omega)).2.1]
  simp; omega
theorem key_word (s : Bool) {r : Nat} (h : r ≤ 9218868437227405312) : key (double.word s r) = sg s r := by
  have := sgn_word s (r := r) (by omega)
  rw [key_eq, this.1, this.2.1]

theorem neg_eq (b : Nat) (h : b < 18446744073709551616) : sgn (Op.negFloat .f64 b) = !sgn b ∧ rung (Op.negFloat .f64 b) = rung b ∧ Op.negFloat .f64 b < 18446744073709551616 := by
  have e : Op.negFloat .f64 b = b ^^^ 2 ^ 63 := rfl
  rw [e]
  have h1 : (b ^^^ 2 ^ 63) % 2 ^ 63 = b % 2 ^ 63 := by rw [Nat.xor_mod_two_pow]; simp
  have h2 : (b ^^^ 2 ^ 63) / 2 ^ 63 = b / 2 ^ 63 ^^^ 1 := by rw [Nat.xor_div_two_pow]
  have h3 : (b ^^^ 2 ^ 63) < 2 ^ 64 := Nat.xor_lt_two_pow h (by omega)
  refine ⟨?_, h1, h3⟩
  unfold sgn
  show ((b ^^^ 2 ^ 63) / 2 ^ 63 % 2 == 1) = !(b / 2 ^ 63 % 2 == 1)
  rw [h2]
  have : b / 2 ^ 63 = 0 ∨ b / 2 ^ 63 = 1 := by omega
  rcases this with h | h <;> rw [h] <;> rfl

theorem neg_nan (b : Nat) (h : b < 18446744073709551616) : nan (Op.negFloat .f64 b) = nan b := by simp only [nan, (neg_eq b h).2.1]
theorem neg_key (b : Nat) (h : b < 18446744073709551616) : key (Op.negFloat .f64 b) = - key b := by
  obtain ⟨h1, h2, _⟩ := neg_eq b h
  unfold key
  rw [h1, h2]
  cases sgn b <;> simp

theorem read_one : double.read 4607182418800017408 = .number false 4503599627370496 (-52) := by decide
theorem read_two : double.read 4611686018427387904 = .number false 4503599627370496 (-51) := by decide
theorem log_b : Nat.log2 4503599627370496 = 52 := by decide +kernel

theorem div_one_zero {x : Nat} (h : rung x = 0) : double.div 4607182418800017408 x = some (double.word (sgn x) 9218868437227405312) := by
  have h1 : double.read x = .number (sgn x) 0 (-1074) := by
    unfold Format.read
    rw [dsw, dbin, dinf, dlp]
    simp only [rung] at h
    simp [h, sgn]
  unfold Format.div
  rw [h1, read_one]
  simp [Datum.quotient, Format.write, dinf]

theorem div_two_inf {x : Nat} (h : rung x = 9218868437227405312) : double.div x 4611686018427387904 = some (double.word (sgn x) 9218868437227405312) := by
  unfold Format.div
  rw [read_inf h, read_two]
  simp [Datum.quotient, Format.write, dinf]

theorem fin_word (q t B inf : Nat) (hq : 2 ≤ q) (h : (q - 1) * B + t ≤ inf) : min ((q - 2) * B + (B + t)) inf = (q - 1) * B + t := by
  have e : (q - 1) * B = (q - 2) * B + B := by
    rw [show q - 1 = (q - 2) + 1 by omega, Nat.succ_mul]
  omega
theorem log_of {m : Nat} (h1 : 4503599627370496 ≤ m) (h2 : m < 9007199254740992) : m.log2 = 52 := (Nat.log2_eq_iff (by omega)).2 ⟨by simpa using h1, by simpa using h2⟩

theorem div_two_fin {x : Nat} (h : rung x < 9218868437227405312) : ∃ r, double.div x 4611686018427387904 = some r ∧ (4607182418800017408 < rung x → nan r = false ∧ key r ≠ key x) := by
  by_cases hb : 4607182418800017408 < rung x
  · obtain ⟨q, t, hr, ht, hq, hq2⟩ : ∃ q t, rung x = q * 4503599627370496 + t ∧ t < 4503599627370496 ∧ 1023 ≤ q ∧ q < 2047 := ⟨rung x / 4503599627370496, rung x % 4503599627370496, by omega, by omega, by omega, by omega⟩
    have e1 : double.read x = .number (sgn x) (4503599627370496 + t) (-1074 + (q - 1 : Nat)) := by
      unfold Format.read
      rw [dsw, dbin, dinf, dlp]
      simp only [rung] at hr h
      have hd : (q * 4503599627370496 + t) % 4503599627370496 = t := by omega
      have hd2 : (q * 4503599627370496 + t) / 4503599627370496 = q := by omega
      dsimp only
      rw [hr, hd, hd2, if_neg (by omega), if_pos (by omega)]
      rfl
    refine ⟨double.word (sgn x) ((q - 1) * 4503599627370496 + t), ?_, fun _ => ?_⟩
    · unfold Format.div
      rw [e1, read_two]
      have hm : (4503599627370496 + t).log2 = 52 := log_of (by omega) (by omega)
      simp only [Datum.quotient, log_b, hm]
      rw [if_neg (by omega)]
      have hf : double.fractionBits = 52 := rfl
      rw [hf]
      simp only [Option.map_some, Option.some.injEq, Format.write]
      have e3 : (4503599627370496 + t) <<< (52 + 2 + 52 - 52) = (4503599627370496 + t) * 4 * 4503599627370496 := by
        rw [Nat.shiftLeft_eq, show 2 ^ (52 + 2 + 52 - 52) = 4 * 4503599627370496 by decide, Nat.mul_assoc]
      rw [e3, Nat.mul_div_cancel _ (by omega), Nat.mul_mod_left]
      unfold Format.nearest
      have hl : (2 * ((4503599627370496 + t) * 4) + ((0 : Nat) != 0).toNat) = 8 * (4503599627370496 + t) := by
        simp; omega
      rw [hl, if_neg (by omega), dlp, dbin, dinf, hf]
      have hlog : (8 * (4503599627370496 + t)).log2 = 55 := (Nat.log2_eq_iff (by omega)).2 ⟨by omega, by omega⟩
      rw [hlog]
      have hplace : (-1074 + ((q - 1 : Nat) : Int) - -51 - ((52 + 2 + 52 - 52 : Nat) : Int) - 1) = (q : Int) - 1079 := by omega
      rw [hplace]
      have hlast : max ((q : Int) - 1079 + ((55 : Nat) : Int) - ((52 : Nat) : Int)) (-1074) = (q : Int) - 1076 := by omega
      rw [hlast]
      dsimp only
      have h0 : ((q : Int) - 1079 - ((q : Int) - 1076)).toNat = 0 := by omega
      have h3 : ((q : Int) - 1076 - ((q : Int) - 1079)).toNat = 3 := by omega
      have hk : ((q : Int) - 1076 - -1074).toNat = q - 2 := by omega
      rw [h0, h3, hk]
      have hc : Toward.even.cut (sgn x ^^ false) ((8 * (4503599627370496 + t)) <<< 0) 3 = 4503599627370496 + t := by
        unfold Toward.cut
        simp only [Nat.shiftLeft_zero, hlog]
        have : (1 <<< min 3 (55 + 2)) = 8 := by decide
        rw [this]
        have e5 : 8 * (4503599627370496 + t) / 8 = 4503599627370496 + t := by omega
        have e6 : 8 * (4503599627370496 + t) % 8 = 0 := by omega
        rw [e5, e6]
        simp
      rw [hc, Bool.xor_false]
      exact congrArg _ (fin_word q t _ _ (by omega) (by omega))
    · have hl : (q - 1) * 4503599627370496 + t ≤ 9218868437227405312 := by omega
      refine ⟨nan_word _ hl, ?_⟩
      rw [key_word _ hl, key_eq, hr]
      unfold sg
      split <;> omega
  · obtain ⟨m, i, e1, _, _⟩ := read_fin h
    obtain ⟨r, hr⟩ : ∃ r, double.div x 4611686018427387904 = some r := by
      unfold Format.div
      rw [e1, read_two]
      simp only [Datum.quotient]
      rw [if_neg (by omega)]
      exact ⟨_, rfl⟩
    exact ⟨r, hr, fun hc => absurd hc hb⟩
end Fl
end Go.Proofs.Ytjdjmhagafmkaaa

/-
  The contract of order.Class: what a float's class is.
-/
namespace Go.Proofs.Ytjdjmhagafmkaaa
open Go.RowKit

attribute [local go_sem] Fl.order_lt Fl.order_gt Fl.order_is Fl.order_ne
@[go_sem] theorem Fl.fmt : FloatKind.f64.format = Ieee.double := rfl

@[go_sem] theorem Fl.run_neg (b : Nat) : Op.unary .neg (.float .f64 b) = pure (.float .f64 (Op.negFloat .f64 b)) := rfl
theorem Fl.bits (b : Nat) (w : World) : (callFunc 86 #[.float .f64 b]).run Try.prog w = .ok (.value (.int .u64 b)) w := by
  rw [run_callFunc_extern Try.func86 (by kernel_rfl) (by kernel_rfl) (by kernel_rfl) (e := Extern.MathFloatBits.float64bits) (by kernel_rfl)]
  rfl

namespace Fl
theorem nan_c0 : nan 0 = false := by decide
theorem key_c0 : key 0 = 0 := by decide
theorem nan_max : nan 9218868437227405311 = false := by decide
theorem key_max : key 9218868437227405311 = 9218868437227405311 := by decide
theorem inf_neg {b : Nat} (hb : b < 18446744073709551616) (h : nan b = false) : lt 9218868437227405311 (Op.negFloat .f64 b) = decide (key b = -9218868437227405312) := by
  have := key_bd h
  rw [lt, neg_nan b hb, neg_key b hb, h, nan_max, key_max, Bool.eq_iff_iff]
  simp
  omega
theorem inf_pos {b : Nat} (h : nan b = false) : lt 9218868437227405311 b = decide (key b = 9218868437227405312) := by
  have := key_bd h
  rw [lt, h, nan_max, key_max, Bool.eq_iff_iff]
  simp
  omega
theorem lt_zero {b : Nat} (h : nan b = false) : lt b 0 = decide (key b < 0) := by rw [lt, h, nan_c0, key_c0]; simp
theorem zero_lt {b : Nat} (h : nan b = false) : lt 0 b = decide (0 < key b) := by rw [lt, h, nan_c0, key_c0]; simp
theorem eq_self (b : Nat) : eq b b = !nan b := by simp [eq]
theorem eq_zero {b : Nat} (h : nan b = false) : eq b 0 = decide (key b = 0) := by rw [eq, h, nan_c0, key_c0]; simp
theorem sign_int {b : Nat} (_ : b < 18446744073709551616) : decide (wrap64 (b : Int) < 0) = sgn b := by
  rw [Bool.eq_iff_iff]
  unfold wrap64 sgn
  simp
  omega
end Fl

namespace Order
theorem isNaN (b : Nat) (w : World) : Calls Try.prog 60 #[.float .f64 b] w fun e w' => e = .returned (.bool (Fl.nan b)) ∧ w = w' := by
  go_enter Try.func60, Try.ntmps60
  go_wp2_with fail
  go_ret
  exact ⟨ret_bool (by simp [Fl.eq_self]), rfl⟩
theorem isInf_neg (b : Nat) (hb : b < 18446744073709551616) (h : Fl.nan b = false) (w : World) : Calls Try.prog 61 #[.float .f64 b, .int .i64 (-1)] w fun e w' => e = .returned (.bool (decide (Fl.key b = -9218868437227405312))) ∧ w = w' := by
  go_enter Try.func61, Try.ntmps61
  go_wp2_with fail
  go_ret
  exact ⟨ret_bool (Fl.inf_neg hb h), rfl⟩
theorem isInf_pos (b : Nat) (h : Fl.nan b = false) (w : World) : Calls Try.prog 61 #[.float .f64 b, .int .i64 1] w fun e w' => e = .returned (.bool (decide (Fl.key b = 9218868437227405312))) ∧ w = w' := by
  go_enter Try.func61, Try.ntmps61
  go_wp2_with fail
  go_ret
  exact ⟨ret_bool (Fl.inf_pos h), rfl⟩
theorem signbit (b : Nat) (hb : b < 18446744073709551616) (w : World) : Calls Try.prog 62 #[.float .f64 b] w fun e w' => e = .returned (.bool (Fl.sgn b)) ∧ w = w' := by
  have hd := Fl.bits b
  go_enter Try.func62, Try.ntmps62
  go_wp2_with fail
  go_ret
  exact ⟨ret_bool (Fl.sign_int hb), rfl⟩
theorem class_ (b : Nat) (hb : b < 18446744073709551616) (w : World) : Calls Try.prog 28 #[.float .f64 b] w fun e w' => e = .returned (.int .i64 (Fl.cls b)) ∧ w = w' := by
  cases hn : Fl.nan b
  · have hc : Fl.cls b = if Fl.key b = -9218868437227405312 then 0 else if Fl.key b = 9218868437227405312 then 5 else if Fl.key b < 0 then 1 else if 0 < Fl.key b then 4 else if Fl.sgn b then 2 else 3 := by rw [Fl.cls, hn]; rfl
    have h0 := Fl.lt_zero hn
    have h1 := Fl.zero_lt hn
    go_enter Try.func28, Try.ntmps28
    go_wp2_with fail
    refine (isNaN b _).mono ?_
    rintro e w1 ⟨rfl, rfl⟩
    rw [hn]
    go_wp2_with fail
    refine (isInf_neg b hb hn _).mono ?_
    rintro e w1 ⟨rfl, rfl⟩
    by_cases k1 : Fl.key b = -9218868437227405312
    · go_wp2_with fail
      go_ret
      exact ⟨ret_int (by rw [hc, if_pos k1]), rfl⟩
    go_wp2_with fail
    refine (isInf_pos b hn _).mono ?_
    rintro e w1 ⟨rfl, rfl⟩
    by_cases k2 : Fl.key b = 9218868437227405312
    · go_wp2_with fail
      go_ret
      exact ⟨ret_int (by rw [hc, if_neg k1, if_pos k2]), rfl⟩
    by_cases k3 : Fl.key b < 0
    · go_wp2_with fail
      go_ret
      exact ⟨ret_int (by rw [hc, if_neg k1, if_neg k2, if_pos k3]), rfl⟩
    by_cases k4 : 0 < Fl.key b
    · go_wp2_with fail
      go_ret
      exact ⟨ret_int (by rw [hc, if_neg k1, if_neg k2, if_neg (by omega : ¬ Fl.key b < 0), if_pos k4]), rfl⟩
    go_wp2_with fail
    refine (signbit b hb _).mono ?_
    rintro e w1 ⟨rfl, rfl⟩
    rw [if_neg k1, if_neg k2, if_neg (by omega : ¬ Fl.key b < 0), if_neg (by omega : ¬ 0 < Fl.key b)] at hc
    cases k5 : Fl.sgn b
    · rw [k5] at hc
      go_wp2_with fail
      go_ret
      exact ⟨ret_int (by rw [hc]; rfl), rfl⟩
    · rw [k5] at hc
      go_wp2_with fail
      go_ret
      exact ⟨ret_int (by rw [hc]; rfl), rfl⟩
  · have hc : Fl.cls b = 6 := by rw [Fl.cls, hn]; rfl
    go_enter Try.func28, Try.ntmps28
    go_wp2_with fail
    refine (isNaN b _).mono ?_
    rintro e w1 ⟨rfl, rfl⟩
    rw [hn]
    go_wp2_with fail
    go_ret
    exact ⟨ret_int hc.symm, rfl⟩
end Order
end Go.Proofs.Ytjdjmhagafmkaaa

/-
  The contract of order.Share (and the reference's), and 'alive' of layer 5.
-/
namespace Go.Proofs.Ytjdjmhagafmkaaa
open Go.RowKit
namespace Fl
/-- What a share may be: its bits where the division is valid, else any that are no number. -/
def isShare (a b : Int) (r : Nat) : Prop := r < 18446744073709551616 ∧ (∀ q, floatBits .quo .f64 (floatOfInt .f64 a) (floatOfInt .f64 b) = some q → r = q) ∧ (floatBits .quo .f64 (floatOfInt .f64 a) (floatOfInt .f64 b) = none → nan r = true)
theorem wf_lt {b : Nat} (h : (Lit.float .f64 b).wf = true) : b < 18446744073709551616 := by simpa [Lit.wf] using h
theorem bits_lt {op : BinOp} {x y r : Nat} (h : floatBits op .f64 x y = some r) : r < 18446744073709551616 := wf_lt (floatBits_wf h)
theorem share_rank {a b : Int} {r s : Nat} (hr : isShare a b r) (hs : isShare a b s) : rank r = rank s := by
  cases h : floatBits .quo .f64 (floatOfInt .f64 a) (floatOfInt .f64 b) with
  | some q => rw [hr.2.1 q h, hs.2.1 q h]
  | none => simp [rank, hr.2.2 h, hs.2.2 h]
def anyNan (n : Nat) : Nat := (n % 2) * 2 ^ 63 + 9218868437227405312 + 1 + (n / 2) % (2 ^ 52 - 1)
theorem anyNan_lt (n : Nat) : anyNan n < 18446744073709551616 := by unfold anyNan; omega
theorem anyNan_nan (n : Nat) : nan (anyNan n) = true := by
  refine decide_eq_true ?_
  unfold rung anyNan
  have hu : n % 2 < 2 := Nat.mod_lt _ (by omega)
  have hv : n / 2 % (2 ^ 52 - 1) < 4503599627370495 := Nat.mod_lt _ (by omega)
  generalize n % 2 = u at hu
  generalize n / 2 % (2 ^ 52 - 1) = v at hv
  rcases (by omega : u = 0 ∨ u = 1) with rfl | rfl <;> omega
theorem run_nan (P : Program) (op : BinOp) (hop : op = .quo ∨ op = .add) (t : TypeId) (x y : Nat) (h : floatBits op .f64 x y = none) (w : World) :
    ∃ n, (binOp op t (.float .f64 x) (.float .f64 y)).run P w = .ok (.float .f64 (anyNan n)) w.drew := by
  unfold floatBits at h
  refine ⟨w.tape w.drawn (.nanBits .f64 x y), ?_⟩
  rcases hop with rfl | rfl <;> simp only at h <;> simp [binOp, Op.floatArith, h, Question.forced, Question.cut, anyNan]
end Fl
namespace Order
def ShareOf (a b : Int) (e : Ending) : Prop := ∃ r, e = .returned (.float .f64 r) ∧ Fl.isShare a b r
theorem share (a b : Int) (w : World) : Calls Try.prog 59 #[.int .i64 a, .int .i64 b] w fun e w' => ShareOf a b e ∧ Below w.heap.size w w' := by
  cases h : floatBits .quo .f64 (floatOfInt .f64 a) (floatOfInt .f64 b) with
  | some q =>
    have hd : ∀ w, (binOp .quo 46 (.float .f64 (floatOfInt .f64 a)) (.float .f64 (floatOfInt .f64 b))).run Try.prog w = .ok (.float .f64 q) w := fun w => run_float_arith w .quo _ .f64 _ _ _ h
    have H : Hid (Fl.isShare a b q) := ⟨Fl.bits_lt h, fun x hx => by rw [h] at hx; exact Option.some.inj hx, fun hx => by rw [h] at hx; cases hx⟩
    clear h
    go_enter Try.func59, Try.ntmps59
    go_wp2_with fail
    go_ret
    exact ⟨⟨q, rfl, H.out⟩, Below.refl _ _⟩
  | none =>
    obtain ⟨n, hd⟩ := Fl.run_nan Try.prog .quo (.inl rfl) 46 _ _ h w
    have H : Hid (Fl.isShare a b (Fl.anyNan n)) := ⟨Fl.anyNan_lt n, fun x hx => by (rw [h] at hx; cases hx), fun _ => Fl.anyNan_nan n⟩
    clear h
    go_enter Try.func59, Try.ntmps59
    go_wp2_with fail
    go_ret
    exact ⟨⟨_, rfl, H.out⟩, (Below.refl _ _).drew⟩
end Order
end Go.Proofs.Ytjdjmhagafmkaaa

/-
  Shares: an int over an int, as floats: signs, bounds, and that more is no less (plain laws on Ieee's words).
-/
namespace Go.Proofs.Ytjdjmhagafmkaaa
namespace Fl
open Ieee

@[irreducible] def rnd (n d : Nat) : Nat := n / 2 ^ d + (if 2 ^ d < 2 * (n % 2 ^ d) ∨ (2 ^ d = 2 * (n % 2 ^ d) ∧ n / 2 ^ d % 2 = 1) then 1 else 0)

theorem cut_eq (s : Bool) (n d : Nat) (h : d ≤ n.log2 + 2) : Toward.even.cut s n d = rnd n d := by
  have hm : min d (n.log2 + 2) = d := by omega
  unfold Toward.cut rnd
  simp only [hm, Nat.shiftLeft_eq, Nat.one_mul]
  by_cases h1 : 2 ^ d < 2 * (n % 2 ^ d)
  · simp [h1]
  · by_cases h2 : 2 ^ d = 2 * (n % 2 ^ d)
    · by_cases h3 : n / 2 ^ d % 2 = 1
      · rw [if_pos (.inr ⟨h2, h3⟩)]
        simp [← h2, h3]
      · rw [if_neg (by omega)]
        simp [← h2, h3]
    · rw [if_neg (by omega)]
      simp [h1, h2]

theorem rnd_mono {n m : Nat} (d : Nat) (h : n ≤ m) : rnd n d ≤ rnd m d := by
  unfold rnd
  have hd : 0 < 2 ^ d := Nat.two_pow_pos d
  generalize 2 ^ d = g at hd
  have h1 : n / g ≤ m / g := Nat.div_le_div_right h
  by_cases he : n / g = m / g
  · have e1 := Nat.div_add_mod n g
    have e2 := Nat.div_add_mod m g
    rw [he] at e1
    have h2 : n % g ≤ m % g := by omega
    rw [he]
    split <;> split <;> omega
  · split <;> split <;> omega

@[irreducible] def kept (n : Nat) : Nat := if n.log2 ≤ 52 then n * 2 ^ (52 - n.log2) else rnd n (n.log2 - 52)

theorem pow52 : (2 : Nat) ^ 52 = 4503599627370496 := by decide
theorem pow53 : (2 : Nat) ^ 53 = 9007199254740992 := by decide

theorem kept_bd {n : Nat} (h : n ≠ 0) : 4503599627370496 ≤ kept n ∧ kept n ≤ 9007199254740992 := by
  have h1 : 2 ^ n.log2 ≤ n := Nat.log2_self_le h
  have h2 : n < 2 ^ (n.log2 + 1) := Nat.lt_log2_self
  unfold kept
  generalize hk : n.log2 = k at h1 h2
  by_cases hs : k ≤ 52
  · rw [if_pos hs]
    have e1 : 2 ^ k * 2 ^ (52 - k) = 4503599627370496 := by rw [← Nat.pow_add, show k + (52 - k) = 52 by omega, pow52]
    have e2 : 2 ^ (k + 1) * 2 ^ (52 - k) = 9007199254740992 := by rw [← Nat.pow_add, show k + 1 + (52 - k) = 53 by omega, pow53]
    have l1 := Nat.mul_le_mul_right (2 ^ (52 - k)) h1
    have l2 := Nat.mul_le_mul_right (2 ^ (52 - k)) (Nat.le_of_lt h2)
    omega
  · rw [if_neg hs]
    have e1 : 2 ^ k = 2 ^ (k - 52) * 4503599627370496 := by rw [← pow52, ← Nat.pow_add, show k - 52 + 52 = k by omega]
    have e2 : 2 ^ (k + 1) = 2 ^ (k - 52) * 9007199254740992 := by rw [← pow53, ← Nat.pow_add, show k - 52 + 53 = k + 1 by omega]
    have hd : 0 < 2 ^ (k - 52) := Nat.two_pow_pos _
    rw [e1] at h1
    rw [e2] at h2
    have l1 : 4503599627370496 ≤ n / 2 ^ (k - 52) := (Nat.le_div_iff_mul_le hd).2 (by rw [Nat.mul_comm]; exact h1)
    have l2 : n / 2 ^ (k - 52) < 9007199254740992 := (Nat.div_lt_iff_lt_mul hd).2 (by rw [Nat.mul_comm]; exact h2)
    unfold rnd
    split <;> omega

theorem kept_mono {n m : Nat} (h : n ≤ m) (hl : n.log2 = m.log2) : kept n ≤ kept m := by
  unfold kept
  rw [hl]
  split
  · exact Nat.mul_le_mul_right _ h
  · exact rnd_mono _ h

theorem min_fit {x k : Nat} (hx : x ≤ 2044) (hk : k ≤ 9007199254740992) : min (x * 4503599627370496 + k) 9218868437227405312 = x * 4503599627370496 + k := by omega
theorem step_up {x y : Int} {k l : Nat} (h : x < y) (hy : 0 ≤ x) (hk : k ≤ 9007199254740992) (hl : 4503599627370496 ≤ l) : x.toNat * 4503599627370496 + k ≤ y.toNat * 4503599627370496 + l := by
  have : x.toNat + 1 ≤ y.toNat := by omega
  generalize x.toNat = a at *
  generalize y.toNat = b at *
  omega
theorem word_congr (s : Bool) {r q : Nat} (h : r = q) : double.word s r = double.word s q := by rw [h]
theorem nearest_eq (s : Bool) {n : Nat} (p : Int) (hn : n ≠ 0) (h1 : -1022 ≤ p + n.log2) (h2 : p + n.log2 ≤ 1022) : double.nearest s n p = double.word s ((p + n.log2 + 1022).toNat * 4503599627370496 + kept n) := by
  have hk := kept_bd hn
  unfold Format.nearest
  rw [if_neg hn, dlp, dbin, dinf]
  have hf : double.fractionBits = 52 := rfl
  rw [hf]
  have hl : max (p + (n.log2 : Int) - ((52 : Nat) : Int)) (-1074) = p + (n.log2 : Int) - 52 := by omega
  rw [hl]
  dsimp only
  refine word_congr s ?_
  have e1 : (p + (n.log2 : Int) - 52 - -1074).toNat = (p + n.log2 + 1022).toNat := by omega
  rw [e1]
  have hc : Toward.even.cut s (n <<< (p - (p + (n.log2 : Int) - 52)).toNat) (p + (n.log2 : Int) - 52 - p).toNat = kept n := by
    unfold kept
    by_cases hs : n.log2 ≤ 52
    · rw [if_pos hs, show (p + (n.log2 : Int) - 52 - p).toNat = 0 by omega, show (p - (p + (n.log2 : Int) - 52)).toNat = 52 - n.log2 by omega, cut_eq _ _ _ (by omega), Nat.shiftLeft_eq]
      simp only [rnd, Nat.pow_zero, Nat.div_one, Nat.mod_one]
      simp
    · rw [if_neg hs, show (p + (n.log2 : Int) - 52 - p).toNat = n.log2 - 52 by omega, show (p - (p + (n.log2 : Int) - 52)).toNat = 0 by omega, Nat.shiftLeft_zero, cut_eq _ _ _ (by omega)]
  rw [hc]
  have hx : (p + (n.log2 : Int) + 1022).toNat ≤ 2044 := by omega
  exact min_fit hx hk.2

/-- The rung of a whole number that is not 0. -/
@[irreducible] def fr (n : Nat) : Nat := (n.log2 + 1022) * 4503599627370496 + kept n

theorem log_lt {n : Nat} (h0 : n ≠ 0) (h : n ≤ 9223372036854775808) : n.log2 ≤ 63 := by
  rcases Nat.lt_or_ge 63 n.log2 with h1 | h1
  · have h2 := Nat.log2_self_le h0
    have h3 : 2 ^ 64 ≤ 2 ^ n.log2 := Nat.pow_le_pow_right (by omega) h1
    omega
  · exact h1

theorem fr_bd {n : Nat} (h0 : n ≠ 0) (h : n ≤ 9223372036854775808) : 1023 * 4503599627370496 ≤ fr n ∧ fr n ≤ 1087 * 4503599627370496 := by
  have h1 := log_lt h0 h
  have h2 := kept_bd h0
  unfold fr
  omega

theorem fr_mono {n m : Nat} (h0 : n ≠ 0) (h : n ≤ m) : fr n ≤ fr m := by
  have hm : m ≠ 0 := by omega
  have k1 := kept_bd h0
  have k2 := kept_bd hm
  have hl : n.log2 ≤ m.log2 := by
    have h1 : 2 ^ n.log2 ≤ m := Nat.le_trans (Nat.log2_self_le h0) h
    exact (Nat.le_log2 hm).2 h1
  unfold fr
  by_cases he : n.log2 = m.log2
  · have := kept_mono h he
    rw [he]
    omega
  · omega

theorem float_int {a : Int} (h : a ≠ 0) (h2 : a.natAbs ≤ 9223372036854775808) : floatOfInt .f64 a = double.word (decide (a < 0)) (fr a.natAbs) := by
  have h0 : a.natAbs ≠ 0 := by omega
  have hl := log_lt h0 h2
  show double.nearest _ _ _ = _
  rw [nearest_eq _ 0 h0 (by omega) (by omega)]
  refine word_congr _ ?_
  unfold fr
  rw [show ((0 : Int) + (a.natAbs.log2 : Int) + 1022).toNat = a.natAbs.log2 + 1022 by omega]
theorem float_zero : floatOfInt .f64 0 = 0 := by decide

theorem read_norm (s : Bool) {q t : Nat} (h1 : 1 ≤ q) (h2 : q < 2047) (ht : t < 4503599627370496) : double.read (double.word s (q * 4503599627370496 + t)) = .number s (4503599627370496 + t) ((q : Int) - 1075) := by
  have hlt : q * 4503599627370496 + t < 9223372036854775808 := by omega
  obtain ⟨e1, e2, _⟩ := sgn_word s hlt
  unfold Format.read
  rw [dsw, dbin, dinf, dlp]
  simp only [rung] at e2
  have e3 : (double.word s (q * 4503599627370496 + t) / 9223372036854775808 % 2 == 1) = s := e1
  dsimp only
  rw [e2, e3]
  have hd : (q * 4503599627370496 + t) % 4503599627370496 = t := by omega
  have hd2 : (q * 4503599627370496 + t) / 4503599627370496 = q := by omega
  rw [hd, hd2, if_neg (by omega), if_pos (by omega)]
  congr 1
  omega

/-- The quotient's digits. -/
@[irreducible] def quo (m n : Nat) : Nat := 2 * (m * 18014398509481984 / n) + (if m * 18014398509481984 % n = 0 then 0 else 1)

theorem quo_bd {m n : Nat} (h1 : 4503599627370496 ≤ m) (h2 : m < 9007199254740992) (k1 : 4503599627370496 ≤ n) (k2 : n < 9007199254740992) : 18014398509481984 ≤ quo m n ∧ quo m n < 72057594037927936 := by
  have hd : 0 < n := by omega
  have l1 : 9007199254740992 ≤ m * 18014398509481984 / n := (Nat.le_div_iff_mul_le hd).2 (by omega)
  have l2 : m * 18014398509481984 / n < 36028797018963968 := (Nat.div_lt_iff_lt_mul hd).2 (by omega)
  unfold quo
  split <;> omega

theorem quo_log {m n : Nat} (h1 : 4503599627370496 ≤ m) (h2 : m < 9007199254740992) (k1 : 4503599627370496 ≤ n) (k2 : n < 9007199254740992) : (quo m n).log2 = 54 ∧ quo m n < 36028797018963968 ∨ (quo m n).log2 = 55 ∧ 36028797018963968 ≤ quo m n := by
  obtain ⟨b1, b2⟩ := quo_bd h1 h2 k1 k2
  by_cases h : quo m n < 36028797018963968
  · exact .inl ⟨(Nat.log2_eq_iff (by omega)).2 ⟨by omega, by omega⟩, h⟩
  · exact .inr ⟨(Nat.log2_eq_iff (by omega)).2 ⟨by omega, by omega⟩, by omega⟩

/-- The rung of a quotient. -/
@[irreducible] def qr (q t p u : Nat) : Nat := ((q : Int) - p + 967 + (quo (4503599627370496 + t) (4503599627370496 + u)).log2).toNat * 4503599627370496 + kept (quo (4503599627370496 + t) (4503599627370496 + u))

theorem div_norm (s z : Bool) {q t p u : Nat} (h1 : 1000 ≤ q) (h2 : q < 1100) (ht : t < 4503599627370496) (k1 : 1000 ≤ p) (k2 : p < 1100) (hu : u < 4503599627370496) :
    double.div (double.word s (q * 4503599627370496 + t)) (double.word z (p * 4503599627370496 + u)) = some (double.word (s ^^ z) (qr q t p u)) := by
  unfold Format.div
  rw [read_norm s (by omega) (by omega) ht, read_norm z (by omega) (by omega) hu]
  simp only [Datum.quotient]
  rw [if_neg (by omega), log_of (m := 4503599627370496 + t) (by omega) (by omega), log_of (m := 4503599627370496 + u) (by omega) (by omega)]
  have hf : double.fractionBits = 52 := rfl
  rw [hf]
  have e1 : (4503599627370496 + t) <<< (52 + 2 + 52 - 52) = (4503599627370496 + t) * 18014398509481984 := by rw [Nat.shiftLeft_eq]
  rw [e1]
  have e2 : 2 * ((4503599627370496 + t) * 18014398509481984 / (4503599627370496 + u)) + ((4503599627370496 + t) * 18014398509481984 % (4503599627370496 + u) != 0).toNat = quo (4503599627370496 + t) (4503599627370496 + u) := by
    unfold quo
    by_cases h : (4503599627370496 + t) * 18014398509481984 % (4503599627370496 + u) = 0
    · rw [if_pos h, h]; rfl
    · rw [if_neg h]
      have : ((4503599627370496 + t) * 18014398509481984 % (4503599627370496 + u) != 0) = true := by simpa using h
      rw [this]; rfl
  rw [e2]
  have hl := quo_log (m := 4503599627370496 + t) (n := 4503599627370496 + u) (by omega) (by omega) (by omega) (by omega)
  have hb := quo_bd (m := 4503599627370496 + t) (n := 4503599627370496 + u) (by omega) (by omega) (by omega) (by omega)
  simp only [Option.map_some, Format.write]
  rw [show ((q : Int) - 1075 - ((p : Int) - 1075) - ((52 + 2 + 52 - 52 : Nat) : Int) - 1) = (q : Int) - p - 55 by omega]
  rw [nearest_eq _ _ (by omega) (by omega) (by omega)]
  refine congrArg some (word_congr _ ?_)
  unfold qr
  rw [show (q : Int) - p - 55 + ((quo (4503599627370496 + t) (4503599627370496 + u)).log2 : Int) + 1022 = (q : Int) - p + 967 + ((quo (4503599627370496 + t) (4503599627370496 + u)).log2 : Int) by omega]

theorem qr_bd {q t p u : Nat} (h1 : 1000 ≤ q) (h2 : q < 1100) (ht : t < 4503599627370496) (k1 : 1000 ≤ p) (k2 : p < 1100) (hu : u < 4503599627370496) : 0 < qr q t p u ∧ qr q t p u < 9218868437227405312 := by
  have hl := quo_log (m := 4503599627370496 + t) (n := 4503599627370496 + u) (by omega) (by omega) (by omega) (by omega)
  have hb := quo_bd (m := 4503599627370496 + t) (n := 4503599627370496 + u) (by omega) (by omega) (by omega) (by omega)
  have hk := kept_bd (n := quo (4503599627370496 + t) (4503599627370496 + u)) (by omega)
  unfold qr
  omega

theorem floor_two {D E n : Nat} (hn : 0 < n) (h : D ≤ 2 * E) : D / n ≤ 2 * (E / n) + 1 ∧ (D / n = 2 * (E / n) + 1 → E % n ≠ 0) ∧ (D / n = 2 * (E / n) → D % n ≠ 0 → E % n ≠ 0) := by
  have e1 := Nat.div_add_mod D n
  have e2 := Nat.div_add_mod E n
  have l1 := Nat.mod_lt D hn
  have l2 := Nat.mod_lt E hn
  generalize D / n = X at *
  generalize E / n = Y at *
  generalize D % n = R at *
  generalize E % n = S at *
  have h0 : n * (2 * Y) = 2 * (n * Y) := by rw [Nat.mul_left_comm]
  refine ⟨?_, fun hx => ?_, fun hx hr => ?_⟩
  · rcases Nat.lt_or_ge (2 * Y + 1) X with hc | hc
    · have h3 : n * (2 * Y + 2) ≤ n * X := Nat.mul_le_mul_left _ hc
      rw [Nat.mul_add] at h3
      omega
    · exact hc
  · rw [hx, Nat.mul_add] at e1
    omega
  · rw [hx] at e1
    omega

theorem sticky_mono {D E n : Nat} (h1 : D ≤ E) : 2 * (D / n) + (if D % n = 0 then 0 else 1) ≤ 2 * (E / n) + (if E % n = 0 then 0 else 1) := by
  have h2 : D / n ≤ E / n := Nat.div_le_div_right h1
  by_cases he : D / n = E / n
  · have e1 := Nat.div_add_mod D n
    have e2 := Nat.div_add_mod E n
    rw [he] at e1
    rw [he]
    split <;> split <;> omega
  · split <;> split <;> omega
theorem quo_mono {m k n : Nat} (h : m ≤ k) : quo m n ≤ quo k n := by
  unfold quo
  exact sticky_mono (Nat.mul_le_mul_right _ h)

theorem ite_le (c : Prop) [Decidable c] : (if c then 0 else 1 : Nat) ≤ 1 := by split <;> omega
theorem rnd_two {X Y r s : Nat} (hr : r ≤ 1) (hs : s ≤ 1) (h1 : X ≤ 2 * Y + 1) (h2 : X = 2 * Y + 1 → s = 1) (h3 : X = 2 * Y → r = 1 → s = 1) : rnd (2 * X + r) 3 ≤ rnd (2 * Y + s) 2 := by
  unfold rnd
  simp only [Nat.reducePow]
  split <;> split <;> omega

theorem qr_mono {q t q2 t2 p u : Nat} (h : q * 4503599627370496 + t ≤ q2 * 4503599627370496 + t2) (h1 : 1000 ≤ q) (ht : t < 4503599627370496) (ht2 : t2 < 4503599627370496) (k2 : p < 1100) (hu : u < 4503599627370496) :
    qr q t p u ≤ qr q2 t2 p u := by
  have hl := quo_log (m := 4503599627370496 + t) (n := 4503599627370496 + u) (by omega) (by omega) (by omega) (by omega)
  have hb := quo_bd (m := 4503599627370496 + t) (n := 4503599627370496 + u) (by omega) (by omega) (by omega) (by omega)
  have hk := kept_bd (n := quo (4503599627370496 + t) (4503599627370496 + u)) (by omega)
  have gl := quo_log (m := 4503599627370496 + t2) (n := 4503599627370496 + u) (by omega) (by omega) (by omega) (by omega)
  have gb := quo_bd (m := 4503599627370496 + t2) (n := 4503599627370496 + u) (by omega) (by omega) (by omega) (by omega)
  have gk := kept_bd (n := quo (4503599627370496 + t2) (4503599627370496 + u)) (by omega)
  have hqq : q < q2 ∨ q = q2 ∧ t ≤ t2 := by omega
  clear h
  have hL : (quo (4503599627370496 + t) (4503599627370496 + u)).log2 = 54 ∨ (quo (4503599627370496 + t) (4503599627370496 + u)).log2 = 55 := hl.imp (·.1) (·.1)
  have gL : (quo (4503599627370496 + t2) (4503599627370496 + u)).log2 = 54 ∨ (quo (4503599627370496 + t2) (4503599627370496 + u)).log2 = 55 := gl.imp (·.1) (·.1)
  unfold qr
  rcases hqq with hq | ⟨rfl, htt⟩
  · by_cases hs : (q : Int) + (quo (4503599627370496 + t) (4503599627370496 + u)).log2 < q2 + (quo (4503599627370496 + t2) (4503599627370496 + u)).log2
    · clear hl gl hb gb
      exact step_up (by omega) (by omega) hk.2 gk.1
    · have c1 : (quo (4503599627370496 + t) (4503599627370496 + u)).log2 = 55 := by clear hl gl hb gb hk gk; omega
      have c2 : (quo (4503599627370496 + t2) (4503599627370496 + u)).log2 = 54 := by clear hl gl hb gb hk gk; omega
      have hkk : kept (quo (4503599627370496 + t) (4503599627370496 + u)) ≤ kept (quo (4503599627370496 + t2) (4503599627370496 + u)) := by
        unfold kept
        rw [c1, c2, if_neg (by omega), if_neg (by omega)]
        have hle : 4503599627370496 + t ≤ 2 * (4503599627370496 + t2) := by clear hl gl hb gb hk gk c1 c2 hL gL hs; omega
        have hf := floor_two (D := (4503599627370496 + t) * 18014398509481984) (E := (4503599627370496 + t2) * 18014398509481984) (n := 4503599627370496 + u) (Nat.add_pos_left (by decide) _) (by rw [← Nat.mul_assoc]; exact Nat.mul_le_mul_right _ hle)
        unfold quo
        refine rnd_two (ite_le _) (ite_le _) hf.1 (fun hx => ?_) (fun hx hr => ?_)
        · rw [if_neg (hf.2.1 hx)]
        · rw [if_neg (hf.2.2 hx (fun h0 => by rw [if_pos h0] at hr; cases hr))]
      have hqq : q2 = q + 1 := by clear hl gl hb gb hk gk hkk; omega
      rw [c1, c2, hqq, show ((q : Int) - p + 967 + ((55 : Nat) : Int)) = ((q + 1 : Nat) : Int) - p + 967 + ((54 : Nat) : Int) by omega]
      exact Nat.add_le_add_left hkk _
  · have hm := quo_mono (m := 4503599627370496 + t) (k := 4503599627370496 + t2) (n := 4503599627370496 + u) (Nat.add_le_add_left htt _)
    by_cases he : (quo (4503599627370496 + t) (4503599627370496 + u)).log2 = (quo (4503599627370496 + t2) (4503599627370496 + u)).log2
    · rw [he]
      exact Nat.add_le_add_left (kept_mono hm he) _
    · have hlt : (quo (4503599627370496 + t) (4503599627370496 + u)).log2 < (quo (4503599627370496 + t2) (4503599627370496 + u)).log2 := by omega
      clear hl gl hb gb
      exact step_up (by omega) (by omega) hk.2 gk.1
end Fl
end Go.Proofs.Ytjdjmhagafmkaaa

/-
  What a share of two ints is (plain law).
-/
namespace Go.Proofs.Ytjdjmhagafmkaaa
namespace Fl
open Ieee
/-- The rung of a share of two whole numbers that are not 0. -/
@[irreducible] def sr (m n : Nat) : Nat := qr (fr m / 4503599627370496) (fr m % 4503599627370496) (fr n / 4503599627370496) (fr n % 4503599627370496)

theorem sr_bd {m n : Nat} (hm : m ≠ 0) (hn : n ≠ 0) (hm2 : m ≤ 9223372036854775808) (hn2 : n ≤ 9223372036854775808) : 0 < sr m n ∧ sr m n < 9218868437227405312 := by
  have h1 := fr_bd hm hm2
  have h2 := fr_bd hn hn2
  unfold sr
  exact qr_bd (by omega) (by omega) (by omega) (by omega) (by omega) (by omega)
theorem sr_mono {m k n : Nat} (hm : m ≠ 0) (h : m ≤ k) (hn : n ≠ 0) (hk2 : k ≤ 9223372036854775808) (hn2 : n ≤ 9223372036854775808) : sr m n ≤ sr k n := by
  have h1 := fr_bd hm (by omega)
  have h2 := fr_bd hn hn2
  have h3 := fr_bd (n := k) (by omega) hk2
  have h4 := fr_mono hm h
  unfold sr
  exact qr_mono (by omega) (by omega) (by omega) (by omega) (by omega) (by omega)
theorem quo_self {m : Nat} (h : 0 < m) : quo m m = 36028797018963968 := by
  unfold quo
  rw [Nat.mul_div_cancel_left _ h, Nat.mul_mod_right]
  rfl
theorem kept_one : kept 36028797018963968 = 4503599627370496 := by
  have h : Nat.log2 36028797018963968 = 55 := (Nat.log2_eq_iff (by omega)).2 ⟨by decide, by decide⟩
  unfold kept
  rw [h, if_neg (by omega)]
  unfold rnd
  decide
theorem sr_self (n : Nat) : sr n n = 4607182418800017408 := by
  have h : Nat.log2 36028797018963968 = 55 := (Nat.log2_eq_iff (by omega)).2 ⟨by decide, by decide⟩
  unfold sr qr
  rw [quo_self (Nat.add_pos_left (by decide) _), kept_one, h]
  rw [show ((fr n / 4503599627370496 : Nat) : Int) - ((fr n / 4503599627370496 : Nat) : Int) + 967 + ((55 : Nat) : Int) = 1022 by omega]
  decide

theorem div_ints {m n : Nat} (s z : Bool) (hm : m ≠ 0) (hn : n ≠ 0) (hm2 : m ≤ 9223372036854775808) (hn2 : n ≤ 9223372036854775808) : double.div (double.word s (fr m)) (double.word z (fr n)) = some (double.word (s ^^ z) (sr m n)) := by
  have h1 := fr_bd hm hm2
  have h2 := fr_bd hn hn2
  have e1 : fr m = fr m / 4503599627370496 * 4503599627370496 + fr m % 4503599627370496 := by omega
  have e2 : fr n = fr n / 4503599627370496 * 4503599627370496 + fr n % 4503599627370496 := by omega
  have := div_norm s z (q := fr m / 4503599627370496) (t := fr m % 4503599627370496) (p := fr n / 4503599627370496) (u := fr n % 4503599627370496) (by omega) (by omega) (by omega) (by omega) (by omega) (by omega)
  rw [← e1, ← e2] at this
  rw [this]
  unfold sr
  rfl

theorem read_zero : double.read 0 = .number false 0 (-1074) := by decide
theorem div_zero_ {m : Nat} (s : Bool) (hm : m ≠ 0) (hm2 : m ≤ 9223372036854775808) : double.div (double.word s (fr m)) 0 = some (double.word s 9218868437227405312) := by
  have h1 := fr_bd hm hm2
  have e1 : fr m = fr m / 4503599627370496 * 4503599627370496 + fr m % 4503599627370496 := by omega
  unfold Format.div
  rw [e1, read_norm s (by omega) (by omega) (by omega), read_zero]
  simp only [Datum.quotient]
  rw [if_pos trivial, if_neg (by omega)]
  simp [Format.write, dinf]
theorem zero_div_ {m : Nat} (s : Bool) (hm : m ≠ 0) (hm2 : m ≤ 9223372036854775808) : double.div 0 (double.word s (fr m)) = some (double.word s 0) := by
  have h1 := fr_bd hm hm2
  have e1 : fr m = fr m / 4503599627370496 * 4503599627370496 + fr m % 4503599627370496 := by omega
  unfold Format.div
  rw [e1, read_norm s (by omega) (by omega) (by omega), read_zero]
  simp only [Datum.quotient]
  rw [if_neg (by omega)]
  simp [Format.write, Format.nearest]

/-- What a share is. -/
theorem share_is {a b : Int} {r : Nat} (h : isShare a b r) (ha : a.natAbs ≤ 9223372036854775808) (hb : b.natAbs ≤ 9223372036854775808) :
    (a = 0 ∧ b = 0 ∧ nan r = true) ∨ (a ≠ 0 ∧ b = 0 ∧ r = double.word (decide (a < 0)) 9218868437227405312) ∨ (a = 0 ∧ b ≠ 0 ∧ r = double.word (decide (b < 0)) 0) ∨
    (a ≠ 0 ∧ b ≠ 0 ∧ r = double.word (decide (a < 0) ^^ decide (b < 0)) (sr a.natAbs b.natAbs)) := by
  by_cases h0 : a = 0
  · subst h0
    by_cases h1 : b = 0
    · subst h1
      exact .inl ⟨rfl, rfl, h.2.2 (by decide)⟩
    · refine .inr (.inr (.inl ⟨rfl, h1, h.2.1 _ ?_⟩))
      show double.div _ _ = _
      rw [float_zero, float_int h1 hb]
      exact zero_div_ _ (by omega) hb
  · by_cases h1 : b = 0
    · subst h1
      refine .inr (.inl ⟨h0, rfl, h.2.1 _ ?_⟩)
      show double.div _ _ = _
      rw [float_zero, float_int h0 ha]
      exact div_zero_ _ (by omega) ha
    · refine .inr (.inr (.inr ⟨h0, h1, h.2.1 _ ?_⟩))
      show double.div _ _ = _
      rw [float_int h0 ha, float_int h1 hb]
      exact div_ints _ _ (by omega) (by omega) ha hb

theorem nan_sr (s : Bool) {m n : Nat} (hm : m ≠ 0) (hn : n ≠ 0) (hm2 : m ≤ 9223372036854775808) (hn2 : n ≤ 9223372036854775808) : nan (double.word s (sr m n)) = false := nan_word s (by have := sr_bd hm hn hm2 hn2; omega)
theorem key_sr (s : Bool) {m n : Nat} (hm : m ≠ 0) (hn : n ≠ 0) (hm2 : m ≤ 9223372036854775808) (hn2 : n ≤ 9223372036854775808) : key (double.word s (sr m n)) = sg s (sr m n) := key_word s (by have := sr_bd hm hn hm2 hn2; omega)
end Fl
end Go.Proofs.Ytjdjmhagafmkaaa

/-
  The contracts of gauge.each (of shares), gauge.Shares, and of deadboltlaw21's alive.
-/
namespace Go.Proofs.Ytjdjmhagafmkaaa.PX
open Go.RowKit Go.Proofs.YtjdjmhagafmkaaaW.PrintWords

/-- Each one's share of a whole. -/
def Sh (all : Int) (zs : List Int) (rs : List Nat) : Prop := rs.length = zs.length ∧ ∀ (i : Nat) (z : Int), zs[i]? = some z → ∃ r, rs[i]? = some r ∧ Fl.isShare z all r
theorem Sh.nil (all : Int) : Sh all [] [] := ⟨rfl, by simp⟩
theorem Sh.snoc {all : Int} {zs : List Int} {rs : List Nat} {z : Int} {r : Nat} (h : Sh all zs rs) (hr : Fl.isShare z all r) : Sh all (zs ++ [z]) (rs ++ [r]) := by
  refine ⟨by simp [h.1], fun i x hx => ?_⟩
  rcases Nat.lt_or_ge i zs.length with hi | hi
  · rw [List.getElem?_append_left hi] at hx
    obtain ⟨q, hq, hs⟩ := h.2 i x hx
    exact ⟨q, by rw [List.getElem?_append_left (by rw [h.1]; exact hi)]; exact hq, hs⟩
  · have hl : i = zs.length := by
      have := (List.getElem?_eq_some_iff.1 hx).1
      simp at this
      omega
    subst hl
    simp at hx
    subst hx
    exact ⟨r, by rw [← h.1]; simp, hr⟩
def flo (rs : List Nat) : List Value := rs.map (Value.float .f64)
theorem share1 (B : Nat) (all z : Int) (w : World) (hb : Blk w B 3 #[.int .i64 all]) :
    Calls Try.prog 58 #[.int .i64 z, .pointer (some ⟨B, 0, none⟩)] w fun e w' => Order.ShareOf z all e ∧ Below w.heap.size w w' := by
  have c0 : w.cell? ⟨B, 0, none⟩ = some (.int .i64 all) := by rw [hb.cell]; rfl
  clear hb
  go_enter Try.func58, Try.ntmps58
  go_wp2_with fail
  refine (Order.share z all _).mono ?_
  rintro e w1 ⟨⟨r, rfl, hr⟩, hb1⟩
  have HR := Lib.hid hr
  have HB := Lib.hid hb1
  clear hr hb1
  go_wp2_with fail
  go_ret
  exact ⟨⟨r, rfl, HR.out⟩, HB.out⟩
theorem infoF : (Try.prog.info? 46).map (fun i => (i.zero, i.size, i.bytes)) = some (some (.float .f64 0), 1, 8) := by kernel_rfl
/-- What gauge.each leaves. -/
def Each (all : Int) (zs : List Int) (w : World) (e : Ending) (w' : World) : Prop := ∃ (v : Value) (rs : List Nat), e = .returned v ∧ w'.ownsRow w.heap.size 46 1 v rs.length (flo rs) ∧ Sh all zs rs ∧ Below w.heap.size w w'
set_option maxRecDepth 100000 in
theorem each_any (A : Option Addr) (n c B : Nat) (all : Int) (zs : List Int) (hn : n ≤ 1000) (w : World) (hr : Reads w w.heap.size 1 A n (zs.map (Value.int .i64))) (hb : Blk w B 3 #[.int .i64 all]) :
    Calls Try.prog 57 #[.slice A n c, .func (.func 58) #[] #[.pointer (some ⟨B, 0, none⟩)]] w (Each all zs w) := by
  have hl : zs.length = n := hr.int_len
  have HL := Lib.hid hl
  have HR := Lib.hid hr
  have HB := Lib.hid hb
  obtain ⟨i0, hi, hz0, hz1, hz2⟩ := info_parts infoF
  clear hl hr hb
  go_enter Try.func57, Try.ntmps57
  go_wp2_with fail
  go_loopw [5, 10] (fun v i wr => ∃ (k : Nat) (rs : List Nat), k ≤ n ∧ i = .int .i64 k ∧ wr.ownsRow w.heap.size 46 1 v rs.length (flo rs) ∧ Sh all (zs.take k) rs ∧ Below w.heap.size w wr) (fun _ i _ => n - (intOf i).toNat)
  case atStart => exact ⟨0, [], Nat.zero_le _, rfl, World.ownsRow_nil _ _ _ _, Sh.nil all, Below.refl _ _⟩
  case round =>
    obtain ⟨k, rs, hk, rfl, hown, hsh, hbw⟩ := hrel
    have HO := Lib.hid hown
    have HS := Lib.hid hsh
    have HBW := Lib.hid hbw
    have hrl : rs.length = min k zs.length := by rw [hsh.1, List.length_take]
    have hrk : rs.length ≤ 1000 := by have := HL.out; omega
    clear hown hsh hbw hrl
    by_cases hlt : k < n
    · obtain ⟨ad, z, rfl, hbl, hz, hc⟩ := (HR.out.below HBW.out).int_at hlt
      have HZ := Lib.hid hz
      clear hz
      go_wp2_with fail
      refine (share1 B all z _ (HB.out.below HBW.out HB.out.lt)).mono ?_
      rintro e w2 ⟨⟨r, rfl, hr⟩, hb2⟩
      have HRR := Lib.hid hr
      have HO2 := Lib.hid (pw_own_below HO.out hb2)
      have HB2 := Lib.hid (bthen HBW.out hb2)
      have hsz := HB2.out.size
      clear hr hb2 hc
      go_wp2_with (first
        | (at_builtin; refine wpList_append_own _ rfl _ _ 43 rfl w.heap.size 46 i0 (.float .f64 0) 1 8 Try.underlying43 hi hz0 hz1 hz2 rfl (by decide) _ _ _ rfl (HO2.out.alloc _) ⟨w2.heap.size, 0, none⟩ 1 1 [.float .f64 r] rfl rfl ?c1 ?c2 ?c3 ?c4 ?c5 ?_)
        | go_in)
      case c1 =>
        intro q v hv
        obtain ⟨hq, rfl⟩ := List.getElem?_eq_some_iff.1 hv
        simp at hq
        subst hq
        simp [Addr.add]
      case c2 => intro u hu; simp at hu; subst hu; rfl
      case c3 => simp [maxLen]; omega
      case c4 => omega
      case c5 => simp; omega
      intro v' w' hown' hgrow _
      have hgb : ∀ g, u5.ownBlock = some g → w.heap.size ≤ g := fun g hg => (HO.out.lt g hg).1
      have hb3 := (HB2.out.alloc HB2.out.size (.cells #[.float .f64 r] 46)).grown hgrow (by simp; omega) hgb
      have HO3 := Lib.hid hown'
      have HB3 := Lib.hid hb3
      clear hgrow hgb hown' hb3
      go_wp2
      go_roundw
      case rel =>
        refine ⟨k + 1, rs ++ [r], by omega, by go_num, ?_, ?_, HB3.out⟩
        · rw [List.length_append]
          simpa [flo] using HO3.out
        · rw [List.take_add_one, HZ.out]
          exact HS.out.snoc HRR.out
      case measure => simp [intOf]; omega
    · obtain rfl : k = n := by omega
      have hs := HS.out
      rw [← HL.out, List.take_length] at hs
      have HS2 := Lib.hid hs
      clear hs
      go_wp2_with fail
      go_ret
      exact ⟨_, rs, rfl, HO.out, HS2.out, HBW.out⟩
/-- What all come to. -/
def sumOf (zs : List Int) : Int := zs.foldl (fun a b => wrap64 (a + b)) 0
theorem sumOf_next {zs : List Int} {k : Nat} {z : Int} (h : zs[k]? = some z) : sumOf (zs.take (k + 1)) = wrap64 (sumOf (zs.take k) + z) := by
  rw [List.take_add_one, h]
  simp [sumOf]
def SharesOf (r2 : Int) (zs : List Int) (w : World) (e : Ending) (w' : World) : Prop := ∃ (v : Value) (rs : List Nat), e = .returned (.tuple #[v, .int .i64 r2]) ∧ w'.ownsRow w.heap.size 46 1 v rs.length (flo rs) ∧ Sh (sumOf zs) zs rs ∧ Below w.heap.size w w'
set_option maxRecDepth 100000 in
theorem shares_any (k : Nat) (A0 : Option Addr) (c0 : Nat) (l0 : List S33) (a1 : Int) (zs : List Int) (r2 : Int) (hz : zs.length ≤ 1000) (w : World) (hr0 : Kd.C k33 w A0 l0.length l0) (hc0 : l0.length ≤ c0) (h : gauge_Counts.f k l0 a1 = some (zs, r2)) :
    Calls Try.prog 26 #[.slice A0 l0.length c0, .int .i64 a1] w (SharesOf r2 zs w) := by
  have hcl := gauge_Counts.calls k A0 c0 l0 a1 zs r2 w hr0 hc0 h
  have HC := Lib.hid hcl
  clear hcl hr0 hc0 h
  go_enter Try.func26, Try.ntmps26
  go_wp2_with fail
  refine HC.out.mono ?_
  rintro e w1 ⟨v1, rfl, hR, hb1⟩
  obtain ⟨A1, c1, rfl, hc1, _, hrd⟩ := own_reads3 (ints_of_kd hR)
  have HB1 := Lib.hid hb1
  have HR1 := Lib.hid hrd
  clear hR hb1 hrd
  obtain ⟨n, hn⟩ : ∃ n, zs.length = n := ⟨_, rfl⟩
  rw [hn] at HR1 hc1 hz ⊢
  have HN := Lib.hid hn
  clear hn
  go_wp2_with fail
  have hq0 := Blk.new w1 3 #[.int .i64 0]
  have hb0 := HB1.out.alloc HB1.out.size (.cells #[.int .i64 0] 3)
  have hr0 := (HR1.out.alloc (Nat.le_refl _) (.cells #[.int .i64 0] 3))
  obtain ⟨W, hW⟩ : ∃ W, w1.alloc (.cells #[.int .i64 0] 3) = W := ⟨_, rfl⟩
  rw [hW] at hq0 hb0 hr0 ⊢
  have HQ0 := Lib.hid hq0
  have HB0 := Lib.hid hb0
  have HR0 := Lib.hid hr0
  have hlt0 := hq0.lt
  have hs1 := HB1.out.size
  clear hW hq0 hb0 hr0
  go_loopw [19] (fun i wr => ∃ k : Nat, k ≤ n ∧ i = .int .i64 k ∧ Blk wr w1.heap.size 3 #[.int .i64 (sumOf (zs.take k))] ∧ Below w1.heap.size W wr ∧ Below w.heap.size w wr) (fun i _ => n - (intOf i).toNat)
  case atStart => exact ⟨0, Nat.zero_le _, rfl, HQ0.out, Below.refl _ _, HB0.out⟩
  case round =>
    obtain ⟨k, hk, rfl, hq, hbW, hbw⟩ := hrel
    have HQ := Lib.hid hq
    have HBW := Lib.hid hbW
    have HBw := Lib.hid hbw
    have hsz := hbw.size
    clear hbW hbw
    by_cases hlt : k < n
    · obtain ⟨ad, z, rfl, hbl, hz, hc⟩ := (HR0.out.below HBW.out).int_at hlt
      have HZ := Lib.hid hz
      have hne : ad.block ≠ w1.heap.size := by omega
      obtain ⟨x, hx⟩ : ∃ x, sumOf (zs.take k) = x := ⟨_, rfl⟩
      rw [hx] at hq
      have HX := Lib.hid hx
      have q0 : wr.cell? ⟨w1.heap.size, 0, none⟩ = some (.int .i64 x) := by rw [hq.cell]; rfl
      have z0 := hq.frozen 0
      clear hz hx hq
      go_wp2_with fail
      go_roundw
      case rel =>
        refine ⟨k + 1, by omega, by go_num, ?_, HBW.out.setCell (Nat.le_refl _) _, HBw.out.setCell hs1 _⟩
        have := HQ.out.set_ 0 (.int .i64 (wrap64 (x + z)))
        rw [sumOf_next HZ.out, HX.out]
        exact this
      case measure => simp [intOf]; omega
    · obtain rfl : k = n := by omega
      have hq2 := HQ.out
      rw [← HN.out, List.take_length] at hq2
      have HQ2 := Lib.hid hq2
      have HRK := Lib.hid ((HR0.out.below HBW.out).more (show w1.heap.size ≤ wr.heap.size from Nat.le_of_lt HQ.out.lt))
      clear hq hq2
      go_wp2_with fail
      refine (each_any A1 k c1 w1.heap.size (sumOf zs) zs hz _ HRK.out HQ2.out).mono ?_
      rintro e w3 ⟨v3, rs, rfl, ho3, hs3, hb3⟩
      have HO3 := Lib.hid (Judge.own_lower ho3 hsz)
      have HS3 := Lib.hid hs3
      have HB3 := Lib.hid (bthen HBw.out hb3)
      clear ho3 hs3 hb3
      go_wp2_with fail
      go_ret2
      exact ⟨v3, rs, rfl, HO3.out, HS3.out, HB3.out⟩
end Go.Proofs.Ytjdjmhagafmkaaa.PX

/-
  Shares of counts: no number where all is 0; else 0 to 1, the more the greater. No program.
-/
namespace Go.Proofs.Ytjdjmhagafmkaaa.PX
open Go.RowKit Judge Go.Proofs.YtjdjmhagafmkaaaW.PrintWords

def upAll (n : Nat) : Bool := (List.range 80).all fun m => m == 0 || decide (Fl.sr m n < Fl.sr (m + 1) n)
theorem up_table : (List.range 81).all (fun n => n == 0 || upAll n) = true := by decide +kernel
theorem sr_up {m n : Nat} (hm : 1 ≤ m) (hm2 : m < 80) (hn : 1 ≤ n) (hn2 : n ≤ 80) : Fl.sr m n < Fl.sr (m + 1) n := by
  have h1 := List.all_eq_true.1 up_table n (List.mem_range.2 (by omega))
  have h2 : upAll n = true := by
    rcases Bool.or_eq_true_iff.1 h1 with h | h
    · simp at h; omega
    · exact h
  have h3 := List.all_eq_true.1 h2 m (List.mem_range.2 (by omega))
  rcases Bool.or_eq_true_iff.1 h3 with h | h
  · simp at h; omega
  · simpa using h
theorem sr_lt {n : Nat} (hn : 1 ≤ n) (hn2 : n ≤ 80) : ∀ (d m : Nat), 1 ≤ m → m + d + 1 ≤ 80 → Fl.sr m n < Fl.sr (m + d + 1) n := by
  intro d
  induction d with
  | zero => exact fun m h1 h2 => sr_up h1 (by omega) hn hn2
  | succ d ih =>
    intro m h1 h2
    exact Nat.lt_trans (ih m h1 (by omega)) (sr_up (m := m + d + 1) (by omega) (by omega) hn hn2)
theorem sr_mono' {m k n : Nat} (hm : 1 ≤ m) (h : m < k) (hk : k ≤ 80) (hn : 1 ≤ n) (hn2 : n ≤ 80) : Fl.sr m n < Fl.sr k n := by
  have := sr_lt hn hn2 (k - m - 1) m hm (by omega)
  rwa [show m + (k - m - 1) + 1 = k by omega] at this
/-- One of some counts, and its share of them all. -/
structure Part (all z : Int) (r : Nat) : Prop where
  lo : 0 ≤ z
  hi : z ≤ all
  top : all ≤ 80
  is : Fl.isShare z all r
section
variable {all z : Int} {r : Nat}
theorem Part.lt64 (h : Part all z r) : r < 18446744073709551616 := h.is.1
theorem Part.none_ (h : Part all z r) (h0 : all = 0) : Fl.cls r = 6 := by
  have hz : z = 0 := by have := h.lo; have := h.hi; omega
  subst h0 hz
  rcases Fl.share_is h.is (by decide) (by decide) with g | g | g | g
  · unfold Fl.cls
    rw [if_pos g.2.2]
  · omega
  · omega
  · omega
theorem Part.form (h : Part all z r) (h0 : all ≠ 0) : Fl.nan r = false ∧ ((z = 0 ∧ r = 0) ∨ (1 ≤ z ∧ Fl.sgn r = false ∧ Fl.key r = (Fl.sr z.toNat all.toNat : Int) ∧ r = Ieee.double.word false (Fl.sr z.toNat all.toNat))) := by
  have hl := h.lo
  have hh := h.hi
  have ht := h.top
  have e1 : all.natAbs = all.toNat := by omega
  have e2 : z.natAbs = z.toNat := by omega
  rcases Fl.share_is h.is (by omega) (by omega) with g | g | g | g
  · omega
  · omega
  · have : r = 0 := by
      rw [g.2.2, decide_eq_false (by omega)]
      decide
    exact ⟨by rw [this]; decide, .inl ⟨g.1, this⟩⟩
  · have hr : r = Ieee.double.word false (Fl.sr z.toNat all.toNat) := by
      rw [g.2.2, decide_eq_false (by omega), decide_eq_false (by omega), e1, e2]
      rfl
    have hb := Fl.sr_bd (m := z.toNat) (n := all.toNat) (by omega) (by omega) (by omega) (by omega)
    refine ⟨?_, .inr ⟨by omega, ?_, ?_, hr⟩⟩
    · rw [hr]
      exact Fl.nan_sr false (by omega) (by omega) (by omega) (by omega)
    · rw [hr]
      exact (Fl.sgn_word false (by omega)).1
    · rw [hr, Fl.key_sr false (by omega) (by omega) (by omega) (by omega)]
      rfl
theorem Part.key (h : Part all z r) (h0 : all ≠ 0) : Fl.nan r = false ∧ 0 ≤ Fl.key r ∧ (Fl.key r = 0 ↔ z = 0) ∧ Fl.key r ≤ 4607182418800017408 ∧ (Fl.key r = 4607182418800017408 ↔ z = all) ∧ Fl.sgn r = false := by
  have hl := h.lo
  have hh := h.hi
  have ht := h.top
  obtain ⟨hn, g | g⟩ := h.form h0
  · obtain ⟨rfl, rfl⟩ := g
    refine ⟨hn, by decide, ⟨fun _ => rfl, fun _ => by decide⟩, by decide, ⟨fun h => absurd h (by decide), fun h => by omega⟩, by decide⟩
  · obtain ⟨h1, hs, hk, _⟩ := g
    have hb := Fl.sr_bd (m := z.toNat) (n := all.toNat) (by omega) (by omega) (by omega) (by omega)
    have hself := Fl.sr_self all.toNat
    rw [hk]
    refine ⟨hn, by omega, ⟨fun h => by omega, fun h => by omega⟩, ?_, ⟨fun h => ?_, fun h => by rw [h, hself]; rfl⟩, hs⟩
    · rcases Int.lt_or_eq_of_le hh with hlt | heq
      · have := sr_mono' (m := z.toNat) (k := all.toNat) (n := all.toNat) (by omega) (by omega) (by omega) (by omega) (by omega)
        rw [hself] at this
        omega
      · rw [heq, hself]
        decide
    · rcases Int.lt_or_eq_of_le hh with hlt | heq
      · have := sr_mono' (m := z.toNat) (k := all.toNat) (n := all.toNat) (by omega) (by omega) (by omega) (by omega) (by omega)
        rw [hself] at this
        omega
      · exact heq
theorem Part.pair {y : Int} {q : Nat} (h : Part all z r) (g : Part all y q) (h0 : all ≠ 0) : (y < z → Fl.key q < Fl.key r) ∧ (y = z → Fl.key q = Fl.key r) := by
  have hl := h.lo
  have hh := h.hi
  have ht := h.top
  have gl := g.lo
  refine ⟨fun hlt => ?_, fun he => ?_⟩
  · obtain ⟨_, f | f⟩ := h.form h0
    · omega
    · obtain ⟨h1, _, hk, _⟩ := f
      have hb := Fl.sr_bd (m := z.toNat) (n := all.toNat) (by omega) (by omega) (by omega) (by omega)
      obtain ⟨_, p | p⟩ := g.form h0
      · rw [hk, p.2]
        have : Fl.key 0 = 0 := by decide
        omega
      · rw [hk, p.2.2.1]
        have := sr_mono' (m := y.toNat) (k := z.toNat) (n := all.toNat) (by omega) (by omega) (by omega) (by omega) (by omega)
        omega
  · obtain ⟨_, f | f⟩ := h.form h0
    · obtain ⟨_, p | p⟩ := g.form h0
      · rw [f.2, p.2]
      · omega
    · obtain ⟨_, p | p⟩ := g.form h0
      · omega
      · rw [f.2.2.1, p.2.2.1, he]
theorem cls_of {r : Nat} (hn : Fl.nan r = false) (h0 : 0 ≤ Fl.key r) (h1 : Fl.key r ≤ 4607182418800017408) (hs : Fl.sgn r = false) : (Fl.cls r == 3) = decide (Fl.key r = 0) := by
  unfold Fl.cls
  rw [hn, if_neg (by simp), if_neg (by omega), if_neg (by omega), if_neg (by omega)]
  by_cases hk : Fl.key r = 0
  · rw [if_neg (by omega), hs, if_neg (by simp), decide_eq_true hk]
    rfl
  · rw [if_pos (by omega), decide_eq_false hk]
    rfl
end
/-! Counts of a trace that is not wrong, and what they come to. -/
def sumN (n : Nat) (l : List H) : Int := (rowOf n l).foldr (· + ·) 0
theorem rowOf_succ (n : Nat) (l : List H) : rowOf (n + 1) l = rowOf n l ++ [cnt (n : Int) l] := by simp [rowOf, List.range_succ]
theorem foldr_snoc (l : List Int) (x : Int) : (l ++ [x]).foldr (· + ·) 0 = l.foldr (· + ·) 0 + x := by
  induction l with
  | nil => simp
  | cons y l ih => rw [List.cons_append, List.foldr_cons, List.foldr_cons, ih]; omega
theorem sumN_succ (n : Nat) (l : List H) : sumN (n + 1) l = sumN n l + cnt (n : Int) l := by
  unfold sumN
  rw [rowOf_succ, foldr_snoc]
theorem sumN_step (n : Nat) (h : H) (l : List H) : sumN n (h :: l) ≤ sumN n l + (if 0 ≤ h.who ∧ h.who < n then 1 else 0) := by
  induction n with
  | zero =>
    have : ¬ (0 ≤ h.who ∧ h.who < ((0 : Nat) : Int)) := by omega
    rw [if_neg this]
    exact Int.le_refl _
  | succ n ih =>
    rw [sumN_succ, sumN_succ]
    have e : cnt (n : Int) (h :: l) = (if got h = true ∧ h.who = (n : Int) then 1 else 0) + cnt (n : Int) l := rfl
    rw [e]
    by_cases hw : h.who = (n : Int)
    · rw [if_neg (by omega)] at ih
      have h2 : 0 ≤ h.who ∧ h.who < ((n + 1 : Nat) : Int) := by omega
      rw [if_pos h2]
      split <;> omega
    · have h1 : ¬ (got h = true ∧ h.who = (n : Int)) := fun hq => hw hq.2
      rw [if_neg h1]
      by_cases h3 : 0 ≤ h.who ∧ h.who < (n : Int)
      · rw [if_pos h3] at ih
        rw [if_pos (by omega)]
        omega
      · rw [if_neg h3] at ih
        rw [if_neg (by omega)]
        omega
theorem sumN_len (n : Nat) (l : List H) : sumN n l ≤ l.length := by
  induction l with
  | nil =>
    have : ∀ n, sumN n [] = 0 := fun n => by
      induction n with
      | zero => rfl
      | succ n ih => rw [sumN_succ, ih]; rfl
    rw [this]
    simp
  | cons h l ih =>
    have := sumN_step n h l
    rw [List.length_cons]
    split at this <;> omega
theorem cnt_sumN {n j : Nat} (l : List H) (h : j < n) : cnt (j : Int) l ≤ sumN n l := by
  induction n with
  | zero => omega
  | succ n ih =>
    rw [sumN_succ]
    have h1 := (cnt_bd (n : Int) l).1
    rcases Nat.lt_or_ge j n with hj | hj
    · have := ih hj
      omega
    · obtain rfl : j = n := by omega
      have : ∀ n, 0 ≤ sumN n l := fun n => by
        induction n with
        | zero => exact Int.le_refl _
        | succ n ih =>
          rw [sumN_succ]
          have := (cnt_bd (n : Int) l).1
          omega
      have := this j
      omega
theorem sumOf_N (n : Nat) (l : List H) (hl : l.length ≤ 80) : sumOf (rowOf n l) = sumN n l := by
  induction n with
  | zero => rfl
  | succ n ih =>
    have h1 := sumN_len (n + 1) l
    have h2 := sumN_len n l
    have h3 := (cnt_bd (n : Int) l)
    have h4 : 0 ≤ sumN n l := by
      clear ih h1 h2 h3
      induction n with
      | zero => exact Int.le_refl _
      | succ n ih =>
        rw [sumN_succ]
        have := (cnt_bd (n : Int) l).1
        omega
    have e : sumOf (rowOf (n + 1) l) = wrap64 (sumOf (rowOf n l) + cnt (n : Int) l) := by
      rw [rowOf_succ]
      simp [sumOf]
    rw [e, ih, sumN_succ]
    rw [sumN_succ] at h1
    unfold wrap64
    omega
theorem parts_of {n : Nat} {L : List H} {rs : List Nat} (hL : L.length ≤ 80) (h : Sh (sumOf (rowOf n L)) (rowOf n L) rs) {i : Nat} {z : Int} {r : Nat} (hz : (rowOf n L)[i]? = some z) (hr : rs[i]? = some r) : Part (sumOf (rowOf n L)) z r := by
  obtain ⟨q, hq, hs⟩ := h.2 i z hz
  obtain rfl : q = r := Option.some.inj (hq.symm.trans hr)
  have hi : i < n := by
    have := (List.getElem?_eq_some_iff.1 hz).1
    rwa [rowOf_len] at this
  have hzc : z = cnt (i : Int) L := by
    rw [rowOf_at L hi] at hz
    exact (Option.some.inj hz).symm
  have e := sumOf_N n L hL
  have h1 := cnt_sumN L hi
  have h2 := sumN_len n L
  have h3 := (cnt_bd (i : Int) L).1
  exact ⟨by omega, by omega, by omega, hs⟩
end Go.Proofs.Ytjdjmhagafmkaaa.PX

/-
  deadboltlaw21's alive.
-/
namespace Go.Proofs.Ytjdjmhagafmkaaa.PX
open Go.RowKit Go.Proofs.YtjdjmhagafmkaaaW.PrintWords
attribute [local go_sem] Fl.order_lt Fl.order_gt Fl.order_is Fl.order_ne
def hA : S33 := ⟨0, 0, ⟨0, 0, 0⟩⟩
theorem countsA : gauge_Counts.f 10 [hA] 2 = some ([1, 0], 0) := by decide +kernel
theorem countsB : gauge_Counts.f 10 [] 1 = some ([0], 0) := by decide +kernel
theorem sh_one {rs : List Nat} (h : Sh (sumOf [1, 0]) [1, 0] rs) : rs = [4607182418800017408, 0] := by
  have e : sumOf [1, 0] = 1 := by decide +kernel
  rw [e] at h
  obtain ⟨hl, hr⟩ := h
  obtain ⟨r0, h0, s0⟩ := hr 0 1 rfl
  obtain ⟨r1, h1, s1⟩ := hr 1 0 rfl
  match rs, hl, h0, h1 with
  | [x, y], _, h0, h1 =>
    obtain rfl := Option.some.inj h0
    obtain rfl := Option.some.inj h1
    rcases Fl.share_is s0 (by decide) (by decide) with h | h | h | h
    · omega
    · omega
    · omega
    · rcases Fl.share_is s1 (by decide) (by decide) with g | g | g | g
      · omega
      · omega
      · rw [h.2.2, g.2.2, show (1 : Int).natAbs = 1 from rfl, Fl.sr_self]
        decide
      · omega
theorem sh_none {rs : List Nat} (h : Sh (sumOf [0]) [0] rs) : ∃ r, rs = [r] ∧ Fl.nan r = true := by
  obtain ⟨hl, hr⟩ := h
  obtain ⟨r0, h0, s0⟩ := hr 0 0 rfl
  match rs, hl, h0 with
  | [x], _, h0 =>
    obtain rfl := Option.some.inj h0
    have e : sumOf [0] = 0 := by decide +kernel
    rw [e] at s0
    rcases Fl.share_is s0 (by decide) (by decide) with h | h | h | h
    · exact ⟨x, rfl, h.2.2⟩
    · omega
    · omega
    · omega
set_option maxRecDepth 100000 in
set_option maxHeartbeats 4000000 in
theorem alive21 (w : World) : Calls Try.prog 27 #[] w fun e w' => e = .returned (.bool true) ∧ Below w.heap.size w w' := by
  go_enter Try.func27, Try.ntmps27
  go_wp2_with fail
  have hq := Blk.new w 33 #[.int .i64 0, .int .i64 0, .int .i64 0, .int .i64 0, .int .i64 0]
  have hC : Kd.C k33 (w.alloc (.cells #[.int .i64 0, .int .i64 0, .int .i64 0, .int .i64 0, .int .i64 0] 33)) (some ⟨w.heap.size, 0, none⟩) [hA].length [hA] :=
    rows_of_reads (B := w.heap.size + 1) (fun x => Judge.cells (toH x)) (fun _ => rfl) (by decide) (fun x => k33_mk _ x) (by decide) (by
      have := Reads.of_blk (n := 1) (size := 5) hq rfl
      rw [World.size_alloc] at this
      exact this)
  refine (shares_any 10 (some ⟨w.heap.size, 0, none⟩) 1 [hA] 2 [1, 0] 0 (by decide) _ hC (by decide) countsA).mono ?_
  rintro e w1 ⟨v1, rs1, rfl, ho1, hs1, hb1⟩
  obtain rfl := sh_one hs1
  have HB1 := Lib.hid (bthen ((Below.refl w.heap.size w).alloc (Nat.le_refl _) (.cells #[.int .i64 0, .int .i64 0, .int .i64 0, .int .i64 0, .int .i64 0] 33)) hb1)
  obtain ⟨A1, c1, rfl, hc1, _, hr1⟩ := own_reads3 ho1
  have HR1 := Lib.hid hr1
  clear hq hC ho1 hs1 hb1 hr1
  go_wp2_with fail
  refine (shares_any 10 none 0 [] 1 [0] 0 (by decide) _ (Kd.C_nil _ _) (by decide) countsB).mono ?_
  rintro e w2 ⟨v2, rs2, rfl, ho2, hs2, hb2⟩
  obtain ⟨r, rfl, hn⟩ := sh_none hs2
  obtain ⟨A2, c2, rfl, hc2, _, hr2⟩ := own_reads3 ho2
  obtain ⟨ad1, hA1, hl1, k1⟩ := (HR1.out.below hb2).2 (by decide)
  obtain ⟨ad2, hA2, hl2, k2⟩ := hr2.2 (by simp)
  subst hA1 hA2
  have HB2 := Lib.hid (bthen HB1.out hb2)
  have z0 : w2.cell? ad1 = some (.float .f64 4607182418800017408) := by have := k1 0 _ rfl; rwa [show ad1.add 0 = ad1 by simp [Addr.add]] at this
  have z1 : w2.cell? ⟨ad1.block, ad1.off + 1, none⟩ = some (.float .f64 0) := by have := k1 1 _ rfl; rwa [show ad1.add 1 = ⟨ad1.block, ad1.off + 1, none⟩ by simp [Addr.add]] at this
  have y0 : w2.cell? ad2 = some (.float .f64 r) := by have := k2 0 _ rfl; rwa [show ad2.add 0 = ad2 by simp [Addr.add]] at this
  have e0 : Fl.eq 4607182418800017408 4607182418800017408 = true := by decide
  have e1 : Fl.eq 0 0 = true := by decide
  have e2 : Fl.eq r r = false := by simp [Fl.eq, hn]
  clear hs2 ho2 hr2 hb2 k1 k2 hn
  go_wp2_with fail
  go_quiet (fail)
  go_wp2_with fail
  go_ret
  exact ⟨rfl, below_drewN HB2.out _⟩
def deadboltlaw21_alive.f : Option Bool := some true
theorem deadboltlaw21_alive.calls (r : Bool) (w : World) (h : deadboltlaw21_alive.f = some r) :
    Calls Try.prog 27 #[] w fun e w' => e = .returned (.bool r) ∧ Below w.heap.size w w' := by
  obtain rfl := Option.some.inj h
  exact alive21 w
end Go.Proofs.Ytjdjmhagafmkaaa.PX

/-
  The walk of GaugeShares.
-/
namespace Go.Proofs.Ytjdjmhagafmkaaa.PX
open Go.RowKit Judge Go.Proofs.YtjdjmhagafmkaaaW.PrintWords
attribute [local go_sem] Fl.order_lt Fl.order_gt Fl.order_is Fl.order_ne
theorem flo_at {w : World} {B n k : Nat} {A : Option Addr} {rs : List Nat} (h : Reads w B 1 A n (flo rs)) (hk : k < n) : ∃ ad r, A = some ad ∧ ad.block < B ∧ rs[k]? = some r ∧ w.cell? (ad.add k) = some (.float .f64 r) := by
  obtain ⟨ad, u, hA, hb, hx, hc⟩ := h.at_ hk
  unfold flo at hx
  rw [List.getElem?_map] at hx
  cases hz : rs[k]? with
  | none => rw [hz] at hx; cases hx
  | some r =>
    rw [hz] at hx
    simp at hx
    exact ⟨ad, r, hA, hb, rfl, by rw [hx]; exact hc⟩
set_option maxRecDepth 100000 in
set_option maxHeartbeats 4000000 in
theorem shares_no (A0 : Option Addr) (c0 : Nat) (l0 : List S33) (a1 r2 : Int) (hr2 : (r2 == 0) = false) (w : World) (hr0 : Kd.C k33 w A0 l0.length l0) (hc0 : l0.length ≤ c0) (hcf : gauge_Counts.f 100 (fewS l0) a1 = some ([], r2)) :
    Calls Try.prog 6 #[.slice A0 l0.length c0, .int .i64 a1] w fun e w' => e = .returned (.bool true) ∧ Below w.heap.size w w' := by
  have hn2 : (r2 != 0) = true := by simp [bne, hr2]
  have h22 : (r2 == r2) = true := by simp
  have HF := Lib.hid (deadboltlaw21_few.calls A0 c0 l0 _ w hr0 hc0 rfl)
  have HCF := Lib.hid hcf
  clear hr0 hc0 hcf
  go_enter Try.func6, Try.ntmps6
  go_wp2_with fail
  refine HF.out.mono ?_
  rintro e w1 ⟨v1, rfl, hR1, hb1⟩
  obtain ⟨A1, c1, rfl, hc1, hC1⟩ := Kd.R_reads hR1
  have HB1 := Lib.hid hb1
  have HC1 := Lib.hid hC1
  have HL1 := Lib.hid hc1
  clear hR1 hb1 hC1 hc1
  go_wp2_with fail
  refine (gauge_Counts.calls 100 A1 c1 (fewS l0) a1 [] r2 _ HC1.out HL1.out HCF.out).mono ?_
  rintro e w2 ⟨v2, rfl, hR2, hb2⟩
  obtain ⟨A2, c2, rfl, _⟩ := Kd.R_reads hR2
  have HB2 := Lib.hid (bthen HB1.out hb2)
  have HC2 := Lib.hid (Kd.C_below HC1.out hb2)
  clear hR2 hb2
  go_wp2_with fail
  refine (shares_any 100 A1 c1 (fewS l0) a1 [] r2 (by decide) _ HC2.out HL1.out HCF.out).mono ?_
  rintro e w3 ⟨v3, rs, rfl, ho3, hs3, hb3⟩
  have hrs : rs = [] := List.eq_nil_of_length_eq_zero hs3.1
  subst hrs
  obtain ⟨A3, c3, rfl, _, _, _⟩ := own_reads3 ho3
  have HB3 := Lib.hid (bthen HB2.out hb3)
  clear ho3 hs3 hb3
  go_wp2_with fail
  refine (alive21 _).mono ?_
  rintro e w4 ⟨rfl, hb4⟩
  have HB4 := Lib.hid (bthen HB3.out hb4)
  clear hb4
  go_wp2_with fail
  go_ret
  exact ⟨rfl, HB4.out⟩
set_option maxRecDepth 100000 in
set_option maxHeartbeats 8000000 in
theorem shares_yes (A0 : Option Addr) (c0 : Nat) (l0 : List S33) (n : Nat) (hn8 : n ≤ 8) (w : World) (hr0 : Kd.C k33 w A0 l0.length l0) (hc0 : l0.length ≤ c0) (hcf : gauge_Counts.f 100 (fewS l0) (n : Int) = some (rowOf n ((fewS l0).map toH), 0)) :
    Calls Try.prog 6 #[.slice A0 l0.length c0, .int .i64 n] w fun e w' => e = .returned (.bool true) ∧ Below w.heap.size w w' := by
  have HF := Lib.hid (deadboltlaw21_few.calls A0 c0 l0 _ w hr0 hc0 rfl)
  have HCF := Lib.hid hcf
  have H80 : Hid (((fewS l0).map toH).length ≤ 80) := by unfold Hid; rw [List.length_map]; exact fewS_80 l0
  clear hr0 hc0 hcf
  go_enter Try.func6, Try.ntmps6
  go_wp2_with fail
  refine HF.out.mono ?_
  rintro e w1 ⟨v1, rfl, hR1, hb1⟩
  obtain ⟨A1, c1, rfl, hc1, hC1⟩ := Kd.R_reads hR1
  have HB1 := Lib.hid hb1
  have HC1 := Lib.hid hC1
  have HL1 := Lib.hid hc1
  clear hR1 hb1 hC1 hc1
  go_wp2_with fail
  refine (gauge_Counts.calls 100 A1 c1 (fewS l0) n _ 0 _ HC1.out HL1.out HCF.out).mono ?_
  rintro e w2 ⟨v2, rfl, hR2, hb2⟩
  have ho2 := ints_of_kd hR2
  rw [rowOf_len] at ho2
  obtain ⟨A2, c2, rfl, _, _, hrd2⟩ := own_reads3 ho2
  have HB2 := Lib.hid (bthen HB1.out hb2)
  have HC2 := Lib.hid (Kd.C_below HC1.out hb2)
  have HR2 := Lib.hid hrd2
  clear hR2 hb2 ho2 hrd2
  go_wp2_with fail
  refine (shares_any 100 A1 c1 (fewS l0) n _ 0 (by rw [rowOf_len]; omega) _ HC2.out HL1.out HCF.out).mono ?_
  rintro e w3 ⟨v3, rs, rfl, ho3, hs3, hb3⟩
  have hrl : rs.length = n := by rw [hs3.1, rowOf_len]
  rw [hrl] at ho3
  obtain ⟨A3, c3, rfl, _, _, hrd3⟩ := own_reads3 ho3
  have HB3 := Lib.hid (bthen HB2.out hb3)
  have HR23 := Lib.hid ((HR2.out.below hb3).more hb3.size)
  have HR3 := Lib.hid hrd3
  have HS := Lib.hid hs3
  have HRL := Lib.hid hrl
  clear ho3 hs3 hb3 hrd3 hrl
  have nn : ((n : Int) != (n : Int)) = false := by simp
  go_wp2_with fail
  refine (alive21 _).mono ?_
  rintro e w4 ⟨rfl, hb4⟩
  have HB4 := Lib.hid (bthen HB3.out hb4)
  have HR24 := Lib.hid ((HR23.out.below hb4).more hb4.size)
  have HR34 := Lib.hid ((HR3.out.below hb4).more hb4.size)
  clear hb4
  go_wp2_with fail
  obtain ⟨zs, hzs⟩ : ∃ zs, rowOf n ((fewS l0).map toH) = zs := ⟨_, rfl⟩
  have HZS := Lib.hid hzs
  rw [hzs] at HR24
  have HZL : Hid (zs.length = n) := by unfold Hid; rw [← hzs, rowOf_len]
  clear hzs
  go_loopw [9, 68] (fun v i wr => ∃ k : Nat, k ≤ n ∧ i = .int .i64 k ∧ v = .int .i64 (sumOf (zs.take k)) ∧ Below w4.heap.size w4 wr) (fun _ i _ => n - (intOf i).toNat)
  case atStart => exact ⟨0, Nat.zero_le _, rfl, rfl, Below.refl _ _⟩
  case round =>
    obtain ⟨k, hk, rfl, rfl, hbw⟩ := hrel
    have HBW := Lib.hid hbw
    clear hbw
    by_cases hlt : k < n
    · obtain ⟨ad, z, rfl, hbl, hz, hc⟩ := (HR24.out.below HBW.out).int_at hlt
      have HZ := Lib.hid hz
      obtain ⟨x, hx⟩ : ∃ x, sumOf (zs.take k) = x := ⟨_, rfl⟩
      rw [hx]
      have HX := Lib.hid hx
      clear hz hx
      go_wp2_with fail
      go_roundw
      case rel => exact ⟨k + 1, by omega, by go_num, by rw [sumOf_next HZ.out, HX.out], HBW.out⟩
      case measure => simp [intOf]; omega
    · obtain rfl : k = n := by omega
      rw [← HZL.out, List.take_length, HZL.out]
      obtain ⟨all, hall⟩ : ∃ all, sumOf zs = all := ⟨_, rfl⟩
      rw [hall]
      have HALL : Hid (sumOf (rowOf k ((fewS l0).map toH)) = all) := by unfold Hid; rw [HZS.out]; exact hall
      have HRA := Lib.hid ((HR24.out.below HBW.out).more HBW.out.size)
      have HRB := Lib.hid ((HR34.out.below HBW.out).more HBW.out.size)
      have HBA := Lib.hid (bthen HB4.out HBW.out)
      clear hall
      obtain ⟨W, hW⟩ : ∃ W, wr = W := ⟨_, rfl⟩
      rw [hW] at HRA HRB HBA ⊢
      clear hW HBW
      go_wp2_with fail
      go_loopw [78] (fun i wr => ∃ j : Nat, j ≤ k ∧ i = .int .i64 j ∧ Below W.heap.size W wr) (fun i _ => k - (intOf i).toNat)
      case atStart => exact ⟨0, Nat.zero_le _, rfl, Below.refl _ _⟩
      case round =>
        obtain ⟨j, hj, rfl, hbj⟩ := hrel
        have HBJ := Lib.hid hbj
        clear hbj
        by_cases hlt : j < k
        · obtain ⟨ad, z, rfl, hbl, hz, hc⟩ := (HRA.out.below HBJ.out).int_at hlt
          obtain ⟨ad3, r, rfl, hbl3, hr, hc3⟩ := flo_at (HRB.out.below HBJ.out) hlt
          have hpart : Part all z r := by
            have := parts_of H80.out HS.out (by rw [HZS.out]; exact hz) hr
            rwa [HALL.out] at this
          have HP := Lib.hid hpart
          have h64 := hpart.lt64
          have HZ := Lib.hid hz
          have HRr := Lib.hid hr
          clear hpart hz hr
          by_cases h0 : all = 0
          · have d0 : (all == 0) = true := by simp [h0]
            have hc6 := HP.out.none_ h0
            clear h0
            go_wp2_with fail
            refine (Order.class_ r h64 _).mono ?_
            rintro e w5 ⟨rfl, rfl⟩
            rw [hc6]
            go_wp2_with fail
            go_roundw
            case rel => exact ⟨j + 1, by omega, by go_num, HBJ.out⟩
            case measure => simp [intOf]; omega
          · have d0 : (all == 0) = false := by simp [h0]
            obtain ⟨hnan, hk0, hkz, hk1, hka, hsg⟩ := HP.out.key h0
            have f1 : (Fl.lt 0 r || Fl.eq r 0) = true := by
              have : Fl.nan 0 = false := by decide
              have k0 : Fl.key 0 = 0 := by decide
              unfold Fl.lt Fl.eq
              rw [hnan, this, k0]
              simp
              omega
            have f2 : (Fl.lt r 4607182418800017408 || Fl.eq r 4607182418800017408) = true := by
              have : Fl.nan 4607182418800017408 = false := by decide
              have k0 : Fl.key 4607182418800017408 = 4607182418800017408 := by decide
              unfold Fl.lt Fl.eq
              rw [hnan, this, k0]
              simp
              omega
            have f3 : Fl.eq r 4607182418800017408 = decide (z = all) := by
              have : Fl.nan 4607182418800017408 = false := by decide
              have k0 : Fl.key 4607182418800017408 = 4607182418800017408 := by decide
              unfold Fl.eq
              rw [hnan, this, k0]
              simp [hka]
            have f4 : (Fl.eq r 4607182418800017408 != (z == all)) = false := by rw [f3, show (z == all) = decide (z = all) from rfl]; simp
            have f6 : ((z == 0) != (Fl.cls r == 3)) = false := by rw [cls_of hnan hk0 hk1 hsg, show (z == 0) = decide (z = 0) from rfl]; simp [hkz]
            have f4' : (Fl.eq r 4607182418800017408 == (z == all)) = true := by simpa [bne] using f4
            have f6' : ((z == 0) == (Fl.cls r == 3)) = true := by simpa [bne] using f6
            have HH0 := Lib.hid h0
            clear hnan hk0 hkz hk1 hka hsg h0 f3
            go_wp2_with fail
            go_quiet ((go_at_call 28; refine Calls.quiet_of ((Order.class_ r h64 _).mono fun _ _ ⟨he, hw⟩ => ⟨he, 0, hw.symm⟩)))
            clear f1 f2 f4 f6 f4' f6' hc hc3 d0
            go_wp2_with fail
            go_loopw [119] (fun i wq => ∃ m : Nat, m ≤ k ∧ i = .int .i64 m ∧ Below W.heap.size W wq) (fun i _ => k - (intOf i).toNat)
            case atStart => exact ⟨0, Nat.zero_le _, rfl, below_drewN HBJ.out _⟩
            case round =>
              obtain ⟨m, hm, rfl, hbm⟩ := hrel
              have HBM := Lib.hid hbm
              clear hbm
              by_cases hlt2 : m < k
              · obtain ⟨ad', z', hA', _, hz', hc'⟩ := (HRA.out.below HBM.out).int_at hlt
                obtain rfl := Option.some.inj hA'
                obtain rfl : z' = z := Option.some.inj (hz'.symm.trans HZ.out)
                obtain ⟨ad2, y, hA2, _, hy, hc2⟩ := (HRA.out.below HBM.out).int_at hlt2
                obtain rfl := Option.some.inj hA2
                obtain ⟨ad4, q, hA4, _, hq, hc4⟩ := flo_at (HRB.out.below HBM.out) hlt2
                obtain rfl := Option.some.inj hA4
                have hpq : Part all y q := by
                  have := parts_of H80.out HS.out (by rw [HZS.out]; exact hy) hq
                  rwa [HALL.out] at this
                obtain ⟨p1, p2⟩ := HP.out.pair hpq HH0.out
                have n1 := (HP.out.form HH0.out).1
                have n2 := (hpq.form HH0.out).1
                have e1 : y < z' → Fl.lt q r = true := fun h => by unfold Fl.lt; rw [n1, n2]; simp [p1 h]
                have e2 : z' = y → Fl.eq r q = true := fun h => by unfold Fl.eq; rw [n1, n2]; simp [p2 h.symm]
                clear hz' hy hq hpq p1 p2 n1 n2
                rcases Int.lt_trichotomy y z' with hc | hc | hc
                · have d1 : decide (y < z') = true := decide_eq_true hc
                  have d2 : (z' == y) = false := by simp; omega
                  have d3 := e1 hc
                  clear e1 e2 hc
                  go_wp2_with fail
                  go_quiet (fail)
                  go_wp2_with fail
                  go_roundw
                  case rel => exact ⟨m + 1, by omega, by go_num, below_drewN HBM.out _⟩
                  case measure => simp [intOf]; omega
                · have d1 : decide (y < z') = false := decide_eq_false (by omega)
                  have d2 : (z' == y) = true := by simp [hc]
                  have d3 := e2 hc.symm
                  clear e1 e2 hc
                  go_wp2_with fail
                  go_quiet (fail)
                  go_wp2_with fail
                  go_roundw
                  case rel => exact ⟨m + 1, by omega, by go_num, below_drewN HBM.out _⟩
                  case measure => simp [intOf]; omega
                · have d1 : decide (y < z') = false := decide_eq_false (by omega)
                  have d2 : (z' == y) = false := by simp; omega
                  clear e1 e2 hc
                  go_wp2_with fail
                  go_quiet (fail)
                  go_wp2_with fail
                  go_roundw
                  case rel => exact ⟨m + 1, by omega, by go_num, below_drewN HBM.out _⟩
                  case measure => simp [intOf]; omega
              · obtain rfl : m = k := by omega
                go_wp2_with fail
                go_roundw
                case rel => exact ⟨j + 1, by omega, by go_num, HBM.out⟩
                case measure => simp [intOf]; omega
        · obtain rfl : j = k := by omega
          go_wp2_with fail
          go_ret
          exact ⟨rfl, bthen HBA.out HBJ.out⟩
theorem gaugeShares_any (A0 : Option Addr) (c0 : Nat) (l0 : List S33) (a1 : Int) (w : World) (hr0 : Kd.C k33 w A0 l0.length l0) (hc0 : l0.length ≤ c0) :
    Calls Try.prog 6 #[.slice A0 l0.length c0, .int .i64 a1] w fun e w' => e = .returned (.bool true) ∧ Below w.heap.size w w' := by
  have hs : (fewS l0).length ≤ 80 := fewS_80 l0
  by_cases hw : wrong ((fewS l0).map toH) = -1
  · by_cases h1 : 1 ≤ a1 ∧ a1 ≤ 8
    · obtain ⟨n, rfl⟩ : ∃ n : Nat, a1 = n := ⟨a1.toNat, by omega⟩
      exact shares_yes A0 c0 l0 n (by omega) w hr0 hc0 (counts_f n (by omega) (by omega) _ (by omega) hw 100 (by omega))
    · exact shares_no A0 c0 l0 a1 3 rfl w hr0 hc0 (counts_range a1 _ (by omega) hw (by omega) 100)
  · exact shares_no A0 c0 l0 a1 1 rfl w hr0 hc0 (counts_wrong a1 _ (by omega) hw 100)
end Go.Proofs.Ytjdjmhagafmkaaa.PX

/-
  What happened, opened.
-/
namespace Go.Proofs.Ytjdjmhagafmkaaa.PX
open Go.RowKit Go.Proofs.YtjdjmhagafmkaaaW.PrintWords
theorem opensE {H : Type} {enc : TypeId × Value → H} {w : World} : Opens enc Try.prog w 31 k31 (fun _ => True) := by
  intro fuel cs x h
  obtain ⟨a, hk, _⟩ := Opens.struct (g := fun x : S31 => (x.f0, x.f1, x.f2)) Try.underlying31 (by kernel_rfl) (fun x : Int × Int × Int => ⟨x.1, x.2.1, x.2.2⟩) (fun _ => rfl)
    (OpensF.cons rfl (by kernel_rfl) (Opens.int Try.underlying3) rfl (OpensF.cons rfl (by kernel_rfl) (Opens.int Try.underlying3) rfl (OpensF.one rfl (by kernel_rfl) (Opens.int Try.underlying3)))) fuel cs x h
  exact ⟨a, hk, trivial⟩
theorem opensH {H : Type} {enc : TypeId × Value → H} {w : World} : Opens enc Try.prog w 33 k33 (fun _ => True) := by
  intro fuel cs x h
  obtain ⟨a, hk, _⟩ := Opens.struct (g := fun x : S33 => (x.f0, x.f1, x.f2)) Try.underlying33 (by kernel_rfl) (fun x : Int × Int × S31 => ⟨x.1, x.2.1, x.2.2⟩) (fun _ => rfl)
    (OpensF.cons rfl (by kernel_rfl) (Opens.int Try.underlying3) rfl (OpensF.cons rfl (by kernel_rfl) (Opens.int Try.underlying3) rfl (OpensF.one rfl (by kernel_rfl) opensE))) fuel cs x h
  exact ⟨a, hk, trivial⟩
end Go.Proofs.Ytjdjmhagafmkaaa.PX

/-
  The statement on GaugeShares, out of what its printed form comes to: for every input the call returns true, and each argument reads behind it as it read before.
-/
namespace Go.Proofs.Ytjdjmhagafmkaaa.gaugeShares
open Go.ChangeShapes Go.WideShapes Go.ChangeAt Go.RowKit Go.Proofs.YtjdjmhagafmkaaaW.PrintWords Go.Proofs.Ytjdjmhagafmkaaa.PX
set_option linter.unusedVariables false
theorem own : ownKnob Try.prog.godebug = none := by kernel_rfl
set_option maxRecDepth 100000 in
theorem lifted (os : Os) (started : os.Started) (H : Type) (enc : TypeId × Value → H) :
    ReturnsInHanded {} Try.checked os 6 .any (Rows.gaugeSharesSpec.pre6 enc Try.prog Try.f6 Rows.gaugeSharesRow.domain false) (Rows.gaugeSharesSpec.post enc Try.prog Try.f6 false true false false) := by
  refine returnsInHanded_of_change (C := Try.checked) own started (by kernel_rfl) Try.func6
    (ChangeSpec.witness6 (enc := enc) (C := Try.checked) false ⟨#[], #[.slice none 0 0, .int .i64 0], []⟩ 8 (by kernel_rfl) (by kernel_rfl) (by kernel_rfl) (by kernel_rfl)) ?_
  intro W base args ds gs before hval0 hW hcnd _
  have hval : ∀ (j : Nat) t v, Try.f6.params[j]? = some t → args[j]? = some v → Value.okWide Try.prog W .any base t v := hval0
  have hW' := hW
  obtain ⟨p, q, hA0, hV, hpq, hfz, hnd⟩ := hW
  have hA : DataW.TrodAll enc Try.prog W 0 (fun _ => true) true Try.f6.params.toList args.toList ds p := hA0
  rw [Try.params6] at hA hval
  obtain ⟨v0, vs0, d0, ds0, p0, q0, hargs, rfl, hp0, h0, r0⟩ := trodAll_cons hA
  obtain ⟨v1, vs1, d1, ds1, p1, q1, rfl, rfl, hp1, h1, r1⟩ := trodAll_cons r0
  obtain ⟨rfl, rfl, _⟩ := trodAll_nil r1
  obtain rfl : args = #[v0, v1] := by cases args; simp_all
  obtain ⟨rfl, _⟩ := trodVars_none hV
  obtain ⟨A0, c0, l0, rfl, hl0, hC0, hw0⟩ := open_C Try.underlying22 (by kernel_rfl) opensH (hval 0 22 v0 rfl rfl) h0
  obtain ⟨a1, rfl, _, _, w1⟩ := open_int Try.underlying3 (hval 1 3 v1 rfl rfl) h1
  refine (gaugeShares_any A0 c0 l0 a1 W hC0 hl0).mono fun e W' ⟨he, hb⟩ => ?_
  subst he
  exact ⟨_, rfl, law_post (by kernel_rfl) (by kernel_rfl) (by kernel_rfl) Try.underlying4 rfl hW' rfl hb⟩

theorem rowOver : Rows.gaugeSharesRow.holds Try.pinned (OpenSpec.ofChange Rows.gaugeSharesSpec) :=
  OpenClaim.holds_of_wide 6 Try.f6 rfl rfl rfl rfl rfl rfl rfl ⟨rfl, rfl, rfl, rfl, rfl⟩ rfl rfl rfl rfl rfl (by kernel_rfl) Try.func6 (by kernel_rfl)
    (of_decide_eq_true (by kernel_rfl)) (by unfold Func.isWrapper; first | (rw [if_pos (by decide +kernel)]; kernel_rfl) | (rw [if_neg (by decide +kernel)]; exact ⟨rfl, rfl⟩))
    (fun os started H enc _ => lifted os started H enc)

theorem proved : Rows.GaugeSharesSaid := rowOver
#print axioms proved
end Go.Proofs.Ytjdjmhagafmkaaa.gaugeShares
