/-
  Texts of this claim, one behind the other: PXx3, PXx4, PXx6, PXx7, PXx8, PXx5, PXx1, PJudge, PJudgeLaw, PXx11.
-/
import Derived.Test.YtjdjmhagafmkaaaBGaugeShares1
namespace Go.Proofs.Ytjdjmhagafmkaaa.PX
open Go.RowKit Go.Proofs.YtjdjmhagafmkaaaW.PrintWords Go.Proofs.YtjdjmhagafmkaaaW.PrintLast Go.Proofs.YtjdjmhagafmkaaaW.PrintMore
attribute [local go_sem] max2_int min2_int max_two min_two max_three min_three max_four min_four   -- for this text's walks alone
set_option linter.unusedVariables false
set_option linter.unusedSimpArgs false

/-! ### deadboltref18_bad: function 53 -/
mutual
def deadboltref18_bad.j0 : Nat → List (S33) → Bool → Int → Int → Int → Int → Int → Int → Int → Int → Option (Bool)
  | 0, _, _, _, _, _, _, _, _, _, _ => none
  | k + 1, x0, x37, x114000, x114001, x114002, x114003, x114004, x115000, x115001, x115002 => if x37 = true then (some true) else (if (x0.length : Int) > 0 then (if 0 ≤ (wrap64 ((x0.length : Int) - 1)) then (if (wrap64 ((x0.length : Int) - 1)) < (x0.length : Int) then (if x114000 < ((rd_T33 x0 (wrap64 ((x0.length : Int) - 1))).f0) then (deadboltref18_bad.j1 k x0 true x115000 x115001 x115002) else (if x114001 < ((rd_T33 x0 (wrap64 ((x0.length : Int) - 1))).f1) then (deadboltref18_bad.j1 k x0 true x115000 x115001 x115002) else (deadboltref18_bad.j1 k x0 (((rd_T33 x0 (wrap64 ((x0.length : Int) - 1))).f2.f1) == 4) x115000 x115001 x115002))) else (none)) else (none)) else ((deadboltref18_Holder.f k x0 x115002).bind fun t118 => (if x115001 = 3 then (some (!(decide (t118 ≥ 0)))) else (if t118 ≥ 0 then (some (x115001 != 2)) else (some false)))))
def deadboltref18_bad.j1 : Nat → List (S33) → Bool → Int → Int → Int → Option (Bool)
  | 0, _, _, _, _, _ => none
  | k + 1, x0, x64, x115000, x115001, x115002 => if x64 = true then (some true) else ((deadboltref18_Holder.f k x0 x115002).bind fun t117 => (if x115001 = 3 then (some (!(decide (t117 ≥ 0)))) else (if t117 ≥ 0 then (some (x115001 != 2)) else (some false))))
end
def deadboltref18_bad.f (k : Nat) (l0 : List (S33)) (a1_0 : Int) (a1_1 : Int) (a1_2 : Int) (a1_3 : Int) (a1_4 : Int) : Option (Bool) := if a1_2 < 0 then (deadboltref18_bad.j0 k l0 true a1_0 a1_1 a1_2 a1_3 a1_4 a1_2 a1_3 a1_4) else (if a1_2 > 7 then (deadboltref18_bad.j0 k l0 true a1_0 a1_1 a1_2 a1_3 a1_4 a1_2 a1_3 a1_4) else (if a1_4 < 0 then (deadboltref18_bad.j0 k l0 true a1_0 a1_1 a1_2 a1_3 a1_4 a1_2 a1_3 a1_4) else (if a1_4 > 3 then (deadboltref18_bad.j0 k l0 true a1_0 a1_1 a1_2 a1_3 a1_4 a1_2 a1_3 a1_4) else (if a1_3 < 0 then (deadboltref18_bad.j0 k l0 true a1_0 a1_1 a1_2 a1_3 a1_4 a1_2 a1_3 a1_4) else (deadboltref18_bad.j0 k l0 (decide (a1_3 > 4)) a1_0 a1_1 a1_2 a1_3 a1_4 a1_2 a1_3 a1_4)))))
theorem deadboltref18_bad.mono_l : ∀ k, (∀ y0 y1 y2 y3 y4 y5 y6 y7 y8 y9, LeO (deadboltref18_bad.j0 k y0 y1 y2 y3 y4 y5 y6 y7 y8 y9) (deadboltref18_bad.j0 (k + 1) y0 y1 y2 y3 y4 y5 y6 y7 y8 y9)) ∧ (∀ y0 y1 y2 y3 y4, LeO (deadboltref18_bad.j1 k y0 y1 y2 y3 y4) (deadboltref18_bad.j1 (k + 1) y0 y1 y2 y3 y4))
  | 0 => ⟨fun _ _ _ _ _ _ _ _ _ _ r h => by simp [deadboltref18_bad.j0] at h, fun _ _ _ _ _ r h => by simp [deadboltref18_bad.j1] at h⟩
  | k + 1 => by
    obtain ⟨ih0, ih1⟩ := deadboltref18_bad.mono_l k
    refine ⟨?_, ?_⟩
    · intro y0 y1 y2 y3 y4 y5 y6 y7 y8 y9
      unfold deadboltref18_bad.j0
      repeat' first
      | (with_reducible exact ih0 _ _ _ _ _ _ _ _ _ _)
      | (with_reducible exact ih1 _ _ _ _ _)
      | (with_reducible exact deadboltref18_Holder.mono _ _ _)
      | (with_reducible exact LeO.refl _)
      | (with_reducible exact LeO.none _)
      | (with_reducible refine LeO.ite ?_ ?_)
      | (with_reducible refine LeO.bind ?_ (fun _ => ?_))
      | exact ih0 _ _ _ _ _ _ _ _ _ _
      | exact ih1 _ _ _ _ _
      | exact deadboltref18_Holder.mono _ _ _
      | exact LeO.none _
      | refine LeO.ite ?_ ?_
      | refine LeO.bind ?_ (fun _ => ?_)
    · intro y0 y1 y2 y3 y4
      unfold deadboltref18_bad.j1
      repeat' first
      | (with_reducible exact ih0 _ _ _ _ _ _ _ _ _ _)
      | (with_reducible exact ih1 _ _ _ _ _)
      | (with_reducible exact deadboltref18_Holder.mono _ _ _)
      | (with_reducible exact LeO.refl _)
      | (with_reducible exact LeO.none _)
      | (with_reducible refine LeO.ite ?_ ?_)
      | (with_reducible refine LeO.bind ?_ (fun _ => ?_))
      | exact ih0 _ _ _ _ _ _ _ _ _ _
      | exact ih1 _ _ _ _ _
      | exact deadboltref18_Holder.mono _ _ _
      | exact LeO.none _
      | refine LeO.ite ?_ ?_
      | refine LeO.bind ?_ (fun _ => ?_)
theorem deadboltref18_bad.mono : ∀ a0 a1 a2 a3 a4 a5 k, LeO (deadboltref18_bad.f k a0 a1 a2 a3 a4 a5) (deadboltref18_bad.f (k + 1) a0 a1 a2 a3 a4 a5) := by
  intro a0 a1 a2 a3 a4 a5 k
  obtain ⟨ih0, ih1⟩ := deadboltref18_bad.mono_l k
  unfold deadboltref18_bad.f
  repeat' first
      | (with_reducible exact ih0 _ _ _ _ _ _ _ _ _ _)
      | (with_reducible exact ih1 _ _ _ _ _)
      | (with_reducible exact deadboltref18_Holder.mono _ _ _)
      | (with_reducible exact LeO.refl _)
      | (with_reducible exact LeO.none _)
      | (with_reducible refine LeO.ite ?_ ?_)
      | (with_reducible refine LeO.bind ?_ (fun _ => ?_))
      | exact ih0 _ _ _ _ _ _ _ _ _ _
      | exact ih1 _ _ _ _ _
      | exact deadboltref18_Holder.mono _ _ _
      | exact LeO.none _
      | refine LeO.ite ?_ ?_
      | refine LeO.bind ?_ (fun _ => ?_)
set_option maxHeartbeats 8000000 in
set_option maxRecDepth 100000 in
theorem deadboltref18_bad.calls (k : Nat) (A0 : Option Addr) (c0 : Nat) (l0 : List (S33)) (a1_0 : Int) (a1_1 : Int) (a1_2 : Int) (a1_3 : Int) (a1_4 : Int) (r : Bool) (w : World) (hr0 : Kd.C k33 w A0 l0.length l0) (hc0 : l0.length ≤ c0) (h : deadboltref18_bad.f k l0 a1_0 a1_1 a1_2 a1_3 a1_4 = some r) :
    Calls Try.prog 53 #[.slice A0 l0.length c0, .agg #[.int .i64 a1_0, .int .i64 a1_1, .int .i64 a1_2, .int .i64 a1_3, .int .i64 a1_4]] w fun e w' => e = .returned (.bool r) ∧ Below w.heap.size w w' := by
  have hu33 := Try.underlying33
  have hu31 := Try.underlying31
  have HR0 := Aside0.mk hr0
  have HC0 := Aside0.mk hc0
  clear hr0 hc0
  have HB := Aside0.mk (Below.refl w.heap.size w)
  have H : (if a1_2 < 0 then (deadboltref18_bad.j0 k l0 true a1_0 a1_1 a1_2 a1_3 a1_4 a1_2 a1_3 a1_4) else (if a1_2 > 7 then (deadboltref18_bad.j0 k l0 true a1_0 a1_1 a1_2 a1_3 a1_4 a1_2 a1_3 a1_4) else (if a1_4 < 0 then (deadboltref18_bad.j0 k l0 true a1_0 a1_1 a1_2 a1_3 a1_4 a1_2 a1_3 a1_4) else (if a1_4 > 3 then (deadboltref18_bad.j0 k l0 true a1_0 a1_1 a1_2 a1_3 a1_4 a1_2 a1_3 a1_4) else (if a1_3 < 0 then (deadboltref18_bad.j0 k l0 true a1_0 a1_1 a1_2 a1_3 a1_4 a1_2 a1_3 a1_4) else (deadboltref18_bad.j0 k l0 (decide (a1_3 > 4)) a1_0 a1_1 a1_2 a1_3 a1_4 a1_2 a1_3 a1_4)))))) = some r := h
  clear h
  have HC3 := Aside0.mk H
  clear H
  go_enter Try.func53, Try.ntmps53
  go_upto_region 2 with (first | ((with_reducible refine gate_dst (N := 3) rfl ?_); refine box_event ?hg (N := 3) ?hd (cs := #[.int .i64 a1_0, .int .i64 a1_1, .int .i64 a1_2, .int .i64 a1_3, .int .i64 a1_4]) (t := 33) ?hr ?_; (case hd => rfl); (case hg => rfl); (case hr => first | (go_simp; done) | (go_simp; rfl)); intro gb113 hg w4 hbox hb; have n0_ := Aside0.mk (below_step (by repeat (first | (with_reducible first | exact HB.out | apply below_alloc | apply pw_below_drewN | apply below_drew1) | exact HB.out)) hb); have n1_ := Aside0.mk (hbox); have n2_ := Aside0.mk ((by rw [hg]; exact (below_size (by repeat (first | (with_reducible first | exact HB.out | apply below_alloc | apply pw_below_drewN | apply below_drew1) | exact HB.out))) : w.heap.size ≤ gb113)); have n3_ := Aside0.mk ((by rw [hg]; exact (below_size (by repeat (first | (with_reducible first | exact HB.out | apply below_alloc | apply pw_below_drewN | apply below_drew1) | exact HB.out))) : w.heap.size ≤ gb113)); clear HB; have HB := n0_; have BK113 := n1_; have GW113 := n2_; have GE113 := n3_; clear n0_ n1_ n2_ n3_; clear hb hbox hg; have hcz5_0 : w4.cell? ⟨gb113, 0, none⟩ = some (.int .i64 a1_0) := (blk_cell BK113.out 0).trans rfl; have hcz5_1 : w4.cell? ⟨gb113, 1, none⟩ = some (.int .i64 a1_1) := (blk_cell BK113.out 1).trans rfl; have hcz5_2 : w4.cell? ⟨gb113, 2, none⟩ = some (.int .i64 a1_2) := (blk_cell BK113.out 2).trans rfl; have hcz5_3 : w4.cell? ⟨gb113, 3, none⟩ = some (.int .i64 a1_3) := (blk_cell BK113.out 3).trans rfl; have hcz5_4 : w4.cell? ⟨gb113, 4, none⟩ = some (.int .i64 a1_4) := (blk_cell BK113.out 4).trans rfl; have hfz5_0 := blk_frozen BK113.out 0; have hfz5_1 := blk_frozen BK113.out 1; have hfz5_2 := blk_frozen BK113.out 2; have hfz5_3 := blk_frozen BK113.out 3; have hfz5_4 := blk_frozen BK113.out 4) | ((with_reducible refine gate_dst (N := 5) rfl ?_); refine box_event ?hg (N := 5) ?hd (cs := #[.int .i64 0, .int .i64 0, .int .i64 0]) (t := 31) ?hr ?_; (case hd => rfl); (case hg => rfl); (case hr => first | (go_simp; done) | (go_simp; rfl)); intro gb114 hg w6 hbox hb; have n0_ := Aside0.mk (blk_below (g := gb113) (o := .cells #[.int .i64 a1_0, .int .i64 a1_1, .int .i64 a1_2, .int .i64 a1_3, .int .i64 a1_4] 33 (0, 0)) (by (with_reducible repeat (first | refine blk_drewN ?_ _ | refine blk_drew ?_ | refine blk_alloc ?_ _)); exact BK113.out) hb); have n1_ := Aside0.mk (below_step (by repeat (first | (with_reducible first | exact HB.out | apply below_alloc | apply pw_below_drewN | apply below_drew1 | refine below_set ?_ GE113.out) | exact HB.out)) hb); have n2_ := Aside0.mk (hbox); have n3_ := Aside0.mk ((by rw [hg]; exact (below_size (by repeat (first | (with_reducible first | exact HB.out | apply below_alloc | apply pw_below_drewN | apply below_drew1 | refine below_set ?_ GE113.out) | exact HB.out))) : w.heap.size ≤ gb114)); have n4_ := Aside0.mk ((by rw [hg]; exact (below_size (by repeat (first | (with_reducible first | exact HB.out | apply below_alloc | apply pw_below_drewN | apply below_drew1 | refine below_set ?_ GE113.out) | exact HB.out))) : w.heap.size ≤ gb114)); have n5_ := Aside0.mk ((by rw [hg]; exact Nat.ne_of_lt (blk_lt (g := gb113) (o := .cells #[.int .i64 a1_0, .int .i64 a1_1, .int .i64 a1_2, .int .i64 a1_3, .int .i64 a1_4] 33 (0, 0)) (by (with_reducible repeat (first | refine blk_drewN ?_ _ | refine blk_drew ?_ | refine blk_alloc ?_ _)); exact BK113.out)) : gb113 ≠ gb114)); have n6_ := Aside0.mk ((by rw [hg]; exact Nat.ne_of_gt (blk_lt (g := gb113) (o := .cells #[.int .i64 a1_0, .int .i64 a1_1, .int .i64 a1_2, .int .i64 a1_3, .int .i64 a1_4] 33 (0, 0)) (by (with_reducible repeat (first | refine blk_drewN ?_ _ | refine blk_drew ?_ | refine blk_alloc ?_ _)); exact BK113.out)) : gb114 ≠ gb113)); clear BK113; clear HB; have BK113 := n0_; have HB := n1_; have BK114 := n2_; have GW114 := n3_; have GE114 := n4_; have NB113_114 := n5_; have NB114_113 := n6_; clear n0_ n1_ n2_ n3_ n4_ n5_ n6_; clear hb hbox hg; have hnb7 := NB114_113.out; have hnc7 := NB113_114.out; have hcz8_0 : w6.cell? ⟨gb114, 0, none⟩ = some (.int .i64 0) := (blk_cell BK114.out 0).trans rfl; have hcz8_1 : w6.cell? ⟨gb114, 1, none⟩ = some (.int .i64 0) := (blk_cell BK114.out 1).trans rfl; have hcz8_2 : w6.cell? ⟨gb114, 2, none⟩ = some (.int .i64 0) := (blk_cell BK114.out 2).trans rfl; have hfz8_0 := blk_frozen BK114.out 0; have hfz8_1 := blk_frozen BK114.out 1; have hfz8_2 := blk_frozen BK114.out 2))
  (try simp only [Act.put, List.setIfInBounds_toArray, List.set_cons_zero, List.set_cons_succ])
  go_cut [37] (fun v37 wc => ∃ (kq : Nat) (x37_2 : Bool), v37 = .bool x37_2 ∧ Aside0 (deadboltref18_bad.j0 kq l0 x37_2 a1_0 a1_1 a1_2 a1_3 a1_4 a1_2 a1_3 a1_4 = some r) ∧ Aside0 (kq ≤ k) ∧ Aside0 (wc.heap[gb113]? = some (.cells #[.int .i64 a1_0, .int .i64 a1_1, .int .i64 a1_2, .int .i64 a1_3, .int .i64 a1_4] 33 (0, 0))) ∧ Aside0 (wc.heap[gb114]? = some (.cells #[.int .i64 a1_2, .int .i64 a1_3, .int .i64 a1_4] 31 (0, 0))) ∧ Aside0 (Below w.heap.size w wc))
  case first =>
    have H := HC3.out
    clear HC3
    by_cases c9 : a1_2 < 0
    · rw [if_pos c9] at H
      have c9b0 : decide (a1_2 < 0) = true := decide_eq_true c9
      clear c9
      (first | rw [c9b0] | (simp only [i64_w, i32_w]; rw [c9b0]) | skip)
      have H' := Aside0.mk H
      clear H
      have hnb10 := NB114_113.out
      have hnc10 := NB113_114.out
      have hcz11_0 : w6.cell? ⟨gb114, 0, none⟩ = some (.int .i64 0) := (blk_cell BK114.out 0).trans rfl
      have hcz11_1 : w6.cell? ⟨gb114, 1, none⟩ = some (.int .i64 0) := (blk_cell BK114.out 1).trans rfl
      have hcz11_2 : w6.cell? ⟨gb114, 2, none⟩ = some (.int .i64 0) := (blk_cell BK114.out 2).trans rfl
      have hfz11_0 := blk_frozen BK114.out 0
      have hfz11_1 := blk_frozen BK114.out 1
      have hfz11_2 := blk_frozen BK114.out 2
      go_wp2
      go_meet
      case rel => exact ⟨_, (true), (by first | rfl | (simp; done) | (simp [*]; done)), H', ⟨by first | omega | exact Nat.le_refl _⟩, ⟨by (with_reducible repeat (first | refine blk_drewN ?_ _ | refine blk_drew ?_ | refine blk_alloc ?_ _)); refine blk_far ?_ NB113_114.out _; (with_reducible repeat (first | refine blk_drewN ?_ _ | refine blk_drew ?_ | refine blk_alloc ?_ _)); refine blk_far ?_ NB113_114.out _; (with_reducible repeat (first | refine blk_drewN ?_ _ | refine blk_drew ?_ | refine blk_alloc ?_ _)); refine blk_far ?_ NB113_114.out _; (with_reducible repeat (first | refine blk_drewN ?_ _ | refine blk_drew ?_ | refine blk_alloc ?_ _)); exact BK113.out⟩, ⟨by (with_reducible repeat (first | refine blk_drewN ?_ _ | refine blk_drew ?_ | refine blk_alloc ?_ _)); refine blk_put (cs := #[.int .i64 a1_2, .int .i64 a1_3, .int .i64 0]) ?_ 2 _ rfl; (with_reducible repeat (first | refine blk_drewN ?_ _ | refine blk_drew ?_ | refine blk_alloc ?_ _)); refine blk_put (cs := #[.int .i64 a1_2, .int .i64 0, .int .i64 0]) ?_ 1 _ rfl; (with_reducible repeat (first | refine blk_drewN ?_ _ | refine blk_drew ?_ | refine blk_alloc ?_ _)); refine blk_put (cs := #[.int .i64 0, .int .i64 0, .int .i64 0]) ?_ 0 _ rfl; (with_reducible repeat (first | refine blk_drewN ?_ _ | refine blk_drew ?_ | refine blk_alloc ?_ _)); exact BK114.out⟩, ⟨by repeat (first | (with_reducible first | exact HB.out | apply below_alloc | apply pw_below_drewN | apply below_drew1 | refine below_set ?_ GE113.out | refine below_set ?_ GE114.out) | exact HB.out)⟩⟩
    · rw [if_neg c9] at H
      have c9b0 : decide (a1_2 < 0) = false := decide_eq_false c9
      clear c9
      (first | rw [c9b0] | (simp only [i64_w, i32_w]; rw [c9b0]) | skip)
      by_cases c12 : a1_2 > 7
      · rw [if_pos c12] at H
        have c12b0 : decide (7 < a1_2) = true := decide_eq_true c12
        clear c12
        have H' := Aside0.mk H
        clear H
        have hnb13 := NB114_113.out
        have hnc13 := NB113_114.out
        have hcz14_0 : w6.cell? ⟨gb114, 0, none⟩ = some (.int .i64 0) := (blk_cell BK114.out 0).trans rfl
        have hcz14_1 : w6.cell? ⟨gb114, 1, none⟩ = some (.int .i64 0) := (blk_cell BK114.out 1).trans rfl
        have hcz14_2 : w6.cell? ⟨gb114, 2, none⟩ = some (.int .i64 0) := (blk_cell BK114.out 2).trans rfl
        have hfz14_0 := blk_frozen BK114.out 0
        have hfz14_1 := blk_frozen BK114.out 1
        have hfz14_2 := blk_frozen BK114.out 2
        go_wp2
        go_meet
        case rel => exact ⟨_, (true), (by first | rfl | (simp; done) | (simp [*]; done)), H', ⟨by first | omega | exact Nat.le_refl _⟩, ⟨by (with_reducible repeat (first | refine blk_drewN ?_ _ | refine blk_drew ?_ | refine blk_alloc ?_ _)); refine blk_far ?_ NB113_114.out _; (with_reducible repeat (first | refine blk_drewN ?_ _ | refine blk_drew ?_ | refine blk_alloc ?_ _)); refine blk_far ?_ NB113_114.out _; (with_reducible repeat (first | refine blk_drewN ?_ _ | refine blk_drew ?_ | refine blk_alloc ?_ _)); refine blk_far ?_ NB113_114.out _; (with_reducible repeat (first | refine blk_drewN ?_ _ | refine blk_drew ?_ | refine blk_alloc ?_ _)); exact BK113.out⟩, ⟨by (with_reducible repeat (first | refine blk_drewN ?_ _ | refine blk_drew ?_ | refine blk_alloc ?_ _)); refine blk_put (cs := #[.int .i64 a1_2, .int .i64 a1_3, .int .i64 0]) ?_ 2 _ rfl; (with_reducible repeat (first | refine blk_drewN ?_ _ | refine blk_drew ?_ | refine blk_alloc ?_ _)); refine blk_put (cs := #[.int .i64 a1_2, .int .i64 0, .int .i64 0]) ?_ 1 _ rfl; (with_reducible repeat (first | refine blk_drewN ?_ _ | refine blk_drew ?_ | refine blk_alloc ?_ _)); refine blk_put (cs := #[.int .i64 0, .int .i64 0, .int .i64 0]) ?_ 0 _ rfl; (with_reducible repeat (first | refine blk_drewN ?_ _ | refine blk_drew ?_ | refine blk_alloc ?_ _)); exact BK114.out⟩, ⟨by repeat (first | (with_reducible first | exact HB.out | apply below_alloc | apply pw_below_drewN | apply below_drew1 | refine below_set ?_ GE113.out | refine below_set ?_ GE114.out) | exact HB.out)⟩⟩
      · rw [if_neg c12] at H
        have c12b0 : decide (7 < a1_2) = false := decide_eq_false c12
        clear c12
        by_cases c15 : a1_4 < 0
        · rw [if_pos c15] at H
          have c15b0 : decide (a1_4 < 0) = true := decide_eq_true c15
          clear c15
          have H' := Aside0.mk H
          clear H
          have hnb16 := NB114_113.out
          have hnc16 := NB113_114.out
          have hcz17_0 : w6.cell? ⟨gb114, 0, none⟩ = some (.int .i64 0) := (blk_cell BK114.out 0).trans rfl
          have hcz17_1 : w6.cell? ⟨gb114, 1, none⟩ = some (.int .i64 0) := (blk_cell BK114.out 1).trans rfl
          have hcz17_2 : w6.cell? ⟨gb114, 2, none⟩ = some (.int .i64 0) := (blk_cell BK114.out 2).trans rfl
          have hfz17_0 := blk_frozen BK114.out 0
          have hfz17_1 := blk_frozen BK114.out 1
          have hfz17_2 := blk_frozen BK114.out 2
          go_wp2
          go_meet
          case rel => exact ⟨_, (true), (by first | rfl | (simp; done) | (simp [*]; done)), H', ⟨by first | omega | exact Nat.le_refl _⟩, ⟨by (with_reducible repeat (first | refine blk_drewN ?_ _ | refine blk_drew ?_ | refine blk_alloc ?_ _)); refine blk_far ?_ NB113_114.out _; (with_reducible repeat (first | refine blk_drewN ?_ _ | refine blk_drew ?_ | refine blk_alloc ?_ _)); refine blk_far ?_ NB113_114.out _; (with_reducible repeat (first | refine blk_drewN ?_ _ | refine blk_drew ?_ | refine blk_alloc ?_ _)); refine blk_far ?_ NB113_114.out _; (with_reducible repeat (first | refine blk_drewN ?_ _ | refine blk_drew ?_ | refine blk_alloc ?_ _)); exact BK113.out⟩, ⟨by (with_reducible repeat (first | refine blk_drewN ?_ _ | refine blk_drew ?_ | refine blk_alloc ?_ _)); refine blk_put (cs := #[.int .i64 a1_2, .int .i64 a1_3, .int .i64 0]) ?_ 2 _ rfl; (with_reducible repeat (first | refine blk_drewN ?_ _ | refine blk_drew ?_ | refine blk_alloc ?_ _)); refine blk_put (cs := #[.int .i64 a1_2, .int .i64 0, .int .i64 0]) ?_ 1 _ rfl; (with_reducible repeat (first | refine blk_drewN ?_ _ | refine blk_drew ?_ | refine blk_alloc ?_ _)); refine blk_put (cs := #[.int .i64 0, .int .i64 0, .int .i64 0]) ?_ 0 _ rfl; (with_reducible repeat (first | refine blk_drewN ?_ _ | refine blk_drew ?_ | refine blk_alloc ?_ _)); exact BK114.out⟩, ⟨by repeat (first | (with_reducible first | exact HB.out | apply below_alloc | apply pw_below_drewN | apply below_drew1 | refine below_set ?_ GE113.out | refine below_set ?_ GE114.out) | exact HB.out)⟩⟩
        · rw [if_neg c15] at H
          have c15b0 : decide (a1_4 < 0) = false := decide_eq_false c15
          clear c15
          by_cases c18 : a1_4 > 3
          · rw [if_pos c18] at H
            have c18b0 : decide (3 < a1_4) = true := decide_eq_true c18
            clear c18
            have H' := Aside0.mk H
            clear H
            have hnb19 := NB114_113.out
            have hnc19 := NB113_114.out
            have hcz20_0 : w6.cell? ⟨gb114, 0, none⟩ = some (.int .i64 0) := (blk_cell BK114.out 0).trans rfl
            have hcz20_1 : w6.cell? ⟨gb114, 1, none⟩ = some (.int .i64 0) := (blk_cell BK114.out 1).trans rfl
            have hcz20_2 : w6.cell? ⟨gb114, 2, none⟩ = some (.int .i64 0) := (blk_cell BK114.out 2).trans rfl
            have hfz20_0 := blk_frozen BK114.out 0
            have hfz20_1 := blk_frozen BK114.out 1
            have hfz20_2 := blk_frozen BK114.out 2
            go_wp2
            go_meet
            case rel => exact ⟨_, (true), (by first | rfl | (simp; done) | (simp [*]; done)), H', ⟨by first | omega | exact Nat.le_refl _⟩, ⟨by (with_reducible repeat (first | refine blk_drewN ?_ _ | refine blk_drew ?_ | refine blk_alloc ?_ _)); refine blk_far ?_ NB113_114.out _; (with_reducible repeat (first | refine blk_drewN ?_ _ | refine blk_drew ?_ | refine blk_alloc ?_ _)); refine blk_far ?_ NB113_114.out _; (with_reducible repeat (first | refine blk_drewN ?_ _ | refine blk_drew ?_ | refine blk_alloc ?_ _)); refine blk_far ?_ NB113_114.out _; (with_reducible repeat (first | refine blk_drewN ?_ _ | refine blk_drew ?_ | refine blk_alloc ?_ _)); exact BK113.out⟩, ⟨by (with_reducible repeat (first | refine blk_drewN ?_ _ | refine blk_drew ?_ | refine blk_alloc ?_ _)); refine blk_put (cs := #[.int .i64 a1_2, .int .i64 a1_3, .int .i64 0]) ?_ 2 _ rfl; (with_reducible repeat (first | refine blk_drewN ?_ _ | refine blk_drew ?_ | refine blk_alloc ?_ _)); refine blk_put (cs := #[.int .i64 a1_2, .int .i64 0, .int .i64 0]) ?_ 1 _ rfl; (with_reducible repeat (first | refine blk_drewN ?_ _ | refine blk_drew ?_ | refine blk_alloc ?_ _)); refine blk_put (cs := #[.int .i64 0, .int .i64 0, .int .i64 0]) ?_ 0 _ rfl; (with_reducible repeat (first | refine blk_drewN ?_ _ | refine blk_drew ?_ | refine blk_alloc ?_ _)); exact BK114.out⟩, ⟨by repeat (first | (with_reducible first | exact HB.out | apply below_alloc | apply pw_below_drewN | apply below_drew1 | refine below_set ?_ GE113.out | refine below_set ?_ GE114.out) | exact HB.out)⟩⟩
          · rw [if_neg c18] at H
            have c18b0 : decide (3 < a1_4) = false := decide_eq_false c18
            clear c18
            by_cases c21 : a1_3 < 0
            · rw [if_pos c21] at H
              have c21b0 : decide (a1_3 < 0) = true := decide_eq_true c21
              clear c21
              have H' := Aside0.mk H
              clear H
              have hnb22 := NB114_113.out
              have hnc22 := NB113_114.out
              have hcz23_0 : w6.cell? ⟨gb114, 0, none⟩ = some (.int .i64 0) := (blk_cell BK114.out 0).trans rfl
              have hcz23_1 : w6.cell? ⟨gb114, 1, none⟩ = some (.int .i64 0) := (blk_cell BK114.out 1).trans rfl
              have hcz23_2 : w6.cell? ⟨gb114, 2, none⟩ = some (.int .i64 0) := (blk_cell BK114.out 2).trans rfl
              have hfz23_0 := blk_frozen BK114.out 0
              have hfz23_1 := blk_frozen BK114.out 1
              have hfz23_2 := blk_frozen BK114.out 2
              go_wp2
              go_meet
              case rel => exact ⟨_, (true), (by first | rfl | (simp; done) | (simp [*]; done)), H', ⟨by first | omega | exact Nat.le_refl _⟩, ⟨by (with_reducible repeat (first | refine blk_drewN ?_ _ | refine blk_drew ?_ | refine blk_alloc ?_ _)); refine blk_far ?_ NB113_114.out _; (with_reducible repeat (first | refine blk_drewN ?_ _ | refine blk_drew ?_ | refine blk_alloc ?_ _)); refine blk_far ?_ NB113_114.out _; (with_reducible repeat (first | refine blk_drewN ?_ _ | refine blk_drew ?_ | refine blk_alloc ?_ _)); refine blk_far ?_ NB113_114.out _; (with_reducible repeat (first | refine blk_drewN ?_ _ | refine blk_drew ?_ | refine blk_alloc ?_ _)); exact BK113.out⟩, ⟨by (with_reducible repeat (first | refine blk_drewN ?_ _ | refine blk_drew ?_ | refine blk_alloc ?_ _)); refine blk_put (cs := #[.int .i64 a1_2, .int .i64 a1_3, .int .i64 0]) ?_ 2 _ rfl; (with_reducible repeat (first | refine blk_drewN ?_ _ | refine blk_drew ?_ | refine blk_alloc ?_ _)); refine blk_put (cs := #[.int .i64 a1_2, .int .i64 0, .int .i64 0]) ?_ 1 _ rfl; (with_reducible repeat (first | refine blk_drewN ?_ _ | refine blk_drew ?_ | refine blk_alloc ?_ _)); refine blk_put (cs := #[.int .i64 0, .int .i64 0, .int .i64 0]) ?_ 0 _ rfl; (with_reducible repeat (first | refine blk_drewN ?_ _ | refine blk_drew ?_ | refine blk_alloc ?_ _)); exact BK114.out⟩, ⟨by repeat (first | (with_reducible first | exact HB.out | apply below_alloc | apply pw_below_drewN | apply below_drew1 | refine below_set ?_ GE113.out | refine below_set ?_ GE114.out) | exact HB.out)⟩⟩
            · rw [if_neg c21] at H
              have c21b0 : decide (a1_3 < 0) = false := decide_eq_false c21
              clear c21
              have H' := Aside0.mk H
              clear H
              have hnb24 := NB114_113.out
              have hnc24 := NB113_114.out
              have hcz25_0 : w6.cell? ⟨gb114, 0, none⟩ = some (.int .i64 0) := (blk_cell BK114.out 0).trans rfl
              have hcz25_1 : w6.cell? ⟨gb114, 1, none⟩ = some (.int .i64 0) := (blk_cell BK114.out 1).trans rfl
              have hcz25_2 : w6.cell? ⟨gb114, 2, none⟩ = some (.int .i64 0) := (blk_cell BK114.out 2).trans rfl
              have hfz25_0 := blk_frozen BK114.out 0
              have hfz25_1 := blk_frozen BK114.out 1
              have hfz25_2 := blk_frozen BK114.out 2
              go_wp2
              go_meet
              case rel => exact ⟨_, (decide (a1_3 > 4)), (by first | rfl | (simp; done) | (simp [*]; done)), H', ⟨by first | omega | exact Nat.le_refl _⟩, ⟨by (with_reducible repeat (first | refine blk_drewN ?_ _ | refine blk_drew ?_ | refine blk_alloc ?_ _)); refine blk_far ?_ NB113_114.out _; (with_reducible repeat (first | refine blk_drewN ?_ _ | refine blk_drew ?_ | refine blk_alloc ?_ _)); refine blk_far ?_ NB113_114.out _; (with_reducible repeat (first | refine blk_drewN ?_ _ | refine blk_drew ?_ | refine blk_alloc ?_ _)); refine blk_far ?_ NB113_114.out _; (with_reducible repeat (first | refine blk_drewN ?_ _ | refine blk_drew ?_ | refine blk_alloc ?_ _)); exact BK113.out⟩, ⟨by (with_reducible repeat (first | refine blk_drewN ?_ _ | refine blk_drew ?_ | refine blk_alloc ?_ _)); refine blk_put (cs := #[.int .i64 a1_2, .int .i64 a1_3, .int .i64 0]) ?_ 2 _ rfl; (with_reducible repeat (first | refine blk_drewN ?_ _ | refine blk_drew ?_ | refine blk_alloc ?_ _)); refine blk_put (cs := #[.int .i64 a1_2, .int .i64 0, .int .i64 0]) ?_ 1 _ rfl; (with_reducible repeat (first | refine blk_drewN ?_ _ | refine blk_drew ?_ | refine blk_alloc ?_ _)); refine blk_put (cs := #[.int .i64 0, .int .i64 0, .int .i64 0]) ?_ 0 _ rfl; (with_reducible repeat (first | refine blk_drewN ?_ _ | refine blk_drew ?_ | refine blk_alloc ?_ _)); exact BK114.out⟩, ⟨by repeat (first | (with_reducible first | exact HB.out | apply below_alloc | apply pw_below_drewN | apply below_drew1 | refine below_set ?_ GE113.out | refine below_set ?_ GE114.out) | exact HB.out)⟩⟩
  case rest =>
    clear HC3
    try clear c1
    try clear c2
    try clear p2
    try clear c5
    try clear c7
    try clear c9
    try clear c9b0
    try clear c10
    try clear c12
    try clear c12b0
    try clear c13
    try clear c15
    try clear c15b0
    try clear c16
    try clear c18
    try clear c18b0
    try clear c19
    try clear c21
    try clear c21b0
    try clear c22
    try clear c24
    try clear hcz11_0
    try clear hcz11_1
    try clear hcz11_2
    try clear hcz14_0
    try clear hcz14_1
    try clear hcz14_2
    try clear hcz17_0
    try clear hcz17_1
    try clear hcz17_2
    try clear hcz20_0
    try clear hcz20_1
    try clear hcz20_2
    try clear hcz23_0
    try clear hcz23_1
    try clear hcz23_2
    try clear hcz25_0
    try clear hcz25_1
    try clear hcz25_2
    try clear hcz5_0
    try clear hcz5_1
    try clear hcz5_2
    try clear hcz5_3
    try clear hcz5_4
    try clear hcz8_0
    try clear hcz8_1
    try clear hcz8_2
    try clear hfz11_0
    try clear hfz11_1
    try clear hfz11_2
    try clear hfz14_0
    try clear hfz14_1
    try clear hfz14_2
    try clear hfz17_0
    try clear hfz17_1
    try clear hfz17_2
    try clear hfz20_0
    try clear hfz20_1
    try clear hfz20_2
    try clear hfz23_0
    try clear hfz23_1
    try clear hfz23_2
    try clear hfz25_0
    try clear hfz25_1
    try clear hfz25_2
    try clear hfz5_0
    try clear hfz5_1
    try clear hfz5_2
    try clear hfz5_3
    try clear hfz5_4
    try clear hfz8_0
    try clear hfz8_1
    try clear hfz8_2
    obtain ⟨kq, x37_2, rfl, HA, HJ2, BK113, BK114, HB⟩ := hcut
    cases kq with
    | zero => exact absurd HA.out (by simp [deadboltref18_bad.j0])
    | succ kj2 =>
      have H := HA.out
      clear HA
      simp only [deadboltref18_bad.j0] at H
      by_cases c26 : x37_2 = true
      · subst c26
        have H1 : (some true) = some r := by rw [if_pos rfl] at H; exact H
        clear H
        have H := H1
        clear H1
        obtain rfl := Option.some.inj H
        go_wp2
        go_ret
        exact ⟨by first | rfl | (simp [errW_none, errW_some] <;> rfl) | (simp [*, errW_none, errW_some] <;> rfl), by repeat (first | (with_reducible first | exact HB.out | apply below_alloc | apply pw_below_drewN | apply below_drew1 | refine below_set ?_ GE113.out | refine below_set ?_ GE114.out) | exact HB.out)⟩
      · replace c26 := Bool.eq_false_iff.mpr c26
        subst c26
        have H1 : (if (l0.length : Int) > 0 then (if 0 ≤ (wrap64 ((l0.length : Int) - 1)) then (if (wrap64 ((l0.length : Int) - 1)) < (l0.length : Int) then (if a1_0 < ((rd_T33 l0 (wrap64 ((l0.length : Int) - 1))).f0) then (deadboltref18_bad.j1 kj2 l0 true a1_2 a1_3 a1_4) else (if a1_1 < ((rd_T33 l0 (wrap64 ((l0.length : Int) - 1))).f1) then (deadboltref18_bad.j1 kj2 l0 true a1_2 a1_3 a1_4) else (deadboltref18_bad.j1 kj2 l0 (((rd_T33 l0 (wrap64 ((l0.length : Int) - 1))).f2.f1) == 4) a1_2 a1_3 a1_4))) else (none)) else (none)) else ((deadboltref18_Holder.f kj2 l0 a1_4).bind fun t118 => (if a1_3 = 3 then (some (!(decide (t118 ≥ 0)))) else (if t118 ≥ 0 then (some (a1_3 != 2)) else (some false))))) = some r := by rw [if_neg (show ¬ (false = true) by decide)] at H; exact H
        clear H
        have H := H1
        clear H1
        by_cases c27 : (l0.length : Int) > 0
        · rw [if_pos c27] at H
          have c27b0 : decide (0 < (l0.length : Int)) = true := decide_eq_true c27
          have c27b1 : decide (0 < l0.length) = true := decide_eq_true (by omega)
          clear c27
          obtain ⟨ji28, hji28⟩ : ∃ j_ : Int, (wrap64 ((l0.length : Int) - 1)) = j_ := ⟨_, rfl⟩
          replace H : (if 0 ≤ (ji28) then (if (ji28) < (l0.length : Int) then (if a1_0 < ((rd_T33 l0 (ji28)).f0) then (deadboltref18_bad.j1 kj2 l0 true a1_2 a1_3 a1_4) else (if a1_1 < ((rd_T33 l0 (ji28)).f1) then (deadboltref18_bad.j1 kj2 l0 true a1_2 a1_3 a1_4) else (deadboltref18_bad.j1 kj2 l0 (((rd_T33 l0 (ji28)).f2.f1) == 4) a1_2 a1_3 a1_4))) else (none)) else (none)) = some r := by first | (rw [hji28] at H; exact H) | (simp only [hji28] at H ⊢; exact H)
          have hji28w : (IntKind.i64.wrap ((l0.length : Int) - 1)) = ji28 := (i64_w _).trans hji28
          by_cases c29 : 0 ≤ (ji28)
          · rw [if_pos c29] at H
            have c29b0 : decide (0 ≤ (ji28)) = true := decide_eq_true c29
            clear c29
            by_cases c30 : (ji28) < (l0.length : Int)
            · rw [if_pos c30] at H
              have c30b0 : decide ((ji28) < (l0.length : Int)) = true := decide_eq_true c30
              clear c30
              have HC31 := Aside0.mk H
              clear H
              have p115 : 0 ≤ ((ji28) : Int) := of_decide_eq_true (by first | (with_reducible assumption) | assumption)
              have q115 : (ji28) < (l0.length : Int) := of_decide_eq_true (by first | (with_reducible assumption) | assumption)
              obtain ⟨ad115, e115, hx115_0, hx115_1, hx115_2, hx115_3, hx115_4⟩ := at_T33 HR0.out (ji28) p115 q115
              cases e115
              replace hx115_0 := (HB.out.cell (World.block_lt_of_cell? w _ hx115_0)).trans hx115_0
              replace hx115_1 := (HB.out.cell (World.block_lt_of_cell? w _ hx115_1)).trans hx115_1
              replace hx115_2 := (HB.out.cell (World.block_lt_of_cell? w _ hx115_2)).trans hx115_2
              replace hx115_3 := (HB.out.cell (World.block_lt_of_cell? w _ hx115_3)).trans hx115_3
              replace hx115_4 := (HB.out.cell (World.block_lt_of_cell? w _ hx115_4)).trans hx115_4
              replace p115 := eq_true p115
              replace q115 := eq_true q115
              go_upto_region 6 with (first | ((with_reducible refine gate_dst (N := 6) rfl ?_); refine box_event ?hg (N := 6) ?hd (cs := #[.int .i64 0, .int .i64 0, .int .i64 0, .int .i64 0, .int .i64 0]) (t := 33) ?hr ?_; (case hd => rfl); (case hg => rfl); (case hr => first | (go_simp; done) | (go_simp; rfl)); intro gb116 hg w32 hbox hb; have n0_ := Aside0.mk (blk_below (g := gb113) (o := .cells #[.int .i64 a1_0, .int .i64 a1_1, .int .i64 a1_2, .int .i64 a1_3, .int .i64 a1_4] 33 (0, 0)) (by (with_reducible repeat (first | refine blk_drewN ?_ _ | refine blk_drew ?_ | refine blk_alloc ?_ _)); exact BK113.out) hb); have n1_ := Aside0.mk (blk_below (g := gb114) (o := .cells #[.int .i64 a1_2, .int .i64 a1_3, .int .i64 a1_4] 31 (0, 0)) (by (with_reducible repeat (first | refine blk_drewN ?_ _ | refine blk_drew ?_ | refine blk_alloc ?_ _)); exact BK114.out) hb); have n2_ := Aside0.mk (below_step (by repeat (first | (with_reducible first | exact HB.out | apply below_alloc | apply pw_below_drewN | apply below_drew1 | refine below_set ?_ GE113.out | refine below_set ?_ GE114.out) | exact HB.out)) hb); have n3_ := Aside0.mk (hbox); have n4_ := Aside0.mk ((by rw [hg]; exact (below_size (by repeat (first | (with_reducible first | exact HB.out | apply below_alloc | apply pw_below_drewN | apply below_drew1 | refine below_set ?_ GE113.out | refine below_set ?_ GE114.out) | exact HB.out))) : w.heap.size ≤ gb116)); have n5_ := Aside0.mk ((by rw [hg]; exact (below_size (by repeat (first | (with_reducible first | exact HB.out | apply below_alloc | apply pw_below_drewN | apply below_drew1 | refine below_set ?_ GE113.out | refine below_set ?_ GE114.out) | exact HB.out))) : w.heap.size ≤ gb116)); have n6_ := Aside0.mk ((by rw [hg]; exact Nat.ne_of_lt (blk_lt (g := gb113) (o := .cells #[.int .i64 a1_0, .int .i64 a1_1, .int .i64 a1_2, .int .i64 a1_3, .int .i64 a1_4] 33 (0, 0)) (by (with_reducible repeat (first | refine blk_drewN ?_ _ | refine blk_drew ?_ | refine blk_alloc ?_ _)); exact BK113.out)) : gb113 ≠ gb116)); have n7_ := Aside0.mk ((by rw [hg]; exact Nat.ne_of_gt (blk_lt (g := gb113) (o := .cells #[.int .i64 a1_0, .int .i64 a1_1, .int .i64 a1_2, .int .i64 a1_3, .int .i64 a1_4] 33 (0, 0)) (by (with_reducible repeat (first | refine blk_drewN ?_ _ | refine blk_drew ?_ | refine blk_alloc ?_ _)); exact BK113.out)) : gb116 ≠ gb113)); have n8_ := Aside0.mk ((by rw [hg]; exact Nat.ne_of_lt (blk_lt (g := gb114) (o := .cells #[.int .i64 a1_2, .int .i64 a1_3, .int .i64 a1_4] 31 (0, 0)) (by (with_reducible repeat (first | refine blk_drewN ?_ _ | refine blk_drew ?_ | refine blk_alloc ?_ _)); exact BK114.out)) : gb114 ≠ gb116)); have n9_ := Aside0.mk ((by rw [hg]; exact Nat.ne_of_gt (blk_lt (g := gb114) (o := .cells #[.int .i64 a1_2, .int .i64 a1_3, .int .i64 a1_4] 31 (0, 0)) (by (with_reducible repeat (first | refine blk_drewN ?_ _ | refine blk_drew ?_ | refine blk_alloc ?_ _)); exact BK114.out)) : gb116 ≠ gb114)); clear BK113; clear BK114; clear HB; have BK113 := n0_; have BK114 := n1_; have HB := n2_; have BK116 := n3_; have GW116 := n4_; have GE116 := n5_; have NB113_116 := n6_; have NB116_113 := n7_; have NB114_116 := n8_; have NB116_114 := n9_; clear n0_ n1_ n2_ n3_ n4_ n5_ n6_ n7_ n8_ n9_; clear hb hbox hg; have hnb33 := NB116_113.out; have hnc33 := NB113_116.out; have hnb34 := NB116_114.out; have hnc34 := NB114_116.out; have hcz35_0 : w32.cell? ⟨gb116, 0, none⟩ = some (.int .i64 0) := (blk_cell BK116.out 0).trans rfl; have hcz35_1 : w32.cell? ⟨gb116, 1, none⟩ = some (.int .i64 0) := (blk_cell BK116.out 1).trans rfl; have hcz35_2 : w32.cell? ⟨gb116, 2, none⟩ = some (.int .i64 0) := (blk_cell BK116.out 2).trans rfl; have hcz35_3 : w32.cell? ⟨gb116, 3, none⟩ = some (.int .i64 0) := (blk_cell BK116.out 3).trans rfl; have hcz35_4 : w32.cell? ⟨gb116, 4, none⟩ = some (.int .i64 0) := (blk_cell BK116.out 4).trans rfl; have hfz35_0 := blk_frozen BK116.out 0; have hfz35_1 := blk_frozen BK116.out 1; have hfz35_2 := blk_frozen BK116.out 2; have hfz35_3 := blk_frozen BK116.out 3; have hfz35_4 := blk_frozen BK116.out 4))
              (try simp only [Act.put, List.setIfInBounds_toArray, List.set_cons_zero, List.set_cons_succ])
              go_cut [64] (fun v64 wc => ∃ (kq : Nat) (x64_30 : Bool), v64 = .bool x64_30 ∧ Aside0 (deadboltref18_bad.j1 kq l0 x64_30 a1_2 a1_3 a1_4 = some r) ∧ Aside0 (kq ≤ kj2) ∧ Aside0 (wc.heap[gb113]? = some (.cells #[.int .i64 a1_0, .int .i64 a1_1, .int .i64 a1_2, .int .i64 a1_3, .int .i64 a1_4] 33 (0, 0))) ∧ Aside0 (wc.heap[gb114]? = some (.cells #[.int .i64 a1_2, .int .i64 a1_3, .int .i64 a1_4] 31 (0, 0))) ∧ Aside0 (wc.heap[gb116]? = some (.cells #[.int .i64 ((rd_T33 l0 (ji28)).f0), .int .i64 ((rd_T33 l0 (ji28)).f1), .int .i64 ((rd_T33 l0 (ji28)).f2.f0), .int .i64 ((rd_T33 l0 (ji28)).f2.f1), .int .i64 ((rd_T33 l0 (ji28)).f2.f2)] 33 (0, 0))) ∧ Aside0 (Below w.heap.size w wc))
              case first =>
                have H := HC31.out
                clear HC31
                by_cases c36 : a1_0 < ((rd_T33 l0 (ji28)).f0)
                · rw [if_pos c36] at H
                  have c36b0 : decide (a1_0 < ((rd_T33 l0 (ji28)).f0)) = true := decide_eq_true c36
                  clear c36
                  (first | rw [c36b0] | (simp only [i64_w, i32_w]; rw [c36b0]) | skip)
                  have H' := Aside0.mk H
                  clear H
                  have hnb37 := NB113_114.out
                  have hnc37 := NB114_113.out
                  have hnb38 := NB113_116.out
                  have hnc38 := NB116_113.out
                  have hcz39_0 : w32.cell? ⟨gb113, 0, none⟩ = some (.int .i64 a1_0) := (blk_cell BK113.out 0).trans rfl
                  have hcz39_1 : w32.cell? ⟨gb113, 1, none⟩ = some (.int .i64 a1_1) := (blk_cell BK113.out 1).trans rfl
                  have hcz39_2 : w32.cell? ⟨gb113, 2, none⟩ = some (.int .i64 a1_2) := (blk_cell BK113.out 2).trans rfl
                  have hcz39_3 : w32.cell? ⟨gb113, 3, none⟩ = some (.int .i64 a1_3) := (blk_cell BK113.out 3).trans rfl
                  have hcz39_4 : w32.cell? ⟨gb113, 4, none⟩ = some (.int .i64 a1_4) := (blk_cell BK113.out 4).trans rfl
                  have hfz39_0 := blk_frozen BK113.out 0
                  have hfz39_1 := blk_frozen BK113.out 1
                  have hfz39_2 := blk_frozen BK113.out 2
                  have hfz39_3 := blk_frozen BK113.out 3
                  have hfz39_4 := blk_frozen BK113.out 4
                  have hnb40 := NB116_114.out
                  have hnc40 := NB114_116.out
                  have hcz41_0 : w32.cell? ⟨gb116, 0, none⟩ = some (.int .i64 0) := (blk_cell BK116.out 0).trans rfl
                  have hcz41_1 : w32.cell? ⟨gb116, 1, none⟩ = some (.int .i64 0) := (blk_cell BK116.out 1).trans rfl
                  have hcz41_2 : w32.cell? ⟨gb116, 2, none⟩ = some (.int .i64 0) := (blk_cell BK116.out 2).trans rfl
                  have hcz41_3 : w32.cell? ⟨gb116, 3, none⟩ = some (.int .i64 0) := (blk_cell BK116.out 3).trans rfl
                  have hcz41_4 : w32.cell? ⟨gb116, 4, none⟩ = some (.int .i64 0) := (blk_cell BK116.out 4).trans rfl
                  have hfz41_0 := blk_frozen BK116.out 0
                  have hfz41_1 := blk_frozen BK116.out 1
                  have hfz41_2 := blk_frozen BK116.out 2
                  have hfz41_3 := blk_frozen BK116.out 3
                  have hfz41_4 := blk_frozen BK116.out 4
                  go_wp2
                  go_meet
                  case rel => exact ⟨_, (true), (by first | rfl | (simp; done) | (simp [*]; done)), H', ⟨by have := HJ2.out; first | omega | exact Nat.le_refl _⟩, ⟨by (with_reducible repeat (first | refine blk_drewN ?_ _ | refine blk_drew ?_ | refine blk_alloc ?_ _)); refine blk_far ?_ NB113_116.out _; (with_reducible repeat (first | refine blk_drewN ?_ _ | refine blk_drew ?_ | refine blk_alloc ?_ _)); refine blk_far ?_ NB113_116.out _; (with_reducible repeat (first | refine blk_drewN ?_ _ | refine blk_drew ?_ | refine blk_alloc ?_ _)); refine blk_far ?_ NB113_116.out _; (with_reducible repeat (first | refine blk_drewN ?_ _ | refine blk_drew ?_ | refine blk_alloc ?_ _)); refine blk_far ?_ NB113_116.out _; (with_reducible repeat (first | refine blk_drewN ?_ _ | refine blk_drew ?_ | refine blk_alloc ?_ _)); refine blk_far ?_ NB113_116.out _; (with_reducible repeat (first | refine blk_drewN ?_ _ | refine blk_drew ?_ | refine blk_alloc ?_ _)); exact BK113.out⟩, ⟨by (with_reducible repeat (first | refine blk_drewN ?_ _ | refine blk_drew ?_ | refine blk_alloc ?_ _)); refine blk_far ?_ NB114_116.out _; (with_reducible repeat (first | refine blk_drewN ?_ _ | refine blk_drew ?_ | refine blk_alloc ?_ _)); refine blk_far ?_ NB114_116.out _; (with_reducible repeat (first | refine blk_drewN ?_ _ | refine blk_drew ?_ | refine blk_alloc ?_ _)); refine blk_far ?_ NB114_116.out _; (with_reducible repeat (first | refine blk_drewN ?_ _ | refine blk_drew ?_ | refine blk_alloc ?_ _)); refine blk_far ?_ NB114_116.out _; (with_reducible repeat (first | refine blk_drewN ?_ _ | refine blk_drew ?_ | refine blk_alloc ?_ _)); refine blk_far ?_ NB114_116.out _; (with_reducible repeat (first | refine blk_drewN ?_ _ | refine blk_drew ?_ | refine blk_alloc ?_ _)); exact BK114.out⟩, ⟨by (with_reducible repeat (first | refine blk_drewN ?_ _ | refine blk_drew ?_ | refine blk_alloc ?_ _)); refine blk_put (cs := #[.int .i64 ((rd_T33 l0 (ji28)).f0), .int .i64 ((rd_T33 l0 (ji28)).f1), .int .i64 ((rd_T33 l0 (ji28)).f2.f0), .int .i64 ((rd_T33 l0 (ji28)).f2.f1), .int .i64 0]) ?_ 4 _ rfl; (with_reducible repeat (first | refine blk_drewN ?_ _ | refine blk_drew ?_ | refine blk_alloc ?_ _)); refine blk_put (cs := #[.int .i64 ((rd_T33 l0 (ji28)).f0), .int .i64 ((rd_T33 l0 (ji28)).f1), .int .i64 ((rd_T33 l0 (ji28)).f2.f0), .int .i64 0, .int .i64 0]) ?_ 3 _ rfl; (with_reducible repeat (first | refine blk_drewN ?_ _ | refine blk_drew ?_ | refine blk_alloc ?_ _)); refine blk_put (cs := #[.int .i64 ((rd_T33 l0 (ji28)).f0), .int .i64 ((rd_T33 l0 (ji28)).f1), .int .i64 0, .int .i64 0, .int .i64 0]) ?_ 2 _ rfl; (with_reducible repeat (first | refine blk_drewN ?_ _ | refine blk_drew ?_ | refine blk_alloc ?_ _)); refine blk_put (cs := #[.int .i64 ((rd_T33 l0 (ji28)).f0), .int .i64 0, .int .i64 0, .int .i64 0, .int .i64 0]) ?_ 1 _ rfl; (with_reducible repeat (first | refine blk_drewN ?_ _ | refine blk_drew ?_ | refine blk_alloc ?_ _)); refine blk_put (cs := #[.int .i64 0, .int .i64 0, .int .i64 0, .int .i64 0, .int .i64 0]) ?_ 0 _ rfl; (with_reducible repeat (first | refine blk_drewN ?_ _ | refine blk_drew ?_ | refine blk_alloc ?_ _)); exact BK116.out⟩, ⟨by repeat (first | (with_reducible first | exact HB.out | apply below_alloc | apply pw_below_drewN | apply below_drew1 | refine below_set ?_ GE113.out | refine below_set ?_ GE114.out | refine below_set ?_ GE116.out) | exact HB.out)⟩⟩
                · rw [if_neg c36] at H
                  have c36b0 : decide (a1_0 < ((rd_T33 l0 (ji28)).f0)) = false := decide_eq_false c36
                  clear c36
                  (first | rw [c36b0] | (simp only [i64_w, i32_w]; rw [c36b0]) | skip)
                  by_cases c42 : a1_1 < ((rd_T33 l0 (ji28)).f1)
                  · rw [if_pos c42] at H
                    have c42b0 : decide (a1_1 < ((rd_T33 l0 (ji28)).f1)) = true := decide_eq_true c42
                    clear c42
                    have H' := Aside0.mk H
                    clear H
                    have hnb43 := NB113_114.out
                    have hnc43 := NB114_113.out
                    have hnb44 := NB113_116.out
                    have hnc44 := NB116_113.out
                    have hcz45_0 : w32.cell? ⟨gb113, 0, none⟩ = some (.int .i64 a1_0) := (blk_cell BK113.out 0).trans rfl
                    have hcz45_1 : w32.cell? ⟨gb113, 1, none⟩ = some (.int .i64 a1_1) := (blk_cell BK113.out 1).trans rfl
                    have hcz45_2 : w32.cell? ⟨gb113, 2, none⟩ = some (.int .i64 a1_2) := (blk_cell BK113.out 2).trans rfl
                    have hcz45_3 : w32.cell? ⟨gb113, 3, none⟩ = some (.int .i64 a1_3) := (blk_cell BK113.out 3).trans rfl
                    have hcz45_4 : w32.cell? ⟨gb113, 4, none⟩ = some (.int .i64 a1_4) := (blk_cell BK113.out 4).trans rfl
                    have hfz45_0 := blk_frozen BK113.out 0
                    have hfz45_1 := blk_frozen BK113.out 1
                    have hfz45_2 := blk_frozen BK113.out 2
                    have hfz45_3 := blk_frozen BK113.out 3
                    have hfz45_4 := blk_frozen BK113.out 4
                    have hnb46 := NB116_114.out
                    have hnc46 := NB114_116.out
                    have hcz47_0 : w32.cell? ⟨gb116, 0, none⟩ = some (.int .i64 0) := (blk_cell BK116.out 0).trans rfl
                    have hcz47_1 : w32.cell? ⟨gb116, 1, none⟩ = some (.int .i64 0) := (blk_cell BK116.out 1).trans rfl
                    have hcz47_2 : w32.cell? ⟨gb116, 2, none⟩ = some (.int .i64 0) := (blk_cell BK116.out 2).trans rfl
                    have hcz47_3 : w32.cell? ⟨gb116, 3, none⟩ = some (.int .i64 0) := (blk_cell BK116.out 3).trans rfl
                    have hcz47_4 : w32.cell? ⟨gb116, 4, none⟩ = some (.int .i64 0) := (blk_cell BK116.out 4).trans rfl
                    have hfz47_0 := blk_frozen BK116.out 0
                    have hfz47_1 := blk_frozen BK116.out 1
                    have hfz47_2 := blk_frozen BK116.out 2
                    have hfz47_3 := blk_frozen BK116.out 3
                    have hfz47_4 := blk_frozen BK116.out 4
                    go_wp2
                    go_meet
                    case rel => exact ⟨_, (true), (by first | rfl | (simp; done) | (simp [*]; done)), H', ⟨by have := HJ2.out; first | omega | exact Nat.le_refl _⟩, ⟨by (with_reducible repeat (first | refine blk_drewN ?_ _ | refine blk_drew ?_ | refine blk_alloc ?_ _)); refine blk_far ?_ NB113_116.out _; (with_reducible repeat (first | refine blk_drewN ?_ _ | refine blk_drew ?_ | refine blk_alloc ?_ _)); refine blk_far ?_ NB113_116.out _; (with_reducible repeat (first | refine blk_drewN ?_ _ | refine blk_drew ?_ | refine blk_alloc ?_ _)); refine blk_far ?_ NB113_116.out _; (with_reducible repeat (first | refine blk_drewN ?_ _ | refine blk_drew ?_ | refine blk_alloc ?_ _)); refine blk_far ?_ NB113_116.out _; (with_reducible repeat (first | refine blk_drewN ?_ _ | refine blk_drew ?_ | refine blk_alloc ?_ _)); refine blk_far ?_ NB113_116.out _; (with_reducible repeat (first | refine blk_drewN ?_ _ | refine blk_drew ?_ | refine blk_alloc ?_ _)); exact BK113.out⟩, ⟨by (with_reducible repeat (first | refine blk_drewN ?_ _ | refine blk_drew ?_ | refine blk_alloc ?_ _)); refine blk_far ?_ NB114_116.out _; (with_reducible repeat (first | refine blk_drewN ?_ _ | refine blk_drew ?_ | refine blk_alloc ?_ _)); refine blk_far ?_ NB114_116.out _; (with_reducible repeat (first | refine blk_drewN ?_ _ | refine blk_drew ?_ | refine blk_alloc ?_ _)); refine blk_far ?_ NB114_116.out _; (with_reducible repeat (first | refine blk_drewN ?_ _ | refine blk_drew ?_ | refine blk_alloc ?_ _)); refine blk_far ?_ NB114_116.out _; (with_reducible repeat (first | refine blk_drewN ?_ _ | refine blk_drew ?_ | refine blk_alloc ?_ _)); refine blk_far ?_ NB114_116.out _; (with_reducible repeat (first | refine blk_drewN ?_ _ | refine blk_drew ?_ | refine blk_alloc ?_ _)); exact BK114.out⟩, ⟨by (with_reducible repeat (first | refine blk_drewN ?_ _ | refine blk_drew ?_ | refine blk_alloc ?_ _)); refine blk_put (cs := #[.int .i64 ((rd_T33 l0 (ji28)).f0), .int .i64 ((rd_T33 l0 (ji28)).f1), .int .i64 ((rd_T33 l0 (ji28)).f2.f0), .int .i64 ((rd_T33 l0 (ji28)).f2.f1), .int .i64 0]) ?_ 4 _ rfl; (with_reducible repeat (first | refine blk_drewN ?_ _ | refine blk_drew ?_ | refine blk_alloc ?_ _)); refine blk_put (cs := #[.int .i64 ((rd_T33 l0 (ji28)).f0), .int .i64 ((rd_T33 l0 (ji28)).f1), .int .i64 ((rd_T33 l0 (ji28)).f2.f0), .int .i64 0, .int .i64 0]) ?_ 3 _ rfl; (with_reducible repeat (first | refine blk_drewN ?_ _ | refine blk_drew ?_ | refine blk_alloc ?_ _)); refine blk_put (cs := #[.int .i64 ((rd_T33 l0 (ji28)).f0), .int .i64 ((rd_T33 l0 (ji28)).f1), .int .i64 0, .int .i64 0, .int .i64 0]) ?_ 2 _ rfl; (with_reducible repeat (first | refine blk_drewN ?_ _ | refine blk_drew ?_ | refine blk_alloc ?_ _)); refine blk_put (cs := #[.int .i64 ((rd_T33 l0 (ji28)).f0), .int .i64 0, .int .i64 0, .int .i64 0, .int .i64 0]) ?_ 1 _ rfl; (with_reducible repeat (first | refine blk_drewN ?_ _ | refine blk_drew ?_ | refine blk_alloc ?_ _)); refine blk_put (cs := #[.int .i64 0, .int .i64 0, .int .i64 0, .int .i64 0, .int .i64 0]) ?_ 0 _ rfl; (with_reducible repeat (first | refine blk_drewN ?_ _ | refine blk_drew ?_ | refine blk_alloc ?_ _)); exact BK116.out⟩, ⟨by repeat (first | (with_reducible first | exact HB.out | apply below_alloc | apply pw_below_drewN | apply below_drew1 | refine below_set ?_ GE113.out | refine below_set ?_ GE114.out | refine below_set ?_ GE116.out) | exact HB.out)⟩⟩
                  · rw [if_neg c42] at H
                    have c42b0 : decide (a1_1 < ((rd_T33 l0 (ji28)).f1)) = false := decide_eq_false c42
                    clear c42
                    have H' := Aside0.mk H
                    clear H
                    have hnb48 := NB113_114.out
                    have hnc48 := NB114_113.out
                    have hnb49 := NB113_116.out
                    have hnc49 := NB116_113.out
                    have hcz50_0 : w32.cell? ⟨gb113, 0, none⟩ = some (.int .i64 a1_0) := (blk_cell BK113.out 0).trans rfl
                    have hcz50_1 : w32.cell? ⟨gb113, 1, none⟩ = some (.int .i64 a1_1) := (blk_cell BK113.out 1).trans rfl
                    have hcz50_2 : w32.cell? ⟨gb113, 2, none⟩ = some (.int .i64 a1_2) := (blk_cell BK113.out 2).trans rfl
                    have hcz50_3 : w32.cell? ⟨gb113, 3, none⟩ = some (.int .i64 a1_3) := (blk_cell BK113.out 3).trans rfl
                    have hcz50_4 : w32.cell? ⟨gb113, 4, none⟩ = some (.int .i64 a1_4) := (blk_cell BK113.out 4).trans rfl
                    have hfz50_0 := blk_frozen BK113.out 0
                    have hfz50_1 := blk_frozen BK113.out 1
                    have hfz50_2 := blk_frozen BK113.out 2
                    have hfz50_3 := blk_frozen BK113.out 3
                    have hfz50_4 := blk_frozen BK113.out 4
                    have hnb51 := NB116_114.out
                    have hnc51 := NB114_116.out
                    have hcz52_0 : w32.cell? ⟨gb116, 0, none⟩ = some (.int .i64 0) := (blk_cell BK116.out 0).trans rfl
                    have hcz52_1 : w32.cell? ⟨gb116, 1, none⟩ = some (.int .i64 0) := (blk_cell BK116.out 1).trans rfl
                    have hcz52_2 : w32.cell? ⟨gb116, 2, none⟩ = some (.int .i64 0) := (blk_cell BK116.out 2).trans rfl
                    have hcz52_3 : w32.cell? ⟨gb116, 3, none⟩ = some (.int .i64 0) := (blk_cell BK116.out 3).trans rfl
                    have hcz52_4 : w32.cell? ⟨gb116, 4, none⟩ = some (.int .i64 0) := (blk_cell BK116.out 4).trans rfl
                    have hfz52_0 := blk_frozen BK116.out 0
                    have hfz52_1 := blk_frozen BK116.out 1
                    have hfz52_2 := blk_frozen BK116.out 2
                    have hfz52_3 := blk_frozen BK116.out 3
                    have hfz52_4 := blk_frozen BK116.out 4
                    go_wp2
                    go_meet
                    case rel => exact ⟨_, ((((rd_T33 l0 (ji28)).f2.f1) == 4)), (by first | rfl | (simp; done) | (simp only [← hji28] <;> (first | rfl | simp)) | (simp [*]; done)), H', ⟨by have := HJ2.out; first | omega | exact Nat.le_refl _⟩, ⟨by (with_reducible repeat (first | refine blk_drewN ?_ _ | refine blk_drew ?_ | refine blk_alloc ?_ _)); refine blk_far ?_ NB113_116.out _; (with_reducible repeat (first | refine blk_drewN ?_ _ | refine blk_drew ?_ | refine blk_alloc ?_ _)); refine blk_far ?_ NB113_116.out _; (with_reducible repeat (first | refine blk_drewN ?_ _ | refine blk_drew ?_ | refine blk_alloc ?_ _)); refine blk_far ?_ NB113_116.out _; (with_reducible repeat (first | refine blk_drewN ?_ _ | refine blk_drew ?_ | refine blk_alloc ?_ _)); refine blk_far ?_ NB113_116.out _; (with_reducible repeat (first | refine blk_drewN ?_ _ | refine blk_drew ?_ | refine blk_alloc ?_ _)); refine blk_far ?_ NB113_116.out _; (with_reducible repeat (first | refine blk_drewN ?_ _ | refine blk_drew ?_ | refine blk_alloc ?_ _)); exact BK113.out⟩, ⟨by (with_reducible repeat (first | refine blk_drewN ?_ _ | refine blk_drew ?_ | refine blk_alloc ?_ _)); refine blk_far ?_ NB114_116.out _; (with_reducible repeat (first | refine blk_drewN ?_ _ | refine blk_drew ?_ | refine blk_alloc ?_ _)); refine blk_far ?_ NB114_116.out _; (with_reducible repeat (first | refine blk_drewN ?_ _ | refine blk_drew ?_ | refine blk_alloc ?_ _)); refine blk_far ?_ NB114_116.out _; (with_reducible repeat (first | refine blk_drewN ?_ _ | refine blk_drew ?_ | refine blk_alloc ?_ _)); refine blk_far ?_ NB114_116.out _; (with_reducible repeat (first | refine blk_drewN ?_ _ | refine blk_drew ?_ | refine blk_alloc ?_ _)); refine blk_far ?_ NB114_116.out _; (with_reducible repeat (first | refine blk_drewN ?_ _ | refine blk_drew ?_ | refine blk_alloc ?_ _)); exact BK114.out⟩, ⟨by (with_reducible repeat (first | refine blk_drewN ?_ _ | refine blk_drew ?_ | refine blk_alloc ?_ _)); refine blk_put (cs := #[.int .i64 ((rd_T33 l0 (ji28)).f0), .int .i64 ((rd_T33 l0 (ji28)).f1), .int .i64 ((rd_T33 l0 (ji28)).f2.f0), .int .i64 ((rd_T33 l0 (ji28)).f2.f1), .int .i64 0]) ?_ 4 _ rfl; (with_reducible repeat (first | refine blk_drewN ?_ _ | refine blk_drew ?_ | refine blk_alloc ?_ _)); refine blk_put (cs := #[.int .i64 ((rd_T33 l0 (ji28)).f0), .int .i64 ((rd_T33 l0 (ji28)).f1), .int .i64 ((rd_T33 l0 (ji28)).f2.f0), .int .i64 0, .int .i64 0]) ?_ 3 _ rfl; (with_reducible repeat (first | refine blk_drewN ?_ _ | refine blk_drew ?_ | refine blk_alloc ?_ _)); refine blk_put (cs := #[.int .i64 ((rd_T33 l0 (ji28)).f0), .int .i64 ((rd_T33 l0 (ji28)).f1), .int .i64 0, .int .i64 0, .int .i64 0]) ?_ 2 _ rfl; (with_reducible repeat (first | refine blk_drewN ?_ _ | refine blk_drew ?_ | refine blk_alloc ?_ _)); refine blk_put (cs := #[.int .i64 ((rd_T33 l0 (ji28)).f0), .int .i64 0, .int .i64 0, .int .i64 0, .int .i64 0]) ?_ 1 _ rfl; (with_reducible repeat (first | refine blk_drewN ?_ _ | refine blk_drew ?_ | refine blk_alloc ?_ _)); refine blk_put (cs := #[.int .i64 0, .int .i64 0, .int .i64 0, .int .i64 0, .int .i64 0]) ?_ 0 _ rfl; (with_reducible repeat (first | refine blk_drewN ?_ _ | refine blk_drew ?_ | refine blk_alloc ?_ _)); exact BK116.out⟩, ⟨by repeat (first | (with_reducible first | exact HB.out | apply below_alloc | apply pw_below_drewN | apply below_drew1 | refine below_set ?_ GE113.out | refine below_set ?_ GE114.out | refine below_set ?_ GE116.out) | exact HB.out)⟩⟩
              case rest =>
                clear HC31
                try clear c1
                try clear p1
                try clear q1
                try clear hx1
                try clear c2
                try clear p2
                try clear c3
                try clear c4
                try clear c5
                try clear p6
                try clear c7
                try clear c9
                try clear c9b0
                try clear c10
                try clear p11
                try clear q11
                try clear hx11
                try clear c12
                try clear c12b0
                try clear c13
                try clear c15
                try clear c15b0
                try clear c16
                try clear c18
                try clear c18b0
                try clear c19
                try clear c21
                try clear c21b0
                try clear c22
                try clear c24
                try clear c26
                try clear c27
                try clear c27b0
                try clear c27b1
                try clear c29
                try clear c29b0
                try clear c30
                try clear c30b0
                try clear c33
                try clear c34
                try clear c36
                try clear c36b0
                try clear c37
                try clear c38
                try clear c40
                try clear c42
                try clear c42b0
                try clear c43
                try clear c44
                try clear c46
                try clear c48
                try clear c49
                try clear c51
                try clear hcz11_0
                try clear hcz11_1
                try clear hcz11_2
                try clear hcz14_0
                try clear hcz14_1
                try clear hcz14_2
                try clear hcz17_0
                try clear hcz17_1
                try clear hcz17_2
                try clear hcz20_0
                try clear hcz20_1
                try clear hcz20_2
                try clear hcz23_0
                try clear hcz23_1
                try clear hcz23_2
                try clear hcz25_0
                try clear hcz25_1
                try clear hcz25_2
                try clear hcz35_0
                try clear hcz35_1
                try clear hcz35_2
                try clear hcz35_3
                try clear hcz35_4
                try clear hcz39_0
                try clear hcz39_1
                try clear hcz39_2
                try clear hcz39_3
                try clear hcz39_4
                try clear hcz41_0
                try clear hcz41_1
                try clear hcz41_2
                try clear hcz41_3
                try clear hcz41_4
                try clear hcz45_0
                try clear hcz45_1
                try clear hcz45_2
                try clear hcz45_3
                try clear hcz45_4
                try clear hcz47_0
                try clear hcz47_1
                try clear hcz47_2
                try clear hcz47_3
                try clear hcz47_4
                try clear hcz50_0
                try clear hcz50_1
                try clear hcz50_2
                try clear hcz50_3
                try clear hcz50_4
                try clear hcz52_0
                try clear hcz52_1
                try clear hcz52_2
                try clear hcz52_3
                try clear hcz52_4
                try clear hcz5_0
                try clear hcz5_1
                try clear hcz5_2
                try clear hcz5_3
                try clear hcz5_4
                try clear hcz8_0
                try clear hcz8_1
                try clear hcz8_2
                try clear hfz11_0
                try clear hfz11_1
                try clear hfz11_2
                try clear hfz14_0
                try clear hfz14_1
                try clear hfz14_2
                try clear hfz17_0
                try clear hfz17_1
                try clear hfz17_2
                try clear hfz20_0
                try clear hfz20_1
                try clear hfz20_2
                try clear hfz23_0
                try clear hfz23_1
                try clear hfz23_2
                try clear hfz25_0
                try clear hfz25_1
                try clear hfz25_2
                try clear hfz35_0
                try clear hfz35_1
                try clear hfz35_2
                try clear hfz35_3
                try clear hfz35_4
                try clear hfz39_0
                try clear hfz39_1
                try clear hfz39_2
                try clear hfz39_3
                try clear hfz39_4
                try clear hfz41_0
                try clear hfz41_1
                try clear hfz41_2
                try clear hfz41_3
                try clear hfz41_4
                try clear hfz45_0
                try clear hfz45_1
                try clear hfz45_2
                try clear hfz45_3
                try clear hfz45_4
                try clear hfz47_0
                try clear hfz47_1
                try clear hfz47_2
                try clear hfz47_3
                try clear hfz47_4
                try clear hfz50_0
                try clear hfz50_1
                try clear hfz50_2
                try clear hfz50_3
                try clear hfz50_4
                try clear hfz52_0
                try clear hfz52_1
                try clear hfz52_2
                try clear hfz52_3
                try clear hfz52_4
                try clear hfz5_0
                try clear hfz5_1
                try clear hfz5_2
                try clear hfz5_3
                try clear hfz5_4
                try clear hfz8_0
                try clear hfz8_1
                try clear hfz8_2
                try clear hx115_0
                try clear hx115_1
                try clear hx115_2
                try clear hx115_3
                try clear hx115_4
                try clear p115
                try clear p2
                try clear q115
                obtain ⟨kq, x64_30, rfl, HA, HJ30, BK113, BK114, BK116, HB⟩ := hcut
                cases kq with
                | zero => exact absurd HA.out (by simp [deadboltref18_bad.j1])
                | succ kj30 =>
                  have H := HA.out
                  clear HA
                  simp only [deadboltref18_bad.j1] at H
                  by_cases c53 : x64_30 = true
                  · subst c53
                    have H1 : (some true) = some r := by rw [if_pos rfl] at H; exact H
                    clear H
                    have H := H1
                    clear H1
                    obtain rfl := Option.some.inj H
                    go_wp2
                    go_ret
                    exact ⟨by first | rfl | (simp [errW_none, errW_some] <;> rfl) | (simp only [← hji28]; first | rfl | (simp [errW_none, errW_some] <;> rfl)) | (simp [*, errW_none, errW_some] <;> rfl), by repeat (first | (with_reducible first | exact HB.out | apply below_alloc | apply pw_below_drewN | apply below_drew1 | refine below_set ?_ GE113.out | refine below_set ?_ GE114.out | refine below_set ?_ GE116.out) | exact HB.out)⟩
                  · replace c53 := Bool.eq_false_iff.mpr c53
                    subst c53
                    have H1 : ((deadboltref18_Holder.f kj30 l0 a1_4).bind fun t117 => (if a1_3 = 3 then (some (!(decide (t117 ≥ 0)))) else (if t117 ≥ 0 then (some (a1_3 != 2)) else (some false)))) = some r := by rw [if_neg (show ¬ (false = true) by decide)] at H; exact H
                    clear H
                    have H := H1
                    clear H1
                    replace H := Option.bind_eq_some_iff.mp H
                    obtain ⟨t117, A540, H⟩ := H
                    replace H : (if a1_3 = 3 then (some (!(decide (t117 ≥ 0)))) else (if t117 ≥ 0 then (some (a1_3 != 2)) else (some false))) = some r := H
                    have A54 := Aside0.mk A540
                    clear A540
                    by_cases c55 : a1_3 = 3
                    · rw [if_pos c55] at H
                      have c55b0 : (a1_3 == 3) = true := beq_iff_eq.mpr c55
                      have c55b1 : (a1_3 != 3) = false := bne_eq_false_iff_eq.mpr c55
                      clear c55
                      obtain rfl := Option.some.inj H
                      have hnb56 := NB114_113.out
                      have hnc56 := NB113_114.out
                      have hnb57 := NB114_116.out
                      have hnc57 := NB116_114.out
                      have hcz58_0 : wc.cell? ⟨gb114, 0, none⟩ = some (.int .i64 a1_2) := (blk_cell BK114.out 0).trans rfl
                      have hcz58_1 : wc.cell? ⟨gb114, 1, none⟩ = some (.int .i64 a1_3) := (blk_cell BK114.out 1).trans rfl
                      have hcz58_2 : wc.cell? ⟨gb114, 2, none⟩ = some (.int .i64 a1_4) := (blk_cell BK114.out 2).trans rfl
                      have hfz58_0 := blk_frozen BK114.out 0
                      have hfz58_1 := blk_frozen BK114.out 1
                      have hfz58_2 := blk_frozen BK114.out 2
                      go_wp2_with (first | ((with_reducible refine gate_callee (f := 54) rfl ?_); refine goesL_ (some 68) rfl rfl Try.func54 (by kernel_rfl) rfl #[.slice (some ad115) l0.length c0, .int .i64 a1_4] rfl (by (try simp only [List.map_toArray, List.map_cons, List.map_nil]); first | done | rfl | (simp only [List.length_drop, List.length_take]; rfl)) ?_; (with_reducible refine (deadboltref18_Holder.calls kj30 _ _ l0 a1_4 t117 _ ?side1 ?side2 A54.out).mono ?_); (case side1 => repeat (first | exact (Kd.C_below HR0.out HB.out) | (with_reducible refine Kd.C_alloc ?_ _) | (with_reducible refine Kd.C_drewN ?_ _) | (with_reducible refine Kd.C_drew ?_))); (case side2 => exact HC0.out); rintro e w59 ⟨rfl, hb⟩; refine ⟨_, rfl, ?_⟩; have n0_ := Aside0.mk (blk_below (g := gb113) (o := .cells #[.int .i64 a1_0, .int .i64 a1_1, .int .i64 a1_2, .int .i64 a1_3, .int .i64 a1_4] 33 (0, 0)) (by (with_reducible repeat (first | refine blk_drewN ?_ _ | refine blk_drew ?_ | refine blk_alloc ?_ _)); exact BK113.out) hb); have n1_ := Aside0.mk (blk_below (g := gb114) (o := .cells #[.int .i64 a1_2, .int .i64 a1_3, .int .i64 a1_4] 31 (0, 0)) (by (with_reducible repeat (first | refine blk_drewN ?_ _ | refine blk_drew ?_ | refine blk_alloc ?_ _)); exact BK114.out) hb); have n2_ := Aside0.mk (blk_below (g := gb116) (o := .cells #[.int .i64 ((rd_T33 l0 (ji28)).f0), .int .i64 ((rd_T33 l0 (ji28)).f1), .int .i64 ((rd_T33 l0 (ji28)).f2.f0), .int .i64 ((rd_T33 l0 (ji28)).f2.f1), .int .i64 ((rd_T33 l0 (ji28)).f2.f2)] 33 (0, 0)) (by (with_reducible repeat (first | refine blk_drewN ?_ _ | refine blk_drew ?_ | refine blk_alloc ?_ _)); exact BK116.out) hb); have n3_ := Aside0.mk (below_step (by repeat (first | (with_reducible first | exact HB.out | apply below_alloc | apply pw_below_drewN | apply below_drew1 | refine below_set ?_ GE113.out | refine below_set ?_ GE114.out | refine below_set ?_ GE116.out) | exact HB.out)) hb); clear BK113; clear BK114; clear BK116; clear HB; have BK113 := n0_; have BK114 := n1_; have BK116 := n2_; have HB := n3_; clear n0_ n1_ n2_ n3_; (try clear hb); (try clear hb2); (try clear hk); (try clear hi); have hcz60_0 : w59.cell? ⟨gb114, 0, none⟩ = some (.int .i64 a1_2) := (blk_cell BK114.out 0).trans rfl; have hcz60_1 : w59.cell? ⟨gb114, 1, none⟩ = some (.int .i64 a1_3) := (blk_cell BK114.out 1).trans rfl; have hcz60_2 : w59.cell? ⟨gb114, 2, none⟩ = some (.int .i64 a1_4) := (blk_cell BK114.out 2).trans rfl; have hfz60_0 := blk_frozen BK114.out 0; have hfz60_1 := blk_frozen BK114.out 1; have hfz60_2 := blk_frozen BK114.out 2))
                      go_ret
                      exact ⟨by first | rfl | (simp [errW_none, errW_some] <;> rfl) | (simp only [← hji28]; first | rfl | (simp [errW_none, errW_some] <;> rfl)) | (simp [*, errW_none, errW_some] <;> rfl), by repeat (first | (with_reducible first | exact HB.out | apply below_alloc | apply pw_below_drewN | apply below_drew1 | refine below_set ?_ GE113.out | refine below_set ?_ GE114.out | refine below_set ?_ GE116.out) | exact HB.out)⟩
                    · rw [if_neg c55] at H
                      have c55b0 : (a1_3 == 3) = false := beq_eq_false_iff_ne.mpr c55
                      have c55b1 : (a1_3 != 3) = true := bne_iff_ne.mpr c55
                      by_cases c61 : t117 ≥ 0
                      · rw [if_pos c61] at H
                        have c61b0 : decide (0 ≤ t117) = true := decide_eq_true c61
                        clear c61
                        obtain rfl := Option.some.inj H
                        have hnb62 := NB114_113.out
                        have hnc62 := NB113_114.out
                        have hnb63 := NB114_116.out
                        have hnc63 := NB116_114.out
                        have hcz64_0 : wc.cell? ⟨gb114, 0, none⟩ = some (.int .i64 a1_2) := (blk_cell BK114.out 0).trans rfl
                        have hcz64_1 : wc.cell? ⟨gb114, 1, none⟩ = some (.int .i64 a1_3) := (blk_cell BK114.out 1).trans rfl
                        have hcz64_2 : wc.cell? ⟨gb114, 2, none⟩ = some (.int .i64 a1_4) := (blk_cell BK114.out 2).trans rfl
                        have hfz64_0 := blk_frozen BK114.out 0
                        have hfz64_1 := blk_frozen BK114.out 1
                        have hfz64_2 := blk_frozen BK114.out 2
                        go_wp2_with (first | ((with_reducible refine gate_callee (f := 54) rfl ?_); refine goesL_ (some 68) rfl rfl Try.func54 (by kernel_rfl) rfl #[.slice (some ad115) l0.length c0, .int .i64 a1_4] rfl (by (try simp only [List.map_toArray, List.map_cons, List.map_nil]); first | done | rfl | (simp only [List.length_drop, List.length_take]; rfl)) ?_; (with_reducible refine (deadboltref18_Holder.calls kj30 _ _ l0 a1_4 t117 _ ?side1 ?side2 A54.out).mono ?_); (case side1 => repeat (first | exact (Kd.C_below HR0.out HB.out) | (with_reducible refine Kd.C_alloc ?_ _) | (with_reducible refine Kd.C_drewN ?_ _) | (with_reducible refine Kd.C_drew ?_))); (case side2 => exact HC0.out); rintro e w65 ⟨rfl, hb⟩; refine ⟨_, rfl, ?_⟩; have n0_ := Aside0.mk (blk_below (g := gb113) (o := .cells #[.int .i64 a1_0, .int .i64 a1_1, .int .i64 a1_2, .int .i64 a1_3, .int .i64 a1_4] 33 (0, 0)) (by (with_reducible repeat (first | refine blk_drewN ?_ _ | refine blk_drew ?_ | refine blk_alloc ?_ _)); exact BK113.out) hb); have n1_ := Aside0.mk (blk_below (g := gb114) (o := .cells #[.int .i64 a1_2, .int .i64 a1_3, .int .i64 a1_4] 31 (0, 0)) (by (with_reducible repeat (first | refine blk_drewN ?_ _ | refine blk_drew ?_ | refine blk_alloc ?_ _)); exact BK114.out) hb); have n2_ := Aside0.mk (blk_below (g := gb116) (o := .cells #[.int .i64 ((rd_T33 l0 (ji28)).f0), .int .i64 ((rd_T33 l0 (ji28)).f1), .int .i64 ((rd_T33 l0 (ji28)).f2.f0), .int .i64 ((rd_T33 l0 (ji28)).f2.f1), .int .i64 ((rd_T33 l0 (ji28)).f2.f2)] 33 (0, 0)) (by (with_reducible repeat (first | refine blk_drewN ?_ _ | refine blk_drew ?_ | refine blk_alloc ?_ _)); exact BK116.out) hb); have n3_ := Aside0.mk (below_step (by repeat (first | (with_reducible first | exact HB.out | apply below_alloc | apply pw_below_drewN | apply below_drew1 | refine below_set ?_ GE113.out | refine below_set ?_ GE114.out | refine below_set ?_ GE116.out) | exact HB.out)) hb); clear BK113; clear BK114; clear BK116; clear HB; have BK113 := n0_; have BK114 := n1_; have BK116 := n2_; have HB := n3_; clear n0_ n1_ n2_ n3_; (try clear hb); (try clear hb2); (try clear hk); (try clear hi); have hcz66_0 : w65.cell? ⟨gb114, 0, none⟩ = some (.int .i64 a1_2) := (blk_cell BK114.out 0).trans rfl; have hcz66_1 : w65.cell? ⟨gb114, 1, none⟩ = some (.int .i64 a1_3) := (blk_cell BK114.out 1).trans rfl; have hcz66_2 : w65.cell? ⟨gb114, 2, none⟩ = some (.int .i64 a1_4) := (blk_cell BK114.out 2).trans rfl; have hfz66_0 := blk_frozen BK114.out 0; have hfz66_1 := blk_frozen BK114.out 1; have hfz66_2 := blk_frozen BK114.out 2))
                        go_ret
                        exact ⟨by first | rfl | (simp [errW_none, errW_some] <;> rfl) | (simp only [← hji28]; first | rfl | (simp [errW_none, errW_some] <;> rfl)) | (simp [*, errW_none, errW_some] <;> rfl), by repeat (first | (with_reducible first | exact HB.out | apply below_alloc | apply pw_below_drewN | apply below_drew1 | refine below_set ?_ GE113.out | refine below_set ?_ GE114.out | refine below_set ?_ GE116.out) | exact HB.out)⟩
                      · rw [if_neg c61] at H
                        have c61b0 : decide (0 ≤ t117) = false := decide_eq_false c61
                        clear c61
                        obtain rfl := Option.some.inj H
                        have hnb67 := NB114_113.out
                        have hnc67 := NB113_114.out
                        have hnb68 := NB114_116.out
                        have hnc68 := NB116_114.out
                        have hcz69_0 : wc.cell? ⟨gb114, 0, none⟩ = some (.int .i64 a1_2) := (blk_cell BK114.out 0).trans rfl
                        have hcz69_1 : wc.cell? ⟨gb114, 1, none⟩ = some (.int .i64 a1_3) := (blk_cell BK114.out 1).trans rfl
                        have hcz69_2 : wc.cell? ⟨gb114, 2, none⟩ = some (.int .i64 a1_4) := (blk_cell BK114.out 2).trans rfl
                        have hfz69_0 := blk_frozen BK114.out 0
                        have hfz69_1 := blk_frozen BK114.out 1
                        have hfz69_2 := blk_frozen BK114.out 2
                        go_wp2_with (first | ((with_reducible refine gate_callee (f := 54) rfl ?_); refine goesL_ (some 68) rfl rfl Try.func54 (by kernel_rfl) rfl #[.slice (some ad115) l0.length c0, .int .i64 a1_4] rfl (by (try simp only [List.map_toArray, List.map_cons, List.map_nil]); first | done | rfl | (simp only [List.length_drop, List.length_take]; rfl)) ?_; (with_reducible refine (deadboltref18_Holder.calls kj30 _ _ l0 a1_4 t117 _ ?side1 ?side2 A54.out).mono ?_); (case side1 => repeat (first | exact (Kd.C_below HR0.out HB.out) | (with_reducible refine Kd.C_alloc ?_ _) | (with_reducible refine Kd.C_drewN ?_ _) | (with_reducible refine Kd.C_drew ?_))); (case side2 => exact HC0.out); rintro e w70 ⟨rfl, hb⟩; refine ⟨_, rfl, ?_⟩; have n0_ := Aside0.mk (blk_below (g := gb113) (o := .cells #[.int .i64 a1_0, .int .i64 a1_1, .int .i64 a1_2, .int .i64 a1_3, .int .i64 a1_4] 33 (0, 0)) (by (with_reducible repeat (first | refine blk_drewN ?_ _ | refine blk_drew ?_ | refine blk_alloc ?_ _)); exact BK113.out) hb); have n1_ := Aside0.mk (blk_below (g := gb114) (o := .cells #[.int .i64 a1_2, .int .i64 a1_3, .int .i64 a1_4] 31 (0, 0)) (by (with_reducible repeat (first | refine blk_drewN ?_ _ | refine blk_drew ?_ | refine blk_alloc ?_ _)); exact BK114.out) hb); have n2_ := Aside0.mk (blk_below (g := gb116) (o := .cells #[.int .i64 ((rd_T33 l0 (ji28)).f0), .int .i64 ((rd_T33 l0 (ji28)).f1), .int .i64 ((rd_T33 l0 (ji28)).f2.f0), .int .i64 ((rd_T33 l0 (ji28)).f2.f1), .int .i64 ((rd_T33 l0 (ji28)).f2.f2)] 33 (0, 0)) (by (with_reducible repeat (first | refine blk_drewN ?_ _ | refine blk_drew ?_ | refine blk_alloc ?_ _)); exact BK116.out) hb); have n3_ := Aside0.mk (below_step (by repeat (first | (with_reducible first | exact HB.out | apply below_alloc | apply pw_below_drewN | apply below_drew1 | refine below_set ?_ GE113.out | refine below_set ?_ GE114.out | refine below_set ?_ GE116.out) | exact HB.out)) hb); clear BK113; clear BK114; clear BK116; clear HB; have BK113 := n0_; have BK114 := n1_; have BK116 := n2_; have HB := n3_; clear n0_ n1_ n2_ n3_; (try clear hb); (try clear hb2); (try clear hk); (try clear hi); have hcz71_0 : w70.cell? ⟨gb114, 0, none⟩ = some (.int .i64 a1_2) := (blk_cell BK114.out 0).trans rfl; have hcz71_1 : w70.cell? ⟨gb114, 1, none⟩ = some (.int .i64 a1_3) := (blk_cell BK114.out 1).trans rfl; have hcz71_2 : w70.cell? ⟨gb114, 2, none⟩ = some (.int .i64 a1_4) := (blk_cell BK114.out 2).trans rfl; have hfz71_0 := blk_frozen BK114.out 0; have hfz71_1 := blk_frozen BK114.out 1; have hfz71_2 := blk_frozen BK114.out 2))
                        go_ret
                        exact ⟨by first | rfl | (simp [errW_none, errW_some] <;> rfl) | (simp only [← hji28]; first | rfl | (simp [errW_none, errW_some] <;> rfl)) | (simp [*, errW_none, errW_some] <;> rfl), by repeat (first | (with_reducible first | exact HB.out | apply below_alloc | apply pw_below_drewN | apply below_drew1 | refine below_set ?_ GE113.out | refine below_set ?_ GE114.out | refine below_set ?_ GE116.out) | exact HB.out)⟩
            · rw [if_neg c30] at H
              exact absurd H (by simp)
          · rw [if_neg c29] at H
            exact absurd H (by simp)
        · rw [if_neg c27] at H
          have c27b0 : decide (0 < (l0.length : Int)) = false := decide_eq_false c27
          have c27b1 : decide (0 < l0.length) = false := decide_eq_false (by omega)
          clear c27
          replace H := Option.bind_eq_some_iff.mp H
          obtain ⟨t118, A720, H⟩ := H
          replace H : (if a1_3 = 3 then (some (!(decide (t118 ≥ 0)))) else (if t118 ≥ 0 then (some (a1_3 != 2)) else (some false))) = some r := H
          have A72 := Aside0.mk A720
          clear A720
          by_cases c73 : a1_3 = 3
          · rw [if_pos c73] at H
            have c73b0 : (a1_3 == 3) = true := beq_iff_eq.mpr c73
            have c73b1 : (a1_3 != 3) = false := bne_eq_false_iff_eq.mpr c73
            clear c73
            obtain rfl := Option.some.inj H
            have hnb74 := NB114_113.out
            have hnc74 := NB113_114.out
            have hcz75_0 : wc.cell? ⟨gb114, 0, none⟩ = some (.int .i64 a1_2) := (blk_cell BK114.out 0).trans rfl
            have hcz75_1 : wc.cell? ⟨gb114, 1, none⟩ = some (.int .i64 a1_3) := (blk_cell BK114.out 1).trans rfl
            have hcz75_2 : wc.cell? ⟨gb114, 2, none⟩ = some (.int .i64 a1_4) := (blk_cell BK114.out 2).trans rfl
            have hfz75_0 := blk_frozen BK114.out 0
            have hfz75_1 := blk_frozen BK114.out 1
            have hfz75_2 := blk_frozen BK114.out 2
            go_wp2_with (first | ((with_reducible refine gate_callee (f := 54) rfl ?_); refine goesL_ (some 68) rfl rfl Try.func54 (by kernel_rfl) rfl #[.slice A0 l0.length c0, .int .i64 a1_4] rfl (by (try simp only [List.map_toArray, List.map_cons, List.map_nil]); first | done | rfl | (simp only [List.length_drop, List.length_take]; rfl)) ?_; (with_reducible refine (deadboltref18_Holder.calls kj2 _ _ l0 a1_4 t118 _ ?side1 ?side2 A72.out).mono ?_); (case side1 => repeat (first | exact (Kd.C_below HR0.out HB.out) | (with_reducible refine Kd.C_alloc ?_ _) | (with_reducible refine Kd.C_drewN ?_ _) | (with_reducible refine Kd.C_drew ?_))); (case side2 => exact HC0.out); rintro e w76 ⟨rfl, hb⟩; refine ⟨_, rfl, ?_⟩; have n0_ := Aside0.mk (blk_below (g := gb113) (o := .cells #[.int .i64 a1_0, .int .i64 a1_1, .int .i64 a1_2, .int .i64 a1_3, .int .i64 a1_4] 33 (0, 0)) (by (with_reducible repeat (first | refine blk_drewN ?_ _ | refine blk_drew ?_ | refine blk_alloc ?_ _)); exact BK113.out) hb); have n1_ := Aside0.mk (blk_below (g := gb114) (o := .cells #[.int .i64 a1_2, .int .i64 a1_3, .int .i64 a1_4] 31 (0, 0)) (by (with_reducible repeat (first | refine blk_drewN ?_ _ | refine blk_drew ?_ | refine blk_alloc ?_ _)); exact BK114.out) hb); have n2_ := Aside0.mk (below_step (by repeat (first | (with_reducible first | exact HB.out | apply below_alloc | apply pw_below_drewN | apply below_drew1 | refine below_set ?_ GE113.out | refine below_set ?_ GE114.out) | exact HB.out)) hb); clear BK113; clear BK114; clear HB; have BK113 := n0_; have BK114 := n1_; have HB := n2_; clear n0_ n1_ n2_; (try clear hb); (try clear hb2); (try clear hk); (try clear hi); have hcz77_0 : w76.cell? ⟨gb114, 0, none⟩ = some (.int .i64 a1_2) := (blk_cell BK114.out 0).trans rfl; have hcz77_1 : w76.cell? ⟨gb114, 1, none⟩ = some (.int .i64 a1_3) := (blk_cell BK114.out 1).trans rfl; have hcz77_2 : w76.cell? ⟨gb114, 2, none⟩ = some (.int .i64 a1_4) := (blk_cell BK114.out 2).trans rfl; have hfz77_0 := blk_frozen BK114.out 0; have hfz77_1 := blk_frozen BK114.out 1; have hfz77_2 := blk_frozen BK114.out 2))
            go_ret
            exact ⟨by first | rfl | (simp [errW_none, errW_some] <;> rfl) | (simp [*, errW_none, errW_some] <;> rfl), by repeat (first | (with_reducible first | exact HB.out | apply below_alloc | apply pw_below_drewN | apply below_drew1 | refine below_set ?_ GE113.out | refine below_set ?_ GE114.out) | exact HB.out)⟩
          · rw [if_neg c73] at H
            have c73b0 : (a1_3 == 3) = false := beq_eq_false_iff_ne.mpr c73
            have c73b1 : (a1_3 != 3) = true := bne_iff_ne.mpr c73
            by_cases c78 : t118 ≥ 0
            · rw [if_pos c78] at H
              have c78b0 : decide (0 ≤ t118) = true := decide_eq_true c78
              clear c78
              obtain rfl := Option.some.inj H
              have hnb79 := NB114_113.out
              have hnc79 := NB113_114.out
              have hcz80_0 : wc.cell? ⟨gb114, 0, none⟩ = some (.int .i64 a1_2) := (blk_cell BK114.out 0).trans rfl
              have hcz80_1 : wc.cell? ⟨gb114, 1, none⟩ = some (.int .i64 a1_3) := (blk_cell BK114.out 1).trans rfl
              have hcz80_2 : wc.cell? ⟨gb114, 2, none⟩ = some (.int .i64 a1_4) := (blk_cell BK114.out 2).trans rfl
              have hfz80_0 := blk_frozen BK114.out 0
              have hfz80_1 := blk_frozen BK114.out 1
              have hfz80_2 := blk_frozen BK114.out 2
              go_wp2_with (first | ((with_reducible refine gate_callee (f := 54) rfl ?_); refine goesL_ (some 68) rfl rfl Try.func54 (by kernel_rfl) rfl #[.slice A0 l0.length c0, .int .i64 a1_4] rfl (by (try simp only [List.map_toArray, List.map_cons, List.map_nil]); first | done | rfl | (simp only [List.length_drop, List.length_take]; rfl)) ?_; (with_reducible refine (deadboltref18_Holder.calls kj2 _ _ l0 a1_4 t118 _ ?side1 ?side2 A72.out).mono ?_); (case side1 => repeat (first | exact (Kd.C_below HR0.out HB.out) | (with_reducible refine Kd.C_alloc ?_ _) | (with_reducible refine Kd.C_drewN ?_ _) | (with_reducible refine Kd.C_drew ?_))); (case side2 => exact HC0.out); rintro e w81 ⟨rfl, hb⟩; refine ⟨_, rfl, ?_⟩; have n0_ := Aside0.mk (blk_below (g := gb113) (o := .cells #[.int .i64 a1_0, .int .i64 a1_1, .int .i64 a1_2, .int .i64 a1_3, .int .i64 a1_4] 33 (0, 0)) (by (with_reducible repeat (first | refine blk_drewN ?_ _ | refine blk_drew ?_ | refine blk_alloc ?_ _)); exact BK113.out) hb); have n1_ := Aside0.mk (blk_below (g := gb114) (o := .cells #[.int .i64 a1_2, .int .i64 a1_3, .int .i64 a1_4] 31 (0, 0)) (by (with_reducible repeat (first | refine blk_drewN ?_ _ | refine blk_drew ?_ | refine blk_alloc ?_ _)); exact BK114.out) hb); have n2_ := Aside0.mk (below_step (by repeat (first | (with_reducible first | exact HB.out | apply below_alloc | apply pw_below_drewN | apply below_drew1 | refine below_set ?_ GE113.out | refine below_set ?_ GE114.out) | exact HB.out)) hb); clear BK113; clear BK114; clear HB; have BK113 := n0_; have BK114 := n1_; have HB := n2_; clear n0_ n1_ n2_; (try clear hb); (try clear hb2); (try clear hk); (try clear hi); have hcz82_0 : w81.cell? ⟨gb114, 0, none⟩ = some (.int .i64 a1_2) := (blk_cell BK114.out 0).trans rfl; have hcz82_1 : w81.cell? ⟨gb114, 1, none⟩ = some (.int .i64 a1_3) := (blk_cell BK114.out 1).trans rfl; have hcz82_2 : w81.cell? ⟨gb114, 2, none⟩ = some (.int .i64 a1_4) := (blk_cell BK114.out 2).trans rfl; have hfz82_0 := blk_frozen BK114.out 0; have hfz82_1 := blk_frozen BK114.out 1; have hfz82_2 := blk_frozen BK114.out 2))
              go_ret
              exact ⟨by first | rfl | (simp [errW_none, errW_some] <;> rfl) | (simp [*, errW_none, errW_some] <;> rfl), by repeat (first | (with_reducible first | exact HB.out | apply below_alloc | apply pw_below_drewN | apply below_drew1 | refine below_set ?_ GE113.out | refine below_set ?_ GE114.out) | exact HB.out)⟩
            · rw [if_neg c78] at H
              have c78b0 : decide (0 ≤ t118) = false := decide_eq_false c78
              clear c78
              obtain rfl := Option.some.inj H
              have hnb83 := NB114_113.out
              have hnc83 := NB113_114.out
              have hcz84_0 : wc.cell? ⟨gb114, 0, none⟩ = some (.int .i64 a1_2) := (blk_cell BK114.out 0).trans rfl
              have hcz84_1 : wc.cell? ⟨gb114, 1, none⟩ = some (.int .i64 a1_3) := (blk_cell BK114.out 1).trans rfl
              have hcz84_2 : wc.cell? ⟨gb114, 2, none⟩ = some (.int .i64 a1_4) := (blk_cell BK114.out 2).trans rfl
              have hfz84_0 := blk_frozen BK114.out 0
              have hfz84_1 := blk_frozen BK114.out 1
              have hfz84_2 := blk_frozen BK114.out 2
              go_wp2_with (first | ((with_reducible refine gate_callee (f := 54) rfl ?_); refine goesL_ (some 68) rfl rfl Try.func54 (by kernel_rfl) rfl #[.slice A0 l0.length c0, .int .i64 a1_4] rfl (by (try simp only [List.map_toArray, List.map_cons, List.map_nil]); first | done | rfl | (simp only [List.length_drop, List.length_take]; rfl)) ?_; (with_reducible refine (deadboltref18_Holder.calls kj2 _ _ l0 a1_4 t118 _ ?side1 ?side2 A72.out).mono ?_); (case side1 => repeat (first | exact (Kd.C_below HR0.out HB.out) | (with_reducible refine Kd.C_alloc ?_ _) | (with_reducible refine Kd.C_drewN ?_ _) | (with_reducible refine Kd.C_drew ?_))); (case side2 => exact HC0.out); rintro e w85 ⟨rfl, hb⟩; refine ⟨_, rfl, ?_⟩; have n0_ := Aside0.mk (blk_below (g := gb113) (o := .cells #[.int .i64 a1_0, .int .i64 a1_1, .int .i64 a1_2, .int .i64 a1_3, .int .i64 a1_4] 33 (0, 0)) (by (with_reducible repeat (first | refine blk_drewN ?_ _ | refine blk_drew ?_ | refine blk_alloc ?_ _)); exact BK113.out) hb); have n1_ := Aside0.mk (blk_below (g := gb114) (o := .cells #[.int .i64 a1_2, .int .i64 a1_3, .int .i64 a1_4] 31 (0, 0)) (by (with_reducible repeat (first | refine blk_drewN ?_ _ | refine blk_drew ?_ | refine blk_alloc ?_ _)); exact BK114.out) hb); have n2_ := Aside0.mk (below_step (by repeat (first | (with_reducible first | exact HB.out | apply below_alloc | apply pw_below_drewN | apply below_drew1 | refine below_set ?_ GE113.out | refine below_set ?_ GE114.out) | exact HB.out)) hb); clear BK113; clear BK114; clear HB; have BK113 := n0_; have BK114 := n1_; have HB := n2_; clear n0_ n1_ n2_; (try clear hb); (try clear hb2); (try clear hk); (try clear hi); have hcz86_0 : w85.cell? ⟨gb114, 0, none⟩ = some (.int .i64 a1_2) := (blk_cell BK114.out 0).trans rfl; have hcz86_1 : w85.cell? ⟨gb114, 1, none⟩ = some (.int .i64 a1_3) := (blk_cell BK114.out 1).trans rfl; have hcz86_2 : w85.cell? ⟨gb114, 2, none⟩ = some (.int .i64 a1_4) := (blk_cell BK114.out 2).trans rfl; have hfz86_0 := blk_frozen BK114.out 0; have hfz86_1 := blk_frozen BK114.out 1; have hfz86_2 := blk_frozen BK114.out 2))
              go_ret
              exact ⟨by first | rfl | (simp [errW_none, errW_some] <;> rfl) | (simp [*, errW_none, errW_some] <;> rfl), by repeat (first | (with_reducible first | exact HB.out | apply below_alloc | apply pw_below_drewN | apply below_drew1 | refine below_set ?_ GE113.out | refine below_set ?_ GE114.out) | exact HB.out)⟩

end Go.Proofs.Ytjdjmhagafmkaaa.PX

namespace Go.Proofs.Ytjdjmhagafmkaaa.PX
open Go.RowKit Go.Proofs.YtjdjmhagafmkaaaW.PrintWords Go.Proofs.YtjdjmhagafmkaaaW.PrintLast Go.Proofs.YtjdjmhagafmkaaaW.PrintMore
attribute [local go_sem] max2_int min2_int max_two min_two max_three min_three max_four min_four   -- for this text's walks alone
set_option linter.unusedVariables false
set_option linter.unusedSimpArgs false

/-! ### deadboltref18_Wrong: function 19 -/
def deadboltref18_Wrong.l0 : Nat → List (S33) → List (S33) → Int → Int → Option (Int)
  | 0, _, _, _, _ => none
  | k + 1, x0, x5, x6, x7 => if x7 < x6 then (if 0 ≤ x7 then (if x7 < (x5.length : Int) then (if x7 ≤ (x0.length : Int) then ((deadboltref18_bad.f k (x0.take (x7 : Int).toNat) ((rd_T33 x5 x7).f0) ((rd_T33 x5 x7).f1) ((rd_T33 x5 x7).f2.f0) ((rd_T33 x5 x7).f2.f1) ((rd_T33 x5 x7).f2.f2)).bind fun t125 => (if t125 = true then (some x7) else (deadboltref18_Wrong.l0 k x0 x5 x6 (wrap64 (x7 + 1))))) else (none)) else (none)) else (none)) else (some (-1))
def deadboltref18_Wrong.f (k : Nat) (l0 : List (S33)) : Option (Int) := deadboltref18_Wrong.l0 k l0 l0 (l0.length : Int) 0
theorem deadboltref18_Wrong.mono_l : ∀ k, (∀ y0 y1 y2 y3, LeO (deadboltref18_Wrong.l0 k y0 y1 y2 y3) (deadboltref18_Wrong.l0 (k + 1) y0 y1 y2 y3))
  | 0 => fun _ _ _ _ r h => by simp [deadboltref18_Wrong.l0] at h
  | k + 1 => by
    have ih0 := deadboltref18_Wrong.mono_l k
    · intro y0 y1 y2 y3
      unfold deadboltref18_Wrong.l0
      repeat' first
      | (with_reducible exact ih0 _ _ _ _)
      | (with_reducible exact deadboltref18_bad.mono _ _ _ _ _ _ _)
      | (with_reducible exact LeO.refl _)
      | (with_reducible exact LeO.none _)
      | (with_reducible refine LeO.ite ?_ ?_)
      | (with_reducible refine LeO.bind ?_ (fun _ => ?_))
      | exact ih0 _ _ _ _
      | exact deadboltref18_bad.mono _ _ _ _ _ _ _
      | exact LeO.none _
      | refine LeO.ite ?_ ?_
      | refine LeO.bind ?_ (fun _ => ?_)
theorem deadboltref18_Wrong.mono : ∀ a0 k, LeO (deadboltref18_Wrong.f k a0) (deadboltref18_Wrong.f (k + 1) a0) := by
  intro a0 k
  have ih0 := deadboltref18_Wrong.mono_l k
  unfold deadboltref18_Wrong.f
  repeat' first
      | (with_reducible exact ih0 _ _ _ _)
      | (with_reducible exact deadboltref18_bad.mono _ _ _ _ _ _ _)
      | (with_reducible exact LeO.refl _)
      | (with_reducible exact LeO.none _)
      | (with_reducible refine LeO.ite ?_ ?_)
      | (with_reducible refine LeO.bind ?_ (fun _ => ?_))
      | exact ih0 _ _ _ _
      | exact deadboltref18_bad.mono _ _ _ _ _ _ _
      | exact LeO.none _
      | refine LeO.ite ?_ ?_
      | refine LeO.bind ?_ (fun _ => ?_)
set_option maxHeartbeats 8000000 in
set_option maxRecDepth 100000 in
theorem deadboltref18_Wrong.calls (k : Nat) (A0 : Option Addr) (c0 : Nat) (l0 : List (S33)) (r : Int) (w : World) (hr0 : Kd.C k33 w A0 l0.length l0) (hc0 : l0.length ≤ c0) (h : deadboltref18_Wrong.f k l0 = some r) :
    Calls Try.prog 19 #[.slice A0 l0.length c0] w fun e w' => e = .returned (.int .i64 r) ∧ Below w.heap.size w w' := by
  have hu33 := Try.underlying33
  have HR0 := Aside0.mk hr0
  have HC0 := Aside0.mk hc0
  clear hr0 hc0
  have HB := Aside0.mk (Below.refl w.heap.size w)
  have H : (deadboltref18_Wrong.l0 k l0 l0 (l0.length : Int) 0) = some r := h
  clear h
  have H' := Aside0.mk H
  clear H
  go_enter Try.func19, Try.ntmps19
  go_wp2
  go_loopg [7] k (fun kq v7 w' => ∃ (x7_1 : Int), v7 = .int .i64 x7_1 ∧ Aside0 (deadboltref18_Wrong.l0 kq l0 l0 (l0.length : Int) x7_1 = some r) ∧ Aside0 (kq ≤ k) ∧ Aside0 (Below w.heap.size w w'))
  case atStart => exact ⟨(0), (by first | rfl | (simp; done) | (simp [*]; done)), H', ⟨Nat.le_refl _⟩, ⟨by repeat (first | (with_reducible first | exact HB.out | apply below_alloc | apply pw_below_drewN | apply below_drew1) | exact HB.out)⟩⟩
  case round =>
    clear H'
    try clear c1
    obtain ⟨x7_1, rfl, HA, HK1, HB⟩ := hrel
    cases gk with
    | zero => exact absurd HA.out (by simp [deadboltref18_Wrong.l0])
    | succ k1 =>
      have H := HA.out
      clear HA
      simp only [deadboltref18_Wrong.l0] at H
      by_cases c2 : x7_1 < (l0.length : Int)
      · rw [if_pos c2] at H
        have c2b0 : decide (x7_1 < (l0.length : Int)) = true := decide_eq_true c2
        clear c2
        by_cases c3 : 0 ≤ x7_1
        · rw [if_pos c3] at H
          have c3b0 : decide (0 ≤ x7_1) = true := decide_eq_true c3
          clear c3
          by_cases c4 : x7_1 < (l0.length : Int)
          · rw [if_pos c4] at H
            have c4b0 : decide (x7_1 < (l0.length : Int)) = true := decide_eq_true c4
            clear c4
            have c5b0 := eq_true (of_decide_eq_true (by first | (with_reducible assumption) | assumption) : 0 ≤ x7_1)
            by_cases c6 : x7_1 ≤ (l0.length : Int)
            · rw [if_pos c6] at H
              have c6b0 := eq_true c6
              have c6b1 : decide (x7_1 ≤ (l0.length : Int)) = true := decide_eq_true c6
              clear c6
              obtain ⟨y121, hy121⟩ : ∃ y_ : List (S33), y_ = (l0.take (x7_1 : Int).toNat) := ⟨_, rfl⟩
              replace H : ((deadboltref18_bad.f k1 y121 ((rd_T33 l0 x7_1).f0) ((rd_T33 l0 x7_1).f1) ((rd_T33 l0 x7_1).f2.f0) ((rd_T33 l0 x7_1).f2.f1) ((rd_T33 l0 x7_1).f2.f2)).bind fun t125 => (if t125 = true then (some x7_1) else (deadboltref18_Wrong.l0 k1 l0 l0 (l0.length : Int) (wrap64 (x7_1 + 1))))) = some r := by first | (rw [hy121]; with_reducible exact H) | (have H2_ := (Option.bind_some _ _).symm.trans H; rw [hy121]; with_reducible exact H2_) | (have H2_ := (Option.bind_some _ _).symm.trans H; with_reducible exact H2_) | with_reducible exact H | (rw [hy121]; exact H) | exact H
              have Ny121 := Aside0.mk hy121
              clear hy121
              replace H := Option.bind_eq_some_iff.mp H
              obtain ⟨t125, A70, H⟩ := H
              replace H : (if t125 = true then (some x7_1) else (deadboltref18_Wrong.l0 k1 l0 l0 (l0.length : Int) (wrap64 (x7_1 + 1)))) = some r := H
              have A7 := Aside0.mk A70
              clear A70
              by_cases c8 : t125 = true
              · subst c8
                have H1 : (some x7_1) = some r := by rw [if_pos rfl] at H; exact H
                clear H
                have H := H1
                clear H1
                obtain rfl := Option.some.inj H
                have p119 : 0 ≤ (x7_1 : Int) := of_decide_eq_true (by first | (with_reducible assumption) | assumption)
                have q119 : x7_1 < (l0.length : Int) := of_decide_eq_true (by first | (with_reducible assumption) | assumption)
                obtain ⟨ad119, e119, hx119_0, hx119_1, hx119_2, hx119_3, hx119_4⟩ := at_T33 HR0.out x7_1 p119 q119
                cases e119
                replace hx119_0 := (HB.out.cell (World.block_lt_of_cell? w _ hx119_0)).trans hx119_0
                replace hx119_1 := (HB.out.cell (World.block_lt_of_cell? w _ hx119_1)).trans hx119_1
                replace hx119_2 := (HB.out.cell (World.block_lt_of_cell? w _ hx119_2)).trans hx119_2
                replace hx119_3 := (HB.out.cell (World.block_lt_of_cell? w _ hx119_3)).trans hx119_3
                replace hx119_4 := (HB.out.cell (World.block_lt_of_cell? w _ hx119_4)).trans hx119_4
                replace p119 := eq_true p119
                replace q119 := eq_true q119
                try go_wp2_with (first | ((with_reducible refine gate_dst (N := 4) rfl ?_); refine box_event ?hg (N := 4) ?hd (cs := #[.int .i64 0, .int .i64 0, .int .i64 0, .int .i64 0, .int .i64 0]) (t := 33) ?hr ?_; (case hd => rfl); (case hg => rfl); (case hr => first | (go_simp; done) | (go_simp; rfl)); intro gb120 hg w9 hbox hb; have n0_ := Aside0.mk (below_step (by repeat (first | (with_reducible first | exact HB.out | apply below_alloc | apply pw_below_drewN | apply below_drew1) | exact HB.out)) hb); have n1_ := Aside0.mk (hbox); have n2_ := Aside0.mk ((by rw [hg]; exact (below_size (by repeat (first | (with_reducible first | exact HB.out | apply below_alloc | apply pw_below_drewN | apply below_drew1) | exact HB.out))) : w.heap.size ≤ gb120)); have n3_ := Aside0.mk ((by rw [hg]; exact (below_size (by repeat (first | (with_reducible first | exact HB.out | apply below_alloc | apply pw_below_drewN | apply below_drew1) | exact HB.out))) : w.heap.size ≤ gb120)); clear HB; have HB := n0_; have BK120 := n1_; have GW120 := n2_; have GE120 := n3_; clear n0_ n1_ n2_ n3_; clear hb hbox hg; have hcz10_0 : w9.cell? ⟨gb120, 0, none⟩ = some (.int .i64 0) := (blk_cell BK120.out 0).trans rfl; have hcz10_1 : w9.cell? ⟨gb120, 1, none⟩ = some (.int .i64 0) := (blk_cell BK120.out 1).trans rfl; have hcz10_2 : w9.cell? ⟨gb120, 2, none⟩ = some (.int .i64 0) := (blk_cell BK120.out 2).trans rfl; have hcz10_3 : w9.cell? ⟨gb120, 3, none⟩ = some (.int .i64 0) := (blk_cell BK120.out 3).trans rfl; have hcz10_4 : w9.cell? ⟨gb120, 4, none⟩ = some (.int .i64 0) := (blk_cell BK120.out 4).trans rfl; have hfz10_0 := blk_frozen BK120.out 0; have hfz10_1 := blk_frozen BK120.out 1; have hfz10_2 := blk_frozen BK120.out 2; have hfz10_3 := blk_frozen BK120.out 3; have hfz10_4 := blk_frozen BK120.out 4))
                have n0_ : Aside0 ((((((w9.setCell ⟨gb120, 0, none⟩ (.int .i64 ((rd_T33 l0 x7_1).f0))).setCell ⟨gb120, 1, none⟩ (.int .i64 ((rd_T33 l0 x7_1).f1))).setCell ⟨gb120, 2, none⟩ (.int .i64 ((rd_T33 l0 x7_1).f2.f0))).setCell ⟨gb120, 3, none⟩ (.int .i64 ((rd_T33 l0 x7_1).f2.f1))).setCell ⟨gb120, 4, none⟩ (.int .i64 ((rd_T33 l0 x7_1).f2.f2))).heap[gb120]? = some (.cells #[.int .i64 ((rd_T33 l0 x7_1).f0), .int .i64 ((rd_T33 l0 x7_1).f1), .int .i64 ((rd_T33 l0 x7_1).f2.f0), .int .i64 ((rd_T33 l0 x7_1).f2.f1), .int .i64 ((rd_T33 l0 x7_1).f2.f2)] 33 (0, 0))) := ⟨by (with_reducible repeat (first | refine blk_drewN ?_ _ | refine blk_drew ?_ | refine blk_alloc ?_ _)); refine blk_put (cs := #[.int .i64 ((rd_T33 l0 x7_1).f0), .int .i64 ((rd_T33 l0 x7_1).f1), .int .i64 ((rd_T33 l0 x7_1).f2.f0), .int .i64 ((rd_T33 l0 x7_1).f2.f1), .int .i64 0]) ?_ 4 _ rfl; (with_reducible repeat (first | refine blk_drewN ?_ _ | refine blk_drew ?_ | refine blk_alloc ?_ _)); refine blk_put (cs := #[.int .i64 ((rd_T33 l0 x7_1).f0), .int .i64 ((rd_T33 l0 x7_1).f1), .int .i64 ((rd_T33 l0 x7_1).f2.f0), .int .i64 0, .int .i64 0]) ?_ 3 _ rfl; (with_reducible repeat (first | refine blk_drewN ?_ _ | refine blk_drew ?_ | refine blk_alloc ?_ _)); refine blk_put (cs := #[.int .i64 ((rd_T33 l0 x7_1).f0), .int .i64 ((rd_T33 l0 x7_1).f1), .int .i64 0, .int .i64 0, .int .i64 0]) ?_ 2 _ rfl; (with_reducible repeat (first | refine blk_drewN ?_ _ | refine blk_drew ?_ | refine blk_alloc ?_ _)); refine blk_put (cs := #[.int .i64 ((rd_T33 l0 x7_1).f0), .int .i64 0, .int .i64 0, .int .i64 0, .int .i64 0]) ?_ 1 _ rfl; (with_reducible repeat (first | refine blk_drewN ?_ _ | refine blk_drew ?_ | refine blk_alloc ?_ _)); refine blk_put (cs := #[.int .i64 0, .int .i64 0, .int .i64 0, .int .i64 0, .int .i64 0]) ?_ 0 _ rfl; (with_reducible repeat (first | refine blk_drewN ?_ _ | refine blk_drew ?_ | refine blk_alloc ?_ _)); exact BK120.out⟩
                have n1_ : Aside0 (Below w.heap.size w (((((w9.setCell ⟨gb120, 0, none⟩ (.int .i64 ((rd_T33 l0 x7_1).f0))).setCell ⟨gb120, 1, none⟩ (.int .i64 ((rd_T33 l0 x7_1).f1))).setCell ⟨gb120, 2, none⟩ (.int .i64 ((rd_T33 l0 x7_1).f2.f0))).setCell ⟨gb120, 3, none⟩ (.int .i64 ((rd_T33 l0 x7_1).f2.f1))).setCell ⟨gb120, 4, none⟩ (.int .i64 ((rd_T33 l0 x7_1).f2.f2)))) := ⟨by repeat (first | (with_reducible first | exact HB.out | apply below_alloc | apply pw_below_drewN | apply below_drew1 | refine below_set ?_ GE120.out) | exact HB.out)⟩
                (try clear BK120)
                (try clear HB)
                generalize (((((w9.setCell ⟨gb120, 0, none⟩ (.int .i64 ((rd_T33 l0 x7_1).f0))).setCell ⟨gb120, 1, none⟩ (.int .i64 ((rd_T33 l0 x7_1).f1))).setCell ⟨gb120, 2, none⟩ (.int .i64 ((rd_T33 l0 x7_1).f2.f0))).setCell ⟨gb120, 3, none⟩ (.int .i64 ((rd_T33 l0 x7_1).f2.f1))).setCell ⟨gb120, 4, none⟩ (.int .i64 ((rd_T33 l0 x7_1).f2.f2))) = w11 at n0_ n1_ ⊢
                have BK120 := n0_
                have HB := n1_
                clear n0_ n1_
                have n0_ := Aside0.mk (blk_drew BK120.out)
                have n1_ := Aside0.mk (below_drew1 HB.out)
                clear BK120
                clear HB
                have BK120 := n0_
                have HB := n1_
                clear n0_ n1_
                have q13 : (x7_1 : Int) ≤ ((l0.length : Int) : Int) := of_decide_eq_true (by first | (with_reducible assumption) | assumption)
                obtain ⟨i013, hi013, _, hsz13, _⟩ := info_parts info33
                have hroom13 : l0.length ≤ c0 := HC0.out
                have hC13 : Kd.C k33 _ (some ad119) l0.length l0 := HR0.out
                have hcut13 := cut_to (P := Try.prog) 22 33 .i64 Try.underlying22 hi013 (some ad119) l0.length c0 x7_1 (of_decide_eq_true (by first | (with_reducible assumption) | assumption)) q13 hroom13
                have hr13 := Kd.C_take (m := (x7_1 : Int).toNat) hC13 (by omega)
                have hy13 : y121.length = (x7_1 : Int).toNat := (by rw [Ny121.out, List.length_take]; omega)
                rw [← Ny121.out] at hr13
                rw [← hy13] at hcut13
                have HR124 := Aside0.mk hr13
                have HC124 := Aside0.mk (show y121.length ≤ c0 from by omega)
                clear hr13 hC13 hroom13 hi013 hsz13
                have KY13 := Aside0.mk hy13
                clear hy13
                replace q13 := eq_true q13
                refine start_ (n := 5) (S := fun w' => w'.cell? ⟨gb120, 0, none⟩ = some (.int .i64 ((rd_T33 l0 x7_1).f0)) ∧ w'.cell? ⟨gb120, 1, none⟩ = some (.int .i64 ((rd_T33 l0 x7_1).f1)) ∧ w'.cell? ⟨gb120, 2, none⟩ = some (.int .i64 ((rd_T33 l0 x7_1).f2.f0)) ∧ w'.cell? ⟨gb120, 3, none⟩ = some (.int .i64 ((rd_T33 l0 x7_1).f2.f1)) ∧ w'.cell? ⟨gb120, 4, none⟩ = some (.int .i64 ((rd_T33 l0 x7_1).f2.f2))) (ds := []) #[false, false, false, false, false] (by kernel_rfl) rfl rfl ⟨(blk_cell BK120.out 0).trans rfl, (blk_cell BK120.out 1).trans rfl, (blk_cell BK120.out 2).trans rfl, (blk_cell BK120.out 3).trans rfl, (blk_cell BK120.out 4).trans rfl⟩ (fun hHeld => ?_)
                generalize w11.drew = w12 at BK120 HB HR124 hHeld ⊢
                refine pure_ (i := 0) (N := some 12) (v := ?_) (a' := ?_) #[true, false, false, false, false] rfl rfl (by kernel_rfl) (fun _ _ _ h => h) (Or.inl ⟨by rfl, ?_⟩) ?_ ?_
                rotate_left
                · intro w'
                  go_simp
                  with_reducible rfl
                rotate_left
                · simp only [Act.put, List.setIfInBounds_toArray, List.set_cons_zero, List.set_cons_succ, i64_w, i32_w]
                  rfl
                refine pure_ (i := 1) (N := some 13) (v := ?_) (a' := ?_) #[true, true, false, false, false] rfl rfl (by kernel_rfl) (fun _ _ _ h => h) (Or.inl ⟨by rfl, ?_⟩) ?_ ?_
                rotate_left
                · intro w'
                  go_simp
                  with_reducible rfl
                rotate_left
                · simp only [Act.put, List.setIfInBounds_toArray, List.set_cons_zero, List.set_cons_succ, i64_w, i32_w]
                  rfl
                refine pure_ (i := 2) (N := some 14) (v := ?_) (a' := ?_) #[true, true, true, false, false] rfl rfl (by kernel_rfl) (fun _ _ _ h => h) (Or.inl ⟨by rfl, ?_⟩) ?_ ?_
                rotate_left
                · intro w'
                  go_simp
                  with_reducible rfl
                rotate_left
                · simp only [Act.put, List.setIfInBounds_toArray, List.set_cons_zero, List.set_cons_succ, i64_w, i32_w]
                  rfl
                refine take_ (i := 3) (N := some 15) (v := ?_) (a' := ?_) #[true, true, true, true, false] rfl rfl (by kernel_rfl) (fun _ _ _ h => h) (Or.inl ⟨by rfl, ?_⟩) hHeld ?_ ?_
                rotate_left
                · rintro w' ⟨s0, s1, s2, s3, s4⟩
                  go_simp
                  with_reducible rfl
                rotate_left
                · simp only [Act.put, List.setIfInBounds_toArray, List.set_cons_zero, List.set_cons_succ, i64_w, i32_w]
                  rfl
                refine one_ (i := 4) (N := some 16) #[true, true, true, true, true] rfl rfl (by kernel_rfl) (by decide) (fun K hK => ?_)
                refine goes_ Try.func53 (by kernel_rfl) rfl #[.slice (some ad119) y121.length c0, .agg #[.int .i64 ((rd_T33 l0 x7_1).f0), .int .i64 ((rd_T33 l0 x7_1).f1), .int .i64 ((rd_T33 l0 x7_1).f2.f0), .int .i64 ((rd_T33 l0 x7_1).f2.f1), .int .i64 ((rd_T33 l0 x7_1).f2.f2)]] (by rfl) rfl rfl (by (try simp only [List.map_toArray, List.map_cons, List.map_nil]); first | done | rfl | (simp only [List.length_drop, List.length_take]; rfl)) ?_
                with_reducible refine (deadboltref18_bad.calls k1 _ _ y121 ((rd_T33 l0 x7_1).f0) ((rd_T33 l0 x7_1).f1) ((rd_T33 l0 x7_1).f2.f0) ((rd_T33 l0 x7_1).f2.f1) ((rd_T33 l0 x7_1).f2.f2) true _ ?side1 ?side2 A7.out).mono ?_
                (case side1 => repeat (first | exact (Kd.C_below HR124.out HB.out) | (with_reducible refine Kd.C_alloc ?_ _) | (with_reducible refine Kd.C_drewN ?_ _) | (with_reducible refine Kd.C_drew ?_)))
                (case side2 => exact HC124.out)
                rintro e w14 ⟨rfl, hb⟩
                refine ⟨_, rfl, ?_⟩
                have n0_ := Aside0.mk (blk_below (g := gb120) (o := .cells #[.int .i64 ((rd_T33 l0 x7_1).f0), .int .i64 ((rd_T33 l0 x7_1).f1), .int .i64 ((rd_T33 l0 x7_1).f2.f0), .int .i64 ((rd_T33 l0 x7_1).f2.f1), .int .i64 ((rd_T33 l0 x7_1).f2.f2)] 33 (0, 0)) (by (with_reducible repeat (first | refine blk_drewN ?_ _ | refine blk_drew ?_ | refine blk_alloc ?_ _)); exact BK120.out) hb)
                have n1_ := Aside0.mk (below_step (by repeat (first | (with_reducible first | exact HB.out | apply below_alloc | apply pw_below_drewN | apply below_drew1 | refine below_set ?_ GE120.out) | exact HB.out)) hb)
                clear BK120
                clear HB
                have BK120 := n0_
                have HB := n1_
                clear n0_ n1_
                (try clear hb)
                (try clear hb2)
                (try clear hk)
                (try clear hi)
                refine hK.out _ _ ⟨(blk_cell BK120.out 0).trans rfl, (blk_cell BK120.out 1).trans rfl, (blk_cell BK120.out 2).trans rfl, (blk_cell BK120.out 3).trans rfl, (blk_cell BK120.out 4).trans rfl⟩ (fun hHeld => ?_)
                clear hK K
                refine norm_ (a' := ?_) ?_ ?_
                rotate_left
                · show Act.put _ (some 16) _ = _
                  simp only [Act.put, List.setIfInBounds_toArray, List.set_cons_zero, List.set_cons_succ, i64_w, i32_w]
                  rfl
                refine done_ (by kernel_rfl) ?_
                try go_wp2
                go_ret
                exact ⟨by first | rfl | (simp [errW_none, errW_some] <;> rfl) | (simp [*, errW_none, errW_some] <;> rfl), by repeat (first | (with_reducible first | exact HB.out | apply below_alloc | apply pw_below_drewN | apply below_drew1 | refine below_set ?_ GE120.out) | exact HB.out)⟩
              · replace c8 := Bool.eq_false_iff.mpr c8
                subst c8
                have H1 : (deadboltref18_Wrong.l0 k1 l0 l0 (l0.length : Int) (wrap64 (x7_1 + 1))) = some r := by rw [if_neg (show ¬ (false = true) by decide)] at H; exact H
                clear H
                have H := H1
                clear H1
                have H' := Aside0.mk H
                clear H
                have p119 : 0 ≤ (x7_1 : Int) := of_decide_eq_true (by first | (with_reducible assumption) | assumption)
                have q119 : x7_1 < (l0.length : Int) := of_decide_eq_true (by first | (with_reducible assumption) | assumption)
                obtain ⟨ad119, e119, hx119_0, hx119_1, hx119_2, hx119_3, hx119_4⟩ := at_T33 HR0.out x7_1 p119 q119
                cases e119
                replace hx119_0 := (HB.out.cell (World.block_lt_of_cell? w _ hx119_0)).trans hx119_0
                replace hx119_1 := (HB.out.cell (World.block_lt_of_cell? w _ hx119_1)).trans hx119_1
                replace hx119_2 := (HB.out.cell (World.block_lt_of_cell? w _ hx119_2)).trans hx119_2
                replace hx119_3 := (HB.out.cell (World.block_lt_of_cell? w _ hx119_3)).trans hx119_3
                replace hx119_4 := (HB.out.cell (World.block_lt_of_cell? w _ hx119_4)).trans hx119_4
                replace p119 := eq_true p119
                replace q119 := eq_true q119
                try go_wp2_with (first | ((with_reducible refine gate_dst (N := 4) rfl ?_); refine box_event ?hg (N := 4) ?hd (cs := #[.int .i64 0, .int .i64 0, .int .i64 0, .int .i64 0, .int .i64 0]) (t := 33) ?hr ?_; (case hd => rfl); (case hg => rfl); (case hr => first | (go_simp; done) | (go_simp; rfl)); intro gb120 hg w15 hbox hb; have n0_ := Aside0.mk (below_step (by repeat (first | (with_reducible first | exact HB.out | apply below_alloc | apply pw_below_drewN | apply below_drew1) | exact HB.out)) hb); have n1_ := Aside0.mk (hbox); have n2_ := Aside0.mk ((by rw [hg]; exact (below_size (by repeat (first | (with_reducible first | exact HB.out | apply below_alloc | apply pw_below_drewN | apply below_drew1) | exact HB.out))) : w.heap.size ≤ gb120)); have n3_ := Aside0.mk ((by rw [hg]; exact (below_size (by repeat (first | (with_reducible first | exact HB.out | apply below_alloc | apply pw_below_drewN | apply below_drew1) | exact HB.out))) : w.heap.size ≤ gb120)); clear HB; have HB := n0_; have BK120 := n1_; have GW120 := n2_; have GE120 := n3_; clear n0_ n1_ n2_ n3_; clear hb hbox hg; have hcz16_0 : w15.cell? ⟨gb120, 0, none⟩ = some (.int .i64 0) := (blk_cell BK120.out 0).trans rfl; have hcz16_1 : w15.cell? ⟨gb120, 1, none⟩ = some (.int .i64 0) := (blk_cell BK120.out 1).trans rfl; have hcz16_2 : w15.cell? ⟨gb120, 2, none⟩ = some (.int .i64 0) := (blk_cell BK120.out 2).trans rfl; have hcz16_3 : w15.cell? ⟨gb120, 3, none⟩ = some (.int .i64 0) := (blk_cell BK120.out 3).trans rfl; have hcz16_4 : w15.cell? ⟨gb120, 4, none⟩ = some (.int .i64 0) := (blk_cell BK120.out 4).trans rfl; have hfz16_0 := blk_frozen BK120.out 0; have hfz16_1 := blk_frozen BK120.out 1; have hfz16_2 := blk_frozen BK120.out 2; have hfz16_3 := blk_frozen BK120.out 3; have hfz16_4 := blk_frozen BK120.out 4))
                have n0_ : Aside0 ((((((w15.setCell ⟨gb120, 0, none⟩ (.int .i64 ((rd_T33 l0 x7_1).f0))).setCell ⟨gb120, 1, none⟩ (.int .i64 ((rd_T33 l0 x7_1).f1))).setCell ⟨gb120, 2, none⟩ (.int .i64 ((rd_T33 l0 x7_1).f2.f0))).setCell ⟨gb120, 3, none⟩ (.int .i64 ((rd_T33 l0 x7_1).f2.f1))).setCell ⟨gb120, 4, none⟩ (.int .i64 ((rd_T33 l0 x7_1).f2.f2))).heap[gb120]? = some (.cells #[.int .i64 ((rd_T33 l0 x7_1).f0), .int .i64 ((rd_T33 l0 x7_1).f1), .int .i64 ((rd_T33 l0 x7_1).f2.f0), .int .i64 ((rd_T33 l0 x7_1).f2.f1), .int .i64 ((rd_T33 l0 x7_1).f2.f2)] 33 (0, 0))) := ⟨by (with_reducible repeat (first | refine blk_drewN ?_ _ | refine blk_drew ?_ | refine blk_alloc ?_ _)); refine blk_put (cs := #[.int .i64 ((rd_T33 l0 x7_1).f0), .int .i64 ((rd_T33 l0 x7_1).f1), .int .i64 ((rd_T33 l0 x7_1).f2.f0), .int .i64 ((rd_T33 l0 x7_1).f2.f1), .int .i64 0]) ?_ 4 _ rfl; (with_reducible repeat (first | refine blk_drewN ?_ _ | refine blk_drew ?_ | refine blk_alloc ?_ _)); refine blk_put (cs := #[.int .i64 ((rd_T33 l0 x7_1).f0), .int .i64 ((rd_T33 l0 x7_1).f1), .int .i64 ((rd_T33 l0 x7_1).f2.f0), .int .i64 0, .int .i64 0]) ?_ 3 _ rfl; (with_reducible repeat (first | refine blk_drewN ?_ _ | refine blk_drew ?_ | refine blk_alloc ?_ _)); refine blk_put (cs := #[.int .i64 ((rd_T33 l0 x7_1).f0), .int .i64 ((rd_T33 l0 x7_1).f1), .int .i64 0, .int .i64 0, .int .i64 0]) ?_ 2 _ rfl; (with_reducible repeat (first | refine blk_drewN ?_ _ | refine blk_drew ?_ | refine blk_alloc ?_ _)); refine blk_put (cs := #[.int .i64 ((rd_T33 l0 x7_1).f0), .int .i64 0, .int .i64 0, .int .i64 0, .int .i64 0]) ?_ 1 _ rfl; (with_reducible repeat (first | refine blk_drewN ?_ _ | refine blk_drew ?_ | refine blk_alloc ?_ _)); refine blk_put (cs := #[.int .i64 0, .int .i64 0, .int .i64 0, .int .i64 0, .int .i64 0]) ?_ 0 _ rfl; (with_reducible repeat (first | refine blk_drewN ?_ _ | refine blk_drew ?_ | refine blk_alloc ?_ _)); exact BK120.out⟩
                have n1_ : Aside0 (Below w.heap.size w (((((w15.setCell ⟨gb120, 0, none⟩ (.int .i64 ((rd_T33 l0 x7_1).f0))).setCell ⟨gb120, 1, none⟩ (.int .i64 ((rd_T33 l0 x7_1).f1))).setCell ⟨gb120, 2, none⟩ (.int .i64 ((rd_T33 l0 x7_1).f2.f0))).setCell ⟨gb120, 3, none⟩ (.int .i64 ((rd_T33 l0 x7_1).f2.f1))).setCell ⟨gb120, 4, none⟩ (.int .i64 ((rd_T33 l0 x7_1).f2.f2)))) := ⟨by repeat (first | (with_reducible first | exact HB.out | apply below_alloc | apply pw_below_drewN | apply below_drew1 | refine below_set ?_ GE120.out) | exact HB.out)⟩
                (try clear BK120)
                (try clear HB)
                generalize (((((w15.setCell ⟨gb120, 0, none⟩ (.int .i64 ((rd_T33 l0 x7_1).f0))).setCell ⟨gb120, 1, none⟩ (.int .i64 ((rd_T33 l0 x7_1).f1))).setCell ⟨gb120, 2, none⟩ (.int .i64 ((rd_T33 l0 x7_1).f2.f0))).setCell ⟨gb120, 3, none⟩ (.int .i64 ((rd_T33 l0 x7_1).f2.f1))).setCell ⟨gb120, 4, none⟩ (.int .i64 ((rd_T33 l0 x7_1).f2.f2))) = w17 at n0_ n1_ ⊢
                have BK120 := n0_
                have HB := n1_
                clear n0_ n1_
                have n0_ := Aside0.mk (blk_drew BK120.out)
                have n1_ := Aside0.mk (below_drew1 HB.out)
                clear BK120
                clear HB
                have BK120 := n0_
                have HB := n1_
                clear n0_ n1_
                have q19 : (x7_1 : Int) ≤ ((l0.length : Int) : Int) := of_decide_eq_true (by first | (with_reducible assumption) | assumption)
                obtain ⟨i019, hi019, _, hsz19, _⟩ := info_parts info33
                have hroom19 : l0.length ≤ c0 := HC0.out
                have hC19 : Kd.C k33 _ (some ad119) l0.length l0 := HR0.out
                have hcut19 := cut_to (P := Try.prog) 22 33 .i64 Try.underlying22 hi019 (some ad119) l0.length c0 x7_1 (of_decide_eq_true (by first | (with_reducible assumption) | assumption)) q19 hroom19
                have hr19 := Kd.C_take (m := (x7_1 : Int).toNat) hC19 (by omega)
                have hy19 : y121.length = (x7_1 : Int).toNat := (by rw [Ny121.out, List.length_take]; omega)
                rw [← Ny121.out] at hr19
                rw [← hy19] at hcut19
                have HR124 := Aside0.mk hr19
                have HC124 := Aside0.mk (show y121.length ≤ c0 from by omega)
                clear hr19 hC19 hroom19 hi019 hsz19
                have KY19 := Aside0.mk hy19
                clear hy19
                replace q19 := eq_true q19
                refine start_ (n := 5) (S := fun w' => w'.cell? ⟨gb120, 0, none⟩ = some (.int .i64 ((rd_T33 l0 x7_1).f0)) ∧ w'.cell? ⟨gb120, 1, none⟩ = some (.int .i64 ((rd_T33 l0 x7_1).f1)) ∧ w'.cell? ⟨gb120, 2, none⟩ = some (.int .i64 ((rd_T33 l0 x7_1).f2.f0)) ∧ w'.cell? ⟨gb120, 3, none⟩ = some (.int .i64 ((rd_T33 l0 x7_1).f2.f1)) ∧ w'.cell? ⟨gb120, 4, none⟩ = some (.int .i64 ((rd_T33 l0 x7_1).f2.f2))) (ds := []) #[false, false, false, false, false] (by kernel_rfl) rfl rfl ⟨(blk_cell BK120.out 0).trans rfl, (blk_cell BK120.out 1).trans rfl, (blk_cell BK120.out 2).trans rfl, (blk_cell BK120.out 3).trans rfl, (blk_cell BK120.out 4).trans rfl⟩ (fun hHeld => ?_)
                generalize w17.drew = w18 at BK120 HB HR124 hHeld ⊢
                refine pure_ (i := 0) (N := some 12) (v := ?_) (a' := ?_) #[true, false, false, false, false] rfl rfl (by kernel_rfl) (fun _ _ _ h => h) (Or.inl ⟨by rfl, ?_⟩) ?_ ?_
                rotate_left
                · intro w'
                  go_simp
                  with_reducible rfl
                rotate_left
                · simp only [Act.put, List.setIfInBounds_toArray, List.set_cons_zero, List.set_cons_succ, i64_w, i32_w]
                  rfl
                refine pure_ (i := 1) (N := some 13) (v := ?_) (a' := ?_) #[true, true, false, false, false] rfl rfl (by kernel_rfl) (fun _ _ _ h => h) (Or.inl ⟨by rfl, ?_⟩) ?_ ?_
                rotate_left
                · intro w'
                  go_simp
                  with_reducible rfl
                rotate_left
                · simp only [Act.put, List.setIfInBounds_toArray, List.set_cons_zero, List.set_cons_succ, i64_w, i32_w]
                  rfl
                refine pure_ (i := 2) (N := some 14) (v := ?_) (a' := ?_) #[true, true, true, false, false] rfl rfl (by kernel_rfl) (fun _ _ _ h => h) (Or.inl ⟨by rfl, ?_⟩) ?_ ?_
                rotate_left
                · intro w'
                  go_simp
                  with_reducible rfl
                rotate_left
                · simp only [Act.put, List.setIfInBounds_toArray, List.set_cons_zero, List.set_cons_succ, i64_w, i32_w]
                  rfl
                refine take_ (i := 3) (N := some 15) (v := ?_) (a' := ?_) #[true, true, true, true, false] rfl rfl (by kernel_rfl) (fun _ _ _ h => h) (Or.inl ⟨by rfl, ?_⟩) hHeld ?_ ?_
                rotate_left
                · rintro w' ⟨s0, s1, s2, s3, s4⟩
                  go_simp
                  with_reducible rfl
                rotate_left
                · simp only [Act.put, List.setIfInBounds_toArray, List.set_cons_zero, List.set_cons_succ, i64_w, i32_w]
                  rfl
                refine one_ (i := 4) (N := some 16) #[true, true, true, true, true] rfl rfl (by kernel_rfl) (by decide) (fun K hK => ?_)
                refine goes_ Try.func53 (by kernel_rfl) rfl #[.slice (some ad119) y121.length c0, .agg #[.int .i64 ((rd_T33 l0 x7_1).f0), .int .i64 ((rd_T33 l0 x7_1).f1), .int .i64 ((rd_T33 l0 x7_1).f2.f0), .int .i64 ((rd_T33 l0 x7_1).f2.f1), .int .i64 ((rd_T33 l0 x7_1).f2.f2)]] (by rfl) rfl rfl (by (try simp only [List.map_toArray, List.map_cons, List.map_nil]); first | done | rfl | (simp only [List.length_drop, List.length_take]; rfl)) ?_
                with_reducible refine (deadboltref18_bad.calls k1 _ _ y121 ((rd_T33 l0 x7_1).f0) ((rd_T33 l0 x7_1).f1) ((rd_T33 l0 x7_1).f2.f0) ((rd_T33 l0 x7_1).f2.f1) ((rd_T33 l0 x7_1).f2.f2) false _ ?side1 ?side2 A7.out).mono ?_
                (case side1 => repeat (first | exact (Kd.C_below HR124.out HB.out) | (with_reducible refine Kd.C_alloc ?_ _) | (with_reducible refine Kd.C_drewN ?_ _) | (with_reducible refine Kd.C_drew ?_)))
                (case side2 => exact HC124.out)
                rintro e w20 ⟨rfl, hb⟩
                refine ⟨_, rfl, ?_⟩
                have n0_ := Aside0.mk (blk_below (g := gb120) (o := .cells #[.int .i64 ((rd_T33 l0 x7_1).f0), .int .i64 ((rd_T33 l0 x7_1).f1), .int .i64 ((rd_T33 l0 x7_1).f2.f0), .int .i64 ((rd_T33 l0 x7_1).f2.f1), .int .i64 ((rd_T33 l0 x7_1).f2.f2)] 33 (0, 0)) (by (with_reducible repeat (first | refine blk_drewN ?_ _ | refine blk_drew ?_ | refine blk_alloc ?_ _)); exact BK120.out) hb)
                have n1_ := Aside0.mk (below_step (by repeat (first | (with_reducible first | exact HB.out | apply below_alloc | apply pw_below_drewN | apply below_drew1 | refine below_set ?_ GE120.out) | exact HB.out)) hb)
                clear BK120
                clear HB
                have BK120 := n0_
                have HB := n1_
                clear n0_ n1_
                (try clear hb)
                (try clear hb2)
                (try clear hk)
                (try clear hi)
                refine hK.out _ _ ⟨(blk_cell BK120.out 0).trans rfl, (blk_cell BK120.out 1).trans rfl, (blk_cell BK120.out 2).trans rfl, (blk_cell BK120.out 3).trans rfl, (blk_cell BK120.out 4).trans rfl⟩ (fun hHeld => ?_)
                clear hK K
                refine norm_ (a' := ?_) ?_ ?_
                rotate_left
                · show Act.put _ (some 16) _ = _
                  simp only [Act.put, List.setIfInBounds_toArray, List.set_cons_zero, List.set_cons_succ, i64_w, i32_w]
                  rfl
                refine done_ (by kernel_rfl) ?_
                try go_wp2
                go_roundg k1
                case measure => have := HK1.out; omega
                case rel => exact ⟨(wrap64 (x7_1 + 1)), (by first | rfl | (simp; done) | (simp [*]; done)), H', ⟨by have := HK1.out; omega⟩, ⟨by repeat (first | (with_reducible first | exact HB.out | apply below_alloc | apply pw_below_drewN | apply below_drew1 | refine below_set ?_ GE120.out) | exact HB.out)⟩⟩
            · rw [if_neg c6] at H
              exact absurd H (by simp)
          · rw [if_neg c4] at H
            exact absurd H (by simp)
        · rw [if_neg c3] at H
          exact absurd H (by simp)
      · rw [if_neg c2] at H
        have c2b0 : decide (x7_1 < (l0.length : Int)) = false := decide_eq_false c2
        clear c2
        obtain rfl := Option.some.inj H
        go_wp2
        go_ret
        exact ⟨by first | rfl | (simp [errW_none, errW_some] <;> rfl) | (simp [*, errW_none, errW_some] <;> rfl), by repeat (first | (with_reducible first | exact HB.out | apply below_alloc | apply pw_below_drewN | apply below_drew1) | exact HB.out)⟩

end Go.Proofs.Ytjdjmhagafmkaaa.PX

namespace Go.Proofs.Ytjdjmhagafmkaaa.PX
open Go.RowKit Go.Proofs.YtjdjmhagafmkaaaW.PrintWords Go.Proofs.YtjdjmhagafmkaaaW.PrintLast Go.Proofs.YtjdjmhagafmkaaaW.PrintMore
attribute [local go_sem] max2_int min2_int max_two min_two max_three min_three max_four min_four   -- for this text's walks alone
set_option linter.unusedVariables false
set_option linter.unusedSimpArgs false

/-! ### deadboltref18_Held: function 21 -/
def deadboltref18_Held.l0 : Nat → List (S33) → List Int → Int → Option (List Int)
  | 0, _, _, _ => none
  | k + 1, x0, x3, x4 => if x4 < 4 then ((deadboltref18_Holder.f k x0 x4).bind fun t131 => (if x3.length < 17592186044416 then (deadboltref18_Held.l0 k x0 (x3 ++ [t131]) (wrap64 (x4 + 1))) else (none))) else (some x3)
def deadboltref18_Held.f (k : Nat) (l0 : List (S33)) : Option (List Int) := deadboltref18_Held.l0 k l0 (([] : List Int)) 0
theorem deadboltref18_Held.mono_l : ∀ k, (∀ y0 y1 y2, LeO (deadboltref18_Held.l0 k y0 y1 y2) (deadboltref18_Held.l0 (k + 1) y0 y1 y2))
  | 0 => fun _ _ _ r h => by simp [deadboltref18_Held.l0] at h
  | k + 1 => by
    have ih0 := deadboltref18_Held.mono_l k
    · intro y0 y1 y2
      unfold deadboltref18_Held.l0
      repeat' first
      | (with_reducible exact ih0 _ _ _)
      | (with_reducible exact deadboltref18_Holder.mono _ _ _)
      | (with_reducible exact LeO.refl _)
      | (with_reducible exact LeO.none _)
      | (with_reducible refine LeO.ite ?_ ?_)
      | (with_reducible refine LeO.bind ?_ (fun _ => ?_))
      | exact ih0 _ _ _
      | exact deadboltref18_Holder.mono _ _ _
      | exact LeO.none _
      | refine LeO.ite ?_ ?_
      | refine LeO.bind ?_ (fun _ => ?_)
theorem deadboltref18_Held.mono : ∀ a0 k, LeO (deadboltref18_Held.f k a0) (deadboltref18_Held.f (k + 1) a0) := by
  intro a0 k
  have ih0 := deadboltref18_Held.mono_l k
  unfold deadboltref18_Held.f
  repeat' first
      | (with_reducible exact ih0 _ _ _)
      | (with_reducible exact deadboltref18_Holder.mono _ _ _)
      | (with_reducible exact LeO.refl _)
      | (with_reducible exact LeO.none _)
      | (with_reducible refine LeO.ite ?_ ?_)
      | (with_reducible refine LeO.bind ?_ (fun _ => ?_))
      | exact ih0 _ _ _
      | exact deadboltref18_Holder.mono _ _ _
      | exact LeO.none _
      | refine LeO.ite ?_ ?_
      | refine LeO.bind ?_ (fun _ => ?_)
set_option maxHeartbeats 8000000 in
set_option maxRecDepth 100000 in
theorem deadboltref18_Held.calls (k : Nat) (A0 : Option Addr) (c0 : Nat) (l0 : List (S33)) (r : List Int) (w : World) (hr0 : Kd.C k33 w A0 l0.length l0) (hc0 : l0.length ≤ c0) (h : deadboltref18_Held.f k l0 = some r) :
    Calls Try.prog 21 #[.slice A0 l0.length c0] w fun e w' => ∃ v0_ : Value, e = .returned (v0_) ∧ Kd.R (Kd.int .i64) 3 w' w.heap.size (fun _ => True) v0_ r ∧ Below w.heap.size w w' := by
  have HR0 := Aside0.mk hr0
  have HC0 := Aside0.mk hc0
  clear hr0 hc0
  have HB := Aside0.mk (Below.refl w.heap.size w)
  have H : (deadboltref18_Held.l0 k l0 (([] : List Int)) 0) = some r := h
  clear h
  obtain ⟨y128, hy128⟩ : ∃ y_ : List Int, y_ = (([] : List Int)) := ⟨_, rfl⟩
  replace H : (deadboltref18_Held.l0 k l0 y128 0) = some r := by first | (rw [hy128]; with_reducible exact H) | (have H2_ := (Option.bind_some _ _).symm.trans H; rw [hy128]; with_reducible exact H2_) | (have H2_ := (Option.bind_some _ _).symm.trans H; with_reducible exact H2_) | with_reducible exact H | (rw [hy128]; exact H) | exact H
  have Ny128 := Aside0.mk hy128
  clear hy128
  have H' := Aside0.mk H
  clear H
  go_enter Try.func21, Try.ntmps21
  go_wp2_with (first | ((with_reducible refine gate_dst (N := 5) rfl ?_); refine Kd.R_lit (Kd.int .i64) _ 3 ?hg (N := 5) ?hd (xs := ([] : List Int)) (inner := []) (ok := fun _ => True) (okp := fun _ => True) ?hr ?hp (fun _ hk => hk) trivial (Below.refl _ _) (Nat.le_refl _) (by simp) ?_; (case hd => rfl); (case hg => rfl); (case hr => first | (go_simp; done) | (go_simp; rfl)); (case hp => exact (Reps.none _ _)); intro v129 w2 ho3 hb hg_ hnew_; clear hg_ hnew_; (first | rw [← Ny128.out] at ho3 | (simp only [Int.reduceToNat] at ho3; rw [← Ny128.out] at ho3)); have n0_ := Aside0.mk (Kd.R_lower ho3 (below_size (by repeat (first | (with_reducible first | exact HB.out | apply below_alloc | apply pw_below_drewN | apply below_drew1) | exact HB.out)))); have n1_ := Aside0.mk (below_step (by repeat (first | (with_reducible first | exact HB.out | apply below_alloc | apply pw_below_drewN | apply below_drew1) | exact HB.out)) hb); clear HB; have HO130 := n0_; have HB := n1_; clear n0_ n1_; clear hb ho3))
  go_loopg [3, 4] k (fun kq v3 v4 w' => ∃ (x3_1 : List Int) (x4_1 : Int), v4 = .int .i64 x4_1 ∧ Aside0 (deadboltref18_Held.l0 kq l0 x3_1 x4_1 = some r) ∧ Aside0 (kq ≤ k) ∧ Aside0 (Kd.R (Kd.int .i64) 3 w' w.heap.size (fun _ => True) v3 x3_1) ∧ Aside0 (Below w.heap.size w w'))
  case atStart => exact ⟨(y128), (0), (by first | rfl | (simp; done) | (simp [*]; done)), H', ⟨Nat.le_refl _⟩, ⟨by (with_reducible repeat (first | apply Kd.R_alloc | apply Kd.R_drewN | apply Kd.R_drew)); exact HO130.out⟩, ⟨by repeat (first | (with_reducible first | exact HB.out | apply below_alloc | apply pw_below_drewN | apply below_drew1) | exact HB.out)⟩⟩
  case round =>
    clear H'
    try clear c2
    try clear p2
    obtain ⟨x3_1, x4_1, rfl, HA, HK1, HO_3, HB⟩ := hrel
    cases gk with
    | zero => exact absurd HA.out (by simp [deadboltref18_Held.l0])
    | succ k1 =>
      have H := HA.out
      clear HA
      simp only [deadboltref18_Held.l0] at H
      by_cases c4 : x4_1 < 4
      · rw [if_pos c4] at H
        have c4b0 : decide (x4_1 < 4) = true := decide_eq_true c4
        clear c4
        replace H := Option.bind_eq_some_iff.mp H
        obtain ⟨t131, A50, H⟩ := H
        replace H : (if x3_1.length < 17592186044416 then (deadboltref18_Held.l0 k1 l0 (x3_1 ++ [t131]) (wrap64 (x4_1 + 1))) else (none)) = some r := H
        have A5 := Aside0.mk A50
        clear A50
        by_cases c6 : x3_1.length < 17592186044416
        · rw [if_pos c6] at H
          have LMc6 := Aside0.mk c6
          clear c6
          obtain ⟨y132, hy132⟩ : ∃ y_ : List Int, y_ = (x3_1 ++ [t131]) := ⟨_, rfl⟩
          replace H : (deadboltref18_Held.l0 k1 l0 y132 (wrap64 (x4_1 + 1))) = some r := by first | (rw [hy132]; with_reducible exact H) | (have H2_ := (Option.bind_some _ _).symm.trans H; rw [hy132]; with_reducible exact H2_) | (have H2_ := (Option.bind_some _ _).symm.trans H; with_reducible exact H2_) | with_reducible exact H | (rw [hy132]; exact H) | exact H
          have Ny132 := Aside0.mk hy132
          clear hy132
          have H' := Aside0.mk H
          clear H
          go_wp2_with (first | ((with_reducible refine gate_callee (f := 54) rfl ?_); refine goesL_ (some 13) rfl rfl Try.func54 (by kernel_rfl) rfl #[.slice A0 l0.length c0, .int .i64 x4_1] rfl (by (try simp only [List.map_toArray, List.map_cons, List.map_nil]); first | done | rfl | (simp only [List.length_drop, List.length_take]; rfl)) ?_; (with_reducible refine (deadboltref18_Holder.calls k1 _ _ l0 x4_1 t131 _ ?side1 ?side2 A5.out).mono ?_); (case side1 => repeat (first | exact (Kd.C_below HR0.out HB.out) | (with_reducible refine Kd.C_alloc ?_ _) | (with_reducible refine Kd.C_drewN ?_ _) | (with_reducible refine Kd.C_drew ?_))); (case side2 => exact HC0.out); rintro e w7 ⟨rfl, hb⟩; refine ⟨_, rfl, ?_⟩; have n0_ := Aside0.mk (Kd.R_below (by (with_reducible repeat (first | apply Kd.R_alloc | apply Kd.R_drewN | apply Kd.R_drew)); exact HO_3.out) hb); have n1_ := Aside0.mk (below_step (by repeat (first | (with_reducible first | exact HB.out | apply below_alloc | apply pw_below_drewN | apply below_drew1) | exact HB.out)) hb); clear HO_3; clear HB; have HO_3 := n0_; have HB := n1_; clear n0_ n1_; (try clear hb); (try clear hb2); (try clear hk); (try clear hi)) | ((with_reducible refine gate_builtin (b := .append) (xs := #[.tmp 10, .tmp 14]) rfl ?_); at_builtin; refine Kd.R_append (Kd.int .i64) (w0 := w) w.heap.size rfl (.tmp 10) (.tmp 14) 26 3 (.int .i64 0) 8 rfl Try.underlying26 info3 rfl (by decide) (by omega) u3 x3_1 t131 [.int .i64 t131] (fun _ => True) (fun _ => False) rfl rfl ?aP (fun _ hk => hk.elim) ?aF ?aO ?aB ?aS ?aL ?_; (case aP => exact rfl); (case aB => exact (by repeat (first | (with_reducible first | exact HB.out | apply below_alloc | apply pw_below_drewN | apply below_drew1) | exact HB.out))); (case aF => exact (fun _ _ => trivial)); (case aO => exact (by (with_reducible repeat (first | apply Kd.R_alloc | apply Kd.R_drewN | apply Kd.R_drew)); exact HO_3.out)); (case aS => exact (below_size (by repeat (first | (with_reducible first | exact HB.out | apply below_alloc | apply pw_below_drewN | apply below_drew1) | exact HB.out)))); (case aL => have := LMc6.out; omega); intro v133 w8 ho hb hg hat; rw [← Ny132.out] at ho; have n0_ := Aside0.mk (hb); have n1_ := Aside0.mk (ho); clear HB; clear HO_3; have HB := n0_; have HO134 := n1_; clear n0_ n1_; clear ho hb hg hat))
          go_roundg k1
          case measure => have := HK1.out; omega
          case rel => exact ⟨(y132), (wrap64 (x4_1 + 1)), (by first | rfl | (simp; done) | (simp [*]; done)), H', ⟨by have := HK1.out; omega⟩, ⟨by (with_reducible repeat (first | apply Kd.R_alloc | apply Kd.R_drewN | apply Kd.R_drew)); exact HO134.out⟩, ⟨by repeat (first | (with_reducible first | exact HB.out | apply below_alloc | apply pw_below_drewN | apply below_drew1) | exact HB.out)⟩⟩
        · rw [if_neg c6] at H
          exact absurd H (by simp)
      · rw [if_neg c4] at H
        have c4b0 : decide (x4_1 < 4) = false := decide_eq_false c4
        clear c4
        obtain rfl := Option.some.inj H
        go_wp2
        go_ret
        exact ⟨_, by first | rfl | (simp [errW_none, errW_some] <;> rfl) | (simp [*, errW_none, errW_some] <;> rfl), by (with_reducible repeat (first | apply Kd.R_alloc | apply Kd.R_drewN | apply Kd.R_drew)); exact HO_3.out, by repeat (first | (with_reducible first | exact HB.out | apply below_alloc | apply pw_below_drewN | apply below_drew1) | exact HB.out)⟩

end Go.Proofs.Ytjdjmhagafmkaaa.PX

namespace Go.Proofs.Ytjdjmhagafmkaaa.PX
open Go.RowKit Go.Proofs.YtjdjmhagafmkaaaW.PrintWords Go.Proofs.YtjdjmhagafmkaaaW.PrintLast Go.Proofs.YtjdjmhagafmkaaaW.PrintMore
attribute [local go_sem] max2_int min2_int max_two min_two max_three min_three max_four min_four   -- for this text's walks alone
set_option linter.unusedVariables false
set_option linter.unusedSimpArgs false

/-! ### deadboltref18_Order: function 22 -/
def deadboltref18_Order.l0 : Nat → Int → List Int → List (S33) → Int → Int → Option (List Int)
  | 0, _, _, _, _, _ => none
  | k + 1, x1, x5, x9, x10, x11 => if x11 < x10 then (if 0 ≤ x11 then (if x11 < (x9.length : Int) then (if ((rd_T33 x9 x11).f2.f2) = x1 then (if ((rd_T33 x9 x11).f2.f1) ≤ 1 then (if x5.length < 17592186044416 then (deadboltref18_Order.l0 k x1 (x5 ++ [(rd_T33 x9 x11).f2.f0]) x9 x10 (wrap64 (x11 + 1))) else (none)) else (deadboltref18_Order.l0 k x1 x5 x9 x10 (wrap64 (x11 + 1)))) else (deadboltref18_Order.l0 k x1 x5 x9 x10 (wrap64 (x11 + 1)))) else (none)) else (none)) else (some x5)
def deadboltref18_Order.f (k : Nat) (l0 : List (S33)) (a1 : Int) : Option (List Int) := deadboltref18_Order.l0 k a1 (([] : List Int)) l0 (l0.length : Int) 0
theorem deadboltref18_Order.mono_l : ∀ k, (∀ y0 y1 y2 y3 y4, LeO (deadboltref18_Order.l0 k y0 y1 y2 y3 y4) (deadboltref18_Order.l0 (k + 1) y0 y1 y2 y3 y4))
  | 0 => fun _ _ _ _ _ r h => by simp [deadboltref18_Order.l0] at h
  | k + 1 => by
    have ih0 := deadboltref18_Order.mono_l k
    · intro y0 y1 y2 y3 y4
      unfold deadboltref18_Order.l0
      repeat' first
      | (with_reducible exact ih0 _ _ _ _ _)
      | (with_reducible exact LeO.refl _)
      | (with_reducible exact LeO.none _)
      | (with_reducible refine LeO.ite ?_ ?_)
      | (with_reducible refine LeO.bind ?_ (fun _ => ?_))
      | exact ih0 _ _ _ _ _
      | exact LeO.none _
      | refine LeO.ite ?_ ?_
      | refine LeO.bind ?_ (fun _ => ?_)
theorem deadboltref18_Order.mono : ∀ a0 a1 k, LeO (deadboltref18_Order.f k a0 a1) (deadboltref18_Order.f (k + 1) a0 a1) := by
  intro a0 a1 k
  have ih0 := deadboltref18_Order.mono_l k
  unfold deadboltref18_Order.f
  repeat' first
      | (with_reducible exact ih0 _ _ _ _ _)
      | (with_reducible exact LeO.refl _)
      | (with_reducible exact LeO.none _)
      | (with_reducible refine LeO.ite ?_ ?_)
      | (with_reducible refine LeO.bind ?_ (fun _ => ?_))
      | exact ih0 _ _ _ _ _
      | exact LeO.none _
      | refine LeO.ite ?_ ?_
      | refine LeO.bind ?_ (fun _ => ?_)
set_option maxHeartbeats 8000000 in
set_option maxRecDepth 100000 in
theorem deadboltref18_Order.calls (k : Nat) (A0 : Option Addr) (c0 : Nat) (l0 : List (S33)) (a1 : Int) (r : List Int) (w : World) (hr0 : Kd.C k33 w A0 l0.length l0) (hc0 : l0.length ≤ c0) (h : deadboltref18_Order.f k l0 a1 = some r) :
    Calls Try.prog 22 #[.slice A0 l0.length c0, .int .i64 a1] w fun e w' => ∃ v0_ : Value, e = .returned (v0_) ∧ Kd.R (Kd.int .i64) 3 w' w.heap.size (fun _ => True) v0_ r ∧ Below w.heap.size w w' := by
  have hu33 := Try.underlying33
  have HR0 := Aside0.mk hr0
  have HC0 := Aside0.mk hc0
  clear hr0 hc0
  have HB := Aside0.mk (Below.refl w.heap.size w)
  have H : (deadboltref18_Order.l0 k a1 (([] : List Int)) l0 (l0.length : Int) 0) = some r := h
  clear h
  obtain ⟨y135, hy135⟩ : ∃ y_ : List Int, y_ = (([] : List Int)) := ⟨_, rfl⟩
  replace H : (deadboltref18_Order.l0 k a1 y135 l0 (l0.length : Int) 0) = some r := by first | (rw [hy135]; with_reducible exact H) | (have H2_ := (Option.bind_some _ _).symm.trans H; rw [hy135]; with_reducible exact H2_) | (have H2_ := (Option.bind_some _ _).symm.trans H; with_reducible exact H2_) | with_reducible exact H | (rw [hy135]; exact H) | exact H
  have Ny135 := Aside0.mk hy135
  clear hy135
  have H' := Aside0.mk H
  clear H
  go_enter Try.func22, Try.ntmps22
  go_wp2_with (first | ((with_reducible refine gate_dst (N := 8) rfl ?_); refine Kd.R_lit (Kd.int .i64) _ 3 ?hg (N := 8) ?hd (xs := ([] : List Int)) (inner := []) (ok := fun _ => True) (okp := fun _ => True) ?hr ?hp (fun _ hk => hk) trivial (Below.refl _ _) (Nat.le_refl _) (by simp) ?_; (case hd => rfl); (case hg => rfl); (case hr => first | (go_simp; done) | (go_simp; rfl)); (case hp => exact (Reps.none _ _)); intro v136 w3 ho4 hb hg_ hnew_; clear hg_ hnew_; (first | rw [← Ny135.out] at ho4 | (simp only [Int.reduceToNat] at ho4; rw [← Ny135.out] at ho4)); have n0_ := Aside0.mk (Kd.R_lower ho4 (below_size (by repeat (first | (with_reducible first | exact HB.out | apply below_alloc | apply pw_below_drewN | apply below_drew1) | exact HB.out)))); have n1_ := Aside0.mk (below_step (by repeat (first | (with_reducible first | exact HB.out | apply below_alloc | apply pw_below_drewN | apply below_drew1) | exact HB.out)) hb); clear HB; have HO137 := n0_; have HB := n1_; clear n0_ n1_; clear hb ho4))
  go_loopg [5, 11] k (fun kq v5 v11 w' => ∃ (x5_1 : List Int) (x11_1 : Int), v11 = .int .i64 x11_1 ∧ Aside0 (deadboltref18_Order.l0 kq a1 x5_1 l0 (l0.length : Int) x11_1 = some r) ∧ Aside0 (kq ≤ k) ∧ Aside0 (Kd.R (Kd.int .i64) 3 w' w.heap.size (fun _ => True) v5 x5_1) ∧ Aside0 (Below w.heap.size w w'))
  case atStart => exact ⟨(y135), (0), (by first | rfl | (simp; done) | (simp [*]; done)), H', ⟨Nat.le_refl _⟩, ⟨by (with_reducible repeat (first | apply Kd.R_alloc | apply Kd.R_drewN | apply Kd.R_drew)); exact HO137.out⟩, ⟨by repeat (first | (with_reducible first | exact HB.out | apply below_alloc | apply pw_below_drewN | apply below_drew1) | exact HB.out)⟩⟩
  case round =>
    clear H'
    try clear c2
    try clear p2
    obtain ⟨x5_1, x11_1, rfl, HA, HK1, HO_5, HB⟩ := hrel
    cases gk with
    | zero => exact absurd HA.out (by simp [deadboltref18_Order.l0])
    | succ k1 =>
      have H := HA.out
      clear HA
      simp only [deadboltref18_Order.l0] at H
      by_cases c5 : x11_1 < (l0.length : Int)
      · rw [if_pos c5] at H
        have c5b0 : decide (x11_1 < (l0.length : Int)) = true := decide_eq_true c5
        clear c5
        by_cases c6 : 0 ≤ x11_1
        · rw [if_pos c6] at H
          have c6b0 : decide (0 ≤ x11_1) = true := decide_eq_true c6
          clear c6
          by_cases c7 : x11_1 < (l0.length : Int)
          · rw [if_pos c7] at H
            have c7b0 : decide (x11_1 < (l0.length : Int)) = true := decide_eq_true c7
            clear c7
            by_cases c8 : ((rd_T33 l0 x11_1).f2.f2) = a1
            · rw [if_pos c8] at H
              have c8b0 : (((rd_T33 l0 x11_1).f2.f2) == a1) = true := beq_iff_eq.mpr c8
              have c8b1 : (((rd_T33 l0 x11_1).f2.f2) != a1) = false := bne_eq_false_iff_eq.mpr c8
              clear c8
              by_cases c9 : ((rd_T33 l0 x11_1).f2.f1) ≤ 1
              · rw [if_pos c9] at H
                have c9b0 : decide (((rd_T33 l0 x11_1).f2.f1) ≤ 1) = true := decide_eq_true c9
                clear c9
                by_cases c10 : x5_1.length < 17592186044416
                · rw [if_pos c10] at H
                  have LMc10 := Aside0.mk c10
                  clear c10
                  obtain ⟨y140, hy140⟩ : ∃ y_ : List Int, y_ = (x5_1 ++ [(rd_T33 l0 x11_1).f2.f0]) := ⟨_, rfl⟩
                  replace H : (deadboltref18_Order.l0 k1 a1 y140 l0 (l0.length : Int) (wrap64 (x11_1 + 1))) = some r := by first | (rw [hy140]; with_reducible exact H) | (have H2_ := (Option.bind_some _ _).symm.trans H; rw [hy140]; with_reducible exact H2_) | (have H2_ := (Option.bind_some _ _).symm.trans H; with_reducible exact H2_) | with_reducible exact H | (rw [hy140]; exact H) | exact H
                  have Ny140 := Aside0.mk hy140
                  clear hy140
                  have H' := Aside0.mk H
                  clear H
                  have p138 : 0 ≤ (x11_1 : Int) := of_decide_eq_true (by first | (with_reducible assumption) | assumption)
                  have q138 : x11_1 < (l0.length : Int) := of_decide_eq_true (by first | (with_reducible assumption) | assumption)
                  obtain ⟨ad138, e138, hx138_0, hx138_1, hx138_2, hx138_3, hx138_4⟩ := at_T33 HR0.out x11_1 p138 q138
                  cases e138
                  replace hx138_0 := (HB.out.cell (World.block_lt_of_cell? w _ hx138_0)).trans hx138_0
                  replace hx138_1 := (HB.out.cell (World.block_lt_of_cell? w _ hx138_1)).trans hx138_1
                  replace hx138_2 := (HB.out.cell (World.block_lt_of_cell? w _ hx138_2)).trans hx138_2
                  replace hx138_3 := (HB.out.cell (World.block_lt_of_cell? w _ hx138_3)).trans hx138_3
                  replace hx138_4 := (HB.out.cell (World.block_lt_of_cell? w _ hx138_4)).trans hx138_4
                  replace p138 := eq_true p138
                  replace q138 := eq_true q138
                  go_wp2_with (first | ((with_reducible refine gate_dst (N := 7) rfl ?_); refine box_event ?hg (N := 7) ?hd (cs := #[.int .i64 0, .int .i64 0, .int .i64 0, .int .i64 0, .int .i64 0]) (t := 33) ?hr ?_; (case hd => rfl); (case hg => rfl); (case hr => first | (go_simp; done) | (go_simp; rfl)); intro gb139 hg w11 hbox hb; have n0_ := Aside0.mk (Kd.R_below (by (with_reducible repeat (first | apply Kd.R_alloc | apply Kd.R_drewN | apply Kd.R_drew)); exact HO_5.out) hb); have n1_ := Aside0.mk (below_step (by repeat (first | (with_reducible first | exact HB.out | apply below_alloc | apply pw_below_drewN | apply below_drew1) | exact HB.out)) hb); have n2_ := Aside0.mk (hbox); have n3_ := Aside0.mk ((by rw [hg]; exact (below_size (by repeat (first | (with_reducible first | exact HB.out | apply below_alloc | apply pw_below_drewN | apply below_drew1) | exact HB.out))) : w.heap.size ≤ gb139)); have n4_ := Aside0.mk ((by rw [hg]; exact (below_size (by repeat (first | (with_reducible first | exact HB.out | apply below_alloc | apply pw_below_drewN | apply below_drew1) | exact HB.out))) : w.heap.size ≤ gb139)); clear HO_5; clear HB; have HO_5 := n0_; have HB := n1_; have BK139 := n2_; have GW139 := n3_; have GE139 := n4_; clear n0_ n1_ n2_ n3_ n4_; clear hb hbox hg; have hcz12_0 : w11.cell? ⟨gb139, 0, none⟩ = some (.int .i64 0) := (blk_cell BK139.out 0).trans rfl; have hcz12_1 : w11.cell? ⟨gb139, 1, none⟩ = some (.int .i64 0) := (blk_cell BK139.out 1).trans rfl; have hcz12_2 : w11.cell? ⟨gb139, 2, none⟩ = some (.int .i64 0) := (blk_cell BK139.out 2).trans rfl; have hcz12_3 : w11.cell? ⟨gb139, 3, none⟩ = some (.int .i64 0) := (blk_cell BK139.out 3).trans rfl; have hcz12_4 : w11.cell? ⟨gb139, 4, none⟩ = some (.int .i64 0) := (blk_cell BK139.out 4).trans rfl; have hfz12_0 := blk_frozen BK139.out 0; have hfz12_1 := blk_frozen BK139.out 1; have hfz12_2 := blk_frozen BK139.out 2; have hfz12_3 := blk_frozen BK139.out 3; have hfz12_4 := blk_frozen BK139.out 4) | ((with_reducible refine gate_builtin (b := .append) (xs := #[.tmp 26, .tmp 30]) rfl ?_); at_builtin; refine Kd.R_append (Kd.int .i64) (w0 := w) w.heap.size rfl (.tmp 26) (.tmp 30) 26 3 (.int .i64 0) 8 rfl Try.underlying26 info3 rfl (by decide) (by omega) u5 x5_1 ((rd_T33 l0 x11_1).f2.f0) [.int .i64 ((rd_T33 l0 x11_1).f2.f0)] (fun _ => True) (fun _ => False) rfl (by first | (go_simp; done) | (go_simp; rfl)) ?aP (fun _ hk => hk.elim) ?aF ?aO ?aB ?aS ?aL ?_; (case aP => exact rfl); (case aB => exact (by repeat (first | (with_reducible first | exact HB.out | apply below_alloc | apply pw_below_drewN | apply below_drew1 | refine below_set ?_ GE139.out) | exact HB.out))); (case aF => exact (fun _ _ => trivial)); (case aO => exact (by (with_reducible repeat (first | apply Kd.R_alloc | apply Kd.R_drewN | apply Kd.R_drew)); exact Kd.R_mono (Kd.R_far (p := ⟨gb139, 4, none⟩) (Kd.R_far (p := ⟨gb139, 3, none⟩) (Kd.R_far (p := ⟨gb139, 2, none⟩) (Kd.R_far (p := ⟨gb139, 1, none⟩) (Kd.R_far (p := ⟨gb139, 0, none⟩) (Kd.R_types HO_5.out BK139.out (by decide)) (fun _ hk => hk.2) (.int .i64 ((rd_T33 l0 x11_1).f0))) (fun _ hk => hk.2) (.int .i64 ((rd_T33 l0 x11_1).f1))) (fun _ hk => hk.2) (.int .i64 ((rd_T33 l0 x11_1).f2.f0))) (fun _ hk => hk.2) (.int .i64 ((rd_T33 l0 x11_1).f2.f1))) (fun _ hk => hk.2) (.int .i64 ((rd_T33 l0 x11_1).f2.f2))) (fun _ hk => trivial))); (case aS => exact (below_size (by repeat (first | (with_reducible first | exact HB.out | apply below_alloc | apply pw_below_drewN | apply below_drew1 | refine below_set ?_ GE139.out) | exact HB.out)))); (case aL => have := LMc10.out; omega); intro v141 w13 ho hb hg hat; rw [← Ny140.out] at ho; have n0_ := Aside0.mk (blk_grown (g := gb139) (o := .cells #[.int .i64 ((rd_T33 l0 x11_1).f0), .int .i64 ((rd_T33 l0 x11_1).f1), .int .i64 ((rd_T33 l0 x11_1).f2.f0), .int .i64 ((rd_T33 l0 x11_1).f2.f1), .int .i64 ((rd_T33 l0 x11_1).f2.f2)] 33 (0, 0)) (by (with_reducible repeat (first | refine blk_drewN ?_ _ | refine blk_drew ?_ | refine blk_alloc ?_ _)); refine blk_put (cs := #[.int .i64 ((rd_T33 l0 x11_1).f0), .int .i64 ((rd_T33 l0 x11_1).f1), .int .i64 ((rd_T33 l0 x11_1).f2.f0), .int .i64 ((rd_T33 l0 x11_1).f2.f1), .int .i64 0]) ?_ 4 _ rfl; (with_reducible repeat (first | refine blk_drewN ?_ _ | refine blk_drew ?_ | refine blk_alloc ?_ _)); refine blk_put (cs := #[.int .i64 ((rd_T33 l0 x11_1).f0), .int .i64 ((rd_T33 l0 x11_1).f1), .int .i64 ((rd_T33 l0 x11_1).f2.f0), .int .i64 0, .int .i64 0]) ?_ 3 _ rfl; (with_reducible repeat (first | refine blk_drewN ?_ _ | refine blk_drew ?_ | refine blk_alloc ?_ _)); refine blk_put (cs := #[.int .i64 ((rd_T33 l0 x11_1).f0), .int .i64 ((rd_T33 l0 x11_1).f1), .int .i64 0, .int .i64 0, .int .i64 0]) ?_ 2 _ rfl; (with_reducible repeat (first | refine blk_drewN ?_ _ | refine blk_drew ?_ | refine blk_alloc ?_ _)); refine blk_put (cs := #[.int .i64 ((rd_T33 l0 x11_1).f0), .int .i64 0, .int .i64 0, .int .i64 0, .int .i64 0]) ?_ 1 _ rfl; (with_reducible repeat (first | refine blk_drewN ?_ _ | refine blk_drew ?_ | refine blk_alloc ?_ _)); refine blk_put (cs := #[.int .i64 0, .int .i64 0, .int .i64 0, .int .i64 0, .int .i64 0]) ?_ 0 _ rfl; (with_reducible repeat (first | refine blk_drewN ?_ _ | refine blk_drew ?_ | refine blk_alloc ?_ _)); exact BK139.out) hg (Kd.R_ne HO_5.out BK139.out (by decide))); have n1_ := Aside0.mk (hb); have n2_ := Aside0.mk (ho); clear BK139; clear HB; clear HO_5; have BK139 := n0_; have HB := n1_; have HO142 := n2_; clear n0_ n1_ n2_; clear ho hb hg hat))
                  go_roundg k1
                  case measure => have := HK1.out; omega
                  case rel => exact ⟨(y140), (wrap64 (x11_1 + 1)), (by first | rfl | (simp; done) | (simp [*]; done)), H', ⟨by have := HK1.out; omega⟩, ⟨by (with_reducible repeat (first | apply Kd.R_alloc | apply Kd.R_drewN | apply Kd.R_drew)); exact HO142.out⟩, ⟨by repeat (first | (with_reducible first | exact HB.out | apply below_alloc | apply pw_below_drewN | apply below_drew1 | refine below_set ?_ GE139.out) | exact HB.out)⟩⟩
                · rw [if_neg c10] at H
                  exact absurd H (by simp)
              · rw [if_neg c9] at H
                have c9b0 : decide (((rd_T33 l0 x11_1).f2.f1) ≤ 1) = false := decide_eq_false c9
                clear c9
                have H' := Aside0.mk H
                clear H
                have p138 : 0 ≤ (x11_1 : Int) := of_decide_eq_true (by first | (with_reducible assumption) | assumption)
                have q138 : x11_1 < (l0.length : Int) := of_decide_eq_true (by first | (with_reducible assumption) | assumption)
                obtain ⟨ad138, e138, hx138_0, hx138_1, hx138_2, hx138_3, hx138_4⟩ := at_T33 HR0.out x11_1 p138 q138
                cases e138
                replace hx138_0 := (HB.out.cell (World.block_lt_of_cell? w _ hx138_0)).trans hx138_0
                replace hx138_1 := (HB.out.cell (World.block_lt_of_cell? w _ hx138_1)).trans hx138_1
                replace hx138_2 := (HB.out.cell (World.block_lt_of_cell? w _ hx138_2)).trans hx138_2
                replace hx138_3 := (HB.out.cell (World.block_lt_of_cell? w _ hx138_3)).trans hx138_3
                replace hx138_4 := (HB.out.cell (World.block_lt_of_cell? w _ hx138_4)).trans hx138_4
                replace p138 := eq_true p138
                replace q138 := eq_true q138
                go_wp2_with (first | ((with_reducible refine gate_dst (N := 7) rfl ?_); refine box_event ?hg (N := 7) ?hd (cs := #[.int .i64 0, .int .i64 0, .int .i64 0, .int .i64 0, .int .i64 0]) (t := 33) ?hr ?_; (case hd => rfl); (case hg => rfl); (case hr => first | (go_simp; done) | (go_simp; rfl)); intro gb139 hg w14 hbox hb; have n0_ := Aside0.mk (Kd.R_below (by (with_reducible repeat (first | apply Kd.R_alloc | apply Kd.R_drewN | apply Kd.R_drew)); exact HO_5.out) hb); have n1_ := Aside0.mk (below_step (by repeat (first | (with_reducible first | exact HB.out | apply below_alloc | apply pw_below_drewN | apply below_drew1) | exact HB.out)) hb); have n2_ := Aside0.mk (hbox); have n3_ := Aside0.mk ((by rw [hg]; exact (below_size (by repeat (first | (with_reducible first | exact HB.out | apply below_alloc | apply pw_below_drewN | apply below_drew1) | exact HB.out))) : w.heap.size ≤ gb139)); have n4_ := Aside0.mk ((by rw [hg]; exact (below_size (by repeat (first | (with_reducible first | exact HB.out | apply below_alloc | apply pw_below_drewN | apply below_drew1) | exact HB.out))) : w.heap.size ≤ gb139)); clear HO_5; clear HB; have HO_5 := n0_; have HB := n1_; have BK139 := n2_; have GW139 := n3_; have GE139 := n4_; clear n0_ n1_ n2_ n3_ n4_; clear hb hbox hg; have hcz15_0 : w14.cell? ⟨gb139, 0, none⟩ = some (.int .i64 0) := (blk_cell BK139.out 0).trans rfl; have hcz15_1 : w14.cell? ⟨gb139, 1, none⟩ = some (.int .i64 0) := (blk_cell BK139.out 1).trans rfl; have hcz15_2 : w14.cell? ⟨gb139, 2, none⟩ = some (.int .i64 0) := (blk_cell BK139.out 2).trans rfl; have hcz15_3 : w14.cell? ⟨gb139, 3, none⟩ = some (.int .i64 0) := (blk_cell BK139.out 3).trans rfl; have hcz15_4 : w14.cell? ⟨gb139, 4, none⟩ = some (.int .i64 0) := (blk_cell BK139.out 4).trans rfl; have hfz15_0 := blk_frozen BK139.out 0; have hfz15_1 := blk_frozen BK139.out 1; have hfz15_2 := blk_frozen BK139.out 2; have hfz15_3 := blk_frozen BK139.out 3; have hfz15_4 := blk_frozen BK139.out 4))
                go_roundg k1
                case measure => have := HK1.out; omega
                case rel => exact ⟨(x5_1), (wrap64 (x11_1 + 1)), (by first | rfl | (simp; done) | (simp [*]; done)), H', ⟨by have := HK1.out; omega⟩, ⟨by (with_reducible repeat (first | apply Kd.R_alloc | apply Kd.R_drewN | apply Kd.R_drew)); exact Kd.R_mono (Kd.R_far (p := ⟨gb139, 4, none⟩) (Kd.R_far (p := ⟨gb139, 3, none⟩) (Kd.R_far (p := ⟨gb139, 2, none⟩) (Kd.R_far (p := ⟨gb139, 1, none⟩) (Kd.R_far (p := ⟨gb139, 0, none⟩) (Kd.R_types HO_5.out BK139.out (by decide)) (fun _ hk => hk.2) (.int .i64 ((rd_T33 l0 x11_1).f0))) (fun _ hk => hk.2) (.int .i64 ((rd_T33 l0 x11_1).f1))) (fun _ hk => hk.2) (.int .i64 ((rd_T33 l0 x11_1).f2.f0))) (fun _ hk => hk.2) (.int .i64 ((rd_T33 l0 x11_1).f2.f1))) (fun _ hk => hk.2) (.int .i64 ((rd_T33 l0 x11_1).f2.f2))) (fun _ hk => trivial)⟩, ⟨by repeat (first | (with_reducible first | exact HB.out | apply below_alloc | apply pw_below_drewN | apply below_drew1 | refine below_set ?_ GE139.out) | exact HB.out)⟩⟩
            · rw [if_neg c8] at H
              have c8b0 : (((rd_T33 l0 x11_1).f2.f2) == a1) = false := beq_eq_false_iff_ne.mpr c8
              have c8b1 : (((rd_T33 l0 x11_1).f2.f2) != a1) = true := bne_iff_ne.mpr c8
              have H' := Aside0.mk H
              clear H
              have p138 : 0 ≤ (x11_1 : Int) := of_decide_eq_true (by first | (with_reducible assumption) | assumption)
              have q138 : x11_1 < (l0.length : Int) := of_decide_eq_true (by first | (with_reducible assumption) | assumption)
              obtain ⟨ad138, e138, hx138_0, hx138_1, hx138_2, hx138_3, hx138_4⟩ := at_T33 HR0.out x11_1 p138 q138
              cases e138
              replace hx138_0 := (HB.out.cell (World.block_lt_of_cell? w _ hx138_0)).trans hx138_0
              replace hx138_1 := (HB.out.cell (World.block_lt_of_cell? w _ hx138_1)).trans hx138_1
              replace hx138_2 := (HB.out.cell (World.block_lt_of_cell? w _ hx138_2)).trans hx138_2
              replace hx138_3 := (HB.out.cell (World.block_lt_of_cell? w _ hx138_3)).trans hx138_3
              replace hx138_4 := (HB.out.cell (World.block_lt_of_cell? w _ hx138_4)).trans hx138_4
              replace p138 := eq_true p138
              replace q138 := eq_true q138
              go_wp2_with (first | ((with_reducible refine gate_dst (N := 7) rfl ?_); refine box_event ?hg (N := 7) ?hd (cs := #[.int .i64 0, .int .i64 0, .int .i64 0, .int .i64 0, .int .i64 0]) (t := 33) ?hr ?_; (case hd => rfl); (case hg => rfl); (case hr => first | (go_simp; done) | (go_simp; rfl)); intro gb139 hg w16 hbox hb; have n0_ := Aside0.mk (Kd.R_below (by (with_reducible repeat (first | apply Kd.R_alloc | apply Kd.R_drewN | apply Kd.R_drew)); exact HO_5.out) hb); have n1_ := Aside0.mk (below_step (by repeat (first | (with_reducible first | exact HB.out | apply below_alloc | apply pw_below_drewN | apply below_drew1) | exact HB.out)) hb); have n2_ := Aside0.mk (hbox); have n3_ := Aside0.mk ((by rw [hg]; exact (below_size (by repeat (first | (with_reducible first | exact HB.out | apply below_alloc | apply pw_below_drewN | apply below_drew1) | exact HB.out))) : w.heap.size ≤ gb139)); have n4_ := Aside0.mk ((by rw [hg]; exact (below_size (by repeat (first | (with_reducible first | exact HB.out | apply below_alloc | apply pw_below_drewN | apply below_drew1) | exact HB.out))) : w.heap.size ≤ gb139)); clear HO_5; clear HB; have HO_5 := n0_; have HB := n1_; have BK139 := n2_; have GW139 := n3_; have GE139 := n4_; clear n0_ n1_ n2_ n3_ n4_; clear hb hbox hg; have hcz17_0 : w16.cell? ⟨gb139, 0, none⟩ = some (.int .i64 0) := (blk_cell BK139.out 0).trans rfl; have hcz17_1 : w16.cell? ⟨gb139, 1, none⟩ = some (.int .i64 0) := (blk_cell BK139.out 1).trans rfl; have hcz17_2 : w16.cell? ⟨gb139, 2, none⟩ = some (.int .i64 0) := (blk_cell BK139.out 2).trans rfl; have hcz17_3 : w16.cell? ⟨gb139, 3, none⟩ = some (.int .i64 0) := (blk_cell BK139.out 3).trans rfl; have hcz17_4 : w16.cell? ⟨gb139, 4, none⟩ = some (.int .i64 0) := (blk_cell BK139.out 4).trans rfl; have hfz17_0 := blk_frozen BK139.out 0; have hfz17_1 := blk_frozen BK139.out 1; have hfz17_2 := blk_frozen BK139.out 2; have hfz17_3 := blk_frozen BK139.out 3; have hfz17_4 := blk_frozen BK139.out 4))
              go_roundg k1
              case measure => have := HK1.out; omega
              case rel => exact ⟨(x5_1), (wrap64 (x11_1 + 1)), (by first | rfl | (simp; done) | (simp [*]; done)), H', ⟨by have := HK1.out; omega⟩, ⟨by (with_reducible repeat (first | apply Kd.R_alloc | apply Kd.R_drewN | apply Kd.R_drew)); exact Kd.R_mono (Kd.R_far (p := ⟨gb139, 4, none⟩) (Kd.R_far (p := ⟨gb139, 3, none⟩) (Kd.R_far (p := ⟨gb139, 2, none⟩) (Kd.R_far (p := ⟨gb139, 1, none⟩) (Kd.R_far (p := ⟨gb139, 0, none⟩) (Kd.R_types HO_5.out BK139.out (by decide)) (fun _ hk => hk.2) (.int .i64 ((rd_T33 l0 x11_1).f0))) (fun _ hk => hk.2) (.int .i64 ((rd_T33 l0 x11_1).f1))) (fun _ hk => hk.2) (.int .i64 ((rd_T33 l0 x11_1).f2.f0))) (fun _ hk => hk.2) (.int .i64 ((rd_T33 l0 x11_1).f2.f1))) (fun _ hk => hk.2) (.int .i64 ((rd_T33 l0 x11_1).f2.f2))) (fun _ hk => trivial)⟩, ⟨by repeat (first | (with_reducible first | exact HB.out | apply below_alloc | apply pw_below_drewN | apply below_drew1 | refine below_set ?_ GE139.out) | exact HB.out)⟩⟩
          · rw [if_neg c7] at H
            exact absurd H (by simp)
        · rw [if_neg c6] at H
          exact absurd H (by simp)
      · rw [if_neg c5] at H
        have c5b0 : decide (x11_1 < (l0.length : Int)) = false := decide_eq_false c5
        clear c5
        obtain rfl := Option.some.inj H
        go_wp2
        go_ret
        exact ⟨_, by first | rfl | (simp [errW_none, errW_some] <;> rfl) | (simp [*, errW_none, errW_some] <;> rfl), by (with_reducible repeat (first | apply Kd.R_alloc | apply Kd.R_drewN | apply Kd.R_drew)); exact HO_5.out, by repeat (first | (with_reducible first | exact HB.out | apply below_alloc | apply pw_below_drewN | apply below_drew1) | exact HB.out)⟩

end Go.Proofs.Ytjdjmhagafmkaaa.PX

namespace Go.Proofs.Ytjdjmhagafmkaaa.PX
open Go.RowKit Go.Proofs.YtjdjmhagafmkaaaW.PrintWords Go.Proofs.YtjdjmhagafmkaaaW.PrintLast Go.Proofs.YtjdjmhagafmkaaaW.PrintMore
attribute [local go_sem] max2_int min2_int max_two min_two max_three min_three max_four min_four   -- for this text's walks alone
set_option linter.unusedVariables false
set_option linter.unusedSimpArgs false

/-! ### deadboltref18_Long: function 23 -/
def deadboltref18_Long.l0 : Nat → List (S33) → Int → Int → List (S33) → Int → Int → Option (Int)
  | 0, _, _, _, _, _, _ => none
  | k + 1, x0, x1, x5, x8, x9, x10 => if x10 < x9 then (if 0 ≤ x10 then (if x10 < (x8.length : Int) then (if ((rd_T33 x8 x10).f2.f2) = x1 then (if ((rd_T33 x8 x10).f2.f1) ≤ 1 then ((deadboltref18_until.f x0 x10).bind fun t145 => (deadboltref18_Long.l0 k x0 x1 (mx x5 (wrap64 (t145 - ((rd_T33 x8 x10).f1)))) x8 x9 (wrap64 (x10 + 1)))) else (deadboltref18_Long.l0 k x0 x1 x5 x8 x9 (wrap64 (x10 + 1)))) else (deadboltref18_Long.l0 k x0 x1 x5 x8 x9 (wrap64 (x10 + 1)))) else (none)) else (none)) else (some x5)
def deadboltref18_Long.f (k : Nat) (l0 : List (S33)) (a1 : Int) : Option (Int) := deadboltref18_Long.l0 k l0 a1 0 l0 (l0.length : Int) 0
theorem deadboltref18_Long.mono_l : ∀ k, (∀ y0 y1 y2 y3 y4 y5, LeO (deadboltref18_Long.l0 k y0 y1 y2 y3 y4 y5) (deadboltref18_Long.l0 (k + 1) y0 y1 y2 y3 y4 y5))
  | 0 => fun _ _ _ _ _ _ r h => by simp [deadboltref18_Long.l0] at h
  | k + 1 => by
    have ih0 := deadboltref18_Long.mono_l k
    · intro y0 y1 y2 y3 y4 y5
      unfold deadboltref18_Long.l0
      repeat' first
      | (with_reducible exact ih0 _ _ _ _ _ _)
      | (with_reducible exact LeO.refl _)
      | (with_reducible exact LeO.none _)
      | (with_reducible refine LeO.ite ?_ ?_)
      | (with_reducible refine LeO.bind ?_ (fun _ => ?_))
      | exact ih0 _ _ _ _ _ _
      | exact LeO.none _
      | refine LeO.ite ?_ ?_
      | refine LeO.bind ?_ (fun _ => ?_)
theorem deadboltref18_Long.mono : ∀ a0 a1 k, LeO (deadboltref18_Long.f k a0 a1) (deadboltref18_Long.f (k + 1) a0 a1) := by
  intro a0 a1 k
  have ih0 := deadboltref18_Long.mono_l k
  unfold deadboltref18_Long.f
  repeat' first
      | (with_reducible exact ih0 _ _ _ _ _ _)
      | (with_reducible exact LeO.refl _)
      | (with_reducible exact LeO.none _)
      | (with_reducible refine LeO.ite ?_ ?_)
      | (with_reducible refine LeO.bind ?_ (fun _ => ?_))
      | exact ih0 _ _ _ _ _ _
      | exact LeO.none _
      | refine LeO.ite ?_ ?_
      | refine LeO.bind ?_ (fun _ => ?_)
def deadboltref18_Long.T6 : Bool × List (List Nat × List Nat) := (true, [([], []), ([], []), ([], []), ([1, 2], [1, 2]), ([], []), ([4], [4]), ([3, 5], [3, 5]), ([0, 6], [0, 6]), ([7, 3, 0, 1, 2, 3, 4, 5, 6, 7], [0, 7])])
def deadboltref18_Long.B6 : List Nat := [0, 0, 0, 6, 0, 16, 62, 127, 255]
theorem deadboltref18_Long.tab6 : rtab .any (opsOf Try.f23 6) = deadboltref18_Long.T6 := by kernel_rfl
theorem deadboltref18_Long.bits6 : waitsOk deadboltref18_Long.T6.2 deadboltref18_Long.B6 = true := by kernel_rfl
set_option maxHeartbeats 8000000 in
set_option maxRecDepth 100000 in
theorem deadboltref18_Long.calls (k : Nat) (A0 : Option Addr) (c0 : Nat) (l0 : List (S33)) (a1 : Int) (r : Int) (w : World) (hr0 : Kd.C k33 w A0 l0.length l0) (hc0 : l0.length ≤ c0) (h : deadboltref18_Long.f k l0 a1 = some r) :
    Calls Try.prog 23 #[.slice A0 l0.length c0, .int .i64 a1] w fun e w' => e = .returned (.int .i64 r) ∧ Below w.heap.size w w' := by
  have hu33 := Try.underlying33
  have HR0 := Aside0.mk hr0
  have HC0 := Aside0.mk hc0
  clear hr0 hc0
  have HB := Aside0.mk (Below.refl w.heap.size w)
  have H : (deadboltref18_Long.l0 k l0 a1 0 l0 (l0.length : Int) 0) = some r := h
  clear h
  have H' := Aside0.mk H
  clear H
  go_enter Try.func23, Try.ntmps23
  go_wp2
  go_loopg [5, 10] k (fun kq v5 v10 w' => ∃ (x5_1 : Int) (x10_1 : Int), v5 = .int .i64 x5_1 ∧ v10 = .int .i64 x10_1 ∧ Aside0 (deadboltref18_Long.l0 kq l0 a1 x5_1 l0 (l0.length : Int) x10_1 = some r) ∧ Aside0 (kq ≤ k) ∧ Aside0 (Below w.heap.size w w'))
  case atStart => exact ⟨(0), (0), (by first | rfl | (simp; done) | (simp [*]; done)), (by first | rfl | (simp; done) | (simp [*]; done)), H', ⟨Nat.le_refl _⟩, ⟨by repeat (first | (with_reducible first | exact HB.out | apply below_alloc | apply pw_below_drewN | apply below_drew1) | exact HB.out)⟩⟩
  case round =>
    clear H'
    try clear c2
    try clear p2
    obtain ⟨x5_1, x10_1, rfl, rfl, HA, HK1, HB⟩ := hrel
    cases gk with
    | zero => exact absurd HA.out (by simp [deadboltref18_Long.l0])
    | succ k1 =>
      have H := HA.out
      clear HA
      simp only [deadboltref18_Long.l0] at H
      by_cases c3 : x10_1 < (l0.length : Int)
      · rw [if_pos c3] at H
        have c3b0 : decide (x10_1 < (l0.length : Int)) = true := decide_eq_true c3
        clear c3
        by_cases c4 : 0 ≤ x10_1
        · rw [if_pos c4] at H
          have c4b0 : decide (0 ≤ x10_1) = true := decide_eq_true c4
          clear c4
          by_cases c5 : x10_1 < (l0.length : Int)
          · rw [if_pos c5] at H
            have c5b0 : decide (x10_1 < (l0.length : Int)) = true := decide_eq_true c5
            clear c5
            by_cases c6 : ((rd_T33 l0 x10_1).f2.f2) = a1
            · rw [if_pos c6] at H
              have c6b0 : (((rd_T33 l0 x10_1).f2.f2) == a1) = true := beq_iff_eq.mpr c6
              have c6b1 : (((rd_T33 l0 x10_1).f2.f2) != a1) = false := bne_eq_false_iff_eq.mpr c6
              clear c6
              by_cases c7 : ((rd_T33 l0 x10_1).f2.f1) ≤ 1
              · rw [if_pos c7] at H
                have c7b0 : decide (((rd_T33 l0 x10_1).f2.f1) ≤ 1) = true := decide_eq_true c7
                clear c7
                replace H := Option.bind_eq_some_iff.mp H
                obtain ⟨t145, A80, H⟩ := H
                replace H : (deadboltref18_Long.l0 k1 l0 a1 (mx x5_1 (wrap64 (t145 - ((rd_T33 l0 x10_1).f1)))) l0 (l0.length : Int) (wrap64 (x10_1 + 1))) = some r := H
                have A8 := Aside0.mk A80
                clear A80
                obtain ⟨ji9, hji9⟩ : ∃ j_ : Int, (mx x5_1 (wrap64 (t145 - ((rd_T33 l0 x10_1).f1)))) = j_ := ⟨_, rfl⟩
                replace H : (deadboltref18_Long.l0 k1 l0 a1 ji9 l0 (l0.length : Int) (wrap64 (x10_1 + 1))) = some r := by first | (rw [hji9] at H; exact H) | (simp only [hji9] at H ⊢; exact H)
                (try rw [hji9] at A8)
                have hji9_ : (if x5_1 < (wrap64 (t145 - ((rd_T33 l0 x10_1).f1))) then (wrap64 (t145 - ((rd_T33 l0 x10_1).f1))) else x5_1) = ji9 := hji9
                have H' := Aside0.mk H
                clear H
                have p143 : 0 ≤ (x10_1 : Int) := of_decide_eq_true (by first | (with_reducible assumption) | assumption)
                have q143 : x10_1 < (l0.length : Int) := of_decide_eq_true (by first | (with_reducible assumption) | assumption)
                obtain ⟨ad143, e143, hx143_0, hx143_1, hx143_2, hx143_3, hx143_4⟩ := at_T33 HR0.out x10_1 p143 q143
                cases e143
                replace hx143_0 := (HB.out.cell (World.block_lt_of_cell? w _ hx143_0)).trans hx143_0
                replace hx143_1 := (HB.out.cell (World.block_lt_of_cell? w _ hx143_1)).trans hx143_1
                replace hx143_2 := (HB.out.cell (World.block_lt_of_cell? w _ hx143_2)).trans hx143_2
                replace hx143_3 := (HB.out.cell (World.block_lt_of_cell? w _ hx143_3)).trans hx143_3
                replace hx143_4 := (HB.out.cell (World.block_lt_of_cell? w _ hx143_4)).trans hx143_4
                replace p143 := eq_true p143
                replace q143 := eq_true q143
                try go_wp2_with (first | ((with_reducible refine gate_dst (N := 7) rfl ?_); refine box_event ?hg (N := 7) ?hd (cs := #[.int .i64 0, .int .i64 0, .int .i64 0, .int .i64 0, .int .i64 0]) (t := 33) ?hr ?_; (case hd => rfl); (case hg => rfl); (case hr => first | (go_simp; done) | (go_simp; rfl)); intro gb144 hg w10 hbox hb; have n0_ := Aside0.mk (below_step (by repeat (first | (with_reducible first | exact HB.out | apply below_alloc | apply pw_below_drewN | apply below_drew1) | exact HB.out)) hb); have n1_ := Aside0.mk (hbox); have n2_ := Aside0.mk ((by rw [hg]; exact (below_size (by repeat (first | (with_reducible first | exact HB.out | apply below_alloc | apply pw_below_drewN | apply below_drew1) | exact HB.out))) : w.heap.size ≤ gb144)); have n3_ := Aside0.mk ((by rw [hg]; exact (below_size (by repeat (first | (with_reducible first | exact HB.out | apply below_alloc | apply pw_below_drewN | apply below_drew1) | exact HB.out))) : w.heap.size ≤ gb144)); clear HB; have HB := n0_; have BK144 := n1_; have GW144 := n2_; have GE144 := n3_; clear n0_ n1_ n2_ n3_; clear hb hbox hg; have hcz11_0 : w10.cell? ⟨gb144, 0, none⟩ = some (.int .i64 0) := (blk_cell BK144.out 0).trans rfl; have hcz11_1 : w10.cell? ⟨gb144, 1, none⟩ = some (.int .i64 0) := (blk_cell BK144.out 1).trans rfl; have hcz11_2 : w10.cell? ⟨gb144, 2, none⟩ = some (.int .i64 0) := (blk_cell BK144.out 2).trans rfl; have hcz11_3 : w10.cell? ⟨gb144, 3, none⟩ = some (.int .i64 0) := (blk_cell BK144.out 3).trans rfl; have hcz11_4 : w10.cell? ⟨gb144, 4, none⟩ = some (.int .i64 0) := (blk_cell BK144.out 4).trans rfl; have hfz11_0 := blk_frozen BK144.out 0; have hfz11_1 := blk_frozen BK144.out 1; have hfz11_2 := blk_frozen BK144.out 2; have hfz11_3 := blk_frozen BK144.out 3; have hfz11_4 := blk_frozen BK144.out 4))
                have n0_ : Aside0 ((((((w10.setCell ⟨gb144, 0, none⟩ (.int .i64 ((rd_T33 l0 x10_1).f0))).setCell ⟨gb144, 1, none⟩ (.int .i64 ((rd_T33 l0 x10_1).f1))).setCell ⟨gb144, 2, none⟩ (.int .i64 ((rd_T33 l0 x10_1).f2.f0))).setCell ⟨gb144, 3, none⟩ (.int .i64 ((rd_T33 l0 x10_1).f2.f1))).setCell ⟨gb144, 4, none⟩ (.int .i64 ((rd_T33 l0 x10_1).f2.f2))).heap[gb144]? = some (.cells #[.int .i64 ((rd_T33 l0 x10_1).f0), .int .i64 ((rd_T33 l0 x10_1).f1), .int .i64 ((rd_T33 l0 x10_1).f2.f0), .int .i64 ((rd_T33 l0 x10_1).f2.f1), .int .i64 ((rd_T33 l0 x10_1).f2.f2)] 33 (0, 0))) := ⟨by (with_reducible repeat (first | refine blk_drewN ?_ _ | refine blk_drew ?_ | refine blk_alloc ?_ _)); refine blk_put (cs := #[.int .i64 ((rd_T33 l0 x10_1).f0), .int .i64 ((rd_T33 l0 x10_1).f1), .int .i64 ((rd_T33 l0 x10_1).f2.f0), .int .i64 ((rd_T33 l0 x10_1).f2.f1), .int .i64 0]) ?_ 4 _ rfl; (with_reducible repeat (first | refine blk_drewN ?_ _ | refine blk_drew ?_ | refine blk_alloc ?_ _)); refine blk_put (cs := #[.int .i64 ((rd_T33 l0 x10_1).f0), .int .i64 ((rd_T33 l0 x10_1).f1), .int .i64 ((rd_T33 l0 x10_1).f2.f0), .int .i64 0, .int .i64 0]) ?_ 3 _ rfl; (with_reducible repeat (first | refine blk_drewN ?_ _ | refine blk_drew ?_ | refine blk_alloc ?_ _)); refine blk_put (cs := #[.int .i64 ((rd_T33 l0 x10_1).f0), .int .i64 ((rd_T33 l0 x10_1).f1), .int .i64 0, .int .i64 0, .int .i64 0]) ?_ 2 _ rfl; (with_reducible repeat (first | refine blk_drewN ?_ _ | refine blk_drew ?_ | refine blk_alloc ?_ _)); refine blk_put (cs := #[.int .i64 ((rd_T33 l0 x10_1).f0), .int .i64 0, .int .i64 0, .int .i64 0, .int .i64 0]) ?_ 1 _ rfl; (with_reducible repeat (first | refine blk_drewN ?_ _ | refine blk_drew ?_ | refine blk_alloc ?_ _)); refine blk_put (cs := #[.int .i64 0, .int .i64 0, .int .i64 0, .int .i64 0, .int .i64 0]) ?_ 0 _ rfl; (with_reducible repeat (first | refine blk_drewN ?_ _ | refine blk_drew ?_ | refine blk_alloc ?_ _)); exact BK144.out⟩
                have n1_ : Aside0 (Below w.heap.size w (((((w10.setCell ⟨gb144, 0, none⟩ (.int .i64 ((rd_T33 l0 x10_1).f0))).setCell ⟨gb144, 1, none⟩ (.int .i64 ((rd_T33 l0 x10_1).f1))).setCell ⟨gb144, 2, none⟩ (.int .i64 ((rd_T33 l0 x10_1).f2.f0))).setCell ⟨gb144, 3, none⟩ (.int .i64 ((rd_T33 l0 x10_1).f2.f1))).setCell ⟨gb144, 4, none⟩ (.int .i64 ((rd_T33 l0 x10_1).f2.f2)))) := ⟨by repeat (first | (with_reducible first | exact HB.out | apply below_alloc | apply pw_below_drewN | apply below_drew1 | refine below_set ?_ GE144.out) | exact HB.out)⟩
                (try clear BK144)
                (try clear HB)
                generalize (((((w10.setCell ⟨gb144, 0, none⟩ (.int .i64 ((rd_T33 l0 x10_1).f0))).setCell ⟨gb144, 1, none⟩ (.int .i64 ((rd_T33 l0 x10_1).f1))).setCell ⟨gb144, 2, none⟩ (.int .i64 ((rd_T33 l0 x10_1).f2.f0))).setCell ⟨gb144, 3, none⟩ (.int .i64 ((rd_T33 l0 x10_1).f2.f1))).setCell ⟨gb144, 4, none⟩ (.int .i64 ((rd_T33 l0 x10_1).f2.f2))) = w12 at n0_ n1_ ⊢
                have BK144 := n0_
                have HB := n1_
                clear n0_ n1_
                have n0_ := Aside0.mk (blk_drew BK144.out)
                have n1_ := Aside0.mk (below_drew1 HB.out)
                clear BK144
                clear HB
                have BK144 := n0_
                have HB := n1_
                clear n0_ n1_
                refine start_ (n := 9) (S := fun w' => w'.cell? ⟨gb144, 0, none⟩ = some (.int .i64 ((rd_T33 l0 x10_1).f0)) ∧ w'.cell? ⟨gb144, 1, none⟩ = some (.int .i64 ((rd_T33 l0 x10_1).f1)) ∧ w'.cell? ⟨gb144, 2, none⟩ = some (.int .i64 ((rd_T33 l0 x10_1).f2.f0)) ∧ w'.cell? ⟨gb144, 3, none⟩ = some (.int .i64 ((rd_T33 l0 x10_1).f2.f1)) ∧ w'.cell? ⟨gb144, 4, none⟩ = some (.int .i64 ((rd_T33 l0 x10_1).f2.f2))) (ds := []) #[false, false, false, false, false, false, false, false, false] (by kernel_rfl) rfl rfl ⟨(blk_cell BK144.out 0).trans rfl, (blk_cell BK144.out 1).trans rfl, (blk_cell BK144.out 2).trans rfl, (blk_cell BK144.out 3).trans rfl, (blk_cell BK144.out 4).trans rfl⟩ (fun hHeld => ?_); refine with_tabW deadboltref18_Long.tab6 deadboltref18_Long.bits6 (fun HT_ HW_ => ?_)
                generalize w12.drew = w13 at BK144 HB hHeld ⊢
                refine pure_ (i := 0) (N := some 26) (v := ?_) (a' := ?_) #[true, false, false, false, false, false, false, false, false] rfl rfl (any_of HT_.out (by kernel_rfl)) (fun _ _ _ h => h) (Or.inl ⟨by rfl, ?_⟩) ?_ ?_
                rotate_left
                · intro w'
                  go_simp
                  with_reducible rfl
                rotate_left
                · simp only [Act.put, List.setIfInBounds_toArray, List.set_cons_zero, List.set_cons_succ, i64_w, i32_w]
                  rfl
                refine pure_ (i := 1) (N := some 27) (v := ?_) (a' := ?_) #[true, true, false, false, false, false, false, false, false] rfl rfl (any_of HT_.out (by kernel_rfl)) (fun _ _ _ h => h) (Or.inl ⟨by rfl, ?_⟩) ?_ ?_
                rotate_left
                · intro w'
                  go_simp
                  with_reducible rfl
                rotate_left
                · simp only [Act.put, List.setIfInBounds_toArray, List.set_cons_zero, List.set_cons_succ, i64_w, i32_w]
                  rfl
                refine pure_ (i := 2) (N := some 28) (v := ?_) (a' := ?_) #[true, true, true, false, false, false, false, false, false] rfl rfl (any_of HT_.out (by kernel_rfl)) (fun _ _ _ h => h) (Or.inl ⟨by rfl, ?_⟩) ?_ ?_
                rotate_left
                · intro w'
                  go_simp
                  with_reducible rfl
                rotate_left
                · simp only [Act.put, List.setIfInBounds_toArray, List.set_cons_zero, List.set_cons_succ, i64_w, i32_w]
                  rfl
                refine pure_ (i := 4) (N := some 30) (v := ?_) (a' := ?_) #[true, true, true, false, true, false, false, false, false] rfl rfl (any_of HT_.out (by kernel_rfl)) (fun _ _ _ h => h) (Or.inl ⟨by rfl, ?_⟩) ?_ ?_
                rotate_left
                · intro w'
                  go_simp
                  with_reducible rfl
                rotate_left
                · simp only [Act.put, List.setIfInBounds_toArray, List.set_cons_zero, List.set_cons_succ, i64_w, i32_w]
                  rfl
                refine take_ (i := 5) (N := some 31) (v := ?_) (a' := ?_) #[true, true, true, false, true, true, false, false, false] rfl rfl (take_ofW HT_.out HW_.out (by kernel_rfl)) (fun _ _ _ h => h) (Or.inl ⟨by rfl, ?_⟩) hHeld ?_ ?_
                rotate_left
                · rintro w' ⟨s0, s1, s2, s3, s4⟩
                  go_simp
                  with_reducible rfl
                rotate_left
                · simp only [Act.put, List.setIfInBounds_toArray, List.set_cons_zero, List.set_cons_succ, i64_w, i32_w]
                  rfl
                refine one_ (i := 3) (N := some 29) #[true, true, true, true, true, true, false, false, false] rfl rfl (one_of HT_.out (by kernel_rfl)) (by decide) (fun K hK => ?_)
                refine goes_ Try.func55 (by kernel_rfl) rfl #[.slice (some ad143) l0.length c0, .int .i64 x10_1] (by rfl) rfl rfl (by (try simp only [List.map_toArray, List.map_cons, List.map_nil]); first | done | rfl | (simp only [List.length_drop, List.length_take]; rfl)) ?_
                with_reducible refine (deadboltref18_until.calls _ _ l0 x10_1 t145 _ ?side1 ?side2 A8.out).mono ?_
                (case side1 => repeat (first | exact (Kd.C_below HR0.out HB.out) | (with_reducible refine Kd.C_alloc ?_ _) | (with_reducible refine Kd.C_drewN ?_ _) | (with_reducible refine Kd.C_drew ?_)))
                (case side2 => exact HC0.out)
                rintro e w14 ⟨rfl, hb⟩
                refine ⟨_, rfl, ?_⟩
                have n0_ := Aside0.mk (blk_below (g := gb144) (o := .cells #[.int .i64 ((rd_T33 l0 x10_1).f0), .int .i64 ((rd_T33 l0 x10_1).f1), .int .i64 ((rd_T33 l0 x10_1).f2.f0), .int .i64 ((rd_T33 l0 x10_1).f2.f1), .int .i64 ((rd_T33 l0 x10_1).f2.f2)] 33 (0, 0)) (by (with_reducible repeat (first | refine blk_drewN ?_ _ | refine blk_drew ?_ | refine blk_alloc ?_ _)); exact BK144.out) hb)
                have n1_ := Aside0.mk (below_step (by repeat (first | (with_reducible first | exact HB.out | apply below_alloc | apply pw_below_drewN | apply below_drew1 | refine below_set ?_ GE144.out) | exact HB.out)) hb)
                clear BK144
                clear HB
                have BK144 := n0_
                have HB := n1_
                clear n0_ n1_
                (try clear hb)
                (try clear hb2)
                (try clear hk)
                (try clear hi)
                refine hK.out _ _ ⟨(blk_cell BK144.out 0).trans rfl, (blk_cell BK144.out 1).trans rfl, (blk_cell BK144.out 2).trans rfl, (blk_cell BK144.out 3).trans rfl, (blk_cell BK144.out 4).trans rfl⟩ (fun hHeld => ?_)
                clear hK K
                refine norm_ (a' := ?_) ?_ ?_
                rotate_left
                · show Act.put _ (some 29) _ = _
                  simp only [Act.put, List.setIfInBounds_toArray, List.set_cons_zero, List.set_cons_succ, i64_w, i32_w]
                  rfl
                refine pure_ (i := 6) (N := some 32) (v := ?_) (a' := ?_) #[true, true, true, true, true, true, true, false, false] rfl rfl (any_of HT_.out (by kernel_rfl)) (fun _ _ _ h => h) (Or.inl ⟨by rfl, ?_⟩) ?_ ?_
                rotate_left
                · intro w'
                  go_simp
                  with_reducible rfl
                rotate_left
                · simp only [Act.put, List.setIfInBounds_toArray, List.set_cons_zero, List.set_cons_succ, i64_w, i32_w]
                  rfl
                refine pure_ (i := 7) (N := some 33) (v := ?_) (a' := ?_) #[true, true, true, true, true, true, true, true, false] rfl rfl (any_of HT_.out (by kernel_rfl)) (fun _ _ _ h => h) (Or.inl ⟨by rfl, ?_⟩) ?_ ?_
                rotate_left
                · intro w'
                  go_simp
                  with_reducible rfl
                rotate_left
                · simp only [Act.put, List.setIfInBounds_toArray, List.set_cons_zero, List.set_cons_succ, i64_w, i32_w]
                  rfl
                refine pure_ (i := 8) (N := some 5) (v := ?_) (a' := ?_) #[true, true, true, true, true, true, true, true, true] rfl rfl (any_of HT_.out (by kernel_rfl)) (fun _ _ _ h => h) (Or.inl ⟨by rfl, ?_⟩) ?_ ?_
                rotate_left
                · intro w'
                  go_simp
                  with_reducible rfl
                rotate_left
                · simp only [Act.put, List.setIfInBounds_toArray, List.set_cons_zero, List.set_cons_succ, i64_w, i32_w]
                  rfl
                refine done_ (done_of HT_.out (by kernel_rfl)) ?_
                try go_wp2
                go_roundg k1
                case measure => have := HK1.out; omega
                case rel => exact ⟨(ji9), (wrap64 (x10_1 + 1)), (by first | rfl | (simp; done) | (simp only [← hji9] <;> (first | rfl | simp)) | (simp [*]; done)), (by first | rfl | (simp; done) | (simp [*]; done)), H', ⟨by have := HK1.out; omega⟩, ⟨by repeat (first | (with_reducible first | exact HB.out | apply below_alloc | apply pw_below_drewN | apply below_drew1 | refine below_set ?_ GE144.out) | exact HB.out)⟩⟩
              · rw [if_neg c7] at H
                have c7b0 : decide (((rd_T33 l0 x10_1).f2.f1) ≤ 1) = false := decide_eq_false c7
                clear c7
                have H' := Aside0.mk H
                clear H
                have p143 : 0 ≤ (x10_1 : Int) := of_decide_eq_true (by first | (with_reducible assumption) | assumption)
                have q143 : x10_1 < (l0.length : Int) := of_decide_eq_true (by first | (with_reducible assumption) | assumption)
                obtain ⟨ad143, e143, hx143_0, hx143_1, hx143_2, hx143_3, hx143_4⟩ := at_T33 HR0.out x10_1 p143 q143
                cases e143
                replace hx143_0 := (HB.out.cell (World.block_lt_of_cell? w _ hx143_0)).trans hx143_0
                replace hx143_1 := (HB.out.cell (World.block_lt_of_cell? w _ hx143_1)).trans hx143_1
                replace hx143_2 := (HB.out.cell (World.block_lt_of_cell? w _ hx143_2)).trans hx143_2
                replace hx143_3 := (HB.out.cell (World.block_lt_of_cell? w _ hx143_3)).trans hx143_3
                replace hx143_4 := (HB.out.cell (World.block_lt_of_cell? w _ hx143_4)).trans hx143_4
                replace p143 := eq_true p143
                replace q143 := eq_true q143
                go_wp2_with (first | ((with_reducible refine gate_dst (N := 7) rfl ?_); refine box_event ?hg (N := 7) ?hd (cs := #[.int .i64 0, .int .i64 0, .int .i64 0, .int .i64 0, .int .i64 0]) (t := 33) ?hr ?_; (case hd => rfl); (case hg => rfl); (case hr => first | (go_simp; done) | (go_simp; rfl)); intro gb144 hg w15 hbox hb; have n0_ := Aside0.mk (below_step (by repeat (first | (with_reducible first | exact HB.out | apply below_alloc | apply pw_below_drewN | apply below_drew1) | exact HB.out)) hb); have n1_ := Aside0.mk (hbox); have n2_ := Aside0.mk ((by rw [hg]; exact (below_size (by repeat (first | (with_reducible first | exact HB.out | apply below_alloc | apply pw_below_drewN | apply below_drew1) | exact HB.out))) : w.heap.size ≤ gb144)); have n3_ := Aside0.mk ((by rw [hg]; exact (below_size (by repeat (first | (with_reducible first | exact HB.out | apply below_alloc | apply pw_below_drewN | apply below_drew1) | exact HB.out))) : w.heap.size ≤ gb144)); clear HB; have HB := n0_; have BK144 := n1_; have GW144 := n2_; have GE144 := n3_; clear n0_ n1_ n2_ n3_; clear hb hbox hg; have hcz16_0 : w15.cell? ⟨gb144, 0, none⟩ = some (.int .i64 0) := (blk_cell BK144.out 0).trans rfl; have hcz16_1 : w15.cell? ⟨gb144, 1, none⟩ = some (.int .i64 0) := (blk_cell BK144.out 1).trans rfl; have hcz16_2 : w15.cell? ⟨gb144, 2, none⟩ = some (.int .i64 0) := (blk_cell BK144.out 2).trans rfl; have hcz16_3 : w15.cell? ⟨gb144, 3, none⟩ = some (.int .i64 0) := (blk_cell BK144.out 3).trans rfl; have hcz16_4 : w15.cell? ⟨gb144, 4, none⟩ = some (.int .i64 0) := (blk_cell BK144.out 4).trans rfl; have hfz16_0 := blk_frozen BK144.out 0; have hfz16_1 := blk_frozen BK144.out 1; have hfz16_2 := blk_frozen BK144.out 2; have hfz16_3 := blk_frozen BK144.out 3; have hfz16_4 := blk_frozen BK144.out 4))
                go_roundg k1
                case measure => have := HK1.out; omega
                case rel => exact ⟨(x5_1), (wrap64 (x10_1 + 1)), (by first | rfl | (simp; done) | (simp [*]; done)), (by first | rfl | (simp; done) | (simp [*]; done)), H', ⟨by have := HK1.out; omega⟩, ⟨by repeat (first | (with_reducible first | exact HB.out | apply below_alloc | apply pw_below_drewN | apply below_drew1 | refine below_set ?_ GE144.out) | exact HB.out)⟩⟩
            · rw [if_neg c6] at H
              have c6b0 : (((rd_T33 l0 x10_1).f2.f2) == a1) = false := beq_eq_false_iff_ne.mpr c6
              have c6b1 : (((rd_T33 l0 x10_1).f2.f2) != a1) = true := bne_iff_ne.mpr c6
              have H' := Aside0.mk H
              clear H
              have p143 : 0 ≤ (x10_1 : Int) := of_decide_eq_true (by first | (with_reducible assumption) | assumption)
              have q143 : x10_1 < (l0.length : Int) := of_decide_eq_true (by first | (with_reducible assumption) | assumption)
              obtain ⟨ad143, e143, hx143_0, hx143_1, hx143_2, hx143_3, hx143_4⟩ := at_T33 HR0.out x10_1 p143 q143
              cases e143
              replace hx143_0 := (HB.out.cell (World.block_lt_of_cell? w _ hx143_0)).trans hx143_0
              replace hx143_1 := (HB.out.cell (World.block_lt_of_cell? w _ hx143_1)).trans hx143_1
              replace hx143_2 := (HB.out.cell (World.block_lt_of_cell? w _ hx143_2)).trans hx143_2
              replace hx143_3 := (HB.out.cell (World.block_lt_of_cell? w _ hx143_3)).trans hx143_3
              replace hx143_4 := (HB.out.cell (World.block_lt_of_cell? w _ hx143_4)).trans hx143_4
              replace p143 := eq_true p143
              replace q143 := eq_true q143
              go_wp2_with (first | ((with_reducible refine gate_dst (N := 7) rfl ?_); refine box_event ?hg (N := 7) ?hd (cs := #[.int .i64 0, .int .i64 0, .int .i64 0, .int .i64 0, .int .i64 0]) (t := 33) ?hr ?_; (case hd => rfl); (case hg => rfl); (case hr => first | (go_simp; done) | (go_simp; rfl)); intro gb144 hg w17 hbox hb; have n0_ := Aside0.mk (below_step (by repeat (first | (with_reducible first | exact HB.out | apply below_alloc | apply pw_below_drewN | apply below_drew1) | exact HB.out)) hb); have n1_ := Aside0.mk (hbox); have n2_ := Aside0.mk ((by rw [hg]; exact (below_size (by repeat (first | (with_reducible first | exact HB.out | apply below_alloc | apply pw_below_drewN | apply below_drew1) | exact HB.out))) : w.heap.size ≤ gb144)); have n3_ := Aside0.mk ((by rw [hg]; exact (below_size (by repeat (first | (with_reducible first | exact HB.out | apply below_alloc | apply pw_below_drewN | apply below_drew1) | exact HB.out))) : w.heap.size ≤ gb144)); clear HB; have HB := n0_; have BK144 := n1_; have GW144 := n2_; have GE144 := n3_; clear n0_ n1_ n2_ n3_; clear hb hbox hg; have hcz18_0 : w17.cell? ⟨gb144, 0, none⟩ = some (.int .i64 0) := (blk_cell BK144.out 0).trans rfl; have hcz18_1 : w17.cell? ⟨gb144, 1, none⟩ = some (.int .i64 0) := (blk_cell BK144.out 1).trans rfl; have hcz18_2 : w17.cell? ⟨gb144, 2, none⟩ = some (.int .i64 0) := (blk_cell BK144.out 2).trans rfl; have hcz18_3 : w17.cell? ⟨gb144, 3, none⟩ = some (.int .i64 0) := (blk_cell BK144.out 3).trans rfl; have hcz18_4 : w17.cell? ⟨gb144, 4, none⟩ = some (.int .i64 0) := (blk_cell BK144.out 4).trans rfl; have hfz18_0 := blk_frozen BK144.out 0; have hfz18_1 := blk_frozen BK144.out 1; have hfz18_2 := blk_frozen BK144.out 2; have hfz18_3 := blk_frozen BK144.out 3; have hfz18_4 := blk_frozen BK144.out 4))
              go_roundg k1
              case measure => have := HK1.out; omega
              case rel => exact ⟨(x5_1), (wrap64 (x10_1 + 1)), (by first | rfl | (simp; done) | (simp [*]; done)), (by first | rfl | (simp; done) | (simp [*]; done)), H', ⟨by have := HK1.out; omega⟩, ⟨by repeat (first | (with_reducible first | exact HB.out | apply below_alloc | apply pw_below_drewN | apply below_drew1 | refine below_set ?_ GE144.out) | exact HB.out)⟩⟩
          · rw [if_neg c5] at H
            exact absurd H (by simp)
        · rw [if_neg c4] at H
          exact absurd H (by simp)
      · rw [if_neg c3] at H
        have c3b0 : decide (x10_1 < (l0.length : Int)) = false := decide_eq_false c3
        clear c3
        obtain rfl := Option.some.inj H
        go_wp2
        go_ret
        exact ⟨by first | rfl | (simp [errW_none, errW_some] <;> rfl) | (simp [*, errW_none, errW_some] <;> rfl), by repeat (first | (with_reducible first | exact HB.out | apply below_alloc | apply pw_below_drewN | apply below_drew1) | exact HB.out)⟩

end Go.Proofs.Ytjdjmhagafmkaaa.PX

namespace Go.Proofs.Ytjdjmhagafmkaaa.PX
open Go.RowKit Go.Proofs.YtjdjmhagafmkaaaW.PrintWords Go.Proofs.YtjdjmhagafmkaaaW.PrintLast Go.Proofs.YtjdjmhagafmkaaaW.PrintMore
attribute [local go_sem] max2_int min2_int max_two min_two max_three min_three max_four min_four   -- for this text's walks alone
set_option linter.unusedVariables false
set_option linter.unusedSimpArgs false

/-! ### deadboltref07_Same: function 20 -/
def deadboltref07_Same.l0 : Nat → List Int → List Int → Int → Int → Option (Bool)
  | 0, _, _, _, _ => none
  | k + 1, x0, x1, x12, x13 => if x13 < x12 then (if 0 ≤ x13 then (if x13 < (x0.length : Int) then (if x13 < (x1.length : Int) then (if (rd x0 x13) = (rd x1 x13) then (deadboltref07_Same.l0 k x0 x1 x12 (wrap64 (x13 + 1))) else (some false)) else (none)) else (none)) else (none)) else (some true)
def deadboltref07_Same.f (k : Nat) (l0 : List Int) (l1 : List Int) : Option (Bool) := if (l0.length : Int) = (l1.length : Int) then (deadboltref07_Same.l0 k l0 l1 (l0.length : Int) 0) else (some false)
theorem deadboltref07_Same.mono_l : ∀ k, (∀ y0 y1 y2 y3, LeO (deadboltref07_Same.l0 k y0 y1 y2 y3) (deadboltref07_Same.l0 (k + 1) y0 y1 y2 y3))
  | 0 => fun _ _ _ _ r h => by simp [deadboltref07_Same.l0] at h
  | k + 1 => by
    have ih0 := deadboltref07_Same.mono_l k
    · intro y0 y1 y2 y3
      unfold deadboltref07_Same.l0
      repeat' first
      | (with_reducible exact ih0 _ _ _ _)
      | (with_reducible exact LeO.refl _)
      | (with_reducible exact LeO.none _)
      | (with_reducible refine LeO.ite ?_ ?_)
      | (with_reducible refine LeO.bind ?_ (fun _ => ?_))
      | exact ih0 _ _ _ _
      | exact LeO.none _
      | refine LeO.ite ?_ ?_
      | refine LeO.bind ?_ (fun _ => ?_)
theorem deadboltref07_Same.mono : ∀ a0 a1 k, LeO (deadboltref07_Same.f k a0 a1) (deadboltref07_Same.f (k + 1) a0 a1) := by
  intro a0 a1 k
  have ih0 := deadboltref07_Same.mono_l k
  unfold deadboltref07_Same.f
  repeat' first
      | (with_reducible exact ih0 _ _ _ _)
      | (with_reducible exact LeO.refl _)
      | (with_reducible exact LeO.none _)
      | (with_reducible refine LeO.ite ?_ ?_)
      | (with_reducible refine LeO.bind ?_ (fun _ => ?_))
      | exact ih0 _ _ _ _
      | exact LeO.none _
      | refine LeO.ite ?_ ?_
      | refine LeO.bind ?_ (fun _ => ?_)
set_option maxHeartbeats 8000000 in
set_option maxRecDepth 100000 in
theorem deadboltref07_Same.calls (k : Nat) (A0 : Option Addr) (c0 : Nat) (l0 : List Int) (A1 : Option Addr) (c1 : Nat) (l1 : List Int) (r : Bool) (w : World) (hr0 : Kd.C (Kd.int .i64) w A0 l0.length l0) (hc0 : l0.length ≤ c0) (hr1 : Kd.C (Kd.int .i64) w A1 l1.length l1) (hc1 : l1.length ≤ c1) (h : deadboltref07_Same.f k l0 l1 = some r) :
    Calls Try.prog 20 #[.slice A0 l0.length c0, .slice A1 l1.length c1] w fun e w' => e = .returned (.bool r) ∧ Drawn0 w w' := by
  have HR0 := Aside0.mk hr0
  have HC0 := Aside0.mk hc0
  clear hr0 hc0
  have HR1 := Aside0.mk hr1
  have HC1 := Aside0.mk hc1
  clear hr1 hc1
  have H : (if (l0.length : Int) = (l1.length : Int) then (deadboltref07_Same.l0 k l0 l1 (l0.length : Int) 0) else (some false)) = some r := h
  clear h
  by_cases c3 : (l0.length : Int) = (l1.length : Int)
  · rw [if_pos c3] at H
    have c3b0 : ((l0.length : Int) == (l1.length : Int)) = true := beq_iff_eq.mpr c3
    have c3b1 : ((l0.length : Int) != (l1.length : Int)) = false := bne_eq_false_iff_eq.mpr c3
    have c3b2 : (l0.length == l1.length) = true := by first | simpa using c3 | (simp at c3 ⊢; omega)
    clear c3
    have H' := Aside0.mk H
    clear H
    go_enter Try.func20, Try.ntmps20
    go_wp2
    repeat (go_quiet (fail); try go_wp2)
    go_loopg [13] k (fun kq v13 w' => ∃ (x13_1 : Int), v13 = .int .i64 x13_1 ∧ Aside0 (deadboltref07_Same.l0 kq l0 l1 (l0.length : Int) x13_1 = some r) ∧ Aside0 (kq ≤ k) ∧ Drawn0 w w')
    case atStart => exact ⟨(0), (by first | rfl | (simp; done) | (simp [*]; done)), H', ⟨Nat.le_refl _⟩, by repeat (first | exact Drawn0.refl _ | apply Drawn0.step)⟩
    case round =>
      clear H'
      try clear c1
      try clear c2
      try clear p2
      try clear c3
      try clear c3b0
      try clear c3b1
      try clear c3b2
      obtain ⟨x13_1, rfl, HA, HK1, ⟨m1, rfl⟩⟩ := hrel
      cases gk with
      | zero => exact absurd HA.out (by simp [deadboltref07_Same.l0])
      | succ k1 =>
        have H := HA.out
        clear HA
        simp only [deadboltref07_Same.l0] at H
        by_cases c4 : x13_1 < (l0.length : Int)
        · rw [if_pos c4] at H
          have c4b0 : decide (x13_1 < (l0.length : Int)) = true := decide_eq_true c4
          clear c4
          by_cases c5 : 0 ≤ x13_1
          · rw [if_pos c5] at H
            have c5b0 : decide (0 ≤ x13_1) = true := decide_eq_true c5
            clear c5
            by_cases c6 : x13_1 < (l0.length : Int)
            · rw [if_pos c6] at H
              have c6b0 : decide (x13_1 < (l0.length : Int)) = true := decide_eq_true c6
              clear c6
              by_cases c7 : x13_1 < (l1.length : Int)
              · rw [if_pos c7] at H
                have c7b0 : decide (x13_1 < (l1.length : Int)) = true := decide_eq_true c7
                clear c7
                by_cases c8 : (rd l0 x13_1) = (rd l1 x13_1)
                · rw [if_pos c8] at H
                  have c8b0 : ((rd l0 x13_1) == (rd l1 x13_1)) = true := beq_iff_eq.mpr c8
                  have c8b1 : ((rd l0 x13_1) != (rd l1 x13_1)) = false := bne_eq_false_iff_eq.mpr c8
                  clear c8
                  have H' := Aside0.mk H
                  clear H
                  have p126 : 0 ≤ (x13_1 : Int) := of_decide_eq_true (by first | (with_reducible assumption) | assumption)
                  have q126 : x13_1 < (l0.length : Int) := of_decide_eq_true (by first | (with_reducible assumption) | assumption)
                  obtain ⟨ad126, e126, hx126_0⟩ := Kd.at_int HR0.out x13_1 p126 q126
                  cases e126
                  replace p126 := eq_true p126
                  replace q126 := eq_true q126
                  have p127 : 0 ≤ (x13_1 : Int) := of_decide_eq_true (by first | (with_reducible assumption) | assumption)
                  have q127 : x13_1 < (l1.length : Int) := of_decide_eq_true (by first | (with_reducible assumption) | assumption)
                  obtain ⟨ad127, e127, hx127_0⟩ := Kd.at_int HR1.out x13_1 p127 q127
                  cases e127
                  replace p127 := eq_true p127
                  replace q127 := eq_true q127
                  go_wp2
                  repeat (go_quiet (fail); try go_wp2)
                  go_roundg k1
                  case measure => have := HK1.out; omega
                  case rel => exact ⟨(wrap64 (x13_1 + 1)), (by first | rfl | (simp; done) | (simp [*]; done)), H', ⟨by have := HK1.out; omega⟩, by repeat (first | exact Drawn0.refl _ | apply Drawn0.step)⟩
                · rw [if_neg c8] at H
                  have c8b0 : ((rd l0 x13_1) == (rd l1 x13_1)) = false := beq_eq_false_iff_ne.mpr c8
                  have c8b1 : ((rd l0 x13_1) != (rd l1 x13_1)) = true := bne_iff_ne.mpr c8
                  obtain rfl := Option.some.inj H
                  have p126 : 0 ≤ (x13_1 : Int) := of_decide_eq_true (by first | (with_reducible assumption) | assumption)
                  have q126 : x13_1 < (l0.length : Int) := of_decide_eq_true (by first | (with_reducible assumption) | assumption)
                  obtain ⟨ad126, e126, hx126_0⟩ := Kd.at_int HR0.out x13_1 p126 q126
                  cases e126
                  replace p126 := eq_true p126
                  replace q126 := eq_true q126
                  have p127 : 0 ≤ (x13_1 : Int) := of_decide_eq_true (by first | (with_reducible assumption) | assumption)
                  have q127 : x13_1 < (l1.length : Int) := of_decide_eq_true (by first | (with_reducible assumption) | assumption)
                  obtain ⟨ad127, e127, hx127_0⟩ := Kd.at_int HR1.out x13_1 p127 q127
                  cases e127
                  replace p127 := eq_true p127
                  replace q127 := eq_true q127
                  go_wp2
                  repeat (go_quiet (fail); try go_wp2)
                  go_ret
                  exact ⟨by first | rfl | (simp; done) | (simp [*]; done), by repeat (first | exact Drawn0.refl _ | apply Drawn0.step)⟩
              · rw [if_neg c7] at H
                exact absurd H (by simp)
            · rw [if_neg c6] at H
              exact absurd H (by simp)
          · rw [if_neg c5] at H
            exact absurd H (by simp)
        · rw [if_neg c4] at H
          have c4b0 : decide (x13_1 < (l0.length : Int)) = false := decide_eq_false c4
          clear c4
          obtain rfl := Option.some.inj H
          go_wp2
          repeat (go_quiet (fail); try go_wp2)
          go_ret
          exact ⟨by first | rfl | (simp; done) | (simp [*]; done), by repeat (first | exact Drawn0.refl _ | apply Drawn0.step)⟩
  · rw [if_neg c3] at H
    have c3b0 : ((l0.length : Int) == (l1.length : Int)) = false := beq_eq_false_iff_ne.mpr c3
    have c3b1 : ((l0.length : Int) != (l1.length : Int)) = true := bne_iff_ne.mpr c3
    have c3b2 : (l0.length == l1.length) = false := by first | simpa using c3 | (simp at c3 ⊢; omega)
    obtain rfl := Option.some.inj H
    go_enter Try.func20, Try.ntmps20
    go_wp2
    repeat (go_quiet (fail); try go_wp2)
    go_ret
    exact ⟨by first | rfl | (simp; done) | (simp [*]; done), by repeat (first | exact Drawn0.refl _ | apply Drawn0.step)⟩

end Go.Proofs.Ytjdjmhagafmkaaa.PX

namespace Go.Proofs.Ytjdjmhagafmkaaa.PX
open Go.RowKit Go.Proofs.YtjdjmhagafmkaaaW.PrintWords Go.Proofs.YtjdjmhagafmkaaaW.PrintLast Go.Proofs.YtjdjmhagafmkaaaW.PrintMore
attribute [local go_sem] max2_int min2_int max_two min_two max_three min_three max_four min_four   -- for this text's walks alone
set_option linter.unusedVariables false
set_option linter.unusedSimpArgs false

/-! ### deadboltlaw18_alive: function 15 -/
def deadboltlaw18_alive.f  : Option (Bool) := (some (([(⟨0, 0, (⟨0, 0, 0⟩ : S31)⟩ : S33), (⟨0, 5, (⟨1, 0, 0⟩ : S31)⟩ : S33)] : List (S33)) : List (S33))).bind fun y101 => (if 0 < (y101.length : Int) then ((judge_Long.f (([(⟨(rd_T33 y101 0).f0, (rd_T33 y101 0).f1, (⟨(rd_T33 y101 0).f2.f0, (rd_T33 y101 0).f2.f1, (rd_T33 y101 0).f2.f2⟩ : S31)⟩ : S33), (⟨0, 5, (⟨0, 3, 0⟩ : S31)⟩ : S33)] : List (S33))) 0).bind fun bt108 => ((judge_Wrong.f y101).bind fun t110 => (if t110 = 1 then (if bt108.2 = 0 then (some (bt108.1 == 5)) else (some false)) else (some false)))) else (none))
set_option maxHeartbeats 8000000 in
set_option maxRecDepth 100000 in
theorem deadboltlaw18_alive.calls  (r : Bool) (w : World) (h : deadboltlaw18_alive.f  = some r) :
    Calls Try.prog 15 #[] w fun e w' => e = .returned (.bool r) ∧ Below w.heap.size w w' := by
  have hu31 := Try.underlying31
  have hu33 := Try.underlying33
  have HB := Aside0.mk (Below.refl w.heap.size w)
  have H : ((some (([(⟨0, 0, (⟨0, 0, 0⟩ : S31)⟩ : S33), (⟨0, 5, (⟨1, 0, 0⟩ : S31)⟩ : S33)] : List (S33)) : List (S33))).bind fun y101 => (if 0 < (y101.length : Int) then ((judge_Long.f (([(⟨(rd_T33 y101 0).f0, (rd_T33 y101 0).f1, (⟨(rd_T33 y101 0).f2.f0, (rd_T33 y101 0).f2.f1, (rd_T33 y101 0).f2.f2⟩ : S31)⟩ : S33), (⟨0, 5, (⟨0, 3, 0⟩ : S31)⟩ : S33)] : List (S33))) 0).bind fun bt108 => ((judge_Wrong.f y101).bind fun t110 => (if t110 = 1 then (if bt108.2 = 0 then (some (bt108.1 == 5)) else (some false)) else (some false)))) else (none))) = some r := h
  clear h
  obtain ⟨y101, hy101⟩ : ∃ y_ : List (S33), y_ = (([(⟨0, 0, (⟨0, 0, 0⟩ : S31)⟩ : S33), (⟨0, 5, (⟨1, 0, 0⟩ : S31)⟩ : S33)] : List (S33))) := ⟨_, rfl⟩
  replace H : (if 0 < (y101.length : Int) then ((judge_Long.f (([(⟨(rd_T33 y101 0).f0, (rd_T33 y101 0).f1, (⟨(rd_T33 y101 0).f2.f0, (rd_T33 y101 0).f2.f1, (rd_T33 y101 0).f2.f2⟩ : S31)⟩ : S33), (⟨0, 5, (⟨0, 3, 0⟩ : S31)⟩ : S33)] : List (S33))) 0).bind fun bt108 => ((judge_Wrong.f y101).bind fun t110 => (if t110 = 1 then (if bt108.2 = 0 then (some (bt108.1 == 5)) else (some false)) else (some false)))) else (none)) = some r := by first | (rw [hy101]; with_reducible exact H) | (have H2_ := (Option.bind_some _ _).symm.trans H; rw [hy101]; with_reducible exact H2_) | (have H2_ := (Option.bind_some _ _).symm.trans H; with_reducible exact H2_) | with_reducible exact H | (rw [hy101]; exact H) | exact H
  have Ny101 := Aside0.mk hy101
  clear hy101
  by_cases c1 : 0 < (y101.length : Int)
  · rw [if_pos c1] at H
    have c1b0 : decide (0 < (y101.length : Int)) = true := decide_eq_true c1
    have c1b1 : decide (0 < y101.length) = true := decide_eq_true (by omega)
    clear c1
    obtain ⟨y105, hy105⟩ : ∃ y_ : List (S33), y_ = (([(⟨(rd_T33 y101 0).f0, (rd_T33 y101 0).f1, (⟨(rd_T33 y101 0).f2.f0, (rd_T33 y101 0).f2.f1, (rd_T33 y101 0).f2.f2⟩ : S31)⟩ : S33), (⟨0, 5, (⟨0, 3, 0⟩ : S31)⟩ : S33)] : List (S33))) := ⟨_, rfl⟩
    replace H : ((judge_Long.f y105 0).bind fun bt108 => ((judge_Wrong.f y101).bind fun t110 => (if t110 = 1 then (if bt108.2 = 0 then (some (bt108.1 == 5)) else (some false)) else (some false)))) = some r := by first | (rw [hy105]; with_reducible exact H) | (have H2_ := (Option.bind_some _ _).symm.trans H; rw [hy105]; with_reducible exact H2_) | (have H2_ := (Option.bind_some _ _).symm.trans H; with_reducible exact H2_) | with_reducible exact H | (rw [hy105]; exact H) | exact H
    have Ny105 := Aside0.mk hy105
    clear hy105
    replace H := Option.bind_eq_some_iff.mp H
    obtain ⟨⟨t108, t109⟩, A20, H⟩ := H
    replace H : ((judge_Wrong.f y101).bind fun t110 => (if t110 = 1 then (if t109 = 0 then (some (t108 == 5)) else (some false)) else (some false))) = some r := H
    have A2 := Aside0.mk A20
    clear A20
    replace H := Option.bind_eq_some_iff.mp H
    obtain ⟨t110, A30, H⟩ := H
    replace H : (if t110 = 1 then (if t109 = 0 then (some (t108 == 5)) else (some false)) else (some false)) = some r := H
    have A3 := Aside0.mk A30
    clear A30
    by_cases c4 : t110 = 1
    · rw [if_pos c4] at H
      have c4b0 : (t110 == 1) = true := beq_iff_eq.mpr c4
      have c4b1 : (t110 != 1) = false := bne_eq_false_iff_eq.mpr c4
      clear c4
      by_cases c5 : t109 = 0
      · rw [if_pos c5] at H
        have c5b0 : (t109 == 0) = true := beq_iff_eq.mpr c5
        have c5b1 : (t109 != 0) = false := bne_eq_false_iff_eq.mpr c5
        clear c5
        obtain rfl := Option.some.inj H
        go_enter Try.func15, Try.ntmps15
        go_wp2_with (first | ((with_reducible refine gate_dst (N := 8) rfl ?_); refine Kd.R_lit k33 _ 33 ?hg (N := 8) ?hd (xs := ([(⟨0, 0, (⟨0, 0, 0⟩ : S31)⟩ : S33), (⟨0, 5, (⟨1, 0, 0⟩ : S31)⟩ : S33)] : List (S33))) (inner := [.int .i64 0, .int .i64 0, .int .i64 0, .int .i64 0, .int .i64 0, .int .i64 0, .int .i64 5, .int .i64 1, .int .i64 0, .int .i64 0]) (ok := fun _ => True) (okp := fun _ => True) ?hr ?hp (fun _ hk => hk) trivial (Below.refl _ _) (Nat.le_refl _) (by simp) ?_; (case hd => rfl); (case hg => rfl); (case hr => first | (go_simp; done) | (go_simp; rfl)); (case hp => exact (Reps.c5 (show Kd.M k33 _ _ _ (⟨0, 0, (⟨0, 0, 0⟩ : S31)⟩ : S33) [.int .i64 0, .int .i64 0, .int .i64 0, .int .i64 0, .int .i64 0] from (k33_mkM _ _ _ (⟨0, 0, (⟨0, 0, 0⟩ : S31)⟩ : S33) )) (Reps.c5 (show Kd.M k33 _ _ _ (⟨0, 5, (⟨1, 0, 0⟩ : S31)⟩ : S33) [.int .i64 0, .int .i64 5, .int .i64 1, .int .i64 0, .int .i64 0] from (k33_mkM _ _ _ (⟨0, 5, (⟨1, 0, 0⟩ : S31)⟩ : S33) )) (Reps.none _ _)))); intro v102 w6 ho7 hb hg_ hnew_; clear hg_ hnew_; (first | rw [← Ny101.out] at ho7 | (simp only [Int.reduceToNat] at ho7; rw [← Ny101.out] at ho7)); have n0_ := Aside0.mk (Kd.R_lower ho7 (below_size (by repeat (first | (with_reducible first | exact HB.out | apply below_alloc | apply pw_below_drewN | apply below_drew1) | exact HB.out)))); have n1_ := Aside0.mk (below_step (by repeat (first | (with_reducible first | exact HB.out | apply below_alloc | apply pw_below_drewN | apply below_drew1) | exact HB.out)) hb); clear HB; have HO103 := n0_; have HB := n1_; clear n0_ n1_; clear hb ho7; obtain ⟨Ao8, co8, eo8⟩ := Kd.R_slice HO103.out; subst eo8; have p104 : 0 ≤ (0 : Int) := (by omega); have q104 : 0 < (y101.length : Int) := of_decide_eq_true (by first | (with_reducible assumption) | assumption); obtain ⟨ad104, e104, hx104_0, hx104_1, hx104_2, hx104_3, hx104_4⟩ := at_T33 (Kd.R_reads' HO103.out).2.2 0 p104 q104; cases e104; have qi104 : (0 < y101.length) = True := eq_true (by omega); (try rw [show ((0 : Int)).toNat = 0 from rfl] at hx104_0); (try rw [show 0 * 5 = 0 from rfl] at hx104_0); (try rw [Addr.add_zero'] at hx104_0); (try rw [show ((0 : Int)).toNat = 0 from rfl] at hx104_1); (try rw [show 0 * 5 = 0 from rfl] at hx104_1); (try rw [Addr.add_zero'] at hx104_1); (try rw [show ((0 : Int)).toNat = 0 from rfl] at hx104_2); (try rw [show 0 * 5 = 0 from rfl] at hx104_2); (try rw [Addr.add_zero'] at hx104_2); (try rw [show ((0 : Int)).toNat = 0 from rfl] at hx104_3); (try rw [show 0 * 5 = 0 from rfl] at hx104_3); (try rw [Addr.add_zero'] at hx104_3); (try rw [show ((0 : Int)).toNat = 0 from rfl] at hx104_4); (try rw [show 0 * 5 = 0 from rfl] at hx104_4); (try rw [Addr.add_zero'] at hx104_4); replace p104 := eq_true p104; replace q104 := eq_true q104) | ((with_reducible refine gate_dst (N := 15) rfl ?_); refine Kd.R_lit k33 _ 33 ?hg (N := 15) ?hd (xs := ([(⟨(rd_T33 y101 0).f0, (rd_T33 y101 0).f1, (⟨(rd_T33 y101 0).f2.f0, (rd_T33 y101 0).f2.f1, (rd_T33 y101 0).f2.f2⟩ : S31)⟩ : S33), (⟨0, 5, (⟨0, 3, 0⟩ : S31)⟩ : S33)] : List (S33))) (inner := [.int .i64 ((rd_T33 y101 0).f0), .int .i64 ((rd_T33 y101 0).f1), .int .i64 ((rd_T33 y101 0).f2.f0), .int .i64 ((rd_T33 y101 0).f2.f1), .int .i64 ((rd_T33 y101 0).f2.f2), .int .i64 0, .int .i64 5, .int .i64 0, .int .i64 3, .int .i64 0]) (ok := fun _ => True) (okp := fun _ => True) ?hr ?hp (fun _ hk => hk) trivial (Below.refl _ _) (Nat.le_refl _) (by simp) ?_; (case hd => rfl); (case hg => rfl); (case hr => first | (go_simp; done) | (go_simp; rfl)); (case hp => exact (Reps.c5 (show Kd.M k33 _ _ _ (⟨(rd_T33 y101 0).f0, (rd_T33 y101 0).f1, (⟨(rd_T33 y101 0).f2.f0, (rd_T33 y101 0).f2.f1, (rd_T33 y101 0).f2.f2⟩ : S31)⟩ : S33) [.int .i64 ((rd_T33 y101 0).f0), .int .i64 ((rd_T33 y101 0).f1), .int .i64 ((rd_T33 y101 0).f2.f0), .int .i64 ((rd_T33 y101 0).f2.f1), .int .i64 ((rd_T33 y101 0).f2.f2)] from (k33_mkM _ _ _ (⟨(rd_T33 y101 0).f0, (rd_T33 y101 0).f1, (⟨(rd_T33 y101 0).f2.f0, (rd_T33 y101 0).f2.f1, (rd_T33 y101 0).f2.f2⟩ : S31)⟩ : S33) )) (Reps.c5 (show Kd.M k33 _ _ _ (⟨0, 5, (⟨0, 3, 0⟩ : S31)⟩ : S33) [.int .i64 0, .int .i64 5, .int .i64 0, .int .i64 3, .int .i64 0] from (k33_mkM _ _ _ (⟨0, 5, (⟨0, 3, 0⟩ : S31)⟩ : S33) )) (Reps.none _ _)))); intro v106 w9 ho10 hb hg_ hnew_; clear hg_ hnew_; (first | rw [← Ny105.out] at ho10 | (simp only [Int.reduceToNat] at ho10; rw [← Ny105.out] at ho10)); have n0_ := Aside0.mk (Kd.R_elder' (by (with_reducible repeat (first | apply Kd.R_alloc | apply Kd.R_drewN | apply Kd.R_drew)); exact HO103.out) (Kd.R_base ho10) hb); have n1_ := Aside0.mk (Kd.R_lower (Kd.R_new' ho10 (Kd.R_lt (by (with_reducible repeat (first | apply Kd.R_alloc | apply Kd.R_drewN | apply Kd.R_drew)); exact HO103.out))) (below_size (by repeat (first | (with_reducible first | exact HB.out | apply below_alloc | apply pw_below_drewN | apply below_drew1) | exact HB.out)))); have n2_ := Aside0.mk (below_step (by repeat (first | (with_reducible first | exact HB.out | apply below_alloc | apply pw_below_drewN | apply below_drew1) | exact HB.out)) hb); clear HO103; clear HB; have HO103 := n0_; have HO107 := n1_; have HB := n2_; clear n0_ n1_ n2_; clear hb ho10; obtain ⟨Ao11, co11, eo11⟩ := Kd.R_slice HO107.out; subst eo11) | ((with_reducible refine gate_callee (f := 18) rfl ?_); refine goesL_ (some 16) rfl rfl Try.func18 (by kernel_rfl) rfl #[.slice Ao11 y105.length co11, .int .i64 0] rfl (by (try simp only [List.map_toArray, List.map_cons, List.map_nil]); first | done | rfl | (simp only [List.length_drop, List.length_take]; rfl)) ?_; (with_reducible refine (judge_Long.calls _ _ y105 0 t108 t109 _ ?side1 ?side2 A2.out).mono ?_); (case side1 => repeat (first | exact (Kd.R_reads' HO107.out).2.2 | (with_reducible refine Kd.C_alloc ?_ _) | (with_reducible refine Kd.C_drewN ?_ _) | (with_reducible refine Kd.C_drew ?_))); (case side2 => exact (Kd.R_reads' HO107.out).2.1); rintro e w12 ⟨rfl, hb⟩; refine ⟨_, rfl, ?_⟩; have n0_ := Aside0.mk (Kd.R_below (by (with_reducible repeat (first | apply Kd.R_alloc | apply Kd.R_drewN | apply Kd.R_drew)); exact HO103.out) hb); have n1_ := Aside0.mk (Kd.R_below (by (with_reducible repeat (first | apply Kd.R_alloc | apply Kd.R_drewN | apply Kd.R_drew)); exact HO107.out) hb); have n2_ := Aside0.mk (below_step (by repeat (first | (with_reducible first | exact HB.out | apply below_alloc | apply pw_below_drewN | apply below_drew1) | exact HB.out)) hb); clear HO103; clear HO107; clear HB; have HO103 := n0_; have HO107 := n1_; have HB := n2_; clear n0_ n1_ n2_; (try clear hb); (try clear hb2); (try clear hk); (try clear hi)) | ((with_reducible refine gate_callee (f := 14) rfl ?_); refine goesL_ (some 20) rfl rfl Try.func14 (by kernel_rfl) rfl #[.slice (some ad104) y101.length co8] rfl (by (try simp only [List.map_toArray, List.map_cons, List.map_nil]); first | done | rfl | (simp only [List.length_drop, List.length_take]; rfl)) ?_; (with_reducible refine (judge_Wrong.calls _ _ y101 t110 _ ?side1 ?side2 A3.out).mono ?_); (case side1 => repeat (first | exact (Kd.R_reads' HO103.out).2.2 | (with_reducible refine Kd.C_alloc ?_ _) | (with_reducible refine Kd.C_drewN ?_ _) | (with_reducible refine Kd.C_drew ?_))); (case side2 => exact (Kd.R_reads' HO103.out).2.1); rintro e w13 ⟨rfl, hb⟩; refine ⟨_, rfl, ?_⟩; have n0_ := Aside0.mk (Kd.R_below (by (with_reducible repeat (first | apply Kd.R_alloc | apply Kd.R_drewN | apply Kd.R_drew)); exact HO103.out) hb); have n1_ := Aside0.mk (Kd.R_below (by (with_reducible repeat (first | apply Kd.R_alloc | apply Kd.R_drewN | apply Kd.R_drew)); exact HO107.out) hb); have n2_ := Aside0.mk (below_step (by repeat (first | (with_reducible first | exact HB.out | apply below_alloc | apply pw_below_drewN | apply below_drew1) | exact HB.out)) hb); clear HO103; clear HO107; clear HB; have HO103 := n0_; have HO107 := n1_; have HB := n2_; clear n0_ n1_ n2_; (try clear hb); (try clear hb2); (try clear hk); (try clear hi)))
        go_ret
        exact ⟨by first | rfl | (simp [errW_none, errW_some] <;> rfl) | (simp [*, errW_none, errW_some] <;> rfl), by repeat (first | (with_reducible first | exact HB.out | apply below_alloc | apply pw_below_drewN | apply below_drew1) | exact HB.out)⟩
      · rw [if_neg c5] at H
        have c5b0 : (t109 == 0) = false := beq_eq_false_iff_ne.mpr c5
        have c5b1 : (t109 != 0) = true := bne_iff_ne.mpr c5
        obtain rfl := Option.some.inj H
        go_enter Try.func15, Try.ntmps15
        go_wp2_with (first | ((with_reducible refine gate_dst (N := 8) rfl ?_); refine Kd.R_lit k33 _ 33 ?hg (N := 8) ?hd (xs := ([(⟨0, 0, (⟨0, 0, 0⟩ : S31)⟩ : S33), (⟨0, 5, (⟨1, 0, 0⟩ : S31)⟩ : S33)] : List (S33))) (inner := [.int .i64 0, .int .i64 0, .int .i64 0, .int .i64 0, .int .i64 0, .int .i64 0, .int .i64 5, .int .i64 1, .int .i64 0, .int .i64 0]) (ok := fun _ => True) (okp := fun _ => True) ?hr ?hp (fun _ hk => hk) trivial (Below.refl _ _) (Nat.le_refl _) (by simp) ?_; (case hd => rfl); (case hg => rfl); (case hr => first | (go_simp; done) | (go_simp; rfl)); (case hp => exact (Reps.c5 (show Kd.M k33 _ _ _ (⟨0, 0, (⟨0, 0, 0⟩ : S31)⟩ : S33) [.int .i64 0, .int .i64 0, .int .i64 0, .int .i64 0, .int .i64 0] from (k33_mkM _ _ _ (⟨0, 0, (⟨0, 0, 0⟩ : S31)⟩ : S33) )) (Reps.c5 (show Kd.M k33 _ _ _ (⟨0, 5, (⟨1, 0, 0⟩ : S31)⟩ : S33) [.int .i64 0, .int .i64 5, .int .i64 1, .int .i64 0, .int .i64 0] from (k33_mkM _ _ _ (⟨0, 5, (⟨1, 0, 0⟩ : S31)⟩ : S33) )) (Reps.none _ _)))); intro v102 w14 ho15 hb hg_ hnew_; clear hg_ hnew_; (first | rw [← Ny101.out] at ho15 | (simp only [Int.reduceToNat] at ho15; rw [← Ny101.out] at ho15)); have n0_ := Aside0.mk (Kd.R_lower ho15 (below_size (by repeat (first | (with_reducible first | exact HB.out | apply below_alloc | apply pw_below_drewN | apply below_drew1) | exact HB.out)))); have n1_ := Aside0.mk (below_step (by repeat (first | (with_reducible first | exact HB.out | apply below_alloc | apply pw_below_drewN | apply below_drew1) | exact HB.out)) hb); clear HB; have HO103 := n0_; have HB := n1_; clear n0_ n1_; clear hb ho15; obtain ⟨Ao16, co16, eo16⟩ := Kd.R_slice HO103.out; subst eo16; have p104 : 0 ≤ (0 : Int) := (by omega); have q104 : 0 < (y101.length : Int) := of_decide_eq_true (by first | (with_reducible assumption) | assumption); obtain ⟨ad104, e104, hx104_0, hx104_1, hx104_2, hx104_3, hx104_4⟩ := at_T33 (Kd.R_reads' HO103.out).2.2 0 p104 q104; cases e104; have qi104 : (0 < y101.length) = True := eq_true (by omega); (try rw [show ((0 : Int)).toNat = 0 from rfl] at hx104_0); (try rw [show 0 * 5 = 0 from rfl] at hx104_0); (try rw [Addr.add_zero'] at hx104_0); (try rw [show ((0 : Int)).toNat = 0 from rfl] at hx104_1); (try rw [show 0 * 5 = 0 from rfl] at hx104_1); (try rw [Addr.add_zero'] at hx104_1); (try rw [show ((0 : Int)).toNat = 0 from rfl] at hx104_2); (try rw [show 0 * 5 = 0 from rfl] at hx104_2); (try rw [Addr.add_zero'] at hx104_2); (try rw [show ((0 : Int)).toNat = 0 from rfl] at hx104_3); (try rw [show 0 * 5 = 0 from rfl] at hx104_3); (try rw [Addr.add_zero'] at hx104_3); (try rw [show ((0 : Int)).toNat = 0 from rfl] at hx104_4); (try rw [show 0 * 5 = 0 from rfl] at hx104_4); (try rw [Addr.add_zero'] at hx104_4); replace p104 := eq_true p104; replace q104 := eq_true q104) | ((with_reducible refine gate_dst (N := 15) rfl ?_); refine Kd.R_lit k33 _ 33 ?hg (N := 15) ?hd (xs := ([(⟨(rd_T33 y101 0).f0, (rd_T33 y101 0).f1, (⟨(rd_T33 y101 0).f2.f0, (rd_T33 y101 0).f2.f1, (rd_T33 y101 0).f2.f2⟩ : S31)⟩ : S33), (⟨0, 5, (⟨0, 3, 0⟩ : S31)⟩ : S33)] : List (S33))) (inner := [.int .i64 ((rd_T33 y101 0).f0), .int .i64 ((rd_T33 y101 0).f1), .int .i64 ((rd_T33 y101 0).f2.f0), .int .i64 ((rd_T33 y101 0).f2.f1), .int .i64 ((rd_T33 y101 0).f2.f2), .int .i64 0, .int .i64 5, .int .i64 0, .int .i64 3, .int .i64 0]) (ok := fun _ => True) (okp := fun _ => True) ?hr ?hp (fun _ hk => hk) trivial (Below.refl _ _) (Nat.le_refl _) (by simp) ?_; (case hd => rfl); (case hg => rfl); (case hr => first | (go_simp; done) | (go_simp; rfl)); (case hp => exact (Reps.c5 (show Kd.M k33 _ _ _ (⟨(rd_T33 y101 0).f0, (rd_T33 y101 0).f1, (⟨(rd_T33 y101 0).f2.f0, (rd_T33 y101 0).f2.f1, (rd_T33 y101 0).f2.f2⟩ : S31)⟩ : S33) [.int .i64 ((rd_T33 y101 0).f0), .int .i64 ((rd_T33 y101 0).f1), .int .i64 ((rd_T33 y101 0).f2.f0), .int .i64 ((rd_T33 y101 0).f2.f1), .int .i64 ((rd_T33 y101 0).f2.f2)] from (k33_mkM _ _ _ (⟨(rd_T33 y101 0).f0, (rd_T33 y101 0).f1, (⟨(rd_T33 y101 0).f2.f0, (rd_T33 y101 0).f2.f1, (rd_T33 y101 0).f2.f2⟩ : S31)⟩ : S33) )) (Reps.c5 (show Kd.M k33 _ _ _ (⟨0, 5, (⟨0, 3, 0⟩ : S31)⟩ : S33) [.int .i64 0, .int .i64 5, .int .i64 0, .int .i64 3, .int .i64 0] from (k33_mkM _ _ _ (⟨0, 5, (⟨0, 3, 0⟩ : S31)⟩ : S33) )) (Reps.none _ _)))); intro v106 w17 ho18 hb hg_ hnew_; clear hg_ hnew_; (first | rw [← Ny105.out] at ho18 | (simp only [Int.reduceToNat] at ho18; rw [← Ny105.out] at ho18)); have n0_ := Aside0.mk (Kd.R_elder' (by (with_reducible repeat (first | apply Kd.R_alloc | apply Kd.R_drewN | apply Kd.R_drew)); exact HO103.out) (Kd.R_base ho18) hb); have n1_ := Aside0.mk (Kd.R_lower (Kd.R_new' ho18 (Kd.R_lt (by (with_reducible repeat (first | apply Kd.R_alloc | apply Kd.R_drewN | apply Kd.R_drew)); exact HO103.out))) (below_size (by repeat (first | (with_reducible first | exact HB.out | apply below_alloc | apply pw_below_drewN | apply below_drew1) | exact HB.out)))); have n2_ := Aside0.mk (below_step (by repeat (first | (with_reducible first | exact HB.out | apply below_alloc | apply pw_below_drewN | apply below_drew1) | exact HB.out)) hb); clear HO103; clear HB; have HO103 := n0_; have HO107 := n1_; have HB := n2_; clear n0_ n1_ n2_; clear hb ho18; obtain ⟨Ao19, co19, eo19⟩ := Kd.R_slice HO107.out; subst eo19) | ((with_reducible refine gate_callee (f := 18) rfl ?_); refine goesL_ (some 16) rfl rfl Try.func18 (by kernel_rfl) rfl #[.slice Ao19 y105.length co19, .int .i64 0] rfl (by (try simp only [List.map_toArray, List.map_cons, List.map_nil]); first | done | rfl | (simp only [List.length_drop, List.length_take]; rfl)) ?_; (with_reducible refine (judge_Long.calls _ _ y105 0 t108 t109 _ ?side1 ?side2 A2.out).mono ?_); (case side1 => repeat (first | exact (Kd.R_reads' HO107.out).2.2 | (with_reducible refine Kd.C_alloc ?_ _) | (with_reducible refine Kd.C_drewN ?_ _) | (with_reducible refine Kd.C_drew ?_))); (case side2 => exact (Kd.R_reads' HO107.out).2.1); rintro e w20 ⟨rfl, hb⟩; refine ⟨_, rfl, ?_⟩; have n0_ := Aside0.mk (Kd.R_below (by (with_reducible repeat (first | apply Kd.R_alloc | apply Kd.R_drewN | apply Kd.R_drew)); exact HO103.out) hb); have n1_ := Aside0.mk (Kd.R_below (by (with_reducible repeat (first | apply Kd.R_alloc | apply Kd.R_drewN | apply Kd.R_drew)); exact HO107.out) hb); have n2_ := Aside0.mk (below_step (by repeat (first | (with_reducible first | exact HB.out | apply below_alloc | apply pw_below_drewN | apply below_drew1) | exact HB.out)) hb); clear HO103; clear HO107; clear HB; have HO103 := n0_; have HO107 := n1_; have HB := n2_; clear n0_ n1_ n2_; (try clear hb); (try clear hb2); (try clear hk); (try clear hi)) | ((with_reducible refine gate_callee (f := 14) rfl ?_); refine goesL_ (some 20) rfl rfl Try.func14 (by kernel_rfl) rfl #[.slice (some ad104) y101.length co16] rfl (by (try simp only [List.map_toArray, List.map_cons, List.map_nil]); first | done | rfl | (simp only [List.length_drop, List.length_take]; rfl)) ?_; (with_reducible refine (judge_Wrong.calls _ _ y101 t110 _ ?side1 ?side2 A3.out).mono ?_); (case side1 => repeat (first | exact (Kd.R_reads' HO103.out).2.2 | (with_reducible refine Kd.C_alloc ?_ _) | (with_reducible refine Kd.C_drewN ?_ _) | (with_reducible refine Kd.C_drew ?_))); (case side2 => exact (Kd.R_reads' HO103.out).2.1); rintro e w21 ⟨rfl, hb⟩; refine ⟨_, rfl, ?_⟩; have n0_ := Aside0.mk (Kd.R_below (by (with_reducible repeat (first | apply Kd.R_alloc | apply Kd.R_drewN | apply Kd.R_drew)); exact HO103.out) hb); have n1_ := Aside0.mk (Kd.R_below (by (with_reducible repeat (first | apply Kd.R_alloc | apply Kd.R_drewN | apply Kd.R_drew)); exact HO107.out) hb); have n2_ := Aside0.mk (below_step (by repeat (first | (with_reducible first | exact HB.out | apply below_alloc | apply pw_below_drewN | apply below_drew1) | exact HB.out)) hb); clear HO103; clear HO107; clear HB; have HO103 := n0_; have HO107 := n1_; have HB := n2_; clear n0_ n1_ n2_; (try clear hb); (try clear hb2); (try clear hk); (try clear hi)))
        go_ret
        exact ⟨by first | rfl | (simp [errW_none, errW_some] <;> rfl) | (simp [*, errW_none, errW_some] <;> rfl), by repeat (first | (with_reducible first | exact HB.out | apply below_alloc | apply pw_below_drewN | apply below_drew1) | exact HB.out)⟩
    · rw [if_neg c4] at H
      have c4b0 : (t110 == 1) = false := beq_eq_false_iff_ne.mpr c4
      have c4b1 : (t110 != 1) = true := bne_iff_ne.mpr c4
      obtain rfl := Option.some.inj H
      go_enter Try.func15, Try.ntmps15
      go_wp2_with (first | ((with_reducible refine gate_dst (N := 8) rfl ?_); refine Kd.R_lit k33 _ 33 ?hg (N := 8) ?hd (xs := ([(⟨0, 0, (⟨0, 0, 0⟩ : S31)⟩ : S33), (⟨0, 5, (⟨1, 0, 0⟩ : S31)⟩ : S33)] : List (S33))) (inner := [.int .i64 0, .int .i64 0, .int .i64 0, .int .i64 0, .int .i64 0, .int .i64 0, .int .i64 5, .int .i64 1, .int .i64 0, .int .i64 0]) (ok := fun _ => True) (okp := fun _ => True) ?hr ?hp (fun _ hk => hk) trivial (Below.refl _ _) (Nat.le_refl _) (by simp) ?_; (case hd => rfl); (case hg => rfl); (case hr => first | (go_simp; done) | (go_simp; rfl)); (case hp => exact (Reps.c5 (show Kd.M k33 _ _ _ (⟨0, 0, (⟨0, 0, 0⟩ : S31)⟩ : S33) [.int .i64 0, .int .i64 0, .int .i64 0, .int .i64 0, .int .i64 0] from (k33_mkM _ _ _ (⟨0, 0, (⟨0, 0, 0⟩ : S31)⟩ : S33) )) (Reps.c5 (show Kd.M k33 _ _ _ (⟨0, 5, (⟨1, 0, 0⟩ : S31)⟩ : S33) [.int .i64 0, .int .i64 5, .int .i64 1, .int .i64 0, .int .i64 0] from (k33_mkM _ _ _ (⟨0, 5, (⟨1, 0, 0⟩ : S31)⟩ : S33) )) (Reps.none _ _)))); intro v102 w22 ho23 hb hg_ hnew_; clear hg_ hnew_; (first | rw [← Ny101.out] at ho23 | (simp only [Int.reduceToNat] at ho23; rw [← Ny101.out] at ho23)); have n0_ := Aside0.mk (Kd.R_lower ho23 (below_size (by repeat (first | (with_reducible first | exact HB.out | apply below_alloc | apply pw_below_drewN | apply below_drew1) | exact HB.out)))); have n1_ := Aside0.mk (below_step (by repeat (first | (with_reducible first | exact HB.out | apply below_alloc | apply pw_below_drewN | apply below_drew1) | exact HB.out)) hb); clear HB; have HO103 := n0_; have HB := n1_; clear n0_ n1_; clear hb ho23; obtain ⟨Ao24, co24, eo24⟩ := Kd.R_slice HO103.out; subst eo24; have p104 : 0 ≤ (0 : Int) := (by omega); have q104 : 0 < (y101.length : Int) := of_decide_eq_true (by first | (with_reducible assumption) | assumption); obtain ⟨ad104, e104, hx104_0, hx104_1, hx104_2, hx104_3, hx104_4⟩ := at_T33 (Kd.R_reads' HO103.out).2.2 0 p104 q104; cases e104; have qi104 : (0 < y101.length) = True := eq_true (by omega); (try rw [show ((0 : Int)).toNat = 0 from rfl] at hx104_0); (try rw [show 0 * 5 = 0 from rfl] at hx104_0); (try rw [Addr.add_zero'] at hx104_0); (try rw [show ((0 : Int)).toNat = 0 from rfl] at hx104_1); (try rw [show 0 * 5 = 0 from rfl] at hx104_1); (try rw [Addr.add_zero'] at hx104_1); (try rw [show ((0 : Int)).toNat = 0 from rfl] at hx104_2); (try rw [show 0 * 5 = 0 from rfl] at hx104_2); (try rw [Addr.add_zero'] at hx104_2); (try rw [show ((0 : Int)).toNat = 0 from rfl] at hx104_3); (try rw [show 0 * 5 = 0 from rfl] at hx104_3); (try rw [Addr.add_zero'] at hx104_3); (try rw [show ((0 : Int)).toNat = 0 from rfl] at hx104_4); (try rw [show 0 * 5 = 0 from rfl] at hx104_4); (try rw [Addr.add_zero'] at hx104_4); replace p104 := eq_true p104; replace q104 := eq_true q104) | ((with_reducible refine gate_dst (N := 15) rfl ?_); refine Kd.R_lit k33 _ 33 ?hg (N := 15) ?hd (xs := ([(⟨(rd_T33 y101 0).f0, (rd_T33 y101 0).f1, (⟨(rd_T33 y101 0).f2.f0, (rd_T33 y101 0).f2.f1, (rd_T33 y101 0).f2.f2⟩ : S31)⟩ : S33), (⟨0, 5, (⟨0, 3, 0⟩ : S31)⟩ : S33)] : List (S33))) (inner := [.int .i64 ((rd_T33 y101 0).f0), .int .i64 ((rd_T33 y101 0).f1), .int .i64 ((rd_T33 y101 0).f2.f0), .int .i64 ((rd_T33 y101 0).f2.f1), .int .i64 ((rd_T33 y101 0).f2.f2), .int .i64 0, .int .i64 5, .int .i64 0, .int .i64 3, .int .i64 0]) (ok := fun _ => True) (okp := fun _ => True) ?hr ?hp (fun _ hk => hk) trivial (Below.refl _ _) (Nat.le_refl _) (by simp) ?_; (case hd => rfl); (case hg => rfl); (case hr => first | (go_simp; done) | (go_simp; rfl)); (case hp => exact (Reps.c5 (show Kd.M k33 _ _ _ (⟨(rd_T33 y101 0).f0, (rd_T33 y101 0).f1, (⟨(rd_T33 y101 0).f2.f0, (rd_T33 y101 0).f2.f1, (rd_T33 y101 0).f2.f2⟩ : S31)⟩ : S33) [.int .i64 ((rd_T33 y101 0).f0), .int .i64 ((rd_T33 y101 0).f1), .int .i64 ((rd_T33 y101 0).f2.f0), .int .i64 ((rd_T33 y101 0).f2.f1), .int .i64 ((rd_T33 y101 0).f2.f2)] from (k33_mkM _ _ _ (⟨(rd_T33 y101 0).f0, (rd_T33 y101 0).f1, (⟨(rd_T33 y101 0).f2.f0, (rd_T33 y101 0).f2.f1, (rd_T33 y101 0).f2.f2⟩ : S31)⟩ : S33) )) (Reps.c5 (show Kd.M k33 _ _ _ (⟨0, 5, (⟨0, 3, 0⟩ : S31)⟩ : S33) [.int .i64 0, .int .i64 5, .int .i64 0, .int .i64 3, .int .i64 0] from (k33_mkM _ _ _ (⟨0, 5, (⟨0, 3, 0⟩ : S31)⟩ : S33) )) (Reps.none _ _)))); intro v106 w25 ho26 hb hg_ hnew_; clear hg_ hnew_; (first | rw [← Ny105.out] at ho26 | (simp only [Int.reduceToNat] at ho26; rw [← Ny105.out] at ho26)); have n0_ := Aside0.mk (Kd.R_elder' (by (with_reducible repeat (first | apply Kd.R_alloc | apply Kd.R_drewN | apply Kd.R_drew)); exact HO103.out) (Kd.R_base ho26) hb); have n1_ := Aside0.mk (Kd.R_lower (Kd.R_new' ho26 (Kd.R_lt (by (with_reducible repeat (first | apply Kd.R_alloc | apply Kd.R_drewN | apply Kd.R_drew)); exact HO103.out))) (below_size (by repeat (first | (with_reducible first | exact HB.out | apply below_alloc | apply pw_below_drewN | apply below_drew1) | exact HB.out)))); have n2_ := Aside0.mk (below_step (by repeat (first | (with_reducible first | exact HB.out | apply below_alloc | apply pw_below_drewN | apply below_drew1) | exact HB.out)) hb); clear HO103; clear HB; have HO103 := n0_; have HO107 := n1_; have HB := n2_; clear n0_ n1_ n2_; clear hb ho26; obtain ⟨Ao27, co27, eo27⟩ := Kd.R_slice HO107.out; subst eo27) | ((with_reducible refine gate_callee (f := 18) rfl ?_); refine goesL_ (some 16) rfl rfl Try.func18 (by kernel_rfl) rfl #[.slice Ao27 y105.length co27, .int .i64 0] rfl (by (try simp only [List.map_toArray, List.map_cons, List.map_nil]); first | done | rfl | (simp only [List.length_drop, List.length_take]; rfl)) ?_; (with_reducible refine (judge_Long.calls _ _ y105 0 t108 t109 _ ?side1 ?side2 A2.out).mono ?_); (case side1 => repeat (first | exact (Kd.R_reads' HO107.out).2.2 | (with_reducible refine Kd.C_alloc ?_ _) | (with_reducible refine Kd.C_drewN ?_ _) | (with_reducible refine Kd.C_drew ?_))); (case side2 => exact (Kd.R_reads' HO107.out).2.1); rintro e w28 ⟨rfl, hb⟩; refine ⟨_, rfl, ?_⟩; have n0_ := Aside0.mk (Kd.R_below (by (with_reducible repeat (first | apply Kd.R_alloc | apply Kd.R_drewN | apply Kd.R_drew)); exact HO103.out) hb); have n1_ := Aside0.mk (Kd.R_below (by (with_reducible repeat (first | apply Kd.R_alloc | apply Kd.R_drewN | apply Kd.R_drew)); exact HO107.out) hb); have n2_ := Aside0.mk (below_step (by repeat (first | (with_reducible first | exact HB.out | apply below_alloc | apply pw_below_drewN | apply below_drew1) | exact HB.out)) hb); clear HO103; clear HO107; clear HB; have HO103 := n0_; have HO107 := n1_; have HB := n2_; clear n0_ n1_ n2_; (try clear hb); (try clear hb2); (try clear hk); (try clear hi)) | ((with_reducible refine gate_callee (f := 14) rfl ?_); refine goesL_ (some 20) rfl rfl Try.func14 (by kernel_rfl) rfl #[.slice (some ad104) y101.length co24] rfl (by (try simp only [List.map_toArray, List.map_cons, List.map_nil]); first | done | rfl | (simp only [List.length_drop, List.length_take]; rfl)) ?_; (with_reducible refine (judge_Wrong.calls _ _ y101 t110 _ ?side1 ?side2 A3.out).mono ?_); (case side1 => repeat (first | exact (Kd.R_reads' HO103.out).2.2 | (with_reducible refine Kd.C_alloc ?_ _) | (with_reducible refine Kd.C_drewN ?_ _) | (with_reducible refine Kd.C_drew ?_))); (case side2 => exact (Kd.R_reads' HO103.out).2.1); rintro e w29 ⟨rfl, hb⟩; refine ⟨_, rfl, ?_⟩; have n0_ := Aside0.mk (Kd.R_below (by (with_reducible repeat (first | apply Kd.R_alloc | apply Kd.R_drewN | apply Kd.R_drew)); exact HO103.out) hb); have n1_ := Aside0.mk (Kd.R_below (by (with_reducible repeat (first | apply Kd.R_alloc | apply Kd.R_drewN | apply Kd.R_drew)); exact HO107.out) hb); have n2_ := Aside0.mk (below_step (by repeat (first | (with_reducible first | exact HB.out | apply below_alloc | apply pw_below_drewN | apply below_drew1) | exact HB.out)) hb); clear HO103; clear HO107; clear HB; have HO103 := n0_; have HO107 := n1_; have HB := n2_; clear n0_ n1_ n2_; (try clear hb); (try clear hb2); (try clear hk); (try clear hi)))
      go_ret
      exact ⟨by first | rfl | (simp [errW_none, errW_some] <;> rfl) | (simp [*, errW_none, errW_some] <;> rfl), by repeat (first | (with_reducible first | exact HB.out | apply below_alloc | apply pw_below_drewN | apply below_drew1) | exact HB.out)⟩
  · rw [if_neg c1] at H
    exact absurd H (by simp)

end Go.Proofs.Ytjdjmhagafmkaaa.PX

/-
  What the document's functions of layer 18 come to, in plain lists.
-/
namespace Go.Proofs.Ytjdjmhagafmkaaa.PX
open Go.RowKit Go.Proofs.YtjdjmhagafmkaaaW.PrintWords Go.Proofs.YtjdjmhagafmkaaaW.PrintLast Go.Proofs.YtjdjmhagafmkaaaW.PrintMore

theorem w64_next {i n : Nat} (h : i < n) (hn : n ≤ 1000) : wrap64 ((i : Int) + 1) = ((i + 1 : Nat) : Int) := by unfold wrap64; omega
theorem w64_pred {n : Nat} (h : 0 < n) (hn : n ≤ 1000) : wrap64 ((n : Int) - 1) = ((n - 1 : Nat) : Int) := by unfold wrap64; omega
theorem rdS {l : List S33} {i : Nat} (h : i < l.length) : rd_T33 l (i : Int) = l[i] := by
  unfold rd_T33
  rw [Int.toNat_natCast, List.getD_eq_getElem?_getD, List.getElem?_eq_getElem h]
  rfl
theorem rdI {l : List Int} {i : Nat} (h : i < l.length) : rd l (i : Int) = l[i] := by
  unfold rd
  rw [Int.toNat_natCast, List.getD_eq_getElem?_getD, List.getElem?_eq_getElem h]
  rfl
theorem drop_toH {l : List S33} {i : Nat} (h : i < l.length) : (l.map toH).drop i = toH l[i] :: (l.map toH).drop (i + 1) := by
  rw [List.drop_eq_getElem_cons (by simpa using h), List.getElem_map]

theorem holder_l0 (m : Int) (l : List S33) (hn : l.length ≤ 1000) : ∀ (d i k : Nat) (acc : Int), i + d = l.length → d < k →
    deadboltref18_Holder.l0 k m acc l (l.length : Int) (i : Int) = some (((l.map toH).drop i).foldl (Judge.hstep m) acc) := by
  intro d
  induction d with
  | zero =>
    intro i k acc hi hk
    obtain ⟨k, rfl⟩ : ∃ q, k = q + 1 := ⟨k - 1, by omega⟩
    rw [deadboltref18_Holder.l0, if_neg (by omega), List.drop_eq_nil_of_le (by simp; omega)]
    rfl
  | succ d ih =>
    intro i k acc hi hk
    obtain ⟨k, rfl⟩ : ∃ q, k = q + 1 := ⟨k - 1, by omega⟩
    have hlt : i < l.length := by omega
    rw [deadboltref18_Holder.l0, if_pos (by omega), if_pos (by omega), if_pos (by omega), w64_next hlt hn, rdS hlt, drop_toH hlt, List.foldl_cons]
    have hs : Judge.hstep m acc (toH l[i]) = if l[i].f2.f2 = m then (if l[i].f2.f1 = 3 then -1 else if l[i].f2.f1 ≤ 1 then l[i].f2.f0 else acc) else acc := rfl
    rw [hs]
    by_cases h1 : l[i].f2.f2 = m
    · rw [if_pos h1, if_pos h1]
      by_cases h2 : l[i].f2.f1 ≤ 1
      · rw [if_pos h2, if_neg (by omega), if_neg (by omega), if_pos h2]
        exact ih (i + 1) k _ (by omega) (by omega)
      · rw [if_neg h2]
        by_cases h3 : l[i].f2.f1 = 3
        · rw [if_pos h3, if_pos h3]
          exact ih (i + 1) k _ (by omega) (by omega)
        · rw [if_neg h3, if_neg h3, if_neg h2]
          exact ih (i + 1) k _ (by omega) (by omega)
    · rw [if_neg h1, if_neg h1]
      exact ih (i + 1) k _ (by omega) (by omega)
theorem holder_f (m : Int) (l : List S33) (hn : l.length ≤ 1000) (k : Nat) (hk : l.length < k) : deadboltref18_Holder.f k l m = some (Judge.refHolder (l.map toH) m) := by
  unfold deadboltref18_Holder.f
  have := holder_l0 m l hn l.length 0 k (-1) (by omega) hk
  simpa [Judge.refHolder] using this

theorem last_toH {l : List S33} (h : 0 < l.length) : Judge.lastO none (l.map toH) = some (toH (l[l.length - 1]'(by omega))) := by
  unfold Judge.lastO
  rw [List.getLast?_eq_getElem?, List.length_map, List.getElem?_map, List.getElem?_eq_getElem (by omega)]
  rfl
theorem bad_f (l : List S33) (hn : l.length ≤ 1000) (h : S33) (k : Nat) (hk : l.length + 3 ≤ k) :
    deadboltref18_bad.f k l h.f0 h.f1 h.f2.f0 h.f2.f1 h.f2.f2 = some (Judge.refBad (l.map toH) (toH h)) := by
  obtain ⟨k, rfl⟩ : ∃ q, k = q + 2 := ⟨k - 2, by omega⟩
  have hho := holder_f h.f2.f2 l hn
  have e1 : ∀ x0 x1 x2 x3 x4 y0 y1 y2 : Int, deadboltref18_bad.j0 (k + 2) l true x0 x1 x2 x3 y0 y1 y2 x4 = some true := fun _ _ _ _ _ _ _ _ => by rw [deadboltref18_bad.j0, if_pos rfl]
  have e2 : ∀ y1 y2 y3 : Int, deadboltref18_bad.j1 (k + 1) l true y1 y2 y3 = some true := fun _ _ _ => by rw [deadboltref18_bad.j1, if_pos rfl]
  have hb : Judge.refBad (l.map toH) (toH h) = ((!(decide (0 ≤ h.f2.f0) && decide (h.f2.f0 ≤ 7) && decide (0 ≤ h.f2.f2) && decide (h.f2.f2 ≤ 3) && decide (0 ≤ h.f2.f1) && decide (h.f2.f1 ≤ 4))) || Judge.refLate (l.map toH) (toH h) ||
    (if h.f2.f1 = 3 then !decide (0 ≤ Judge.refHolder (l.map toH) h.f2.f2) else decide (0 ≤ Judge.refHolder (l.map toH) h.f2.f2) && !(h.f2.f1 == 2))) := rfl
  rw [hb]
  unfold deadboltref18_bad.f
  by_cases c1 : h.f2.f0 < 0
  · rw [if_pos c1, e1]; simp [show ¬ (0 ≤ h.f2.f0) by omega]
  rw [if_neg c1]
  by_cases c2 : h.f2.f0 > 7
  · rw [if_pos c2, e1]; simp [show ¬ (h.f2.f0 ≤ 7) by omega]
  rw [if_neg c2]
  by_cases c3 : h.f2.f2 < 0
  · rw [if_pos c3, e1]; simp [show ¬ (0 ≤ h.f2.f2) by omega]
  rw [if_neg c3]
  by_cases c4 : h.f2.f2 > 3
  · rw [if_pos c4, e1]; simp [show ¬ (h.f2.f2 ≤ 3) by omega]
  rw [if_neg c4]
  by_cases c5 : h.f2.f1 < 0
  · rw [if_pos c5, e1]; simp [show ¬ (0 ≤ h.f2.f1) by omega]
  rw [if_neg c5]
  by_cases c6 : h.f2.f1 > 4
  · rw [decide_eq_true c6, e1]; simp [show ¬ (h.f2.f1 ≤ 4) by omega]
  rw [decide_eq_false c6]
  rw [show (!(decide (0 ≤ h.f2.f0) && decide (h.f2.f0 ≤ 7) && decide (0 ≤ h.f2.f2) && decide (h.f2.f2 ≤ 3) && decide (0 ≤ h.f2.f1) && decide (h.f2.f1 ≤ 4))) = false by
    simp; omega, Bool.false_or]
  have tail : ∀ q, l.length < q → ((deadboltref18_Holder.f q l h.f2.f2).bind fun t => (if h.f2.f1 = 3 then (some (!(decide (t ≥ 0)))) else (if t ≥ 0 then (some (h.f2.f1 != 2)) else (some false)))) =
      some (if h.f2.f1 = 3 then !decide (0 ≤ Judge.refHolder (l.map toH) h.f2.f2) else decide (0 ≤ Judge.refHolder (l.map toH) h.f2.f2) && !(h.f2.f1 == 2)) := fun q hq => by
    rw [hho q hq, Option.bind_some]
    by_cases d1 : h.f2.f1 = 3
    · rw [if_pos d1, if_pos d1]
    · rw [if_neg d1, if_neg d1]
      by_cases d2 : Judge.refHolder (l.map toH) h.f2.f2 ≥ 0
      · rw [if_pos d2, decide_eq_true d2]; rfl
      · rw [if_neg d2, decide_eq_false d2]; rfl
  rw [deadboltref18_bad.j0, if_neg (by simp)]
  by_cases c7 : (l.length : Int) > 0
  · have h0 : 0 < l.length := by omega
    have hlt : l.length - 1 < l.length := by omega
    rw [if_pos c7, w64_pred h0 hn, if_pos (by omega), if_pos (by omega), rdS hlt]
    have hla : Judge.refLate (l.map toH) (toH h) = (decide (h.f0 < (l[l.length - 1]'hlt).f0) || decide (h.f1 < (l[l.length - 1]'hlt).f1) || ((l[l.length - 1]'hlt).f2.f1 == 4)) := by
      unfold Judge.refLate
      rw [last_toH h0]
      rfl
    rw [hla]
    by_cases c8 : h.f0 < (l[l.length - 1]'hlt).f0
    · rw [if_pos c8, e2, decide_eq_true c8]; rfl
    rw [if_neg c8, decide_eq_false c8, Bool.false_or]
    by_cases c9 : h.f1 < (l[l.length - 1]'hlt).f1
    · rw [if_pos c9, e2, decide_eq_true c9]; rfl
    rw [if_neg c9, decide_eq_false c9, Bool.false_or, deadboltref18_bad.j1]
    cases c10 : ((l[l.length - 1]'hlt).f2.f1 == 4) with
    | true => rfl
    | false =>
      rw [if_neg (by simp), Bool.false_or]
      exact tail k (by omega)
  · have h0 : l = [] := List.eq_nil_of_length_eq_zero (by omega)
    rw [if_neg c7, tail (k + 1) (by omega)]
    subst h0
    rfl

theorem wrong_l0 (l : List S33) (hn : l.length ≤ 1000) : ∀ (d i k : Nat), i + d = l.length → d + l.length + 4 ≤ k →
    deadboltref18_Wrong.l0 k l l (l.length : Int) (i : Int) = some (Judge.refWrongFrom ((l.map toH).take i) ((l.map toH).drop i)) := by
  intro d
  induction d with
  | zero =>
    intro i k hi hk
    obtain ⟨k, rfl⟩ : ∃ q, k = q + 1 := ⟨k - 1, by omega⟩
    rw [deadboltref18_Wrong.l0, if_neg (by omega), List.drop_eq_nil_of_le (by simp; omega)]
    rfl
  | succ d ih =>
    intro i k hi hk
    obtain ⟨k, rfl⟩ : ∃ q, k = q + 1 := ⟨k - 1, by omega⟩
    have hlt : i < l.length := by omega
    have ht : (l.take i).length = i := by rw [List.length_take]; omega
    rw [deadboltref18_Wrong.l0, if_pos (by omega), if_pos (by omega), if_pos (by omega), if_pos (by omega), w64_next hlt hn, rdS hlt, Int.toNat_natCast, bad_f (l.take i) (by omega) l[i] k (by omega), Option.bind_some, drop_toH hlt, Judge.refWrongFrom, List.map_take]
    have he : ((l.map toH).take i).length = i := by rw [List.length_take, List.length_map]; omega
    rw [he]
    by_cases hb : Judge.refBad ((l.map toH).take i) (toH l[i]) = true
    · rw [if_pos hb, if_pos hb]
    · rw [if_neg hb, if_neg hb, ih (i + 1) k (by omega) (by omega), List.take_add_one, List.getElem?_map, List.getElem?_eq_getElem hlt]
      rfl
theorem wrong_f (l : List S33) (hn : l.length ≤ 1000) (k : Nat) (hk : 2 * l.length + 4 ≤ k) : deadboltref18_Wrong.f k l = some (Judge.wrong (l.map toH)) := by
  unfold deadboltref18_Wrong.f
  have := wrong_l0 l hn l.length 0 k (by omega) (by omega)
  rw [Judge.wrong_ref]
  simpa using this

theorem held_f (l : List S33) (hn : l.length ≤ 1000) (k : Nat) (hk : l.length + 6 ≤ k) :
    deadboltref18_Held.f k l = some [Judge.refHolder (l.map toH) 0, Judge.refHolder (l.map toH) 1, Judge.refHolder (l.map toH) 2, Judge.refHolder (l.map toH) 3] := by
  obtain ⟨k, rfl⟩ : ∃ q, k = q + 5 := ⟨k - 5, by omega⟩
  unfold deadboltref18_Held.f
  rw [deadboltref18_Held.l0, if_pos (by decide), holder_f _ l hn _ (by omega), Option.bind_some, if_pos (by decide)]
  rw [show wrap64 (0 + 1) = 1 by unfold wrap64; omega, deadboltref18_Held.l0, if_pos (by decide), holder_f _ l hn _ (by omega), Option.bind_some, if_pos (by simp)]
  rw [show wrap64 (1 + 1) = 2 by unfold wrap64; omega, deadboltref18_Held.l0, if_pos (by decide), holder_f _ l hn _ (by omega), Option.bind_some, if_pos (by simp)]
  rw [show wrap64 (2 + 1) = 3 by unfold wrap64; omega, deadboltref18_Held.l0, if_pos (by decide), holder_f _ l hn _ (by omega), Option.bind_some, if_pos (by simp)]
  rw [show wrap64 (3 + 1) = 4 by unfold wrap64; omega, deadboltref18_Held.l0, if_neg (by decide)]
  rfl

/-- Who got it, as the document says it. -/
def refOrder (m : Int) (L : List Judge.H) : List Int := L.filterMap fun h => if h.mutex = m ∧ h.kind ≤ 1 then some h.who else none
theorem order_l0 (m : Int) (l : List S33) (hn : l.length ≤ 1000) : ∀ (d i k : Nat) (acc : List Int), i + d = l.length → acc.length ≤ i → d < k →
    deadboltref18_Order.l0 k m acc l (l.length : Int) (i : Int) = some (acc ++ refOrder m ((l.map toH).drop i)) := by
  intro d
  induction d with
  | zero =>
    intro i k acc hi ha hk
    obtain ⟨k, rfl⟩ : ∃ q, k = q + 1 := ⟨k - 1, by omega⟩
    rw [deadboltref18_Order.l0, if_neg (by omega), List.drop_eq_nil_of_le (by simp; omega)]
    simp [refOrder]
  | succ d ih =>
    intro i k acc hi ha hk
    obtain ⟨k, rfl⟩ : ∃ q, k = q + 1 := ⟨k - 1, by omega⟩
    have hlt : i < l.length := by omega
    rw [deadboltref18_Order.l0, if_pos (by omega), if_pos (by omega), if_pos (by omega), w64_next hlt hn, rdS hlt, drop_toH hlt]
    have hs : refOrder m (toH l[i] :: (l.map toH).drop (i + 1)) = (if l[i].f2.f2 = m ∧ l[i].f2.f1 ≤ 1 then [l[i].f2.f0] else []) ++ refOrder m ((l.map toH).drop (i + 1)) := by
      unfold refOrder
      rw [List.filterMap_cons]
      by_cases hc : l[i].f2.f2 = m ∧ l[i].f2.f1 ≤ 1
      · have hc' : (toH l[i]).mutex = m ∧ (toH l[i]).kind ≤ 1 := hc
        rw [if_pos hc, if_pos hc']
        rfl
      · have hc' : ¬ ((toH l[i]).mutex = m ∧ (toH l[i]).kind ≤ 1) := hc
        rw [if_neg hc, if_neg hc']
        rfl
    rw [hs]
    by_cases h1 : l[i].f2.f2 = m
    · rw [if_pos h1]
      by_cases h2 : l[i].f2.f1 ≤ 1
      · rw [if_pos h2, if_pos (by omega), if_pos ⟨h1, h2⟩, ← List.append_assoc]
        exact ih (i + 1) k _ (by omega) (by simp; omega) (by omega)
      · rw [if_neg h2, if_neg (fun h => h2 h.2)]
        exact ih (i + 1) k _ (by omega) (by omega) (by omega)
    · rw [if_neg h1, if_neg (fun h => h1 h.1)]
      exact ih (i + 1) k _ (by omega) (by omega) (by omega)
theorem order_f (m : Int) (l : List S33) (hn : l.length ≤ 1000) (k : Nat) (hk : l.length < k) : deadboltref18_Order.f k l m = some (refOrder m (l.map toH)) := by
  unfold deadboltref18_Order.f
  have := order_l0 m l hn l.length 0 k [] (by omega) (by simp) hk
  simpa using this

/-- How long it was held, as the document says it; `last`: the last time of all. -/
def refLong (m last : Int) (acc : Int) : List Judge.H → Int
  | [] => acc
  | h :: l => refLong m last (if h.mutex = m ∧ h.kind ≤ 1 then mx acc (wrap64 (Judge.untilOf m last l - h.now)) else acc) l
theorem until_f (l : List S33) (hn : l.length ≤ 1000) (i : Nat) (hi : i < l.length) :
    deadboltref18_until.f l (i : Int) = some (Judge.untilOf l[i].f2.f2 (l[l.length - 1]'(by omega)).f1 ((l.map toH).drop (i + 1))) := by
  unfold deadboltref18_until.f
  rw [if_pos ⟨hn, by omega⟩, Int.toNat_natCast, List.getLast?_eq_getElem?, List.length_map, List.getElem?_map, List.getElem?_map, List.getElem?_eq_getElem hi, List.getElem?_eq_getElem (show l.length - 1 < l.length by omega)]
  rfl
theorem long_l0 (m : Int) (l : List S33) (hn : l.length ≤ 1000) (last : Int) (hla : ∀ g, l[l.length - 1]? = some g → g.f1 = last) : ∀ (d i k : Nat) (acc : Int), i + d = l.length → d < k →
    deadboltref18_Long.l0 k l m acc l (l.length : Int) (i : Int) = some (refLong m last acc ((l.map toH).drop i)) := by
  intro d
  induction d with
  | zero =>
    intro i k acc hi hk
    obtain ⟨k, rfl⟩ : ∃ q, k = q + 1 := ⟨k - 1, by omega⟩
    rw [deadboltref18_Long.l0, if_neg (by omega), List.drop_eq_nil_of_le (by simp; omega)]
    rfl
  | succ d ih =>
    intro i k acc hi hk
    obtain ⟨k, rfl⟩ : ∃ q, k = q + 1 := ⟨k - 1, by omega⟩
    have hlt : i < l.length := by omega
    rw [deadboltref18_Long.l0, if_pos (by omega), if_pos (by omega), if_pos (by omega), w64_next hlt hn, until_f l hn i hlt, rdS hlt, drop_toH hlt, refLong]
    have hl1 := hla _ (List.getElem?_eq_getElem (show l.length - 1 < l.length by omega))
    have e : ∀ a : Prop, [Decidable a] → (if (toH l[i]).mutex = m ∧ (toH l[i]).kind ≤ 1 then mx acc (wrap64 (Judge.untilOf m last ((l.map toH).drop (i + 1)) - (toH l[i]).now)) else acc) = (if l[i].f2.f2 = m ∧ l[i].f2.f1 ≤ 1 then mx acc (wrap64 (Judge.untilOf m last ((l.map toH).drop (i + 1)) - l[i].f1)) else acc) := fun _ _ => rfl
    rw [e True]
    by_cases h1 : l[i].f2.f2 = m
    · rw [if_pos h1]
      by_cases h2 : l[i].f2.f1 ≤ 1
      · rw [if_pos h2, if_pos ⟨h1, h2⟩, Option.bind_some, h1, hl1]
        exact ih (i + 1) k _ (by omega) (by omega)
      · rw [if_neg h2, if_neg (fun h => h2 h.2)]
        exact ih (i + 1) k _ (by omega) (by omega)
    · rw [if_neg h1, if_neg (fun h => h1 h.1)]
      exact ih (i + 1) k _ (by omega) (by omega)
theorem long_f (m : Int) (l : List S33) (hn : l.length ≤ 1000) (last : Int) (hla : ∀ g, l[l.length - 1]? = some g → g.f1 = last) (k : Nat) (hk : l.length < k) : deadboltref18_Long.f k l m = some (refLong m last 0 (l.map toH)) := by
  unfold deadboltref18_Long.f
  have := long_l0 m l hn last hla l.length 0 k 0 (by omega) hk
  simpa using this

theorem same_l0 (l m : List Int) (hm : l.length = m.length) (hn : l.length ≤ 1000) : ∀ (d i k : Nat), i + d = l.length → d < k →
    deadboltref07_Same.l0 k l m (l.length : Int) (i : Int) = some (decide (l.drop i = m.drop i)) := by
  intro d
  induction d with
  | zero =>
    intro i k hi hk
    obtain ⟨k, rfl⟩ : ∃ q, k = q + 1 := ⟨k - 1, by omega⟩
    rw [deadboltref07_Same.l0, if_neg (by omega), List.drop_eq_nil_of_le (by omega), List.drop_eq_nil_of_le (by omega)]
    rfl
  | succ d ih =>
    intro i k hi hk
    obtain ⟨k, rfl⟩ : ∃ q, k = q + 1 := ⟨k - 1, by omega⟩
    have hlt : i < l.length := by omega
    have hlt2 : i < m.length := by omega
    rw [deadboltref07_Same.l0, if_pos (by omega), if_pos (by omega), if_pos (by omega), if_pos (by omega), w64_next hlt hn, rdI hlt, rdI hlt2]
    have e1 : l.drop i = l[i] :: l.drop (i + 1) := List.drop_eq_getElem_cons hlt
    have e2 : m.drop i = m[i] :: m.drop (i + 1) := List.drop_eq_getElem_cons hlt2
    rw [e1, e2]
    by_cases he : l[i] = m[i]
    · rw [if_pos he, ih (i + 1) k (by omega) (by omega), he]
      exact congrArg some (decide_eq_decide.2 ⟨fun h => by rw [h], fun h => (List.cons.inj h).2⟩)
    · rw [if_neg he, decide_eq_false (by intro h; exact he (List.cons.inj h).1)]
theorem same_f (l m : List Int) (hn : l.length ≤ 1000) (k : Nat) (hk : l.length < k) : deadboltref07_Same.f k l m = some (decide (l = m)) := by
  unfold deadboltref07_Same.f
  by_cases h : l.length = m.length
  · rw [if_pos (by omega)]
    have := same_l0 l m h hn l.length 0 k (by omega) hk
    simpa using this
  · rw [if_neg (by omega), decide_eq_false (by intro e; exact h (by rw [e]))]
theorem alive_f : deadboltlaw18_alive.f = some true := by decide +kernel
end Go.Proofs.Ytjdjmhagafmkaaa.PX

/-
  Traces that are not wrong: who holds what, who got it, how long: the program's answers are the document's. Plain lists.
-/
namespace Go.Proofs.Ytjdjmhagafmkaaa.PX
open Go.RowKit Judge Go.Proofs.YtjdjmhagafmkaaaW.PrintWords Go.Proofs.YtjdjmhagafmkaaaW.PrintLast Go.Proofs.YtjdjmhagafmkaaaW.PrintMore

/-- Behind what is not wrong: from here on each mutex is got where it is free, and given back where it is held. -/
def Alt (m : Int) (held : Bool) : List H → Prop
  | [] => True
  | h :: l => if h.mutex = m then (if h.kind = 3 then held = true ∧ Alt m false l else if h.kind ≤ 1 then held = false ∧ Alt m true l else (h.kind = 2 ∨ h.kind = 4) ∧ Alt m held l) else Alt m held l
theorem refBad_kind {pre : List H} {h : H} (hb : refBad pre h = false) : 0 ≤ h.kind ∧ h.kind ≤ 4 := by
  unfold refBad at hb
  rw [Bool.or_eq_false_iff, Bool.or_eq_false_iff] at hb
  have := hb.1.1
  simp at this
  omega
theorem refBad_who {pre : List H} {h : H} (hb : refBad pre h = false) : 0 ≤ h.who ∧ h.who ≤ 7 ∧ 0 ≤ h.mutex ∧ h.mutex ≤ 3 := by
  unfold refBad at hb
  rw [Bool.or_eq_false_iff, Bool.or_eq_false_iff] at hb
  have := hb.1.1
  simp at this
  omega
theorem alt_of (m : Int) : ∀ (l pre : List H), refWrongFrom pre l = -1 → (∀ h ∈ pre, 0 ≤ h.who) → Alt m (decide (0 ≤ refHolder pre m)) l := by
  intro l
  induction l with
  | nil => exact fun _ _ _ => trivial
  | cons h l ih =>
    intro pre hw hp
    unfold refWrongFrom at hw
    by_cases hb : refBad pre h = true
    · rw [if_pos hb] at hw; omega
    rw [if_neg hb] at hw
    have hb' : refBad pre h = false := by simpa using hb
    have hk := refBad_kind hb'
    have hwho := refBad_who hb'
    have hi := ih (pre ++ [h]) hw (fun x hx => by
      rcases List.mem_append.1 hx with h1 | h1
      · exact hp x h1
      · rw [List.mem_singleton.1 h1]; exact hwho.1)
    rw [refHolder_snoc, hstep] at hi
    have hc : (if h.kind = 3 then !decide (0 ≤ refHolder pre h.mutex) else decide (0 ≤ refHolder pre h.mutex) && !(h.kind == 2)) = false := by
      unfold refBad at hb'
      rw [Bool.or_eq_false_iff] at hb'
      exact hb'.2
    unfold Alt
    by_cases hm : h.mutex = m
    · rw [if_pos hm]
      rw [if_pos hm] at hi
      rw [hm] at hc
      by_cases h3 : h.kind = 3
      · rw [if_pos h3] at hi hc ⊢
        exact ⟨by simpa using hc, by simpa using hi⟩
      · rw [if_neg h3] at hi hc ⊢
        by_cases h1 : h.kind ≤ 1
        · rw [if_pos h1] at hi ⊢
          refine ⟨?_, ?_⟩
          · have : (h.kind == 2) = false := by simp; omega
            rw [this] at hc
            simpa using hc
          · rw [decide_eq_true hwho.1] at hi; exact hi
        · rw [if_neg h1] at hi ⊢
          exact ⟨by omega, hi⟩
    · rw [if_neg hm] at hi ⊢
      exact hi
theorem alt_all {L : List H} (hw : wrong L = -1) (m : Int) : Alt m false L := by
  rw [wrong_ref] at hw
  have := alt_of m L [] hw (by simp)
  simpa [refHolder] using this
/-- Who got it. -/
theorem order_alt (m : Int) : ∀ (l : List H) (b : Bool), Alt m b l → ordOf (l.filter (keepB m)) = refOrder m l := by
  intro l
  induction l with
  | nil => exact fun _ _ => rfl
  | cons h l ih =>
    intro b ha
    unfold Alt at ha
    unfold refOrder
    rw [List.filter_cons, List.filterMap_cons]
    by_cases hm : h.mutex = m
    · rw [if_pos hm] at ha
      by_cases h3 : h.kind = 3
      · rw [if_pos h3] at ha
        have hk : keepB m h = true := by unfold keepB; simp [hm, h3]
        rw [if_pos hk, if_neg (by omega)]
        unfold ordOf
        rw [List.filterMap_cons, if_pos h3]
        exact ih _ ha.2
      · rw [if_neg h3] at ha
        by_cases h1 : h.kind ≤ 1
        · rw [if_pos h1] at ha
          have hk : keepB m h = true := by unfold keepB; simp [hm]; omega
          rw [if_pos hk, if_pos ⟨hm, h1⟩]
          unfold ordOf
          rw [List.filterMap_cons, if_neg h3]
          exact congrArg (h.who :: ·) (ih _ ha.2)
        · rw [if_neg h1] at ha
          have hk : keepB m h = false := by
            unfold keepB
            rcases ha.1 with h2 | h2 <;> simp [h2]
          rw [hk, if_neg (by simp), if_neg (fun hq => h1 hq.2)]
          exact ih _ ha.2
    · rw [if_neg hm] at ha
      have hk : keepB m h = false := by unfold keepB; simp [hm]
      rw [hk, if_neg (by simp), if_neg (fun hq => hm hq.1)]
      exact ih _ ha
theorem order_ref {L : List H} (hw : wrong L = -1) (m : Int) : ordOf (L.filter (keepB m)) = refOrder m L := order_alt m L false (alt_all hw m)

/-- How long: the program's way. -/
def progLong (m last : Int) (n since : Int) (held : Bool) : List H → Int
  | [] => if held = true then up n (wrap64 (last - since)) else n
  | h :: l => if keepB m h = true then (if h.kind = 3 then progLong m last (up n (wrap64 (h.now - since))) since false l else progLong m last n h.now true l) else progLong m last n since held l
theorem up_mx (a b : Int) : up a b = mx a b := rfl
theorem long_alt (m last : Int) : ∀ (l : List H) (b : Bool) (n since : Int), Alt m b l →
    progLong m last n since b l = refLong m last (if b = true then mx n (wrap64 (untilOf m last l - since)) else n) l := by
  intro l
  induction l with
  | nil =>
    intro b n since _
    cases b <;> rfl
  | cons h l ih =>
    intro b n since ha
    unfold Alt at ha
    unfold progLong refLong untilOf
    by_cases hm : h.mutex = m
    · rw [if_pos hm] at ha
      by_cases h3 : h.kind = 3
      · rw [if_pos h3] at ha
        have hk : keepB m h = true := by unfold keepB; simp [hm, h3]
        have q1 : ¬ (h.mutex = m ∧ h.kind ≤ 1) := by omega
        have q3 : h.mutex = m ∧ h.kind = 3 := ⟨hm, h3⟩
        rw [if_pos hk, if_pos h3, if_neg q1, if_pos q3, if_pos ha.1, ih false _ _ ha.2]
        rfl
      · rw [if_neg h3] at ha
        by_cases h1 : h.kind ≤ 1
        · rw [if_pos h1] at ha
          have hk : keepB m h = true := by unfold keepB; simp [hm]; omega
          have q1 : h.mutex = m ∧ h.kind ≤ 1 := ⟨hm, h1⟩
          rw [if_pos hk, if_neg h3, if_pos q1, ih true _ _ ha.2, ha.1]
          cases l <;> rfl
        · rw [if_neg h1] at ha
          have hk : keepB m h = false := by
            unfold keepB
            rcases ha.1 with h2 | h2 <;> simp [h2]
          have q1 : ¬ (h.mutex = m ∧ h.kind ≤ 1) := fun hq => h1 hq.2
          have q3 : ¬ (h.mutex = m ∧ h.kind = 3) := fun hq => h3 hq.2
          rw [hk, if_neg (by simp), if_neg q1, if_neg q3]
          exact ih b n since ha.2
    · rw [if_neg hm] at ha
      have hk : keepB m h = false := by unfold keepB; simp [hm]
      have q1 : ¬ (h.mutex = m ∧ h.kind ≤ 1) := fun hq => hm hq.1
      have q3 : ¬ (h.mutex = m ∧ h.kind = 3) := fun hq => hm hq.1
      rw [hk, if_neg (by simp), if_neg q1, if_neg q3]
      exact ih b n since ha
/-- The program's fold over those that count. -/
theorem prog_fold (m last : Int) : ∀ (l : List H) (n since : Int) (held : Bool),
    progLong m last n since held l = (match (l.filter (keepB m)).getLast? with
      | none => if held = true then up n (wrap64 (last - since)) else n
      | some hl => if hl.kind = 3 then ((l.filter (keepB m)).foldl lstep (n, since)).1 else up ((l.filter (keepB m)).foldl lstep (n, since)).1 (wrap64 (last - ((l.filter (keepB m)).foldl lstep (n, since)).2))) := by
  intro l
  induction l with
  | nil => exact fun _ _ _ => rfl
  | cons h l ih =>
    intro n since held
    unfold progLong
    by_cases hk : keepB m h = true
    · rw [if_pos hk, List.filter_cons, if_pos hk, List.foldl_cons]
      by_cases h3 : h.kind = 3
      · rw [if_pos h3, ih]
        have e : lstep (n, since) h = (up n (wrap64 (h.now - since)), since) := by unfold lstep; rw [if_pos h3]
        rw [e]
        cases hf : l.filter (keepB m) with
        | nil => simp [h3]
        | cons x xs => rfl
      · rw [if_neg h3, ih]
        have e : lstep (n, since) h = (n, h.now) := by unfold lstep; rw [if_neg h3]
        rw [e]
        cases hf : l.filter (keepB m) with
        | nil => simp [h3]
        | cons x xs => rfl
    · rw [if_neg hk, ih, List.filter_cons, if_neg hk]
theorem long_ref {L : List H} (hw : wrong L = -1) (m : Int) {g : H} (hg : L.getLast? = some g) : longAll (L.filter (keepB m)) L = refLong m g.now 0 L := by
  have h1 := long_alt m g.now L false 0 0 (alt_all hw m)
  rw [prog_fold] at h1
  simp only [Bool.false_eq_true, if_false] at h1
  rw [← h1]
  unfold longAll
  rw [hg]
  cases hl : (L.filter (keepB m)).getLast? with
  | none => rfl
  | some hl => rfl
theorem held_ref {L : List H} (hw : wrong L = -1) : (book L).map (· - 1) = [refHolder L 0, refHolder L 1, refHolder L 2, refHolder L 3] := by
  obtain ⟨h4, hf⟩ := book_ref hw
  obtain ⟨b0, b1, b2, b3, hb⟩ := len4 (book L) h4
  rw [hb] at hf ⊢
  have h0 := (hf 0 (by omega)).1
  have h1 := (hf 1 (by omega)).1
  have h2 := (hf 2 (by omega)).1
  have h3 := (hf 3 (by omega)).1
  simp at h0 h1 h2 h3
  simp
  omega
theorem fewS_80 (l : List S33) : (fewS l).length ≤ 80 := by rw [fewS_len]; omega
theorem refOrder_len (m : Int) (L : List H) : (refOrder m L).length ≤ L.length := List.length_filterMap_le _ _
end Go.Proofs.Ytjdjmhagafmkaaa.PX

namespace Go.Proofs.Ytjdjmhagafmkaaa.PX
open Go.RowKit Go.Proofs.YtjdjmhagafmkaaaW.PrintWords Go.Proofs.YtjdjmhagafmkaaaW.PrintLast Go.Proofs.YtjdjmhagafmkaaaW.PrintMore
attribute [local go_sem] max2_int min2_int max_two min_two max_three min_three max_four min_four   -- for this text's walks alone
set_option linter.unusedVariables false
set_option linter.unusedSimpArgs false

/-! ### gauge_gets: function 56 -/
def gauge_gets.f (a0_0 : Int) (a0_1 : Int) (a0_2 : Int) (a0_3 : Int) (a0_4 : Int) : Option (Bool) := if a0_3 = 0 then (some true) else (some (a0_3 == 1))
set_option maxHeartbeats 8000000 in
set_option maxRecDepth 100000 in
theorem gauge_gets.calls (a0_0 : Int) (a0_1 : Int) (a0_2 : Int) (a0_3 : Int) (a0_4 : Int) (r : Bool) (w : World) (h : gauge_gets.f a0_0 a0_1 a0_2 a0_3 a0_4 = some r) :
    Calls Try.prog 56 #[.agg #[.int .i64 a0_0, .int .i64 a0_1, .int .i64 a0_2, .int .i64 a0_3, .int .i64 a0_4]] w fun e w' => e = .returned (.bool r) ∧ Below w.heap.size w w' := by
  have hu33 := Try.underlying33
  have HB := Aside0.mk (Below.refl w.heap.size w)
  have H : (if a0_3 = 0 then (some true) else (some (a0_3 == 1))) = some r := h
  clear h
  by_cases c2 : a0_3 = 0
  · rw [if_pos c2] at H
    have c2b0 : (a0_3 == 0) = true := beq_iff_eq.mpr c2
    have c2b1 : (a0_3 != 0) = false := bne_eq_false_iff_eq.mpr c2
    clear c2
    obtain rfl := Option.some.inj H
    go_enter Try.func56, Try.ntmps56
    go_wp2_with (first | ((with_reducible refine gate_dst (N := 1) rfl ?_); refine box_event ?hg (N := 1) ?hd (cs := #[.int .i64 a0_0, .int .i64 a0_1, .int .i64 a0_2, .int .i64 a0_3, .int .i64 a0_4]) (t := 33) ?hr ?_; (case hd => rfl); (case hg => rfl); (case hr => first | (go_simp; done) | (go_simp; rfl)); intro gb195 hg w3 hbox hb; have n0_ := Aside0.mk (below_step (by repeat (first | (with_reducible first | exact HB.out | apply below_alloc | apply pw_below_drewN | apply below_drew1) | exact HB.out)) hb); have n1_ := Aside0.mk (hbox); have n2_ := Aside0.mk ((by rw [hg]; exact (below_size (by repeat (first | (with_reducible first | exact HB.out | apply below_alloc | apply pw_below_drewN | apply below_drew1) | exact HB.out))) : w.heap.size ≤ gb195)); have n3_ := Aside0.mk ((by rw [hg]; exact (below_size (by repeat (first | (with_reducible first | exact HB.out | apply below_alloc | apply pw_below_drewN | apply below_drew1) | exact HB.out))) : w.heap.size ≤ gb195)); clear HB; have HB := n0_; have BK195 := n1_; have GW195 := n2_; have GE195 := n3_; clear n0_ n1_ n2_ n3_; clear hb hbox hg; have hcz4_0 : w3.cell? ⟨gb195, 0, none⟩ = some (.int .i64 a0_0) := (blk_cell BK195.out 0).trans rfl; have hcz4_1 : w3.cell? ⟨gb195, 1, none⟩ = some (.int .i64 a0_1) := (blk_cell BK195.out 1).trans rfl; have hcz4_2 : w3.cell? ⟨gb195, 2, none⟩ = some (.int .i64 a0_2) := (blk_cell BK195.out 2).trans rfl; have hcz4_3 : w3.cell? ⟨gb195, 3, none⟩ = some (.int .i64 a0_3) := (blk_cell BK195.out 3).trans rfl; have hcz4_4 : w3.cell? ⟨gb195, 4, none⟩ = some (.int .i64 a0_4) := (blk_cell BK195.out 4).trans rfl; have hfz4_0 := blk_frozen BK195.out 0; have hfz4_1 := blk_frozen BK195.out 1; have hfz4_2 := blk_frozen BK195.out 2; have hfz4_3 := blk_frozen BK195.out 3; have hfz4_4 := blk_frozen BK195.out 4))
    go_ret
    exact ⟨by first | rfl | (simp [errW_none, errW_some] <;> rfl) | (simp [*, errW_none, errW_some] <;> rfl), by repeat (first | (with_reducible first | exact HB.out | apply below_alloc | apply pw_below_drewN | apply below_drew1 | refine below_set ?_ GE195.out) | exact HB.out)⟩
  · rw [if_neg c2] at H
    have c2b0 : (a0_3 == 0) = false := beq_eq_false_iff_ne.mpr c2
    have c2b1 : (a0_3 != 0) = true := bne_iff_ne.mpr c2
    obtain rfl := Option.some.inj H
    go_enter Try.func56, Try.ntmps56
    go_wp2_with (first | ((with_reducible refine gate_dst (N := 1) rfl ?_); refine box_event ?hg (N := 1) ?hd (cs := #[.int .i64 a0_0, .int .i64 a0_1, .int .i64 a0_2, .int .i64 a0_3, .int .i64 a0_4]) (t := 33) ?hr ?_; (case hd => rfl); (case hg => rfl); (case hr => first | (go_simp; done) | (go_simp; rfl)); intro gb195 hg w5 hbox hb; have n0_ := Aside0.mk (below_step (by repeat (first | (with_reducible first | exact HB.out | apply below_alloc | apply pw_below_drewN | apply below_drew1) | exact HB.out)) hb); have n1_ := Aside0.mk (hbox); have n2_ := Aside0.mk ((by rw [hg]; exact (below_size (by repeat (first | (with_reducible first | exact HB.out | apply below_alloc | apply pw_below_drewN | apply below_drew1) | exact HB.out))) : w.heap.size ≤ gb195)); have n3_ := Aside0.mk ((by rw [hg]; exact (below_size (by repeat (first | (with_reducible first | exact HB.out | apply below_alloc | apply pw_below_drewN | apply below_drew1) | exact HB.out))) : w.heap.size ≤ gb195)); clear HB; have HB := n0_; have BK195 := n1_; have GW195 := n2_; have GE195 := n3_; clear n0_ n1_ n2_ n3_; clear hb hbox hg; have hcz6_0 : w5.cell? ⟨gb195, 0, none⟩ = some (.int .i64 a0_0) := (blk_cell BK195.out 0).trans rfl; have hcz6_1 : w5.cell? ⟨gb195, 1, none⟩ = some (.int .i64 a0_1) := (blk_cell BK195.out 1).trans rfl; have hcz6_2 : w5.cell? ⟨gb195, 2, none⟩ = some (.int .i64 a0_2) := (blk_cell BK195.out 2).trans rfl; have hcz6_3 : w5.cell? ⟨gb195, 3, none⟩ = some (.int .i64 a0_3) := (blk_cell BK195.out 3).trans rfl; have hcz6_4 : w5.cell? ⟨gb195, 4, none⟩ = some (.int .i64 a0_4) := (blk_cell BK195.out 4).trans rfl; have hfz6_0 := blk_frozen BK195.out 0; have hfz6_1 := blk_frozen BK195.out 1; have hfz6_2 := blk_frozen BK195.out 2; have hfz6_3 := blk_frozen BK195.out 3; have hfz6_4 := blk_frozen BK195.out 4))
    go_ret
    exact ⟨by first | rfl | (simp [errW_none, errW_some] <;> rfl) | (simp [*, errW_none, errW_some] <;> rfl), by repeat (first | (with_reducible first | exact HB.out | apply below_alloc | apply pw_below_drewN | apply below_drew1 | refine below_set ?_ GE195.out) | exact HB.out)⟩

end Go.Proofs.Ytjdjmhagafmkaaa.PX
