/-
  Texts of this claim, one behind the other: PXx26, PXx27, PXx29, PTreapRef, PXx33, PXx28, PXx18, PXx19, PTreapMore, PXx30, PTreapDepth, TreapFew, PTreapTop, LTreapTells, LTreapTells1, LTreapTells2.
-/
import Derived.Test.YtjdjmhagafmkaaaBTreapTells3
namespace Go.Proofs.Ytjdjmhagafmkaaa.PX
open Go.RowKit Go.Proofs.YtjdjmhagafmkaaaW.PrintWords Go.Proofs.YtjdjmhagafmkaaaW.PrintLast Go.Proofs.YtjdjmhagafmkaaaW.PrintMore
attribute [local go_sem] max2_int min2_int max_two min_two max_three min_three max_four min_four   -- for this text's walks alone
set_option linter.unusedVariables false
set_option linter.unusedSimpArgs false

/-! ### deadboltref08_Right: function 36 -/
mutual
def deadboltref08_Right.l0 : Nat → List (S87) → Int → Int → Int → List (S87) → Option (Bool)
 | 0, _, _, _, _, _ => none
 | k + 1, x11, x12, x13, x314000, x314001 => if x13 < x12 then (if 0 ≤ x13 then (if x13 < (x11.length : Int) then ((deadboltref08_Key.f ((rd_T87 x11 x13).f0)).bind fun t316 => (if t316 = true then (deadboltref08_Right.l0 k x11 x12 (wrap64 (x13 + 1)) x314000 x314001) else (some false))) else (none)) else (none)) else ((deadboltref08_walk.f k x314000 x314001 x314000 (x314001.length : Int)).bind fun bt317 => (if bt317.2 = 0 then (deadboltref08_Right.j1 k bt317.1 (decide ((x314001.length : Int) > 64)) x314000 x314001) else (deadboltref08_Right.j1 k bt317.1 true x314000 x314001)))
def deadboltref08_Right.j1 : Nat → List Int → Bool → Int → List (S87) → Option (Bool)
 | 0, _, _, _, _ => none
 | k + 1, x5, x39, x314000, x314001 => if x39 = true then (some false) else (deadboltref08_Right.l1 k x5 (x5.length : Int) 0 x314000 x314001)
def deadboltref08_Right.l1 : Nat → List Int → Int → Int → Int → List (S87) → Option (Bool)
 | 0, _, _, _, _, _ => none
 | k + 1, x5, x41, x42, x314000, x314001 => if x42 < x41 then (if x42 > 0 then (if 0 ≤ (wrap64 (x42 - 1)) then (if (wrap64 (x42 - 1)) < (x5.length : Int) then (if 0 ≤ x42 then (if x42 < (x5.length : Int) then (if (rd x5 (wrap64 (x42 - 1))) ≥ (rd x5 x42) then (some false) else (deadboltref08_Right.l1 k x5 x41 (wrap64 (x42 + 1)) x314000 x314001)) else (none)) else (none)) else (none)) else (none)) else (deadboltref08_Right.l1 k x5 x41 (wrap64 (x42 + 1)) x314000 x314001)) else (deadboltref08_Right.l2 k x314001 (x314001.length : Int) 0 x314000 x314001)
def deadboltref08_Right.l2 : Nat → List (S87) → Int → Int → Int → List (S87) → Option (Bool)
 | 0, _, _, _, _, _ => none
 | k + 1, x61, x62, x63, x314000, x314001 => if x63 < x62 then (if 0 ≤ x63 then (if x63 < (x61.length : Int) then ((deadboltref08_lighter.f x314000 x314001 ((rd_T87 x61 x63).f1) ((rd_T87 x61 x63).f0)).bind fun t325 => (if t325 = true then ((deadboltref08_lighter.f x314000 x314001 ((rd_T87 x61 x63).f2) ((rd_T87 x61 x63).f0)).bind fun t326 => (if t326 = true then (deadboltref08_Right.l2 k x61 x62 (wrap64 (x63 + 1)) x314000 x314001) else (some false))) else (some false))) else (none)) else (none)) else (some true)
end
def deadboltref08_Right.f (k : Nat) (a0_0 : Int) (l0_1 : List (S87)) : Option (Bool) := deadboltref08_Right.l0 k l0_1 (l0_1.length : Int) 0 a0_0 l0_1
theorem deadboltref08_Right.mono_l : ∀ k, (∀ y0 y1 y2 y3 y4, LeO (deadboltref08_Right.l0 k y0 y1 y2 y3 y4) (deadboltref08_Right.l0 (k + 1) y0 y1 y2 y3 y4)) ∧ (∀ y0 y1 y2 y3, LeO (deadboltref08_Right.j1 k y0 y1 y2 y3) (deadboltref08_Right.j1 (k + 1) y0 y1 y2 y3)) ∧ (∀ y0 y1 y2 y3 y4, LeO (deadboltref08_Right.l1 k y0 y1 y2 y3 y4) (deadboltref08_Right.l1 (k + 1) y0 y1 y2 y3 y4)) ∧ (∀ y0 y1 y2 y3 y4, LeO (deadboltref08_Right.l2 k y0 y1 y2 y3 y4) (deadboltref08_Right.l2 (k + 1) y0 y1 y2 y3 y4))
 | 0 => ⟨fun _ _ _ _ _ r h => by simp [deadboltref08_Right.l0] at h, fun _ _ _ _ r h => by simp [deadboltref08_Right.j1] at h, fun _ _ _ _ _ r h => by simp [deadboltref08_Right.l1] at h, fun _ _ _ _ _ r h => by simp [deadboltref08_Right.l2] at h⟩
 | k + 1 => by
  obtain ⟨ih0, ih1, ih2, ih3⟩ := deadboltref08_Right.mono_l k
  refine ⟨?_, ?_, ?_, ?_⟩
  ·intro y0 y1 y2 y3 y4
   unfold deadboltref08_Right.l0
   repeat' first
   | (with_reducible exact ih0 _ _ _ _ _)
   | (with_reducible exact ih1 _ _ _ _)
   | (with_reducible exact ih2 _ _ _ _ _)
   | (with_reducible exact ih3 _ _ _ _ _)
   | (with_reducible exact deadboltref08_walk.mono _ _ _ _ _)
   | (with_reducible exact LeO.refl _)
   | (with_reducible exact LeO.none _)
   | (with_reducible refine LeO.ite ?_ ?_)
   | (with_reducible refine LeO.bind ?_ (fun _ => ?_))
   | exact ih0 _ _ _ _ _
   | exact ih1 _ _ _ _
   | exact ih2 _ _ _ _ _
   | exact ih3 _ _ _ _ _
   | exact deadboltref08_walk.mono _ _ _ _ _
   | exact LeO.none _
   | refine LeO.ite ?_ ?_
   | refine LeO.bind ?_ (fun _ => ?_)
  ·intro y0 y1 y2 y3
   unfold deadboltref08_Right.j1
   repeat' first
   | (with_reducible exact ih0 _ _ _ _ _)
   | (with_reducible exact ih1 _ _ _ _)
   | (with_reducible exact ih2 _ _ _ _ _)
   | (with_reducible exact ih3 _ _ _ _ _)
   | (with_reducible exact deadboltref08_walk.mono _ _ _ _ _)
   | (with_reducible exact LeO.refl _)
   | (with_reducible exact LeO.none _)
   | (with_reducible refine LeO.ite ?_ ?_)
   | (with_reducible refine LeO.bind ?_ (fun _ => ?_))
   | exact ih0 _ _ _ _ _
   | exact ih1 _ _ _ _
   | exact ih2 _ _ _ _ _
   | exact ih3 _ _ _ _ _
   | exact deadboltref08_walk.mono _ _ _ _ _
   | exact LeO.none _
   | refine LeO.ite ?_ ?_
   | refine LeO.bind ?_ (fun _ => ?_)
  ·intro y0 y1 y2 y3 y4
   unfold deadboltref08_Right.l1
   repeat' first
   | (with_reducible exact ih0 _ _ _ _ _)
   | (with_reducible exact ih1 _ _ _ _)
   | (with_reducible exact ih2 _ _ _ _ _)
   | (with_reducible exact ih3 _ _ _ _ _)
   | (with_reducible exact deadboltref08_walk.mono _ _ _ _ _)
   | (with_reducible exact LeO.refl _)
   | (with_reducible exact LeO.none _)
   | (with_reducible refine LeO.ite ?_ ?_)
   | (with_reducible refine LeO.bind ?_ (fun _ => ?_))
   | exact ih0 _ _ _ _ _
   | exact ih1 _ _ _ _
   | exact ih2 _ _ _ _ _
   | exact ih3 _ _ _ _ _
   | exact deadboltref08_walk.mono _ _ _ _ _
   | exact LeO.none _
   | refine LeO.ite ?_ ?_
   | refine LeO.bind ?_ (fun _ => ?_)
  ·intro y0 y1 y2 y3 y4
   unfold deadboltref08_Right.l2
   repeat' first
   | (with_reducible exact ih0 _ _ _ _ _)
   | (with_reducible exact ih1 _ _ _ _)
   | (with_reducible exact ih2 _ _ _ _ _)
   | (with_reducible exact ih3 _ _ _ _ _)
   | (with_reducible exact deadboltref08_walk.mono _ _ _ _ _)
   | (with_reducible exact LeO.refl _)
   | (with_reducible exact LeO.none _)
   | (with_reducible refine LeO.ite ?_ ?_)
   | (with_reducible refine LeO.bind ?_ (fun _ => ?_))
   | exact ih0 _ _ _ _ _
   | exact ih1 _ _ _ _
   | exact ih2 _ _ _ _ _
   | exact ih3 _ _ _ _ _
   | exact deadboltref08_walk.mono _ _ _ _ _
   | exact LeO.none _
   | refine LeO.ite ?_ ?_
   | refine LeO.bind ?_ (fun _ => ?_)
theorem deadboltref08_Right.mono : ∀ a0 a1 k, LeO (deadboltref08_Right.f k a0 a1) (deadboltref08_Right.f (k + 1) a0 a1) := by
 intro a0 a1 k
 obtain ⟨ih0, ih1, ih2, ih3⟩ := deadboltref08_Right.mono_l k
 unfold deadboltref08_Right.f
 repeat' first
   | (with_reducible exact ih0 _ _ _ _ _)
   | (with_reducible exact ih1 _ _ _ _)
   | (with_reducible exact ih2 _ _ _ _ _)
   | (with_reducible exact ih3 _ _ _ _ _)
   | (with_reducible exact deadboltref08_walk.mono _ _ _ _ _)
   | (with_reducible exact LeO.refl _)
   | (with_reducible exact LeO.none _)
   | (with_reducible refine LeO.ite ?_ ?_)
   | (with_reducible refine LeO.bind ?_ (fun _ => ?_))
   | exact ih0 _ _ _ _ _
   | exact ih1 _ _ _ _
   | exact ih2 _ _ _ _ _
   | exact ih3 _ _ _ _ _
   | exact deadboltref08_walk.mono _ _ _ _ _
   | exact LeO.none _
   | refine LeO.ite ?_ ?_
   | refine LeO.bind ?_ (fun _ => ?_)
set_option maxHeartbeats 8000000 in
set_option maxRecDepth 100000 in
theorem deadboltref08_Right.calls (k : Nat) (a0_0 : Int) (A0_1 : Option Addr) (c0_1 : Nat) (l0_1 : List (S87)) (r : Bool) (w : World) (hr0_1 : Kd.C k87 w A0_1 l0_1.length l0_1) (hc0_1 : l0_1.length ≤ c0_1) (h : deadboltref08_Right.f k a0_0 l0_1 = some r) :
  Calls Try.prog 36 #[.agg #[.int .i64 a0_0, .slice A0_1 l0_1.length c0_1]] w fun e w' => e = .returned (.bool r) ∧ Below w.heap.size w w' := by
 have hu50 := Try.underlying50
 have hu87 := Try.underlying87
 have HR0_1 := Aside0.mk hr0_1
 have HC0_1 := Aside0.mk hc0_1
 clear hr0_1 hc0_1
 have HB := Aside0.mk (Below.refl w.heap.size w)
 have H : (deadboltref08_Right.l0 k l0_1 (l0_1.length : Int) 0 a0_0 l0_1) = some r := h
 clear h
 have H' := Aside0.mk H
 clear H
 go_enter Try.func36, Try.ntmps36
 go_wp2_with (first | ((with_reducible refine gate_dst (N := 1) rfl ?_); (try (refine gate_guard (by rfl) ?_; dsimp only)); refine box_event ?hg (N := 1) ?hd (cs := #[.int .i64 a0_0, .slice A0_1 l0_1.length c0_1]) (t := 50) ?hr ?_; (case hd => rfl); (case hg => rfl); (case hr => first | (go_simp; done) | (go_simp; rfl)); intro gb313 hg w2 hbox hb; have n0_ := Aside0.mk (below_step (by repeat (first | (with_reducible first | exact HB.out | apply below_alloc | apply pw_below_drewN | apply below_drew1) | exact HB.out)) hb); have n1_ := Aside0.mk (hbox); have n2_ := Aside0.mk ((by rw [hg]; exact (below_size (by repeat (first | (with_reducible first | exact HB.out | apply below_alloc | apply pw_below_drewN | apply below_drew1) | exact HB.out))) : w.heap.size ≤ gb313)); have n3_ := Aside0.mk ((by rw [hg]; exact (below_size (by repeat (first | (with_reducible first | exact HB.out | apply below_alloc | apply pw_below_drewN | apply below_drew1) | exact HB.out))) : w.heap.size ≤ gb313)); clear HB; have HB := n0_; have BK313 := n1_; have GW313 := n2_; have GE313 := n3_; clear n0_ n1_ n2_ n3_; clear hb hbox hg; have hcz3_0 : w2.cell? ⟨gb313, 0, none⟩ = some (.int .i64 a0_0) := (blk_cell BK313.out 0).trans rfl; have hcz3_1 : w2.cell? ⟨gb313, 1, none⟩ = some (.slice A0_1 l0_1.length c0_1) := (blk_cell BK313.out 1).trans rfl; have hfz3_0 := blk_frozen BK313.out 0; have hfz3_1 := blk_frozen BK313.out 1))
 repeat (go_quiet (first | ((with_reducible refine gate_dst (N := 1) rfl ?_); (try (refine gate_guard (by rfl) ?_; dsimp only)); refine box_event ?hg (N := 1) ?hd (cs := #[.int .i64 a0_0, .slice A0_1 l0_1.length c0_1]) (t := 50) ?hr ?_; (case hd => rfl); (case hg => rfl); (case hr => first | (go_simp; done) | (go_simp; rfl)); intro gb313 hg w2 hbox hb; have n0_ := Aside0.mk (below_step (by repeat (first | (with_reducible first | exact HB.out | apply below_alloc | apply pw_below_drewN | apply below_drew1) | exact HB.out)) hb); have n1_ := Aside0.mk (hbox); have n2_ := Aside0.mk ((by rw [hg]; exact (below_size (by repeat (first | (with_reducible first | exact HB.out | apply below_alloc | apply pw_below_drewN | apply below_drew1) | exact HB.out))) : w.heap.size ≤ gb313)); have n3_ := Aside0.mk ((by rw [hg]; exact (below_size (by repeat (first | (with_reducible first | exact HB.out | apply below_alloc | apply pw_below_drewN | apply below_drew1) | exact HB.out))) : w.heap.size ≤ gb313)); clear HB; have HB := n0_; have BK313 := n1_; have GW313 := n2_; have GE313 := n3_; clear n0_ n1_ n2_ n3_; clear hb hbox hg; have hcz3_0 : w2.cell? ⟨gb313, 0, none⟩ = some (.int .i64 a0_0) := (blk_cell BK313.out 0).trans rfl; have hcz3_1 : w2.cell? ⟨gb313, 1, none⟩ = some (.slice A0_1 l0_1.length c0_1) := (blk_cell BK313.out 1).trans rfl; have hfz3_0 := blk_frozen BK313.out 0; have hfz3_1 := blk_frozen BK313.out 1)); try go_wp2_with (first | ((with_reducible refine gate_dst (N := 1) rfl ?_); (try (refine gate_guard (by rfl) ?_; dsimp only)); refine box_event ?hg (N := 1) ?hd (cs := #[.int .i64 a0_0, .slice A0_1 l0_1.length c0_1]) (t := 50) ?hr ?_; (case hd => rfl); (case hg => rfl); (case hr => first | (go_simp; done) | (go_simp; rfl)); intro gb313 hg w2 hbox hb; have n0_ := Aside0.mk (below_step (by repeat (first | (with_reducible first | exact HB.out | apply below_alloc | apply pw_below_drewN | apply below_drew1) | exact HB.out)) hb); have n1_ := Aside0.mk (hbox); have n2_ := Aside0.mk ((by rw [hg]; exact (below_size (by repeat (first | (with_reducible first | exact HB.out | apply below_alloc | apply pw_below_drewN | apply below_drew1) | exact HB.out))) : w.heap.size ≤ gb313)); have n3_ := Aside0.mk ((by rw [hg]; exact (below_size (by repeat (first | (with_reducible first | exact HB.out | apply below_alloc | apply pw_below_drewN | apply below_drew1) | exact HB.out))) : w.heap.size ≤ gb313)); clear HB; have HB := n0_; have BK313 := n1_; have GW313 := n2_; have GE313 := n3_; clear n0_ n1_ n2_ n3_; clear hb hbox hg; have hcz3_0 : w2.cell? ⟨gb313, 0, none⟩ = some (.int .i64 a0_0) := (blk_cell BK313.out 0).trans rfl; have hcz3_1 : w2.cell? ⟨gb313, 1, none⟩ = some (.slice A0_1 l0_1.length c0_1) := (blk_cell BK313.out 1).trans rfl; have hfz3_0 := blk_frozen BK313.out 0; have hfz3_1 := blk_frozen BK313.out 1)))
 go_loopg [13] k (fun kq v13 w' => ∃ (x13_1 : Int), v13 = .int .i64 x13_1 ∧ Aside0 (deadboltref08_Right.l0 kq l0_1 (l0_1.length : Int) x13_1 a0_0 l0_1 = some r) ∧ Aside0 (kq ≤ k) ∧ Aside0 (w'.heap[gb313]? = some (.cells #[.int .i64 a0_0, (.slice A0_1 l0_1.length c0_1)] 50 (0, 0))) ∧ Aside0 (Below w.heap.size w w'))
 case atStart => exact ⟨(0), (by first | rfl | (simp; done) | (simp [*]; done)), H', ⟨Nat.le_refl _⟩, ⟨by (with_reducible repeat (first | refine blk_drewN ?_ _ | refine blk_drew ?_ | refine blk_alloc ?_ _)); exact BK313.out⟩, ⟨by repeat (first | (with_reducible first | exact HB.out | apply below_alloc | apply pw_below_drewN | apply below_drew1 | refine below_set ?_ GE313.out) | exact HB.out)⟩⟩
 case round =>
  clear H'
  try clear p2
  try clear c3
  try clear hcz3_0
  try clear hcz3_1
  try clear hfz3_0
  try clear hfz3_1
  obtain ⟨x13_1, rfl, HA, HK1, BK313, HB⟩ := hrel
  cases gk with
  | zero => exact absurd HA.out (by simp [deadboltref08_Right.l0])
  | succ k1 =>
   have H := HA.out
   clear HA
   simp only [deadboltref08_Right.l0] at H
   by_cases c4 : x13_1 < (l0_1.length : Int)
   ·rw [if_pos c4] at H
    have c4b0 : decide (x13_1 < (l0_1.length : Int)) = true := decide_eq_true c4
    clear c4
    by_cases c5 : 0 ≤ x13_1
    ·rw [if_pos c5] at H
     have c5b0 : decide (0 ≤ x13_1) = true := decide_eq_true c5
     clear c5
     by_cases c6 : x13_1 < (l0_1.length : Int)
     ·rw [if_pos c6] at H
      have c6b0 : decide (x13_1 < (l0_1.length : Int)) = true := decide_eq_true c6
      clear c6
      replace H := Option.bind_eq_some_iff.mp H
      obtain ⟨t316, A70, H⟩ := H
      replace H : (if t316 = true then (deadboltref08_Right.l0 k1 l0_1 (l0_1.length : Int) (wrap64 (x13_1 + 1)) a0_0 l0_1) else (some false)) = some r := H
      have A7 := Aside0.mk A70
      clear A70
      by_cases c8 : t316 = true
      ·subst c8
       have H1 : (deadboltref08_Right.l0 k1 l0_1 (l0_1.length : Int) (wrap64 (x13_1 + 1)) a0_0 l0_1) = some r := by rw [if_pos rfl] at H; exact H
       clear H
       have H := H1
       clear H1
       have H' := Aside0.mk H
       clear H
       have p314 : 0 ≤ (x13_1 : Int) := of_decide_eq_true (by first | (with_reducible assumption) | assumption)
       have q314 : x13_1 < (l0_1.length : Int) := of_decide_eq_true (by first | (with_reducible assumption) | assumption)
       obtain ⟨ad314, e314, hx314_0, hx314_1, hx314_2⟩ := at_T87 HR0_1.out x13_1 p314 q314
       cases e314
       replace hx314_0 := (HB.out.cell (World.block_lt_of_cell? w _ hx314_0)).trans hx314_0
       replace hx314_1 := (HB.out.cell (World.block_lt_of_cell? w _ hx314_1)).trans hx314_1
       replace hx314_2 := (HB.out.cell (World.block_lt_of_cell? w _ hx314_2)).trans hx314_2
       replace p314 := eq_true p314
       replace q314 := eq_true q314
       go_wp2_with (first | ((with_reducible refine gate_dst (N := 4) rfl ?_); (try (refine gate_guard (by rfl) ?_; dsimp only)); refine box_event ?hg (N := 4) ?hd (cs := #[.int .i64 0, .int .i64 0, .int .i64 0]) (t := 87) ?hr ?_; (case hd => rfl); (case hg => rfl); (case hr => first | (go_simp; done) | (go_simp; rfl)); intro gb315 hg w9 hbox hb; have n0_ := Aside0.mk (blk_below (g := gb313) (o := .cells #[.int .i64 a0_0, .slice (some ad314) l0_1.length c0_1] 50 (0, 0)) (by (with_reducible repeat (first | refine blk_drewN ?_ _ | refine blk_drew ?_ | refine blk_alloc ?_ _)); exact BK313.out) hb); have n1_ := Aside0.mk (below_step (by repeat (first | (with_reducible first | exact HB.out | apply below_alloc | apply pw_below_drewN | apply below_drew1 | refine below_set ?_ GE313.out) | exact HB.out)) hb); have n2_ := Aside0.mk (hbox); have n3_ := Aside0.mk ((by rw [hg]; exact (below_size (by repeat (first | (with_reducible first | exact HB.out | apply below_alloc | apply pw_below_drewN | apply below_drew1 | refine below_set ?_ GE313.out) | exact HB.out))) : w.heap.size ≤ gb315)); have n4_ := Aside0.mk ((by rw [hg]; exact (below_size (by repeat (first | (with_reducible first | exact HB.out | apply below_alloc | apply pw_below_drewN | apply below_drew1 | refine below_set ?_ GE313.out) | exact HB.out))) : w.heap.size ≤ gb315)); have n5_ := Aside0.mk ((by rw [hg]; exact Nat.ne_of_lt (blk_lt (g := gb313) (o := .cells #[.int .i64 a0_0, .slice (some ad314) l0_1.length c0_1] 50 (0, 0)) (by (with_reducible repeat (first | refine blk_drewN ?_ _ | refine blk_drew ?_ | refine blk_alloc ?_ _)); exact BK313.out)) : gb313 ≠ gb315)); have n6_ := Aside0.mk ((by rw [hg]; exact Nat.ne_of_gt (blk_lt (g := gb313) (o := .cells #[.int .i64 a0_0, .slice (some ad314) l0_1.length c0_1] 50 (0, 0)) (by (with_reducible repeat (first | refine blk_drewN ?_ _ | refine blk_drew ?_ | refine blk_alloc ?_ _)); exact BK313.out)) : gb315 ≠ gb313)); clear BK313; clear HB; have BK313 := n0_; have HB := n1_; have BK315 := n2_; have GW315 := n3_; have GE315 := n4_; have NB313_315 := n5_; have NB315_313 := n6_; clear n0_ n1_ n2_ n3_ n4_ n5_ n6_; clear hb hbox hg; have hnb10 := NB315_313.out; have hnc10 := NB313_315.out; have hcz11_0 : w9.cell? ⟨gb315, 0, none⟩ = some (.int .i64 0) := (blk_cell BK315.out 0).trans rfl; have hcz11_1 : w9.cell? ⟨gb315, 1, none⟩ = some (.int .i64 0) := (blk_cell BK315.out 1).trans rfl; have hcz11_2 : w9.cell? ⟨gb315, 2, none⟩ = some (.int .i64 0) := (blk_cell BK315.out 2).trans rfl; have hfz11_0 := blk_frozen BK315.out 0; have hfz11_1 := blk_frozen BK315.out 1; have hfz11_2 := blk_frozen BK315.out 2) | (go_at_call 37; (with_reducible refine (deadboltref08_Key.calls ((rd_T87 l0_1 x13_1).f0) true _ A7.out).mono ?_); rintro e w' ⟨rfl, ⟨nd, rfl⟩⟩; (try first | exact ⟨rfl, _, World.drewN_drewN _ _ _⟩ | exact ⟨rfl, _, Eq.trans (World.drewN_drewN _ _ _) (congrArg (World.drewN _) (Nat.add_assoc _ _ _))⟩)))
       repeat (go_quiet (first | ((with_reducible refine gate_dst (N := 4) rfl ?_); (try (refine gate_guard (by rfl) ?_; dsimp only)); refine box_event ?hg (N := 4) ?hd (cs := #[.int .i64 0, .int .i64 0, .int .i64 0]) (t := 87) ?hr ?_; (case hd => rfl); (case hg => rfl); (case hr => first | (go_simp; done) | (go_simp; rfl)); intro gb315 hg w9 hbox hb; have n0_ := Aside0.mk (blk_below (g := gb313) (o := .cells #[.int .i64 a0_0, .slice (some ad314) l0_1.length c0_1] 50 (0, 0)) (by (with_reducible repeat (first | refine blk_drewN ?_ _ | refine blk_drew ?_ | refine blk_alloc ?_ _)); exact BK313.out) hb); have n1_ := Aside0.mk (below_step (by repeat (first | (with_reducible first | exact HB.out | apply below_alloc | apply pw_below_drewN | apply below_drew1 | refine below_set ?_ GE313.out) | exact HB.out)) hb); have n2_ := Aside0.mk (hbox); have n3_ := Aside0.mk ((by rw [hg]; exact (below_size (by repeat (first | (with_reducible first | exact HB.out | apply below_alloc | apply pw_below_drewN | apply below_drew1 | refine below_set ?_ GE313.out) | exact HB.out))) : w.heap.size ≤ gb315)); have n4_ := Aside0.mk ((by rw [hg]; exact (below_size (by repeat (first | (with_reducible first | exact HB.out | apply below_alloc | apply pw_below_drewN | apply below_drew1 | refine below_set ?_ GE313.out) | exact HB.out))) : w.heap.size ≤ gb315)); have n5_ := Aside0.mk ((by rw [hg]; exact Nat.ne_of_lt (blk_lt (g := gb313) (o := .cells #[.int .i64 a0_0, .slice (some ad314) l0_1.length c0_1] 50 (0, 0)) (by (with_reducible repeat (first | refine blk_drewN ?_ _ | refine blk_drew ?_ | refine blk_alloc ?_ _)); exact BK313.out)) : gb313 ≠ gb315)); have n6_ := Aside0.mk ((by rw [hg]; exact Nat.ne_of_gt (blk_lt (g := gb313) (o := .cells #[.int .i64 a0_0, .slice (some ad314) l0_1.length c0_1] 50 (0, 0)) (by (with_reducible repeat (first | refine blk_drewN ?_ _ | refine blk_drew ?_ | refine blk_alloc ?_ _)); exact BK313.out)) : gb315 ≠ gb313)); clear BK313; clear HB; have BK313 := n0_; have HB := n1_; have BK315 := n2_; have GW315 := n3_; have GE315 := n4_; have NB313_315 := n5_; have NB315_313 := n6_; clear n0_ n1_ n2_ n3_ n4_ n5_ n6_; clear hb hbox hg; have hnb10 := NB315_313.out; have hnc10 := NB313_315.out; have hcz11_0 : w9.cell? ⟨gb315, 0, none⟩ = some (.int .i64 0) := (blk_cell BK315.out 0).trans rfl; have hcz11_1 : w9.cell? ⟨gb315, 1, none⟩ = some (.int .i64 0) := (blk_cell BK315.out 1).trans rfl; have hcz11_2 : w9.cell? ⟨gb315, 2, none⟩ = some (.int .i64 0) := (blk_cell BK315.out 2).trans rfl; have hfz11_0 := blk_frozen BK315.out 0; have hfz11_1 := blk_frozen BK315.out 1; have hfz11_2 := blk_frozen BK315.out 2) | (go_at_call 37; (with_reducible refine (deadboltref08_Key.calls ((rd_T87 l0_1 x13_1).f0) true _ A7.out).mono ?_); rintro e w' ⟨rfl, ⟨nd, rfl⟩⟩; (try first | exact ⟨rfl, _, World.drewN_drewN _ _ _⟩ | exact ⟨rfl, _, Eq.trans (World.drewN_drewN _ _ _) (congrArg (World.drewN _) (Nat.add_assoc _ _ _))⟩))); try go_wp2_with (first | ((with_reducible refine gate_dst (N := 4) rfl ?_); (try (refine gate_guard (by rfl) ?_; dsimp only)); refine box_event ?hg (N := 4) ?hd (cs := #[.int .i64 0, .int .i64 0, .int .i64 0]) (t := 87) ?hr ?_; (case hd => rfl); (case hg => rfl); (case hr => first | (go_simp; done) | (go_simp; rfl)); intro gb315 hg w9 hbox hb; have n0_ := Aside0.mk (blk_below (g := gb313) (o := .cells #[.int .i64 a0_0, .slice (some ad314) l0_1.length c0_1] 50 (0, 0)) (by (with_reducible repeat (first | refine blk_drewN ?_ _ | refine blk_drew ?_ | refine blk_alloc ?_ _)); exact BK313.out) hb); have n1_ := Aside0.mk (below_step (by repeat (first | (with_reducible first | exact HB.out | apply below_alloc | apply pw_below_drewN | apply below_drew1 | refine below_set ?_ GE313.out) | exact HB.out)) hb); have n2_ := Aside0.mk (hbox); have n3_ := Aside0.mk ((by rw [hg]; exact (below_size (by repeat (first | (with_reducible first | exact HB.out | apply below_alloc | apply pw_below_drewN | apply below_drew1 | refine below_set ?_ GE313.out) | exact HB.out))) : w.heap.size ≤ gb315)); have n4_ := Aside0.mk ((by rw [hg]; exact (below_size (by repeat (first | (with_reducible first | exact HB.out | apply below_alloc | apply pw_below_drewN | apply below_drew1 | refine below_set ?_ GE313.out) | exact HB.out))) : w.heap.size ≤ gb315)); have n5_ := Aside0.mk ((by rw [hg]; exact Nat.ne_of_lt (blk_lt (g := gb313) (o := .cells #[.int .i64 a0_0, .slice (some ad314) l0_1.length c0_1] 50 (0, 0)) (by (with_reducible repeat (first | refine blk_drewN ?_ _ | refine blk_drew ?_ | refine blk_alloc ?_ _)); exact BK313.out)) : gb313 ≠ gb315)); have n6_ := Aside0.mk ((by rw [hg]; exact Nat.ne_of_gt (blk_lt (g := gb313) (o := .cells #[.int .i64 a0_0, .slice (some ad314) l0_1.length c0_1] 50 (0, 0)) (by (with_reducible repeat (first | refine blk_drewN ?_ _ | refine blk_drew ?_ | refine blk_alloc ?_ _)); exact BK313.out)) : gb315 ≠ gb313)); clear BK313; clear HB; have BK313 := n0_; have HB := n1_; have BK315 := n2_; have GW315 := n3_; have GE315 := n4_; have NB313_315 := n5_; have NB315_313 := n6_; clear n0_ n1_ n2_ n3_ n4_ n5_ n6_; clear hb hbox hg; have hnb10 := NB315_313.out; have hnc10 := NB313_315.out; have hcz11_0 : w9.cell? ⟨gb315, 0, none⟩ = some (.int .i64 0) := (blk_cell BK315.out 0).trans rfl; have hcz11_1 : w9.cell? ⟨gb315, 1, none⟩ = some (.int .i64 0) := (blk_cell BK315.out 1).trans rfl; have hcz11_2 : w9.cell? ⟨gb315, 2, none⟩ = some (.int .i64 0) := (blk_cell BK315.out 2).trans rfl; have hfz11_0 := blk_frozen BK315.out 0; have hfz11_1 := blk_frozen BK315.out 1; have hfz11_2 := blk_frozen BK315.out 2) | (go_at_call 37; (with_reducible refine (deadboltref08_Key.calls ((rd_T87 l0_1 x13_1).f0) true _ A7.out).mono ?_); rintro e w' ⟨rfl, ⟨nd, rfl⟩⟩; (try first | exact ⟨rfl, _, World.drewN_drewN _ _ _⟩ | exact ⟨rfl, _, Eq.trans (World.drewN_drewN _ _ _) (congrArg (World.drewN _) (Nat.add_assoc _ _ _))⟩))))
       go_roundg k1
       case measure => have := HK1.out; omega
       case rel => exact ⟨(wrap64 (x13_1 + 1)), (by first | rfl | (simp; done) | (simp [*]; done)), H', ⟨by have := HK1.out; omega⟩, ⟨by (with_reducible repeat (first | refine blk_drewN ?_ _ | refine blk_drew ?_ | refine blk_alloc ?_ _)); refine blk_far ?_ NB313_315.out _; (with_reducible repeat (first | refine blk_drewN ?_ _ | refine blk_drew ?_ | refine blk_alloc ?_ _)); refine blk_far ?_ NB313_315.out _; (with_reducible repeat (first | refine blk_drewN ?_ _ | refine blk_drew ?_ | refine blk_alloc ?_ _)); refine blk_far ?_ NB313_315.out _; (with_reducible repeat (first | refine blk_drewN ?_ _ | refine blk_drew ?_ | refine blk_alloc ?_ _)); exact BK313.out⟩, ⟨by repeat (first | (with_reducible first | exact HB.out | apply below_alloc | apply pw_below_drewN | apply below_drew1 | refine below_set ?_ GE313.out | refine below_set ?_ GE315.out) | exact HB.out)⟩⟩
      ·replace c8 := Bool.eq_false_iff.mpr c8
       subst c8
       have H1 : (some false) = some r := by rw [if_neg (show ¬ (false = true) by decide)] at H; exact H
       clear H
       have H := H1
       clear H1
       obtain rfl := Option.some.inj H
       have p314 : 0 ≤ (x13_1 : Int) := of_decide_eq_true (by first | (with_reducible assumption) | assumption)
       have q314 : x13_1 < (l0_1.length : Int) := of_decide_eq_true (by first | (with_reducible assumption) | assumption)
       obtain ⟨ad314, e314, hx314_0, hx314_1, hx314_2⟩ := at_T87 HR0_1.out x13_1 p314 q314
       cases e314
       replace hx314_0 := (HB.out.cell (World.block_lt_of_cell? w _ hx314_0)).trans hx314_0
       replace hx314_1 := (HB.out.cell (World.block_lt_of_cell? w _ hx314_1)).trans hx314_1
       replace hx314_2 := (HB.out.cell (World.block_lt_of_cell? w _ hx314_2)).trans hx314_2
       replace p314 := eq_true p314
       replace q314 := eq_true q314
       go_wp2_with (first | ((with_reducible refine gate_dst (N := 4) rfl ?_); (try (refine gate_guard (by rfl) ?_; dsimp only)); refine box_event ?hg (N := 4) ?hd (cs := #[.int .i64 0, .int .i64 0, .int .i64 0]) (t := 87) ?hr ?_; (case hd => rfl); (case hg => rfl); (case hr => first | (go_simp; done) | (go_simp; rfl)); intro gb315 hg w12 hbox hb; have n0_ := Aside0.mk (blk_below (g := gb313) (o := .cells #[.int .i64 a0_0, .slice (some ad314) l0_1.length c0_1] 50 (0, 0)) (by (with_reducible repeat (first | refine blk_drewN ?_ _ | refine blk_drew ?_ | refine blk_alloc ?_ _)); exact BK313.out) hb); have n1_ := Aside0.mk (below_step (by repeat (first | (with_reducible first | exact HB.out | apply below_alloc | apply pw_below_drewN | apply below_drew1 | refine below_set ?_ GE313.out) | exact HB.out)) hb); have n2_ := Aside0.mk (hbox); have n3_ := Aside0.mk ((by rw [hg]; exact (below_size (by repeat (first | (with_reducible first | exact HB.out | apply below_alloc | apply pw_below_drewN | apply below_drew1 | refine below_set ?_ GE313.out) | exact HB.out))) : w.heap.size ≤ gb315)); have n4_ := Aside0.mk ((by rw [hg]; exact (below_size (by repeat (first | (with_reducible first | exact HB.out | apply below_alloc | apply pw_below_drewN | apply below_drew1 | refine below_set ?_ GE313.out) | exact HB.out))) : w.heap.size ≤ gb315)); have n5_ := Aside0.mk ((by rw [hg]; exact Nat.ne_of_lt (blk_lt (g := gb313) (o := .cells #[.int .i64 a0_0, .slice (some ad314) l0_1.length c0_1] 50 (0, 0)) (by (with_reducible repeat (first | refine blk_drewN ?_ _ | refine blk_drew ?_ | refine blk_alloc ?_ _)); exact BK313.out)) : gb313 ≠ gb315)); have n6_ := Aside0.mk ((by rw [hg]; exact Nat.ne_of_gt (blk_lt (g := gb313) (o := .cells #[.int .i64 a0_0, .slice (some ad314) l0_1.length c0_1] 50 (0, 0)) (by (with_reducible repeat (first | refine blk_drewN ?_ _ | refine blk_drew ?_ | refine blk_alloc ?_ _)); exact BK313.out)) : gb315 ≠ gb313)); clear BK313; clear HB; have BK313 := n0_; have HB := n1_; have BK315 := n2_; have GW315 := n3_; have GE315 := n4_; have NB313_315 := n5_; have NB315_313 := n6_; clear n0_ n1_ n2_ n3_ n4_ n5_ n6_; clear hb hbox hg; have hnb13 := NB315_313.out; have hnc13 := NB313_315.out; have hcz14_0 : w12.cell? ⟨gb315, 0, none⟩ = some (.int .i64 0) := (blk_cell BK315.out 0).trans rfl; have hcz14_1 : w12.cell? ⟨gb315, 1, none⟩ = some (.int .i64 0) := (blk_cell BK315.out 1).trans rfl; have hcz14_2 : w12.cell? ⟨gb315, 2, none⟩ = some (.int .i64 0) := (blk_cell BK315.out 2).trans rfl; have hfz14_0 := blk_frozen BK315.out 0; have hfz14_1 := blk_frozen BK315.out 1; have hfz14_2 := blk_frozen BK315.out 2) | (go_at_call 37; (with_reducible refine (deadboltref08_Key.calls ((rd_T87 l0_1 x13_1).f0) false _ A7.out).mono ?_); rintro e w' ⟨rfl, ⟨nd, rfl⟩⟩; (try first | exact ⟨rfl, _, World.drewN_drewN _ _ _⟩ | exact ⟨rfl, _, Eq.trans (World.drewN_drewN _ _ _) (congrArg (World.drewN _) (Nat.add_assoc _ _ _))⟩)))
       repeat (go_quiet (first | ((with_reducible refine gate_dst (N := 4) rfl ?_); (try (refine gate_guard (by rfl) ?_; dsimp only)); refine box_event ?hg (N := 4) ?hd (cs := #[.int .i64 0, .int .i64 0, .int .i64 0]) (t := 87) ?hr ?_; (case hd => rfl); (case hg => rfl); (case hr => first | (go_simp; done) | (go_simp; rfl)); intro gb315 hg w12 hbox hb; have n0_ := Aside0.mk (blk_below (g := gb313) (o := .cells #[.int .i64 a0_0, .slice (some ad314) l0_1.length c0_1] 50 (0, 0)) (by (with_reducible repeat (first | refine blk_drewN ?_ _ | refine blk_drew ?_ | refine blk_alloc ?_ _)); exact BK313.out) hb); have n1_ := Aside0.mk (below_step (by repeat (first | (with_reducible first | exact HB.out | apply below_alloc | apply pw_below_drewN | apply below_drew1 | refine below_set ?_ GE313.out) | exact HB.out)) hb); have n2_ := Aside0.mk (hbox); have n3_ := Aside0.mk ((by rw [hg]; exact (below_size (by repeat (first | (with_reducible first | exact HB.out | apply below_alloc | apply pw_below_drewN | apply below_drew1 | refine below_set ?_ GE313.out) | exact HB.out))) : w.heap.size ≤ gb315)); have n4_ := Aside0.mk ((by rw [hg]; exact (below_size (by repeat (first | (with_reducible first | exact HB.out | apply below_alloc | apply pw_below_drewN | apply below_drew1 | refine below_set ?_ GE313.out) | exact HB.out))) : w.heap.size ≤ gb315)); have n5_ := Aside0.mk ((by rw [hg]; exact Nat.ne_of_lt (blk_lt (g := gb313) (o := .cells #[.int .i64 a0_0, .slice (some ad314) l0_1.length c0_1] 50 (0, 0)) (by (with_reducible repeat (first | refine blk_drewN ?_ _ | refine blk_drew ?_ | refine blk_alloc ?_ _)); exact BK313.out)) : gb313 ≠ gb315)); have n6_ := Aside0.mk ((by rw [hg]; exact Nat.ne_of_gt (blk_lt (g := gb313) (o := .cells #[.int .i64 a0_0, .slice (some ad314) l0_1.length c0_1] 50 (0, 0)) (by (with_reducible repeat (first | refine blk_drewN ?_ _ | refine blk_drew ?_ | refine blk_alloc ?_ _)); exact BK313.out)) : gb315 ≠ gb313)); clear BK313; clear HB; have BK313 := n0_; have HB := n1_; have BK315 := n2_; have GW315 := n3_; have GE315 := n4_; have NB313_315 := n5_; have NB315_313 := n6_; clear n0_ n1_ n2_ n3_ n4_ n5_ n6_; clear hb hbox hg; have hnb13 := NB315_313.out; have hnc13 := NB313_315.out; have hcz14_0 : w12.cell? ⟨gb315, 0, none⟩ = some (.int .i64 0) := (blk_cell BK315.out 0).trans rfl; have hcz14_1 : w12.cell? ⟨gb315, 1, none⟩ = some (.int .i64 0) := (blk_cell BK315.out 1).trans rfl; have hcz14_2 : w12.cell? ⟨gb315, 2, none⟩ = some (.int .i64 0) := (blk_cell BK315.out 2).trans rfl; have hfz14_0 := blk_frozen BK315.out 0; have hfz14_1 := blk_frozen BK315.out 1; have hfz14_2 := blk_frozen BK315.out 2) | (go_at_call 37; (with_reducible refine (deadboltref08_Key.calls ((rd_T87 l0_1 x13_1).f0) false _ A7.out).mono ?_); rintro e w' ⟨rfl, ⟨nd, rfl⟩⟩; (try first | exact ⟨rfl, _, World.drewN_drewN _ _ _⟩ | exact ⟨rfl, _, Eq.trans (World.drewN_drewN _ _ _) (congrArg (World.drewN _) (Nat.add_assoc _ _ _))⟩))); try go_wp2_with (first | ((with_reducible refine gate_dst (N := 4) rfl ?_); (try (refine gate_guard (by rfl) ?_; dsimp only)); refine box_event ?hg (N := 4) ?hd (cs := #[.int .i64 0, .int .i64 0, .int .i64 0]) (t := 87) ?hr ?_; (case hd => rfl); (case hg => rfl); (case hr => first | (go_simp; done) | (go_simp; rfl)); intro gb315 hg w12 hbox hb; have n0_ := Aside0.mk (blk_below (g := gb313) (o := .cells #[.int .i64 a0_0, .slice (some ad314) l0_1.length c0_1] 50 (0, 0)) (by (with_reducible repeat (first | refine blk_drewN ?_ _ | refine blk_drew ?_ | refine blk_alloc ?_ _)); exact BK313.out) hb); have n1_ := Aside0.mk (below_step (by repeat (first | (with_reducible first | exact HB.out | apply below_alloc | apply pw_below_drewN | apply below_drew1 | refine below_set ?_ GE313.out) | exact HB.out)) hb); have n2_ := Aside0.mk (hbox); have n3_ := Aside0.mk ((by rw [hg]; exact (below_size (by repeat (first | (with_reducible first | exact HB.out | apply below_alloc | apply pw_below_drewN | apply below_drew1 | refine below_set ?_ GE313.out) | exact HB.out))) : w.heap.size ≤ gb315)); have n4_ := Aside0.mk ((by rw [hg]; exact (below_size (by repeat (first | (with_reducible first | exact HB.out | apply below_alloc | apply pw_below_drewN | apply below_drew1 | refine below_set ?_ GE313.out) | exact HB.out))) : w.heap.size ≤ gb315)); have n5_ := Aside0.mk ((by rw [hg]; exact Nat.ne_of_lt (blk_lt (g := gb313) (o := .cells #[.int .i64 a0_0, .slice (some ad314) l0_1.length c0_1] 50 (0, 0)) (by (with_reducible repeat (first | refine blk_drewN ?_ _ | refine blk_drew ?_ | refine blk_alloc ?_ _)); exact BK313.out)) : gb313 ≠ gb315)); have n6_ := Aside0.mk ((by rw [hg]; exact Nat.ne_of_gt (blk_lt (g := gb313) (o := .cells #[.int .i64 a0_0, .slice (some ad314) l0_1.length c0_1] 50 (0, 0)) (by (with_reducible repeat (first | refine blk_drewN ?_ _ | refine blk_drew ?_ | refine blk_alloc ?_ _)); exact BK313.out)) : gb315 ≠ gb313)); clear BK313; clear HB; have BK313 := n0_; have HB := n1_; have BK315 := n2_; have GW315 := n3_; have GE315 := n4_; have NB313_315 := n5_; have NB315_313 := n6_; clear n0_ n1_ n2_ n3_ n4_ n5_ n6_; clear hb hbox hg; have hnb13 := NB315_313.out; have hnc13 := NB313_315.out; have hcz14_0 : w12.cell? ⟨gb315, 0, none⟩ = some (.int .i64 0) := (blk_cell BK315.out 0).trans rfl; have hcz14_1 : w12.cell? ⟨gb315, 1, none⟩ = some (.int .i64 0) := (blk_cell BK315.out 1).trans rfl; have hcz14_2 : w12.cell? ⟨gb315, 2, none⟩ = some (.int .i64 0) := (blk_cell BK315.out 2).trans rfl; have hfz14_0 := blk_frozen BK315.out 0; have hfz14_1 := blk_frozen BK315.out 1; have hfz14_2 := blk_frozen BK315.out 2) | (go_at_call 37; (with_reducible refine (deadboltref08_Key.calls ((rd_T87 l0_1 x13_1).f0) false _ A7.out).mono ?_); rintro e w' ⟨rfl, ⟨nd, rfl⟩⟩; (try first | exact ⟨rfl, _, World.drewN_drewN _ _ _⟩ | exact ⟨rfl, _, Eq.trans (World.drewN_drewN _ _ _) (congrArg (World.drewN _) (Nat.add_assoc _ _ _))⟩))))
       go_ret
       exact ⟨by first | rfl | (simp [errW_none, errW_some] <;> rfl) | (simp [*, errW_none, errW_some] <;> rfl), by repeat (first | (with_reducible first | exact HB.out | apply below_alloc | apply pw_below_drewN | apply below_drew1 | refine below_set ?_ GE313.out | refine below_set ?_ GE315.out) | exact HB.out)⟩
     ·rw [if_neg c6] at H
      exact absurd H (by simp)
    ·rw [if_neg c5] at H
     exact absurd H (by simp)
   ·rw [if_neg c4] at H
    have c4b0 : decide (x13_1 < (l0_1.length : Int)) = false := decide_eq_false c4
    clear c4
    replace H := Option.bind_eq_some_iff.mp H
    obtain ⟨⟨t317, t320⟩, A150, H⟩ := H
    replace H : (if t320 = 0 then (deadboltref08_Right.j1 k1 t317 (decide ((l0_1.length : Int) > 64)) a0_0 l0_1) else (deadboltref08_Right.j1 k1 t317 true a0_0 l0_1)) = some r := H
    have A15 := Aside0.mk A150
    clear A150
    have HC16 := Aside0.mk H
    clear H
    have hcz17_0 : wr.cell? ⟨gb313, 0, none⟩ = some (.int .i64 a0_0) := (blk_cell BK313.out 0).trans rfl
    have hcz17_1 : wr.cell? ⟨gb313, 1, none⟩ = some (.slice A0_1 l0_1.length c0_1) := (blk_cell BK313.out 1).trans rfl
    have hfz17_0 := blk_frozen BK313.out 0
    have hfz17_1 := blk_frozen BK313.out 1
    go_upto_region 8 with (first | (go_at_call 71; (with_reducible refine (deadboltref08_walk.calls k1 a0_0 _ _ l0_1 a0_0 (l0_1.length : Int) t317 t320 _ ?side1 ?side2 A15.out).mono ?_); (case side1 => repeat (first | exact (Kd.C_below HR0_1.out HB.out) | (with_reducible refine Kd.C_alloc ?_ _) | (with_reducible refine Kd.C_drewN ?_ _) | (with_reducible refine Kd.C_drew ?_))); (case side2 => exact HC0_1.out); rintro e w18 ⟨v318, rfl, ho0, hb⟩; have n0_ := Aside0.mk (Kd.R_lower ho0 (below_size (by repeat (first | (with_reducible first | exact HB.out | apply below_alloc | apply pw_below_drewN | apply below_drew1 | refine below_set ?_ GE313.out) | exact HB.out)))); have n1_ := Aside0.mk (blk_below (g := gb313) (o := .cells #[.int .i64 a0_0, .slice A0_1 l0_1.length c0_1] 50 (0, 0)) (by (with_reducible repeat (first | refine blk_drewN ?_ _ | refine blk_drew ?_ | refine blk_alloc ?_ _)); exact BK313.out) hb); have n2_ := Aside0.mk (below_step (by repeat (first | (with_reducible first | exact HB.out | apply below_alloc | apply pw_below_drewN | apply below_drew1 | refine below_set ?_ GE313.out) | exact HB.out)) hb); clear BK313; clear HB; have HO319 := n0_; have BK313 := n1_; have HB := n2_; clear n0_ n1_ n2_; (try clear hb); (try clear hb2); (try clear hk); (try clear hi); (try clear ho0)))
    repeat (go_quiet (first | (go_at_call 71; (with_reducible refine (deadboltref08_walk.calls k1 a0_0 _ _ l0_1 a0_0 (l0_1.length : Int) t317 t320 _ ?side1 ?side2 A15.out).mono ?_); (case side1 => repeat (first | exact (Kd.C_below HR0_1.out HB.out) | (with_reducible refine Kd.C_alloc ?_ _) | (with_reducible refine Kd.C_drewN ?_ _) | (with_reducible refine Kd.C_drew ?_))); (case side2 => exact HC0_1.out); rintro e w18 ⟨v318, rfl, ho0, hb⟩; have n0_ := Aside0.mk (Kd.R_lower ho0 (below_size (by repeat (first | (with_reducible first | exact HB.out | apply below_alloc | apply pw_below_drewN | apply below_drew1 | refine below_set ?_ GE313.out) | exact HB.out)))); have n1_ := Aside0.mk (blk_below (g := gb313) (o := .cells #[.int .i64 a0_0, .slice A0_1 l0_1.length c0_1] 50 (0, 0)) (by (with_reducible repeat (first | refine blk_drewN ?_ _ | refine blk_drew ?_ | refine blk_alloc ?_ _)); exact BK313.out) hb); have n2_ := Aside0.mk (below_step (by repeat (first | (with_reducible first | exact HB.out | apply below_alloc | apply pw_below_drewN | apply below_drew1 | refine below_set ?_ GE313.out) | exact HB.out)) hb); clear BK313; clear HB; have HO319 := n0_; have BK313 := n1_; have HB := n2_; clear n0_ n1_ n2_; (try clear hb); (try clear hb2); (try clear hk); (try clear hi); (try clear ho0))); go_upto_region 8 with (first | (go_at_call 71; (with_reducible refine (deadboltref08_walk.calls k1 a0_0 _ _ l0_1 a0_0 (l0_1.length : Int) t317 t320 _ ?side1 ?side2 A15.out).mono ?_); (case side1 => repeat (first | exact (Kd.C_below HR0_1.out HB.out) | (with_reducible refine Kd.C_alloc ?_ _) | (with_reducible refine Kd.C_drewN ?_ _) | (with_reducible refine Kd.C_drew ?_))); (case side2 => exact HC0_1.out); rintro e w18 ⟨v318, rfl, ho0, hb⟩; have n0_ := Aside0.mk (Kd.R_lower ho0 (below_size (by repeat (first | (with_reducible first | exact HB.out | apply below_alloc | apply pw_below_drewN | apply below_drew1 | refine below_set ?_ GE313.out) | exact HB.out)))); have n1_ := Aside0.mk (blk_below (g := gb313) (o := .cells #[.int .i64 a0_0, .slice A0_1 l0_1.length c0_1] 50 (0, 0)) (by (with_reducible repeat (first | refine blk_drewN ?_ _ | refine blk_drew ?_ | refine blk_alloc ?_ _)); exact BK313.out) hb); have n2_ := Aside0.mk (below_step (by repeat (first | (with_reducible first | exact HB.out | apply below_alloc | apply pw_below_drewN | apply below_drew1 | refine below_set ?_ GE313.out) | exact HB.out)) hb); clear BK313; clear HB; have HO319 := n0_; have BK313 := n1_; have HB := n2_; clear n0_ n1_ n2_; (try clear hb); (try clear hb2); (try clear hk); (try clear hi); (try clear ho0))))
    (try simp only [Act.put, List.setIfInBounds_toArray, List.set_cons_zero, List.set_cons_succ])
    go_cut [39] (fun v39 wc => ∃ (kq : Nat) (x39_15 : Bool), v39 = .bool x39_15 ∧ Aside0 (deadboltref08_Right.j1 kq t317 x39_15 a0_0 l0_1 = some r) ∧ Aside0 (kq ≤ k1) ∧ Aside0 (Kd.R (Kd.int .i64) 3 wc w.heap.size (fun _ => True) v318 t317) ∧ Aside0 (wc.heap[gb313]? = some (.cells #[.int .i64 a0_0, (.slice A0_1 l0_1.length c0_1)] 50 (0, 0))) ∧ Aside0 (Below w.heap.size w wc))
    case first =>
     have H := HC16.out
     clear HC16
     by_cases c19 : t320 = 0
     ·rw [if_pos c19] at H
      have c19b0 : (t320 == 0) = true := beq_iff_eq.mpr c19
      have c19b1 : (t320 != 0) = false := bne_eq_false_iff_eq.mpr c19
      clear c19
      (first | rw [c19b0] | (simp only [i64_w, i32_w]; rw [c19b0]) | skip)
      have H' := Aside0.mk H
      clear H
      have hcz20_0 : w18.cell? ⟨gb313, 0, none⟩ = some (.int .i64 a0_0) := (blk_cell BK313.out 0).trans rfl
      have hcz20_1 : w18.cell? ⟨gb313, 1, none⟩ = some (.slice A0_1 l0_1.length c0_1) := (blk_cell BK313.out 1).trans rfl
      have hfz20_0 := blk_frozen BK313.out 0
      have hfz20_1 := blk_frozen BK313.out 1
      go_wp2
      repeat (go_quiet (fail); try go_wp2)
      go_meet
      case rel => exact ⟨_, (decide ((l0_1.length : Int) > 64)), (by first | rfl | (simp; done) | (simp [*]; done)), H', ⟨by have := HK1.out; first | omega | exact Nat.le_refl _⟩, ⟨by (with_reducible repeat (first | apply Kd.R_alloc | apply Kd.R_drewN | apply Kd.R_drew)); exact HO319.out⟩, ⟨by (with_reducible repeat (first | refine blk_drewN ?_ _ | refine blk_drew ?_ | refine blk_alloc ?_ _)); exact BK313.out⟩, ⟨by repeat (first | (with_reducible first | exact HB.out | apply below_alloc | apply pw_below_drewN | apply below_drew1 | refine below_set ?_ GE313.out) | exact HB.out)⟩⟩
     ·rw [if_neg c19] at H
      have c19b0 : (t320 == 0) = false := beq_eq_false_iff_ne.mpr c19
      have c19b1 : (t320 != 0) = true := bne_iff_ne.mpr c19
      (first | rw [c19b0] | (simp only [i64_w, i32_w]; rw [c19b0]) | skip)
      have H' := Aside0.mk H
      clear H
      go_wp2
      repeat (go_quiet (fail); try go_wp2)
      go_meet
      case rel => exact ⟨_, (true), (by first | rfl | (simp; done) | (simp [*]; done)), H', ⟨by have := HK1.out; first | omega | exact Nat.le_refl _⟩, ⟨by (with_reducible repeat (first | apply Kd.R_alloc | apply Kd.R_drewN | apply Kd.R_drew)); exact HO319.out⟩, ⟨by (with_reducible repeat (first | refine blk_drewN ?_ _ | refine blk_drew ?_ | refine blk_alloc ?_ _)); exact BK313.out⟩, ⟨by repeat (first | (with_reducible first | exact HB.out | apply below_alloc | apply pw_below_drewN | apply below_drew1 | refine below_set ?_ GE313.out) | exact HB.out)⟩⟩
    case rest =>
     clear HC16
     try clear c1
     try clear p2
     try clear c3
     try clear p3
     try clear q3
     try clear hx3
     try clear c4
     try clear c4b0
     try clear c5
     try clear c5b0
     try clear c6
     try clear c6b0
     try clear p6
     try clear c8
     try clear c10
     try clear c13
     try clear c19
     try clear c19b0
     try clear c19b1
     try clear hcz11_0
     try clear hcz11_1
     try clear hcz11_2
     try clear hcz14_0
     try clear hcz14_1
     try clear hcz14_2
     try clear hcz17_0
     try clear hcz17_1
     try clear hcz20_0
     try clear hcz20_1
     try clear hcz3_0
     try clear hcz3_1
     try clear hfz11_0
     try clear hfz11_1
     try clear hfz11_2
     try clear hfz14_0
     try clear hfz14_1
     try clear hfz14_2
     try clear hfz17_0
     try clear hfz17_1
     try clear hfz20_0
     try clear hfz20_1
     try clear hfz3_0
     try clear hfz3_1
     try clear hx314_0
     try clear hx314_1
     try clear hx314_2
     try clear p2
     try clear p314
     try clear q314
     obtain ⟨kq, x39_15, rfl, HA, HJ15, HO_5, BK313, HB⟩ := hcut
     cases kq with
     | zero => exact absurd HA.out (by simp [deadboltref08_Right.j1])
     | succ kj15 =>
      have H := HA.out
      clear HA
      simp only [deadboltref08_Right.j1] at H
      by_cases c21 : x39_15 = true
      ·subst c21
       have H1 : (some false) = some r := by rw [if_pos rfl] at H; exact H
       clear H
       have H := H1
       clear H1
       obtain rfl := Option.some.inj H
       go_wp2
       repeat (go_quiet (fail); try go_wp2)
       go_ret
       exact ⟨by first | rfl | (simp [errW_none, errW_some] <;> rfl) | (simp [*, errW_none, errW_some] <;> rfl), by repeat (first | (with_reducible first | exact HB.out | apply below_alloc | apply pw_below_drewN | apply below_drew1 | refine below_set ?_ GE313.out) | exact HB.out)⟩
      ·replace c21 := Bool.eq_false_iff.mpr c21
       subst c21
       have H1 : (deadboltref08_Right.l1 kj15 t317 (t317.length : Int) 0 a0_0 l0_1) = some r := by rw [if_neg (show ¬ (false = true) by decide)] at H; exact H
       clear H
       have H := H1
       clear H1
       have H' := Aside0.mk H
       clear H
       obtain ⟨Ao22, co22, eo22⟩ := Kd.R_slice HO_5.out
       subst eo22
       go_wp2
       repeat (go_quiet (fail); try go_wp2)
       go_loopg [42] kj15 (fun kq v42 w' => ∃ (x42_3 : Int), v42 = .int .i64 x42_3 ∧ Aside0 (deadboltref08_Right.l1 kq t317 (t317.length : Int) x42_3 a0_0 l0_1 = some r) ∧ Aside0 (kq ≤ kj15) ∧ Aside0 (Kd.R (Kd.int .i64) 3 w' w.heap.size (fun _ => True) (.slice Ao22 t317.length co22) t317) ∧ Aside0 (w'.heap[gb313]? = some (.cells #[.int .i64 a0_0, (.slice A0_1 l0_1.length c0_1)] 50 (0, 0))) ∧ Aside0 (Below w.heap.size w w'))
       case atStart => exact ⟨(0), (by first | rfl | (simp; done) | (simp [*]; done)), H', ⟨Nat.le_refl _⟩, ⟨by (with_reducible repeat (first | apply Kd.R_alloc | apply Kd.R_drewN | apply Kd.R_drew)); exact HO_5.out⟩, ⟨by (with_reducible repeat (first | refine blk_drewN ?_ _ | refine blk_drew ?_ | refine blk_alloc ?_ _)); exact BK313.out⟩, ⟨by repeat (first | (with_reducible first | exact HB.out | apply below_alloc | apply pw_below_drewN | apply below_drew1 | refine below_set ?_ GE313.out) | exact HB.out)⟩⟩
       case round =>
        clear H'
        try clear c1
        try clear c2
        try clear p2
        try clear c3
        try clear p3
        try clear q3
        try clear hx3
        try clear c4
        try clear c4b0
        try clear c5
        try clear c5b0
        try clear c6
        try clear c6b0
        try clear p6
        try clear c8
        try clear c10
        try clear c13
        try clear c19
        try clear c19b0
        try clear c19b1
        try clear c21
        try clear hcz11_0
        try clear hcz11_1
        try clear hcz11_2
        try clear hcz14_0
        try clear hcz14_1
        try clear hcz14_2
        try clear hcz17_0
        try clear hcz17_1
        try clear hcz20_0
        try clear hcz20_1
        try clear hcz3_0
        try clear hcz3_1
        try clear hfz11_0
        try clear hfz11_1
        try clear hfz11_2
        try clear hfz14_0
        try clear hfz14_1
        try clear hfz14_2
        try clear hfz17_0
        try clear hfz17_1
        try clear hfz20_0
        try clear hfz20_1
        try clear hfz3_0
        try clear hfz3_1
        try clear hx314_0
        try clear hx314_1
        try clear hx314_2
        try clear p2
        try clear p3
        try clear p314
        try clear p6
        try clear q3
        try clear q314
        obtain ⟨x42_3, rfl, HA, HK3, HO_5, BK313, HB⟩ := hrel
        cases gk with
        | zero => exact absurd HA.out (by simp [deadboltref08_Right.l1])
        | succ k3 =>
         have H := HA.out
         clear HA
         simp only [deadboltref08_Right.l1] at H
         by_cases c23 : x42_3 < (t317.length : Int)
         ·rw [if_pos c23] at H
          have c23b0 : decide (x42_3 < (t317.length : Int)) = true := decide_eq_true c23
          clear c23
          by_cases c24 : x42_3 > 0
          ·rw [if_pos c24] at H
           have c24b0 : decide (0 < x42_3) = true := decide_eq_true c24
           clear c24
           obtain ⟨ji25, hji25⟩ : ∃ j_ : Int, (wrap64 (x42_3 - 1)) = j_ := ⟨_, rfl⟩
           replace H : (if 0 ≤ (ji25) then (if (ji25) < (t317.length : Int) then (if 0 ≤ x42_3 then (if x42_3 < (t317.length : Int) then (if (rd t317 (ji25)) ≥ (rd t317 x42_3) then (some false) else (deadboltref08_Right.l1 k3 t317 (t317.length : Int) (wrap64 (x42_3 + 1)) a0_0 l0_1)) else (none)) else (none)) else (none)) else (none)) = some r := by first | (rw [hji25] at H; exact H) | (simp only [hji25] at H ⊢; exact H)
           have hji25w : (IntKind.i64.wrap (x42_3 - 1)) = ji25 := (i64_w _).trans hji25
           by_cases c26 : 0 ≤ (ji25)
           ·rw [if_pos c26] at H
            have c26b0 : decide (0 ≤ (ji25)) = true := decide_eq_true c26
            clear c26
            by_cases c27 : (ji25) < (t317.length : Int)
            ·rw [if_pos c27] at H
             have c27b0 : decide ((ji25) < (t317.length : Int)) = true := decide_eq_true c27
             clear c27
             by_cases c28 : 0 ≤ x42_3
             ·rw [if_pos c28] at H
              have c28b0 : decide (0 ≤ x42_3) = true := decide_eq_true c28
              clear c28
              by_cases c29 : x42_3 < (t317.length : Int)
              ·rw [if_pos c29] at H
               have c29b0 : decide (x42_3 < (t317.length : Int)) = true := decide_eq_true c29
               clear c29
               by_cases c30 : (rd t317 (ji25)) ≥ (rd t317 x42_3)
               ·rw [if_pos c30] at H
                have c30b0 : decide ((rd t317 x42_3) ≤ (rd t317 (ji25))) = true := decide_eq_true c30
                clear c30
                obtain rfl := Option.some.inj H
                have p321 : 0 ≤ ((ji25) : Int) := of_decide_eq_true (by first | (with_reducible assumption) | assumption)
                have q321 : (ji25) < (t317.length : Int) := of_decide_eq_true (by first | (with_reducible assumption) | assumption)
                obtain ⟨ad321, e321, hx321_0⟩ := Kd.at_int (Kd.R_reads' HO_5.out).2.2 (ji25) p321 q321
                cases e321
                replace p321 := eq_true p321
                replace q321 := eq_true q321
                have p322 : 0 ≤ (x42_3 : Int) := of_decide_eq_true (by first | (with_reducible assumption) | assumption)
                have q322 : x42_3 < (t317.length : Int) := of_decide_eq_true (by first | (with_reducible assumption) | assumption)
                obtain ⟨ad322, e322, hx322_0⟩ := Kd.at_int (Kd.R_reads' HO_5.out).2.2 x42_3 p322 q322
                obtain rfl : ad321 = ad322 := (by injection e322)
                replace p322 := eq_true p322
                replace q322 := eq_true q322
                go_wp2
                repeat (go_quiet (fail); try go_wp2)
                go_ret
                exact ⟨by first | rfl | (simp [errW_none, errW_some] <;> rfl) | (simp only [← hji25]; first | rfl | (simp [errW_none, errW_some] <;> rfl)) | (simp [*, errW_none, errW_some] <;> rfl), by repeat (first | (with_reducible first | exact HB.out | apply below_alloc | apply pw_below_drewN | apply below_drew1 | refine below_set ?_ GE313.out) | exact HB.out)⟩
               ·rw [if_neg c30] at H
                have c30b0 : decide ((rd t317 x42_3) ≤ (rd t317 (ji25))) = false := decide_eq_false c30
                clear c30
                have H' := Aside0.mk H
                clear H
                have p321 : 0 ≤ ((ji25) : Int) := of_decide_eq_true (by first | (with_reducible assumption) | assumption)
                have q321 : (ji25) < (t317.length : Int) := of_decide_eq_true (by first | (with_reducible assumption) | assumption)
                obtain ⟨ad321, e321, hx321_0⟩ := Kd.at_int (Kd.R_reads' HO_5.out).2.2 (ji25) p321 q321
                cases e321
                replace p321 := eq_true p321
                replace q321 := eq_true q321
                have p322 : 0 ≤ (x42_3 : Int) := of_decide_eq_true (by first | (with_reducible assumption) | assumption)
                have q322 : x42_3 < (t317.length : Int) := of_decide_eq_true (by first | (with_reducible assumption) | assumption)
                obtain ⟨ad322, e322, hx322_0⟩ := Kd.at_int (Kd.R_reads' HO_5.out).2.2 x42_3 p322 q322
                obtain rfl : ad321 = ad322 := (by injection e322)
                replace p322 := eq_true p322
                replace q322 := eq_true q322
                go_wp2
                repeat (go_quiet (fail); try go_wp2)
                go_roundg k3
                case measure => have := HK1.out; have := HJ15.out; have := HK3.out; omega
                case rel => exact ⟨(wrap64 (x42_3 + 1)), (by first | rfl | (simp; done) | (simp [*]; done)), H', ⟨by have := HK1.out; have := HJ15.out; have := HK3.out; omega⟩, ⟨by (with_reducible repeat (first | apply Kd.R_alloc | apply Kd.R_drewN | apply Kd.R_drew)); exact HO_5.out⟩, ⟨by (with_reducible repeat (first | refine blk_drewN ?_ _ | refine blk_drew ?_ | refine blk_alloc ?_ _)); exact BK313.out⟩, ⟨by repeat (first | (with_reducible first | exact HB.out | apply below_alloc | apply pw_below_drewN | apply below_drew1 | refine below_set ?_ GE313.out) | exact HB.out)⟩⟩
              ·rw [if_neg c29] at H
               exact absurd H (by simp)
             ·rw [if_neg c28] at H
              exact absurd H (by simp)
            ·rw [if_neg c27] at H
             exact absurd H (by simp)
           ·rw [if_neg c26] at H
            exact absurd H (by simp)
          ·rw [if_neg c24] at H
           have c24b0 : decide (0 < x42_3) = false := decide_eq_false c24
           clear c24
           have H' := Aside0.mk H
           clear H
           go_wp2
           repeat (go_quiet (fail); try go_wp2)
           go_roundg k3
           case measure => have := HK1.out; have := HJ15.out; have := HK3.out; omega
           case rel => exact ⟨(wrap64 (x42_3 + 1)), (by first | rfl | (simp; done) | (simp [*]; done)), H', ⟨by have := HK1.out; have := HJ15.out; have := HK3.out; omega⟩, ⟨by (with_reducible repeat (first | apply Kd.R_alloc | apply Kd.R_drewN | apply Kd.R_drew)); exact HO_5.out⟩, ⟨by (with_reducible repeat (first | refine blk_drewN ?_ _ | refine blk_drew ?_ | refine blk_alloc ?_ _)); exact BK313.out⟩, ⟨by repeat (first | (with_reducible first | exact HB.out | apply below_alloc | apply pw_below_drewN | apply below_drew1 | refine below_set ?_ GE313.out) | exact HB.out)⟩⟩
         ·rw [if_neg c23] at H
          have c23b0 : decide (x42_3 < (t317.length : Int)) = false := decide_eq_false c23
          clear c23
          have H' := Aside0.mk H
          clear H
          have hcz31_0 : wr.cell? ⟨gb313, 0, none⟩ = some (.int .i64 a0_0) := (blk_cell BK313.out 0).trans rfl
          have hcz31_1 : wr.cell? ⟨gb313, 1, none⟩ = some (.slice A0_1 l0_1.length c0_1) := (blk_cell BK313.out 1).trans rfl
          have hfz31_0 := blk_frozen BK313.out 0
          have hfz31_1 := blk_frozen BK313.out 1
          go_wp2
          repeat (go_quiet (fail); try go_wp2)
          go_loopg [63] k3 (fun kq v63 w' => ∃ (x63_4 : Int), v63 = .int .i64 x63_4 ∧ Aside0 (deadboltref08_Right.l2 kq l0_1 (l0_1.length : Int) x63_4 a0_0 l0_1 = some r) ∧ Aside0 (kq ≤ k3) ∧ Aside0 (w'.heap[gb313]? = some (.cells #[.int .i64 a0_0, (.slice A0_1 l0_1.length c0_1)] 50 (0, 0))) ∧ Aside0 (Below w.heap.size w w'))
          case atStart => exact ⟨(0), (by first | rfl | (simp; done) | (simp [*]; done)), H', ⟨Nat.le_refl _⟩, ⟨by (with_reducible repeat (first | refine blk_drewN ?_ _ | refine blk_drew ?_ | refine blk_alloc ?_ _)); exact BK313.out⟩, ⟨by repeat (first | (with_reducible first | exact HB.out | apply below_alloc | apply pw_below_drewN | apply below_drew1 | refine below_set ?_ GE313.out) | exact HB.out)⟩⟩
          case round =>
           clear H'
           try clear c1
           try clear c2
           try clear p2
           try clear c3
           try clear p3
           try clear q3
           try clear hx3
           try clear c4
           try clear c4b0
           try clear c5
           try clear c5b0
           try clear c6
           try clear c6b0
           try clear p6
           try clear c8
           try clear c10
           try clear c13
           try clear c19
           try clear c19b0
           try clear c19b1
           try clear c21
           try clear c23
           try clear c23b0
           try clear c24
           try clear c24b0
           try clear c26
           try clear c26b0
           try clear c27
           try clear c27b0
           try clear c28
           try clear c28b0
           try clear c29
           try clear c29b0
           try clear c30
           try clear c30b0
           try clear p31
           try clear q31
           try clear hx31
           try clear hcz11_0
           try clear hcz11_1
           try clear hcz11_2
           try clear hcz14_0
           try clear hcz14_1
           try clear hcz14_2
           try clear hcz17_0
           try clear hcz17_1
           try clear hcz20_0
           try clear hcz20_1
           try clear hcz31_0
           try clear hcz31_1
           try clear hcz3_0
           try clear hcz3_1
           try clear hfz11_0
           try clear hfz11_1
           try clear hfz11_2
           try clear hfz14_0
           try clear hfz14_1
           try clear hfz14_2
           try clear hfz17_0
           try clear hfz17_1
           try clear hfz20_0
           try clear hfz20_1
           try clear hfz31_0
           try clear hfz31_1
           try clear hfz3_0
           try clear hfz3_1
           try clear hx314_0
           try clear hx314_1
           try clear hx314_2
           try clear hx321_0
           try clear hx322_0
           try clear p2
           try clear p3
           try clear p314
           try clear p321
           try clear p322
           try clear p6
           try clear q3
           try clear q314
           try clear q321
           try clear q322
           obtain ⟨x63_4, rfl, HA, HK4, BK313, HB⟩ := hrel
           cases gk with
           | zero => exact absurd HA.out (by simp [deadboltref08_Right.l2])
           | succ k4 =>
            have H := HA.out
            clear HA
            simp only [deadboltref08_Right.l2] at H
            by_cases c32 : x63_4 < (l0_1.length : Int)
            ·rw [if_pos c32] at H
             have c32b0 : decide (x63_4 < (l0_1.length : Int)) = true := decide_eq_true c32
             clear c32
             by_cases c33 : 0 ≤ x63_4
             ·rw [if_pos c33] at H
              have c33b0 : decide (0 ≤ x63_4) = true := decide_eq_true c33
              clear c33
              by_cases c34 : x63_4 < (l0_1.length : Int)
              ·rw [if_pos c34] at H
               have c34b0 : decide (x63_4 < (l0_1.length : Int)) = true := decide_eq_true c34
               clear c34
               replace H := Option.bind_eq_some_iff.mp H
               obtain ⟨t325, A350, H⟩ := H
               replace H : (if t325 = true then ((deadboltref08_lighter.f a0_0 l0_1 ((rd_T87 l0_1 x63_4).f2) ((rd_T87 l0_1 x63_4).f0)).bind fun t326 => (if t326 = true then (deadboltref08_Right.l2 k4 l0_1 (l0_1.length : Int) (wrap64 (x63_4 + 1)) a0_0 l0_1) else (some false))) else (some false)) = some r := H
               have A35 := Aside0.mk A350
               clear A350
               by_cases c36 : t325 = true
               ·subst c36
                have H1 : ((deadboltref08_lighter.f a0_0 l0_1 ((rd_T87 l0_1 x63_4).f2) ((rd_T87 l0_1 x63_4).f0)).bind fun t326 => (if t326 = true then (deadboltref08_Right.l2 k4 l0_1 (l0_1.length : Int) (wrap64 (x63_4 + 1)) a0_0 l0_1) else (some false))) = some r := by rw [if_pos rfl] at H; exact H
                clear H
                have H := H1
                clear H1
                replace H := Option.bind_eq_some_iff.mp H
                obtain ⟨t326, A370, H⟩ := H
                replace H : (if t326 = true then (deadboltref08_Right.l2 k4 l0_1 (l0_1.length : Int) (wrap64 (x63_4 + 1)) a0_0 l0_1) else (some false)) = some r := H
                have A37 := Aside0.mk A370
                clear A370
                by_cases c38 : t326 = true
                ·subst c38
                 have H1 : (deadboltref08_Right.l2 k4 l0_1 (l0_1.length : Int) (wrap64 (x63_4 + 1)) a0_0 l0_1) = some r := by rw [if_pos rfl] at H; exact H
                 clear H
                 have H := H1
                 clear H1
                 have H' := Aside0.mk H
                 clear H
                 have p323 : 0 ≤ (x63_4 : Int) := of_decide_eq_true (by first | (with_reducible assumption) | assumption)
                 have q323 : x63_4 < (l0_1.length : Int) := of_decide_eq_true (by first | (with_reducible assumption) | assumption)
                 obtain ⟨ad323, e323, hx323_0, hx323_1, hx323_2⟩ := at_T87 HR0_1.out x63_4 p323 q323
                 cases e323
                 replace hx323_0 := (HB.out.cell (World.block_lt_of_cell? w _ hx323_0)).trans hx323_0
                 replace hx323_1 := (HB.out.cell (World.block_lt_of_cell? w _ hx323_1)).trans hx323_1
                 replace hx323_2 := (HB.out.cell (World.block_lt_of_cell? w _ hx323_2)).trans hx323_2
                 replace p323 := eq_true p323
                 replace q323 := eq_true q323
                 go_wp2_with (first | ((with_reducible refine gate_dst (N := 9) rfl ?_); (try (refine gate_guard (by rfl) ?_; dsimp only)); refine box_event ?hg (N := 9) ?hd (cs := #[.int .i64 0, .int .i64 0, .int .i64 0]) (t := 87) ?hr ?_; (case hd => rfl); (case hg => rfl); (case hr => first | (go_simp; done) | (go_simp; rfl)); intro gb324 hg w39 hbox hb; have n0_ := Aside0.mk (blk_below (g := gb313) (o := .cells #[.int .i64 a0_0, .slice (some ad323) l0_1.length c0_1] 50 (0, 0)) (by (with_reducible repeat (first | refine blk_drewN ?_ _ | refine blk_drew ?_ | refine blk_alloc ?_ _)); exact BK313.out) hb); have n1_ := Aside0.mk (below_step (by repeat (first | (with_reducible first | exact HB.out | apply below_alloc | apply pw_below_drewN | apply below_drew1 | refine below_set ?_ GE313.out) | exact HB.out)) hb); have n2_ := Aside0.mk (hbox); have n3_ := Aside0.mk ((by rw [hg]; exact (below_size (by repeat (first | (with_reducible first | exact HB.out | apply below_alloc | apply pw_below_drewN | apply below_drew1 | refine below_set ?_ GE313.out) | exact HB.out))) : w.heap.size ≤ gb324)); have n4_ := Aside0.mk ((by rw [hg]; exact (below_size (by repeat (first | (with_reducible first | exact HB.out | apply below_alloc | apply pw_below_drewN | apply below_drew1 | refine below_set ?_ GE313.out) | exact HB.out))) : w.heap.size ≤ gb324)); have n5_ := Aside0.mk ((by rw [hg]; exact Nat.ne_of_lt (blk_lt (g := gb313) (o := .cells #[.int .i64 a0_0, .slice (some ad323) l0_1.length c0_1] 50 (0, 0)) (by (with_reducible repeat (first | refine blk_drewN ?_ _ | refine blk_drew ?_ | refine blk_alloc ?_ _)); exact BK313.out)) : gb313 ≠ gb324)); have n6_ := Aside0.mk ((by rw [hg]; exact Nat.ne_of_gt (blk_lt (g := gb313) (o := .cells #[.int .i64 a0_0, .slice (some ad323) l0_1.length c0_1] 50 (0, 0)) (by (with_reducible repeat (first | refine blk_drewN ?_ _ | refine blk_drew ?_ | refine blk_alloc ?_ _)); exact BK313.out)) : gb324 ≠ gb313)); clear BK313; clear HB; have BK313 := n0_; have HB := n1_; have BK324 := n2_; have GW324 := n3_; have GE324 := n4_; have NB313_324 := n5_; have NB324_313 := n6_; clear n0_ n1_ n2_ n3_ n4_ n5_ n6_; clear hb hbox hg; have hnb40 := NB324_313.out; have hnc40 := NB313_324.out; have hcz41_0 : w39.cell? ⟨gb324, 0, none⟩ = some (.int .i64 0) := (blk_cell BK324.out 0).trans rfl; have hcz41_1 : w39.cell? ⟨gb324, 1, none⟩ = some (.int .i64 0) := (blk_cell BK324.out 1).trans rfl; have hcz41_2 : w39.cell? ⟨gb324, 2, none⟩ = some (.int .i64 0) := (blk_cell BK324.out 2).trans rfl; have hfz41_0 := blk_frozen BK324.out 0; have hfz41_1 := blk_frozen BK324.out 1; have hfz41_2 := blk_frozen BK324.out 2; have hcz42_0 : w39.cell? ⟨gb313, 0, none⟩ = some (.int .i64 a0_0) := (blk_cell BK313.out 0).trans rfl; have hcz42_1 : w39.cell? ⟨gb313, 1, none⟩ = some (.slice (some ad323) l0_1.length c0_1) := (blk_cell BK313.out 1).trans rfl; have hfz42_0 := blk_frozen BK313.out 0; have hfz42_1 := blk_frozen BK313.out 1) | (go_at_call 72; (with_reducible refine (deadboltref08_lighter.calls a0_0 _ _ l0_1 ((rd_T87 l0_1 x63_4).f1) ((rd_T87 l0_1 x63_4).f0) true _ ?side1 ?side2 A35.out).mono ?_); (case side1 => exact Kd.C_below HR0_1.out (by repeat (first | (with_reducible first | exact HB.out | apply below_alloc | apply pw_below_drewN | apply below_drew1 | refine below_set ?_ GE313.out | refine below_set ?_ GE324.out) | exact HB.out))); (case side2 => exact HC0_1.out); rintro e w43 ⟨rfl, hb⟩; have n0_ := Aside0.mk (blk_below (g := gb313) (o := .cells #[.int .i64 a0_0, .slice (some ad323) l0_1.length c0_1] 50 (0, 0)) (by (with_reducible repeat (first | refine blk_drewN ?_ _ | refine blk_drew ?_ | refine blk_alloc ?_ _)); refine blk_far ?_ NB313_324.out _; (with_reducible repeat (first | refine blk_drewN ?_ _ | refine blk_drew ?_ | refine blk_alloc ?_ _)); refine blk_far ?_ NB313_324.out _; (with_reducible repeat (first | refine blk_drewN ?_ _ | refine blk_drew ?_ | refine blk_alloc ?_ _)); refine blk_far ?_ NB313_324.out _; (with_reducible repeat (first | refine blk_drewN ?_ _ | refine blk_drew ?_ | refine blk_alloc ?_ _)); exact BK313.out) hb); have n1_ := Aside0.mk (blk_below (g := gb324) (o := .cells #[.int .i64 ((rd_T87 l0_1 x63_4).f0), .int .i64 ((rd_T87 l0_1 x63_4).f1), .int .i64 ((rd_T87 l0_1 x63_4).f2)] 87 (0, 0)) (by (with_reducible repeat (first | refine blk_drewN ?_ _ | refine blk_drew ?_ | refine blk_alloc ?_ _)); refine blk_put (cs := #[.int .i64 ((rd_T87 l0_1 x63_4).f0), .int .i64 ((rd_T87 l0_1 x63_4).f1), .int .i64 0]) ?_ 2 _ rfl; (with_reducible repeat (first | refine blk_drewN ?_ _ | refine blk_drew ?_ | refine blk_alloc ?_ _)); refine blk_put (cs := #[.int .i64 ((rd_T87 l0_1 x63_4).f0), .int .i64 0, .int .i64 0]) ?_ 1 _ rfl; (with_reducible repeat (first | refine blk_drewN ?_ _ | refine blk_drew ?_ | refine blk_alloc ?_ _)); refine blk_put (cs := #[.int .i64 0, .int .i64 0, .int .i64 0]) ?_ 0 _ rfl; (with_reducible repeat (first | refine blk_drewN ?_ _ | refine blk_drew ?_ | refine blk_alloc ?_ _)); exact BK324.out) hb); have n2_ := Aside0.mk (below_step (by repeat (first | (with_reducible first | exact HB.out | apply below_alloc | apply pw_below_drewN | apply below_drew1 | refine below_set ?_ GE313.out | refine below_set ?_ GE324.out) | exact HB.out)) hb); clear BK313; clear BK324; clear HB; have BK313 := n0_; have BK324 := n1_; have HB := n2_; clear n0_ n1_ n2_; (try clear hb); (try clear hb2); (try clear hk); (try clear hi); have hcz44_0 : w43.cell? ⟨gb313, 0, none⟩ = some (.int .i64 a0_0) := (blk_cell BK313.out 0).trans rfl; have hcz44_1 : w43.cell? ⟨gb313, 1, none⟩ = some (.slice (some ad323) l0_1.length c0_1) := (blk_cell BK313.out 1).trans rfl; have hfz44_0 := blk_frozen BK313.out 0; have hfz44_1 := blk_frozen BK313.out 1; have hcz45_0 : w43.cell? ⟨gb324, 0, none⟩ = some (.int .i64 ((rd_T87 l0_1 x63_4).f0)) := (blk_cell BK324.out 0).trans rfl; have hcz45_1 : w43.cell? ⟨gb324, 1, none⟩ = some (.int .i64 ((rd_T87 l0_1 x63_4).f1)) := (blk_cell BK324.out 1).trans rfl; have hcz45_2 : w43.cell? ⟨gb324, 2, none⟩ = some (.int .i64 ((rd_T87 l0_1 x63_4).f2)) := (blk_cell BK324.out 2).trans rfl; have hfz45_0 := blk_frozen BK324.out 0; have hfz45_1 := blk_frozen BK324.out 1; have hfz45_2 := blk_frozen BK324.out 2) | (go_at_call 72; (with_reducible refine (deadboltref08_lighter.calls a0_0 _ _ l0_1 ((rd_T87 l0_1 x63_4).f2) ((rd_T87 l0_1 x63_4).f0) true _ ?side1 ?side2 A37.out).mono ?_); (case side1 => repeat (first | exact (Kd.C_below HR0_1.out HB.out) | (with_reducible refine Kd.C_alloc ?_ _) | (with_reducible refine Kd.C_drewN ?_ _) | (with_reducible refine Kd.C_drew ?_))); (case side2 => exact HC0_1.out); rintro e w46 ⟨rfl, hb⟩; have n0_ := Aside0.mk (blk_below (g := gb313) (o := .cells #[.int .i64 a0_0, .slice (some ad323) l0_1.length c0_1] 50 (0, 0)) (by (with_reducible repeat (first | refine blk_drewN ?_ _ | refine blk_drew ?_ | refine blk_alloc ?_ _)); exact BK313.out) hb); have n1_ := Aside0.mk (blk_below (g := gb324) (o := .cells #[.int .i64 ((rd_T87 l0_1 x63_4).f0), .int .i64 ((rd_T87 l0_1 x63_4).f1), .int .i64 ((rd_T87 l0_1 x63_4).f2)] 87 (0, 0)) (by (with_reducible repeat (first | refine blk_drewN ?_ _ | refine blk_drew ?_ | refine blk_alloc ?_ _)); exact BK324.out) hb); have n2_ := Aside0.mk (below_step (by repeat (first | (with_reducible first | exact HB.out | apply below_alloc | apply pw_below_drewN | apply below_drew1 | refine below_set ?_ GE313.out | refine below_set ?_ GE324.out) | exact HB.out)) hb); clear BK313; clear BK324; clear HB; have BK313 := n0_; have BK324 := n1_; have HB := n2_; clear n0_ n1_ n2_; (try clear hb); (try clear hb2); (try clear hk); (try clear hi)))
                 repeat (go_quiet (first | ((with_reducible refine gate_dst (N := 9) rfl ?_); (try (refine gate_guard (by rfl) ?_; dsimp only)); refine box_event ?hg (N := 9) ?hd (cs := #[.int .i64 0, .int .i64 0, .int .i64 0]) (t := 87) ?hr ?_; (case hd => rfl); (case hg => rfl); (case hr => first | (go_simp; done) | (go_simp; rfl)); intro gb324 hg w39 hbox hb; have n0_ := Aside0.mk (blk_below (g := gb313) (o := .cells #[.int .i64 a0_0, .slice (some ad323) l0_1.length c0_1] 50 (0, 0)) (by (with_reducible repeat (first | refine blk_drewN ?_ _ | refine blk_drew ?_ | refine blk_alloc ?_ _)); exact BK313.out) hb); have n1_ := Aside0.mk (below_step (by repeat (first | (with_reducible first | exact HB.out | apply below_alloc | apply pw_below_drewN | apply below_drew1 | refine below_set ?_ GE313.out) | exact HB.out)) hb); have n2_ := Aside0.mk (hbox); have n3_ := Aside0.mk ((by rw [hg]; exact (below_size (by repeat (first | (with_reducible first | exact HB.out | apply below_alloc | apply pw_below_drewN | apply below_drew1 | refine below_set ?_ GE313.out) | exact HB.out))) : w.heap.size ≤ gb324)); have n4_ := Aside0.mk ((by rw [hg]; exact (below_size (by repeat (first | (with_reducible first | exact HB.out | apply below_alloc | apply pw_below_drewN | apply below_drew1 | refine below_set ?_ GE313.out) | exact HB.out))) : w.heap.size ≤ gb324)); have n5_ := Aside0.mk ((by rw [hg]; exact Nat.ne_of_lt (blk_lt (g := gb313) (o := .cells #[.int .i64 a0_0, .slice (some ad323) l0_1.length c0_1] 50 (0, 0)) (by (with_reducible repeat (first | refine blk_drewN ?_ _ | refine blk_drew ?_ | refine blk_alloc ?_ _)); exact BK313.out)) : gb313 ≠ gb324)); have n6_ := Aside0.mk ((by rw [hg]; exact Nat.ne_of_gt (blk_lt (g := gb313) (o := .cells #[.int .i64 a0_0, .slice (some ad323) l0_1.length c0_1] 50 (0, 0)) (by (with_reducible repeat (first | refine blk_drewN ?_ _ | refine blk_drew ?_ | refine blk_alloc ?_ _)); exact BK313.out)) : gb324 ≠ gb313)); clear BK313; clear HB; have BK313 := n0_; have HB := n1_; have BK324 := n2_; have GW324 := n3_; have GE324 := n4_; have NB313_324 := n5_; have NB324_313 := n6_; clear n0_ n1_ n2_ n3_ n4_ n5_ n6_; clear hb hbox hg; have hnb40 := NB324_313.out; have hnc40 := NB313_324.out; have hcz41_0 : w39.cell? ⟨gb324, 0, none⟩ = some (.int .i64 0) := (blk_cell BK324.out 0).trans rfl; have hcz41_1 : w39.cell? ⟨gb324, 1, none⟩ = some (.int .i64 0) := (blk_cell BK324.out 1).trans rfl; have hcz41_2 : w39.cell? ⟨gb324, 2, none⟩ = some (.int .i64 0) := (blk_cell BK324.out 2).trans rfl; have hfz41_0 := blk_frozen BK324.out 0; have hfz41_1 := blk_frozen BK324.out 1; have hfz41_2 := blk_frozen BK324.out 2; have hcz42_0 : w39.cell? ⟨gb313, 0, none⟩ = some (.int .i64 a0_0) := (blk_cell BK313.out 0).trans rfl; have hcz42_1 : w39.cell? ⟨gb313, 1, none⟩ = some (.slice (some ad323) l0_1.length c0_1) := (blk_cell BK313.out 1).trans rfl; have hfz42_0 := blk_frozen BK313.out 0; have hfz42_1 := blk_frozen BK313.out 1) | (go_at_call 72; (with_reducible refine (deadboltref08_lighter.calls a0_0 _ _ l0_1 ((rd_T87 l0_1 x63_4).f1) ((rd_T87 l0_1 x63_4).f0) true _ ?side1 ?side2 A35.out).mono ?_); (case side1 => exact Kd.C_below HR0_1.out (by repeat (first | (with_reducible first | exact HB.out | apply below_alloc | apply pw_below_drewN | apply below_drew1 | refine below_set ?_ GE313.out | refine below_set ?_ GE324.out) | exact HB.out))); (case side2 => exact HC0_1.out); rintro e w43 ⟨rfl, hb⟩; have n0_ := Aside0.mk (blk_below (g := gb313) (o := .cells #[.int .i64 a0_0, .slice (some ad323) l0_1.length c0_1] 50 (0, 0)) (by (with_reducible repeat (first | refine blk_drewN ?_ _ | refine blk_drew ?_ | refine blk_alloc ?_ _)); refine blk_far ?_ NB313_324.out _; (with_reducible repeat (first | refine blk_drewN ?_ _ | refine blk_drew ?_ | refine blk_alloc ?_ _)); refine blk_far ?_ NB313_324.out _; (with_reducible repeat (first | refine blk_drewN ?_ _ | refine blk_drew ?_ | refine blk_alloc ?_ _)); refine blk_far ?_ NB313_324.out _; (with_reducible repeat (first | refine blk_drewN ?_ _ | refine blk_drew ?_ | refine blk_alloc ?_ _)); exact BK313.out) hb); have n1_ := Aside0.mk (blk_below (g := gb324) (o := .cells #[.int .i64 ((rd_T87 l0_1 x63_4).f0), .int .i64 ((rd_T87 l0_1 x63_4).f1), .int .i64 ((rd_T87 l0_1 x63_4).f2)] 87 (0, 0)) (by (with_reducible repeat (first | refine blk_drewN ?_ _ | refine blk_drew ?_ | refine blk_alloc ?_ _)); refine blk_put (cs := #[.int .i64 ((rd_T87 l0_1 x63_4).f0), .int .i64 ((rd_T87 l0_1 x63_4).f1), .int .i64 0]) ?_ 2 _ rfl; (with_reducible repeat (first | refine blk_drewN ?_ _ | refine blk_drew ?_ | refine blk_alloc ?_ _)); refine blk_put (cs := #[.int .i64 ((rd_T87 l0_1 x63_4).f0), .int .i64 0, .int .i64 0]) ?_ 1 _ rfl; (with_reducible repeat (first | refine blk_drewN ?_ _ | refine blk_drew ?_ | refine blk_alloc ?_ _)); refine blk_put (cs := #[.int .i64 0, .int .i64 0, .int .i64 0]) ?_ 0 _ rfl; (with_reducible repeat (first | refine blk_drewN ?_ _ | refine blk_drew ?_ | refine blk_alloc ?_ _)); exact BK324.out) hb); have n2_ := Aside0.mk (below_step (by repeat (first | (with_reducible first | exact HB.out | apply below_alloc | apply pw_below_drewN | apply below_drew1 | refine below_set ?_ GE313.out | refine below_set ?_ GE324.out) | exact HB.out)) hb); clear BK313; clear BK324; clear HB; have BK313 := n0_; have BK324 := n1_; have HB := n2_; clear n0_ n1_ n2_; (try clear hb); (try clear hb2); (try clear hk); (try clear hi); have hcz44_0 : w43.cell? ⟨gb313, 0, none⟩ = some (.int .i64 a0_0) := (blk_cell BK313.out 0).trans rfl; have hcz44_1 : w43.cell? ⟨gb313, 1, none⟩ = some (.slice (some ad323) l0_1.length c0_1) := (blk_cell BK313.out 1).trans rfl; have hfz44_0 := blk_frozen BK313.out 0; have hfz44_1 := blk_frozen BK313.out 1; have hcz45_0 : w43.cell? ⟨gb324, 0, none⟩ = some (.int .i64 ((rd_T87 l0_1 x63_4).f0)) := (blk_cell BK324.out 0).trans rfl; have hcz45_1 : w43.cell? ⟨gb324, 1, none⟩ = some (.int .i64 ((rd_T87 l0_1 x63_4).f1)) := (blk_cell BK324.out 1).trans rfl; have hcz45_2 : w43.cell? ⟨gb324, 2, none⟩ = some (.int .i64 ((rd_T87 l0_1 x63_4).f2)) := (blk_cell BK324.out 2).trans rfl; have hfz45_0 := blk_frozen BK324.out 0; have hfz45_1 := blk_frozen BK324.out 1; have hfz45_2 := blk_frozen BK324.out 2) | (go_at_call 72; (with_reducible refine (deadboltref08_lighter.calls a0_0 _ _ l0_1 ((rd_T87 l0_1 x63_4).f2) ((rd_T87 l0_1 x63_4).f0) true _ ?side1 ?side2 A37.out).mono ?_); (case side1 => repeat (first | exact (Kd.C_below HR0_1.out HB.out) | (with_reducible refine Kd.C_alloc ?_ _) | (with_reducible refine Kd.C_drewN ?_ _) | (with_reducible refine Kd.C_drew ?_))); (case side2 => exact HC0_1.out); rintro e w46 ⟨rfl, hb⟩; have n0_ := Aside0.mk (blk_below (g := gb313) (o := .cells #[.int .i64 a0_0, .slice (some ad323) l0_1.length c0_1] 50 (0, 0)) (by (with_reducible repeat (first | refine blk_drewN ?_ _ | refine blk_drew ?_ | refine blk_alloc ?_ _)); exact BK313.out) hb); have n1_ := Aside0.mk (blk_below (g := gb324) (o := .cells #[.int .i64 ((rd_T87 l0_1 x63_4).f0), .int .i64 ((rd_T87 l0_1 x63_4).f1), .int .i64 ((rd_T87 l0_1 x63_4).f2)] 87 (0, 0)) (by (with_reducible repeat (first | refine blk_drewN ?_ _ | refine blk_drew ?_ | refine blk_alloc ?_ _)); exact BK324.out) hb); have n2_ := Aside0.mk (below_step (by repeat (first | (with_reducible first | exact HB.out | apply below_alloc | apply pw_below_drewN | apply below_drew1 | refine below_set ?_ GE313.out | refine below_set ?_ GE324.out) | exact HB.out)) hb); clear BK313; clear BK324; clear HB; have BK313 := n0_; have BK324 := n1_; have HB := n2_; clear n0_ n1_ n2_; (try clear hb); (try clear hb2); (try clear hk); (try clear hi))); try go_wp2_with (first | ((with_reducible refine gate_dst (N := 9) rfl ?_); (try (refine gate_guard (by rfl) ?_; dsimp only)); refine box_event ?hg (N := 9) ?hd (cs := #[.int .i64 0, .int .i64 0, .int .i64 0]) (t := 87) ?hr ?_; (case hd => rfl); (case hg => rfl); (case hr => first | (go_simp; done) | (go_simp; rfl)); intro gb324 hg w39 hbox hb; have n0_ := Aside0.mk (blk_below (g := gb313) (o := .cells #[.int .i64 a0_0, .slice (some ad323) l0_1.length c0_1] 50 (0, 0)) (by (with_reducible repeat (first | refine blk_drewN ?_ _ | refine blk_drew ?_ | refine blk_alloc ?_ _)); exact BK313.out) hb); have n1_ := Aside0.mk (below_step (by repeat (first | (with_reducible first | exact HB.out | apply below_alloc | apply pw_below_drewN | apply below_drew1 | refine below_set ?_ GE313.out) | exact HB.out)) hb); have n2_ := Aside0.mk (hbox); have n3_ := Aside0.mk ((by rw [hg]; exact (below_size (by repeat (first | (with_reducible first | exact HB.out | apply below_alloc | apply pw_below_drewN | apply below_drew1 | refine below_set ?_ GE313.out) | exact HB.out))) : w.heap.size ≤ gb324)); have n4_ := Aside0.mk ((by rw [hg]; exact (below_size (by repeat (first | (with_reducible first | exact HB.out | apply below_alloc | apply pw_below_drewN | apply below_drew1 | refine below_set ?_ GE313.out) | exact HB.out))) : w.heap.size ≤ gb324)); have n5_ := Aside0.mk ((by rw [hg]; exact Nat.ne_of_lt (blk_lt (g := gb313) (o := .cells #[.int .i64 a0_0, .slice (some ad323) l0_1.length c0_1] 50 (0, 0)) (by (with_reducible repeat (first | refine blk_drewN ?_ _ | refine blk_drew ?_ | refine blk_alloc ?_ _)); exact BK313.out)) : gb313 ≠ gb324)); have n6_ := Aside0.mk ((by rw [hg]; exact Nat.ne_of_gt (blk_lt (g := gb313) (o := .cells #[.int .i64 a0_0, .slice (some ad323) l0_1.length c0_1] 50 (0, 0)) (by (with_reducible repeat (first | refine blk_drewN ?_ _ | refine blk_drew ?_ | refine blk_alloc ?_ _)); exact BK313.out)) : gb324 ≠ gb313)); clear BK313; clear HB; have BK313 := n0_; have HB := n1_; have BK324 := n2_; have GW324 := n3_; have GE324 := n4_; have NB313_324 := n5_; have NB324_313 := n6_; clear n0_ n1_ n2_ n3_ n4_ n5_ n6_; clear hb hbox hg; have hnb40 := NB324_313.out; have hnc40 := NB313_324.out; have hcz41_0 : w39.cell? ⟨gb324, 0, none⟩ = some (.int .i64 0) := (blk_cell BK324.out 0).trans rfl; have hcz41_1 : w39.cell? ⟨gb324, 1, none⟩ = some (.int .i64 0) := (blk_cell BK324.out 1).trans rfl; have hcz41_2 : w39.cell? ⟨gb324, 2, none⟩ = some (.int .i64 0) := (blk_cell BK324.out 2).trans rfl; have hfz41_0 := blk_frozen BK324.out 0; have hfz41_1 := blk_frozen BK324.out 1; have hfz41_2 := blk_frozen BK324.out 2; have hcz42_0 : w39.cell? ⟨gb313, 0, none⟩ = some (.int .i64 a0_0) := (blk_cell BK313.out 0).trans rfl; have hcz42_1 : w39.cell? ⟨gb313, 1, none⟩ = some (.slice (some ad323) l0_1.length c0_1) := (blk_cell BK313.out 1).trans rfl; have hfz42_0 := blk_frozen BK313.out 0; have hfz42_1 := blk_frozen BK313.out 1) | (go_at_call 72; (with_reducible refine (deadboltref08_lighter.calls a0_0 _ _ l0_1 ((rd_T87 l0_1 x63_4).f1) ((rd_T87 l0_1 x63_4).f0) true _ ?side1 ?side2 A35.out).mono ?_); (case side1 => exact Kd.C_below HR0_1.out (by repeat (first | (with_reducible first | exact HB.out | apply below_alloc | apply pw_below_drewN | apply below_drew1 | refine below_set ?_ GE313.out | refine below_set ?_ GE324.out) | exact HB.out))); (case side2 => exact HC0_1.out); rintro e w43 ⟨rfl, hb⟩; have n0_ := Aside0.mk (blk_below (g := gb313) (o := .cells #[.int .i64 a0_0, .slice (some ad323) l0_1.length c0_1] 50 (0, 0)) (by (with_reducible repeat (first | refine blk_drewN ?_ _ | refine blk_drew ?_ | refine blk_alloc ?_ _)); refine blk_far ?_ NB313_324.out _; (with_reducible repeat (first | refine blk_drewN ?_ _ | refine blk_drew ?_ | refine blk_alloc ?_ _)); refine blk_far ?_ NB313_324.out _; (with_reducible repeat (first | refine blk_drewN ?_ _ | refine blk_drew ?_ | refine blk_alloc ?_ _)); refine blk_far ?_ NB313_324.out _; (with_reducible repeat (first | refine blk_drewN ?_ _ | refine blk_drew ?_ | refine blk_alloc ?_ _)); exact BK313.out) hb); have n1_ := Aside0.mk (blk_below (g := gb324) (o := .cells #[.int .i64 ((rd_T87 l0_1 x63_4).f0), .int .i64 ((rd_T87 l0_1 x63_4).f1), .int .i64 ((rd_T87 l0_1 x63_4).f2)] 87 (0, 0)) (by (with_reducible repeat (first | refine blk_drewN ?_ _ | refine blk_drew ?_ | refine blk_alloc ?_ _)); refine blk_put (cs := #[.int .i64 ((rd_T87 l0_1 x63_4).f0), .int .i64 ((rd_T87 l0_1 x63_4).f1), .int .i64 0]) ?_ 2 _ rfl; (with_reducible repeat (first | refine blk_drewN ?_ _ | refine blk_drew ?_ | refine blk_alloc ?_ _)); refine blk_put (cs := #[.int .i64 ((rd_T87 l0_1 x63_4).f0), .int .i64 0, .int .i64 0]) ?_ 1 _ rfl; (with_reducible repeat (first | refine blk_drewN ?_ _ | refine blk_drew ?_ | refine blk_alloc ?_ _)); refine blk_put (cs := #[.int .i64 0, .int .i64 0, .int .i64 0]) ?_ 0 _ rfl; (with_reducible repeat (first | refine blk_drewN ?_ _ | refine blk_drew ?_ | refine blk_alloc ?_ _)); exact BK324.out) hb); have n2_ := Aside0.mk (below_step (by repeat (first | (with_reducible first | exact HB.out | apply below_alloc | apply pw_below_drewN | apply below_drew1 | refine below_set ?_ GE313.out | refine below_set ?_ GE324.out) | exact HB.out)) hb); clear BK313; clear BK324; clear HB; have BK313 := n0_; have BK324 := n1_; have HB := n2_; clear n0_ n1_ n2_; (try clear hb); (try clear hb2); (try clear hk); (try clear hi); have hcz44_0 : w43.cell? ⟨gb313, 0, none⟩ = some (.int .i64 a0_0) := (blk_cell BK313.out 0).trans rfl; have hcz44_1 : w43.cell? ⟨gb313, 1, none⟩ = some (.slice (some ad323) l0_1.length c0_1) := (blk_cell BK313.out 1).trans rfl; have hfz44_0 := blk_frozen BK313.out 0; have hfz44_1 := blk_frozen BK313.out 1; have hcz45_0 : w43.cell? ⟨gb324, 0, none⟩ = some (.int .i64 ((rd_T87 l0_1 x63_4).f0)) := (blk_cell BK324.out 0).trans rfl; have hcz45_1 : w43.cell? ⟨gb324, 1, none⟩ = some (.int .i64 ((rd_T87 l0_1 x63_4).f1)) := (blk_cell BK324.out 1).trans rfl; have hcz45_2 : w43.cell? ⟨gb324, 2, none⟩ = some (.int .i64 ((rd_T87 l0_1 x63_4).f2)) := (blk_cell BK324.out 2).trans rfl; have hfz45_0 := blk_frozen BK324.out 0; have hfz45_1 := blk_frozen BK324.out 1; have hfz45_2 := blk_frozen BK324.out 2) | (go_at_call 72; (with_reducible refine (deadboltref08_lighter.calls a0_0 _ _ l0_1 ((rd_T87 l0_1 x63_4).f2) ((rd_T87 l0_1 x63_4).f0) true _ ?side1 ?side2 A37.out).mono ?_); (case side1 => repeat (first | exact (Kd.C_below HR0_1.out HB.out) | (with_reducible refine Kd.C_alloc ?_ _) | (with_reducible refine Kd.C_drewN ?_ _) | (with_reducible refine Kd.C_drew ?_))); (case side2 => exact HC0_1.out); rintro e w46 ⟨rfl, hb⟩; have n0_ := Aside0.mk (blk_below (g := gb313) (o := .cells #[.int .i64 a0_0, .slice (some ad323) l0_1.length c0_1] 50 (0, 0)) (by (with_reducible repeat (first | refine blk_drewN ?_ _ | refine blk_drew ?_ | refine blk_alloc ?_ _)); exact BK313.out) hb); have n1_ := Aside0.mk (blk_below (g := gb324) (o := .cells #[.int .i64 ((rd_T87 l0_1 x63_4).f0), .int .i64 ((rd_T87 l0_1 x63_4).f1), .int .i64 ((rd_T87 l0_1 x63_4).f2)] 87 (0, 0)) (by (with_reducible repeat (first | refine blk_drewN ?_ _ | refine blk_drew ?_ | refine blk_alloc ?_ _)); exact BK324.out) hb); have n2_ := Aside0.mk (below_step (by repeat (first | (with_reducible first | exact HB.out | apply below_alloc | apply pw_below_drewN | apply below_drew1 | refine below_set ?_ GE313.out | refine below_set ?_ GE324.out) | exact HB.out)) hb); clear BK313; clear BK324; clear HB; have BK313 := n0_; have BK324 := n1_; have HB := n2_; clear n0_ n1_ n2_; (try clear hb); (try clear hb2); (try clear hk); (try clear hi))))
                 go_roundg k4
                 case measure => have := HK1.out; have := HJ15.out; have := HK3.out; have := HK4.out; omega
                 case rel => exact ⟨(wrap64 (x63_4 + 1)), (by first | rfl | (simp; done) | (simp [*]; done)), H', ⟨by have := HK1.out; have := HJ15.out; have := HK3.out; have := HK4.out; omega⟩, ⟨by (with_reducible repeat (first | refine blk_drewN ?_ _ | refine blk_drew ?_ | refine blk_alloc ?_ _)); exact BK313.out⟩, ⟨by repeat (first | (with_reducible first | exact HB.out | apply below_alloc | apply pw_below_drewN | apply below_drew1 | refine below_set ?_ GE313.out | refine below_set ?_ GE324.out) | exact HB.out)⟩⟩
                ·replace c38 := Bool.eq_false_iff.mpr c38
                 subst c38
                 have H1 : (some false) = some r := by rw [if_neg (show ¬ (false = true) by decide)] at H; exact H
                 clear H
                 have H := H1
                 clear H1
                 obtain rfl := Option.some.inj H
                 have p323 : 0 ≤ (x63_4 : Int) := of_decide_eq_true (by first | (with_reducible assumption) | assumption)
                 have q323 : x63_4 < (l0_1.length : Int) := of_decide_eq_true (by first | (with_reducible assumption) | assumption)
                 obtain ⟨ad323, e323, hx323_0, hx323_1, hx323_2⟩ := at_T87 HR0_1.out x63_4 p323 q323
                 cases e323
                 replace hx323_0 := (HB.out.cell (World.block_lt_of_cell? w _ hx323_0)).trans hx323_0
                 replace hx323_1 := (HB.out.cell (World.block_lt_of_cell? w _ hx323_1)).trans hx323_1
                 replace hx323_2 := (HB.out.cell (World.block_lt_of_cell? w _ hx323_2)).trans hx323_2
                 replace p323 := eq_true p323
                 replace q323 := eq_true q323
                 go_wp2_with (first | ((with_reducible refine gate_dst (N := 9) rfl ?_); (try (refine gate_guard (by rfl) ?_; dsimp only)); refine box_event ?hg (N := 9) ?hd (cs := #[.int .i64 0, .int .i64 0, .int .i64 0]) (t := 87) ?hr ?_; (case hd => rfl); (case hg => rfl); (case hr => first | (go_simp; done) | (go_simp; rfl)); intro gb324 hg w47 hbox hb; have n0_ := Aside0.mk (blk_below (g := gb313) (o := .cells #[.int .i64 a0_0, .slice (some ad323) l0_1.length c0_1] 50 (0, 0)) (by (with_reducible repeat (first | refine blk_drewN ?_ _ | refine blk_drew ?_ | refine blk_alloc ?_ _)); exact BK313.out) hb); have n1_ := Aside0.mk (below_step (by repeat (first | (with_reducible first | exact HB.out | apply below_alloc | apply pw_below_drewN | apply below_drew1 | refine below_set ?_ GE313.out) | exact HB.out)) hb); have n2_ := Aside0.mk (hbox); have n3_ := Aside0.mk ((by rw [hg]; exact (below_size (by repeat (first | (with_reducible first | exact HB.out | apply below_alloc | apply pw_below_drewN | apply below_drew1 | refine below_set ?_ GE313.out) | exact HB.out))) : w.heap.size ≤ gb324)); have n4_ := Aside0.mk ((by rw [hg]; exact (below_size (by repeat (first | (with_reducible first | exact HB.out | apply below_alloc | apply pw_below_drewN | apply below_drew1 | refine below_set ?_ GE313.out) | exact HB.out))) : w.heap.size ≤ gb324)); have n5_ := Aside0.mk ((by rw [hg]; exact Nat.ne_of_lt (blk_lt (g := gb313) (o := .cells #[.int .i64 a0_0, .slice (some ad323) l0_1.length c0_1] 50 (0, 0)) (by (with_reducible repeat (first | refine blk_drewN ?_ _ | refine blk_drew ?_ | refine blk_alloc ?_ _)); exact BK313.out)) : gb313 ≠ gb324)); have n6_ := Aside0.mk ((by rw [hg]; exact Nat.ne_of_gt (blk_lt (g := gb313) (o := .cells #[.int .i64 a0_0, .slice (some ad323) l0_1.length c0_1] 50 (0, 0)) (by (with_reducible repeat (first | refine blk_drewN ?_ _ | refine blk_drew ?_ | refine blk_alloc ?_ _)); exact BK313.out)) : gb324 ≠ gb313)); clear BK313; clear HB; have BK313 := n0_; have HB := n1_; have BK324 := n2_; have GW324 := n3_; have GE324 := n4_; have NB313_324 := n5_; have NB324_313 := n6_; clear n0_ n1_ n2_ n3_ n4_ n5_ n6_; clear hb hbox hg; have hnb48 := NB324_313.out; have hnc48 := NB313_324.out; have hcz49_0 : w47.cell? ⟨gb324, 0, none⟩ = some (.int .i64 0) := (blk_cell BK324.out 0).trans rfl; have hcz49_1 : w47.cell? ⟨gb324, 1, none⟩ = some (.int .i64 0) := (blk_cell BK324.out 1).trans rfl; have hcz49_2 : w47.cell? ⟨gb324, 2, none⟩ = some (.int .i64 0) := (blk_cell BK324.out 2).trans rfl; have hfz49_0 := blk_frozen BK324.out 0; have hfz49_1 := blk_frozen BK324.out 1; have hfz49_2 := blk_frozen BK324.out 2; have hcz50_0 : w47.cell? ⟨gb313, 0, none⟩ = some (.int .i64 a0_0) := (blk_cell BK313.out 0).trans rfl; have hcz50_1 : w47.cell? ⟨gb313, 1, none⟩ = some (.slice (some ad323) l0_1.length c0_1) := (blk_cell BK313.out 1).trans rfl; have hfz50_0 := blk_frozen BK313.out 0; have hfz50_1 := blk_frozen BK313.out 1) | (go_at_call 72; (with_reducible refine (deadboltref08_lighter.calls a0_0 _ _ l0_1 ((rd_T87 l0_1 x63_4).f1) ((rd_T87 l0_1 x63_4).f0) true _ ?side1 ?side2 A35.out).mono ?_); (case side1 => exact Kd.C_below HR0_1.out (by repeat (first | (with_reducible first | exact HB.out | apply below_alloc | apply pw_below_drewN | apply below_drew1 | refine below_set ?_ GE313.out | refine below_set ?_ GE324.out) | exact HB.out))); (case side2 => exact HC0_1.out); rintro e w51 ⟨rfl, hb⟩; have n0_ := Aside0.mk (blk_below (g := gb313) (o := .cells #[.int .i64 a0_0, .slice (some ad323) l0_1.length c0_1] 50 (0, 0)) (by (with_reducible repeat (first | refine blk_drewN ?_ _ | refine blk_drew ?_ | refine blk_alloc ?_ _)); refine blk_far ?_ NB313_324.out _; (with_reducible repeat (first | refine blk_drewN ?_ _ | refine blk_drew ?_ | refine blk_alloc ?_ _)); refine blk_far ?_ NB313_324.out _; (with_reducible repeat (first | refine blk_drewN ?_ _ | refine blk_drew ?_ | refine blk_alloc ?_ _)); refine blk_far ?_ NB313_324.out _; (with_reducible repeat (first | refine blk_drewN ?_ _ | refine blk_drew ?_ | refine blk_alloc ?_ _)); exact BK313.out) hb); have n1_ := Aside0.mk (blk_below (g := gb324) (o := .cells #[.int .i64 ((rd_T87 l0_1 x63_4).f0), .int .i64 ((rd_T87 l0_1 x63_4).f1), .int .i64 ((rd_T87 l0_1 x63_4).f2)] 87 (0, 0)) (by (with_reducible repeat (first | refine blk_drewN ?_ _ | refine blk_drew ?_ | refine blk_alloc ?_ _)); refine blk_put (cs := #[.int .i64 ((rd_T87 l0_1 x63_4).f0), .int .i64 ((rd_T87 l0_1 x63_4).f1), .int .i64 0]) ?_ 2 _ rfl; (with_reducible repeat (first | refine blk_drewN ?_ _ | refine blk_drew ?_ | refine blk_alloc ?_ _)); refine blk_put (cs := #[.int .i64 ((rd_T87 l0_1 x63_4).f0), .int .i64 0, .int .i64 0]) ?_ 1 _ rfl; (with_reducible repeat (first | refine blk_drewN ?_ _ | refine blk_drew ?_ | refine blk_alloc ?_ _)); refine blk_put (cs := #[.int .i64 0, .int .i64 0, .int .i64 0]) ?_ 0 _ rfl; (with_reducible repeat (first | refine blk_drewN ?_ _ | refine blk_drew ?_ | refine blk_alloc ?_ _)); exact BK324.out) hb); have n2_ := Aside0.mk (below_step (by repeat (first | (with_reducible first | exact HB.out | apply below_alloc | apply pw_below_drewN | apply below_drew1 | refine below_set ?_ GE313.out | refine below_set ?_ GE324.out) | exact HB.out)) hb); clear BK313; clear BK324; clear HB; have BK313 := n0_; have BK324 := n1_; have HB := n2_; clear n0_ n1_ n2_; (try clear hb); (try clear hb2); (try clear hk); (try clear hi); have hcz52_0 : w51.cell? ⟨gb313, 0, none⟩ = some (.int .i64 a0_0) := (blk_cell BK313.out 0).trans rfl; have hcz52_1 : w51.cell? ⟨gb313, 1, none⟩ = some (.slice (some ad323) l0_1.length c0_1) := (blk_cell BK313.out 1).trans rfl; have hfz52_0 := blk_frozen BK313.out 0; have hfz52_1 := blk_frozen BK313.out 1; have hcz53_0 : w51.cell? ⟨gb324, 0, none⟩ = some (.int .i64 ((rd_T87 l0_1 x63_4).f0)) := (blk_cell BK324.out 0).trans rfl; have hcz53_1 : w51.cell? ⟨gb324, 1, none⟩ = some (.int .i64 ((rd_T87 l0_1 x63_4).f1)) := (blk_cell BK324.out 1).trans rfl; have hcz53_2 : w51.cell? ⟨gb324, 2, none⟩ = some (.int .i64 ((rd_T87 l0_1 x63_4).f2)) := (blk_cell BK324.out 2).trans rfl; have hfz53_0 := blk_frozen BK324.out 0; have hfz53_1 := blk_frozen BK324.out 1; have hfz53_2 := blk_frozen BK324.out 2) | (go_at_call 72; (with_reducible refine (deadboltref08_lighter.calls a0_0 _ _ l0_1 ((rd_T87 l0_1 x63_4).f2) ((rd_T87 l0_1 x63_4).f0) false _ ?side1 ?side2 A37.out).mono ?_); (case side1 => repeat (first | exact (Kd.C_below HR0_1.out HB.out) | (with_reducible refine Kd.C_alloc ?_ _) | (with_reducible refine Kd.C_drewN ?_ _) | (with_reducible refine Kd.C_drew ?_))); (case side2 => exact HC0_1.out); rintro e w54 ⟨rfl, hb⟩; have n0_ := Aside0.mk (blk_below (g := gb313) (o := .cells #[.int .i64 a0_0, .slice (some ad323) l0_1.length c0_1] 50 (0, 0)) (by (with_reducible repeat (first | refine blk_drewN ?_ _ | refine blk_drew ?_ | refine blk_alloc ?_ _)); exact BK313.out) hb); have n1_ := Aside0.mk (blk_below (g := gb324) (o := .cells #[.int .i64 ((rd_T87 l0_1 x63_4).f0), .int .i64 ((rd_T87 l0_1 x63_4).f1), .int .i64 ((rd_T87 l0_1 x63_4).f2)] 87 (0, 0)) (by (with_reducible repeat (first | refine blk_drewN ?_ _ | refine blk_drew ?_ | refine blk_alloc ?_ _)); exact BK324.out) hb); have n2_ := Aside0.mk (below_step (by repeat (first | (with_reducible first | exact HB.out | apply below_alloc | apply pw_below_drewN | apply below_drew1 | refine below_set ?_ GE313.out | refine below_set ?_ GE324.out) | exact HB.out)) hb); clear BK313; clear BK324; clear HB; have BK313 := n0_; have BK324 := n1_; have HB := n2_; clear n0_ n1_ n2_; (try clear hb); (try clear hb2); (try clear hk); (try clear hi)))
                 repeat (go_quiet (first | ((with_reducible refine gate_dst (N := 9) rfl ?_); (try (refine gate_guard (by rfl) ?_; dsimp only)); refine box_event ?hg (N := 9) ?hd (cs := #[.int .i64 0, .int .i64 0, .int .i64 0]) (t := 87) ?hr ?_; (case hd => rfl); (case hg => rfl); (case hr => first | (go_simp; done) | (go_simp; rfl)); intro gb324 hg w47 hbox hb; have n0_ := Aside0.mk (blk_below (g := gb313) (o := .cells #[.int .i64 a0_0, .slice (some ad323) l0_1.length c0_1] 50 (0, 0)) (by (with_reducible repeat (first | refine blk_drewN ?_ _ | refine blk_drew ?_ | refine blk_alloc ?_ _)); exact BK313.out) hb); have n1_ := Aside0.mk (below_step (by repeat (first | (with_reducible first | exact HB.out | apply below_alloc | apply pw_below_drewN | apply below_drew1 | refine below_set ?_ GE313.out) | exact HB.out)) hb); have n2_ := Aside0.mk (hbox); have n3_ := Aside0.mk ((by rw [hg]; exact (below_size (by repeat (first | (with_reducible first | exact HB.out | apply below_alloc | apply pw_below_drewN | apply below_drew1 | refine below_set ?_ GE313.out) | exact HB.out))) : w.heap.size ≤ gb324)); have n4_ := Aside0.mk ((by rw [hg]; exact (below_size (by repeat (first | (with_reducible first | exact HB.out | apply below_alloc | apply pw_below_drewN | apply below_drew1 | refine below_set ?_ GE313.out) | exact HB.out))) : w.heap.size ≤ gb324)); have n5_ := Aside0.mk ((by rw [hg]; exact Nat.ne_of_lt (blk_lt (g := gb313) (o := .cells #[.int .i64 a0_0, .slice (some ad323) l0_1.length c0_1] 50 (0, 0)) (by (with_reducible repeat (first | refine blk_drewN ?_ _ | refine blk_drew ?_ | refine blk_alloc ?_ _)); exact BK313.out)) : gb313 ≠ gb324)); have n6_ := Aside0.mk ((by rw [hg]; exact Nat.ne_of_gt (blk_lt (g := gb313) (o := .cells #[.int .i64 a0_0, .slice (some ad323) l0_1.length c0_1] 50 (0, 0)) (by (with_reducible repeat (first | refine blk_drewN ?_ _ | refine blk_drew ?_ | refine blk_alloc ?_ _)); exact BK313.out)) : gb324 ≠ gb313)); clear BK313; clear HB; have BK313 := n0_; have HB := n1_; have BK324 := n2_; have GW324 := n3_; have GE324 := n4_; have NB313_324 := n5_; have NB324_313 := n6_; clear n0_ n1_ n2_ n3_ n4_ n5_ n6_; clear hb hbox hg; have hnb48 := NB324_313.out; have hnc48 := NB313_324.out; have hcz49_0 : w47.cell? ⟨gb324, 0, none⟩ = some (.int .i64 0) := (blk_cell BK324.out 0).trans rfl; have hcz49_1 : w47.cell? ⟨gb324, 1, none⟩ = some (.int .i64 0) := (blk_cell BK324.out 1).trans rfl; have hcz49_2 : w47.cell? ⟨gb324, 2, none⟩ = some (.int .i64 0) := (blk_cell BK324.out 2).trans rfl; have hfz49_0 := blk_frozen BK324.out 0; have hfz49_1 := blk_frozen BK324.out 1; have hfz49_2 := blk_frozen BK324.out 2; have hcz50_0 : w47.cell? ⟨gb313, 0, none⟩ = some (.int .i64 a0_0) := (blk_cell BK313.out 0).trans rfl; have hcz50_1 : w47.cell? ⟨gb313, 1, none⟩ = some (.slice (some ad323) l0_1.length c0_1) := (blk_cell BK313.out 1).trans rfl; have hfz50_0 := blk_frozen BK313.out 0; have hfz50_1 := blk_frozen BK313.out 1) | (go_at_call 72; (with_reducible refine (deadboltref08_lighter.calls a0_0 _ _ l0_1 ((rd_T87 l0_1 x63_4).f1) ((rd_T87 l0_1 x63_4).f0) true _ ?side1 ?side2 A35.out).mono ?_); (case side1 => exact Kd.C_below HR0_1.out (by repeat (first | (with_reducible first | exact HB.out | apply below_alloc | apply pw_below_drewN | apply below_drew1 | refine below_set ?_ GE313.out | refine below_set ?_ GE324.out) | exact HB.out))); (case side2 => exact HC0_1.out); rintro e w51 ⟨rfl, hb⟩; have n0_ := Aside0.mk (blk_below (g := gb313) (o := .cells #[.int .i64 a0_0, .slice (some ad323) l0_1.length c0_1] 50 (0, 0)) (by (with_reducible repeat (first | refine blk_drewN ?_ _ | refine blk_drew ?_ | refine blk_alloc ?_ _)); refine blk_far ?_ NB313_324.out _; (with_reducible repeat (first | refine blk_drewN ?_ _ | refine blk_drew ?_ | refine blk_alloc ?_ _)); refine blk_far ?_ NB313_324.out _; (with_reducible repeat (first | refine blk_drewN ?_ _ | refine blk_drew ?_ | refine blk_alloc ?_ _)); refine blk_far ?_ NB313_324.out _; (with_reducible repeat (first | refine blk_drewN ?_ _ | refine blk_drew ?_ | refine blk_alloc ?_ _)); exact BK313.out) hb); have n1_ := Aside0.mk (blk_below (g := gb324) (o := .cells #[.int .i64 ((rd_T87 l0_1 x63_4).f0), .int .i64 ((rd_T87 l0_1 x63_4).f1), .int .i64 ((rd_T87 l0_1 x63_4).f2)] 87 (0, 0)) (by (with_reducible repeat (first | refine blk_drewN ?_ _ | refine blk_drew ?_ | refine blk_alloc ?_ _)); refine blk_put (cs := #[.int .i64 ((rd_T87 l0_1 x63_4).f0), .int .i64 ((rd_T87 l0_1 x63_4).f1), .int .i64 0]) ?_ 2 _ rfl; (with_reducible repeat (first | refine blk_drewN ?_ _ | refine blk_drew ?_ | refine blk_alloc ?_ _)); refine blk_put (cs := #[.int .i64 ((rd_T87 l0_1 x63_4).f0), .int .i64 0, .int .i64 0]) ?_ 1 _ rfl; (with_reducible repeat (first | refine blk_drewN ?_ _ | refine blk_drew ?_ | refine blk_alloc ?_ _)); refine blk_put (cs := #[.int .i64 0, .int .i64 0, .int .i64 0]) ?_ 0 _ rfl; (with_reducible repeat (first | refine blk_drewN ?_ _ | refine blk_drew ?_ | refine blk_alloc ?_ _)); exact BK324.out) hb); have n2_ := Aside0.mk (below_step (by repeat (first | (with_reducible first | exact HB.out | apply below_alloc | apply pw_below_drewN | apply below_drew1 | refine below_set ?_ GE313.out | refine below_set ?_ GE324.out) | exact HB.out)) hb); clear BK313; clear BK324; clear HB; have BK313 := n0_; have BK324 := n1_; have HB := n2_; clear n0_ n1_ n2_; (try clear hb); (try clear hb2); (try clear hk); (try clear hi); have hcz52_0 : w51.cell? ⟨gb313, 0, none⟩ = some (.int .i64 a0_0) := (blk_cell BK313.out 0).trans rfl; have hcz52_1 : w51.cell? ⟨gb313, 1, none⟩ = some (.slice (some ad323) l0_1.length c0_1) := (blk_cell BK313.out 1).trans rfl; have hfz52_0 := blk_frozen BK313.out 0; have hfz52_1 := blk_frozen BK313.out 1; have hcz53_0 : w51.cell? ⟨gb324, 0, none⟩ = some (.int .i64 ((rd_T87 l0_1 x63_4).f0)) := (blk_cell BK324.out 0).trans rfl; have hcz53_1 : w51.cell? ⟨gb324, 1, none⟩ = some (.int .i64 ((rd_T87 l0_1 x63_4).f1)) := (blk_cell BK324.out 1).trans rfl; have hcz53_2 : w51.cell? ⟨gb324, 2, none⟩ = some (.int .i64 ((rd_T87 l0_1 x63_4).f2)) := (blk_cell BK324.out 2).trans rfl; have hfz53_0 := blk_frozen BK324.out 0; have hfz53_1 := blk_frozen BK324.out 1; have hfz53_2 := blk_frozen BK324.out 2) | (go_at_call 72; (with_reducible refine (deadboltref08_lighter.calls a0_0 _ _ l0_1 ((rd_T87 l0_1 x63_4).f2) ((rd_T87 l0_1 x63_4).f0) false _ ?side1 ?side2 A37.out).mono ?_); (case side1 => repeat (first | exact (Kd.C_below HR0_1.out HB.out) | (with_reducible refine Kd.C_alloc ?_ _) | (with_reducible refine Kd.C_drewN ?_ _) | (with_reducible refine Kd.C_drew ?_))); (case side2 => exact HC0_1.out); rintro e w54 ⟨rfl, hb⟩; have n0_ := Aside0.mk (blk_below (g := gb313) (o := .cells #[.int .i64 a0_0, .slice (some ad323) l0_1.length c0_1] 50 (0, 0)) (by (with_reducible repeat (first | refine blk_drewN ?_ _ | refine blk_drew ?_ | refine blk_alloc ?_ _)); exact BK313.out) hb); have n1_ := Aside0.mk (blk_below (g := gb324) (o := .cells #[.int .i64 ((rd_T87 l0_1 x63_4).f0), .int .i64 ((rd_T87 l0_1 x63_4).f1), .int .i64 ((rd_T87 l0_1 x63_4).f2)] 87 (0, 0)) (by (with_reducible repeat (first | refine blk_drewN ?_ _ | refine blk_drew ?_ | refine blk_alloc ?_ _)); exact BK324.out) hb); have n2_ := Aside0.mk (below_step (by repeat (first | (with_reducible first | exact HB.out | apply below_alloc | apply pw_below_drewN | apply below_drew1 | refine below_set ?_ GE313.out | refine below_set ?_ GE324.out) | exact HB.out)) hb); clear BK313; clear BK324; clear HB; have BK313 := n0_; have BK324 := n1_; have HB := n2_; clear n0_ n1_ n2_; (try clear hb); (try clear hb2); (try clear hk); (try clear hi))); try go_wp2_with (first | ((with_reducible refine gate_dst (N := 9) rfl ?_); (try (refine gate_guard (by rfl) ?_; dsimp only)); refine box_event ?hg (N := 9) ?hd (cs := #[.int .i64 0, .int .i64 0, .int .i64 0]) (t := 87) ?hr ?_; (case hd => rfl); (case hg => rfl); (case hr => first | (go_simp; done) | (go_simp; rfl)); intro gb324 hg w47 hbox hb; have n0_ := Aside0.mk (blk_below (g := gb313) (o := .cells #[.int .i64 a0_0, .slice (some ad323) l0_1.length c0_1] 50 (0, 0)) (by (with_reducible repeat (first | refine blk_drewN ?_ _ | refine blk_drew ?_ | refine blk_alloc ?_ _)); exact BK313.out) hb); have n1_ := Aside0.mk (below_step (by repeat (first | (with_reducible first | exact HB.out | apply below_alloc | apply pw_below_drewN | apply below_drew1 | refine below_set ?_ GE313.out) | exact HB.out)) hb); have n2_ := Aside0.mk (hbox); have n3_ := Aside0.mk ((by rw [hg]; exact (below_size (by repeat (first | (with_reducible first | exact HB.out | apply below_alloc | apply pw_below_drewN | apply below_drew1 | refine below_set ?_ GE313.out) | exact HB.out))) : w.heap.size ≤ gb324)); have n4_ := Aside0.mk ((by rw [hg]; exact (below_size (by repeat (first | (with_reducible first | exact HB.out | apply below_alloc | apply pw_below_drewN | apply below_drew1 | refine below_set ?_ GE313.out) | exact HB.out))) : w.heap.size ≤ gb324)); have n5_ := Aside0.mk ((by rw [hg]; exact Nat.ne_of_lt (blk_lt (g := gb313) (o := .cells #[.int .i64 a0_0, .slice (some ad323) l0_1.length c0_1] 50 (0, 0)) (by (with_reducible repeat (first | refine blk_drewN ?_ _ | refine blk_drew ?_ | refine blk_alloc ?_ _)); exact BK313.out)) : gb313 ≠ gb324)); have n6_ := Aside0.mk ((by rw [hg]; exact Nat.ne_of_gt (blk_lt (g := gb313) (o := .cells #[.int .i64 a0_0, .slice (some ad323) l0_1.length c0_1] 50 (0, 0)) (by (with_reducible repeat (first | refine blk_drewN ?_ _ | refine blk_drew ?_ | refine blk_alloc ?_ _)); exact BK313.out)) : gb324 ≠ gb313)); clear BK313; clear HB; have BK313 := n0_; have HB := n1_; have BK324 := n2_; have GW324 := n3_; have GE324 := n4_; have NB313_324 := n5_; have NB324_313 := n6_; clear n0_ n1_ n2_ n3_ n4_ n5_ n6_; clear hb hbox hg; have hnb48 := NB324_313.out; have hnc48 := NB313_324.out; have hcz49_0 : w47.cell? ⟨gb324, 0, none⟩ = some (.int .i64 0) := (blk_cell BK324.out 0).trans rfl; have hcz49_1 : w47.cell? ⟨gb324, 1, none⟩ = some (.int .i64 0) := (blk_cell BK324.out 1).trans rfl; have hcz49_2 : w47.cell? ⟨gb324, 2, none⟩ = some (.int .i64 0) := (blk_cell BK324.out 2).trans rfl; have hfz49_0 := blk_frozen BK324.out 0; have hfz49_1 := blk_frozen BK324.out 1; have hfz49_2 := blk_frozen BK324.out 2; have hcz50_0 : w47.cell? ⟨gb313, 0, none⟩ = some (.int .i64 a0_0) := (blk_cell BK313.out 0).trans rfl; have hcz50_1 : w47.cell? ⟨gb313, 1, none⟩ = some (.slice (some ad323) l0_1.length c0_1) := (blk_cell BK313.out 1).trans rfl; have hfz50_0 := blk_frozen BK313.out 0; have hfz50_1 := blk_frozen BK313.out 1) | (go_at_call 72; (with_reducible refine (deadboltref08_lighter.calls a0_0 _ _ l0_1 ((rd_T87 l0_1 x63_4).f1) ((rd_T87 l0_1 x63_4).f0) true _ ?side1 ?side2 A35.out).mono ?_); (case side1 => exact Kd.C_below HR0_1.out (by repeat (first | (with_reducible first | exact HB.out | apply below_alloc | apply pw_below_drewN | apply below_drew1 | refine below_set ?_ GE313.out | refine below_set ?_ GE324.out) | exact HB.out))); (case side2 => exact HC0_1.out); rintro e w51 ⟨rfl, hb⟩; have n0_ := Aside0.mk (blk_below (g := gb313) (o := .cells #[.int .i64 a0_0, .slice (some ad323) l0_1.length c0_1] 50 (0, 0)) (by (with_reducible repeat (first | refine blk_drewN ?_ _ | refine blk_drew ?_ | refine blk_alloc ?_ _)); refine blk_far ?_ NB313_324.out _; (with_reducible repeat (first | refine blk_drewN ?_ _ | refine blk_drew ?_ | refine blk_alloc ?_ _)); refine blk_far ?_ NB313_324.out _; (with_reducible repeat (first | refine blk_drewN ?_ _ | refine blk_drew ?_ | refine blk_alloc ?_ _)); refine blk_far ?_ NB313_324.out _; (with_reducible repeat (first | refine blk_drewN ?_ _ | refine blk_drew ?_ | refine blk_alloc ?_ _)); exact BK313.out) hb); have n1_ := Aside0.mk (blk_below (g := gb324) (o := .cells #[.int .i64 ((rd_T87 l0_1 x63_4).f0), .int .i64 ((rd_T87 l0_1 x63_4).f1), .int .i64 ((rd_T87 l0_1 x63_4).f2)] 87 (0, 0)) (by (with_reducible repeat (first | refine blk_drewN ?_ _ | refine blk_drew ?_ | refine blk_alloc ?_ _)); refine blk_put (cs := #[.int .i64 ((rd_T87 l0_1 x63_4).f0), .int .i64 ((rd_T87 l0_1 x63_4).f1), .int .i64 0]) ?_ 2 _ rfl; (with_reducible repeat (first | refine blk_drewN ?_ _ | refine blk_drew ?_ | refine blk_alloc ?_ _)); refine blk_put (cs := #[.int .i64 ((rd_T87 l0_1 x63_4).f0), .int .i64 0, .int .i64 0]) ?_ 1 _ rfl; (with_reducible repeat (first | refine blk_drewN ?_ _ | refine blk_drew ?_ | refine blk_alloc ?_ _)); refine blk_put (cs := #[.int .i64 0, .int .i64 0, .int .i64 0]) ?_ 0 _ rfl; (with_reducible repeat (first | refine blk_drewN ?_ _ | refine blk_drew ?_ | refine blk_alloc ?_ _)); exact BK324.out) hb); have n2_ := Aside0.mk (below_step (by repeat (first | (with_reducible first | exact HB.out | apply below_alloc | apply pw_below_drewN | apply below_drew1 | refine below_set ?_ GE313.out | refine below_set ?_ GE324.out) | exact HB.out)) hb); clear BK313; clear BK324; clear HB; have BK313 := n0_; have BK324 := n1_; have HB := n2_; clear n0_ n1_ n2_; (try clear hb); (try clear hb2); (try clear hk); (try clear hi); have hcz52_0 : w51.cell? ⟨gb313, 0, none⟩ = some (.int .i64 a0_0) := (blk_cell BK313.out 0).trans rfl; have hcz52_1 : w51.cell? ⟨gb313, 1, none⟩ = some (.slice (some ad323) l0_1.length c0_1) := (blk_cell BK313.out 1).trans rfl; have hfz52_0 := blk_frozen BK313.out 0; have hfz52_1 := blk_frozen BK313.out 1; have hcz53_0 : w51.cell? ⟨gb324, 0, none⟩ = some (.int .i64 ((rd_T87 l0_1 x63_4).f0)) := (blk_cell BK324.out 0).trans rfl; have hcz53_1 : w51.cell? ⟨gb324, 1, none⟩ = some (.int .i64 ((rd_T87 l0_1 x63_4).f1)) := (blk_cell BK324.out 1).trans rfl; have hcz53_2 : w51.cell? ⟨gb324, 2, none⟩ = some (.int .i64 ((rd_T87 l0_1 x63_4).f2)) := (blk_cell BK324.out 2).trans rfl; have hfz53_0 := blk_frozen BK324.out 0; have hfz53_1 := blk_frozen BK324.out 1; have hfz53_2 := blk_frozen BK324.out 2) | (go_at_call 72; (with_reducible refine (deadboltref08_lighter.calls a0_0 _ _ l0_1 ((rd_T87 l0_1 x63_4).f2) ((rd_T87 l0_1 x63_4).f0) false _ ?side1 ?side2 A37.out).mono ?_); (case side1 => repeat (first | exact (Kd.C_below HR0_1.out HB.out) | (with_reducible refine Kd.C_alloc ?_ _) | (with_reducible refine Kd.C_drewN ?_ _) | (with_reducible refine Kd.C_drew ?_))); (case side2 => exact HC0_1.out); rintro e w54 ⟨rfl, hb⟩; have n0_ := Aside0.mk (blk_below (g := gb313) (o := .cells #[.int .i64 a0_0, .slice (some ad323) l0_1.length c0_1] 50 (0, 0)) (by (with_reducible repeat (first | refine blk_drewN ?_ _ | refine blk_drew ?_ | refine blk_alloc ?_ _)); exact BK313.out) hb); have n1_ := Aside0.mk (blk_below (g := gb324) (o := .cells #[.int .i64 ((rd_T87 l0_1 x63_4).f0), .int .i64 ((rd_T87 l0_1 x63_4).f1), .int .i64 ((rd_T87 l0_1 x63_4).f2)] 87 (0, 0)) (by (with_reducible repeat (first | refine blk_drewN ?_ _ | refine blk_drew ?_ | refine blk_alloc ?_ _)); exact BK324.out) hb); have n2_ := Aside0.mk (below_step (by repeat (first | (with_reducible first | exact HB.out | apply below_alloc | apply pw_below_drewN | apply below_drew1 | refine below_set ?_ GE313.out | refine below_set ?_ GE324.out) | exact HB.out)) hb); clear BK313; clear BK324; clear HB; have BK313 := n0_; have BK324 := n1_; have HB := n2_; clear n0_ n1_ n2_; (try clear hb); (try clear hb2); (try clear hk); (try clear hi))))
                 go_ret
                 exact ⟨by first | rfl | (simp [errW_none, errW_some] <;> rfl) | (simp [*, errW_none, errW_some] <;> rfl), by repeat (first | (with_reducible first | exact HB.out | apply below_alloc | apply pw_below_drewN | apply below_drew1 | refine below_set ?_ GE313.out | refine below_set ?_ GE324.out) | exact HB.out)⟩
               ·replace c36 := Bool.eq_false_iff.mpr c36
                subst c36
                have H1 : (some false) = some r := by rw [if_neg (show ¬ (false = true) by decide)] at H; exact H
                clear H
                have H := H1
                clear H1
                obtain rfl := Option.some.inj H
                have p323 : 0 ≤ (x63_4 : Int) := of_decide_eq_true (by first | (with_reducible assumption) | assumption)
                have q323 : x63_4 < (l0_1.length : Int) := of_decide_eq_true (by first | (with_reducible assumption) | assumption)
                obtain ⟨ad323, e323, hx323_0, hx323_1, hx323_2⟩ := at_T87 HR0_1.out x63_4 p323 q323
                cases e323
                replace hx323_0 := (HB.out.cell (World.block_lt_of_cell? w _ hx323_0)).trans hx323_0
                replace hx323_1 := (HB.out.cell (World.block_lt_of_cell? w _ hx323_1)).trans hx323_1
                replace hx323_2 := (HB.out.cell (World.block_lt_of_cell? w _ hx323_2)).trans hx323_2
                replace p323 := eq_true p323
                replace q323 := eq_true q323
                go_wp2_with (first | ((with_reducible refine gate_dst (N := 9) rfl ?_); (try (refine gate_guard (by rfl) ?_; dsimp only)); refine box_event ?hg (N := 9) ?hd (cs := #[.int .i64 0, .int .i64 0, .int .i64 0]) (t := 87) ?hr ?_; (case hd => rfl); (case hg => rfl); (case hr => first | (go_simp; done) | (go_simp; rfl)); intro gb324 hg w55 hbox hb; have n0_ := Aside0.mk (blk_below (g := gb313) (o := .cells #[.int .i64 a0_0, .slice (some ad323) l0_1.length c0_1] 50 (0, 0)) (by (with_reducible repeat (first | refine blk_drewN ?_ _ | refine blk_drew ?_ | refine blk_alloc ?_ _)); exact BK313.out) hb); have n1_ := Aside0.mk (below_step (by repeat (first | (with_reducible first | exact HB.out | apply below_alloc | apply pw_below_drewN | apply below_drew1 | refine below_set ?_ GE313.out) | exact HB.out)) hb); have n2_ := Aside0.mk (hbox); have n3_ := Aside0.mk ((by rw [hg]; exact (below_size (by repeat (first | (with_reducible first | exact HB.out | apply below_alloc | apply pw_below_drewN | apply below_drew1 | refine below_set ?_ GE313.out) | exact HB.out))) : w.heap.size ≤ gb324)); have n4_ := Aside0.mk ((by rw [hg]; exact (below_size (by repeat (first | (with_reducible first | exact HB.out | apply below_alloc | apply pw_below_drewN | apply below_drew1 | refine below_set ?_ GE313.out) | exact HB.out))) : w.heap.size ≤ gb324)); have n5_ := Aside0.mk ((by rw [hg]; exact Nat.ne_of_lt (blk_lt (g := gb313) (o := .cells #[.int .i64 a0_0, .slice (some ad323) l0_1.length c0_1] 50 (0, 0)) (by (with_reducible repeat (first | refine blk_drewN ?_ _ | refine blk_drew ?_ | refine blk_alloc ?_ _)); exact BK313.out)) : gb313 ≠ gb324)); have n6_ := Aside0.mk ((by rw [hg]; exact Nat.ne_of_gt (blk_lt (g := gb313) (o := .cells #[.int .i64 a0_0, .slice (some ad323) l0_1.length c0_1] 50 (0, 0)) (by (with_reducible repeat (first | refine blk_drewN ?_ _ | refine blk_drew ?_ | refine blk_alloc ?_ _)); exact BK313.out)) : gb324 ≠ gb313)); clear BK313; clear HB; have BK313 := n0_; have HB := n1_; have BK324 := n2_; have GW324 := n3_; have GE324 := n4_; have NB313_324 := n5_; have NB324_313 := n6_; clear n0_ n1_ n2_ n3_ n4_ n5_ n6_; clear hb hbox hg; have hnb56 := NB324_313.out; have hnc56 := NB313_324.out; have hcz57_0 : w55.cell? ⟨gb324, 0, none⟩ = some (.int .i64 0) := (blk_cell BK324.out 0).trans rfl; have hcz57_1 : w55.cell? ⟨gb324, 1, none⟩ = some (.int .i64 0) := (blk_cell BK324.out 1).trans rfl; have hcz57_2 : w55.cell? ⟨gb324, 2, none⟩ = some (.int .i64 0) := (blk_cell BK324.out 2).trans rfl; have hfz57_0 := blk_frozen BK324.out 0; have hfz57_1 := blk_frozen BK324.out 1; have hfz57_2 := blk_frozen BK324.out 2; have hcz58_0 : w55.cell? ⟨gb313, 0, none⟩ = some (.int .i64 a0_0) := (blk_cell BK313.out 0).trans rfl; have hcz58_1 : w55.cell? ⟨gb313, 1, none⟩ = some (.slice (some ad323) l0_1.length c0_1) := (blk_cell BK313.out 1).trans rfl; have hfz58_0 := blk_frozen BK313.out 0; have hfz58_1 := blk_frozen BK313.out 1) | (go_at_call 72; (with_reducible refine (deadboltref08_lighter.calls a0_0 _ _ l0_1 ((rd_T87 l0_1 x63_4).f1) ((rd_T87 l0_1 x63_4).f0) false _ ?side1 ?side2 A35.out).mono ?_); (case side1 => exact Kd.C_below HR0_1.out (by repeat (first | (with_reducible first | exact HB.out | apply below_alloc | apply pw_below_drewN | apply below_drew1 | refine below_set ?_ GE313.out | refine below_set ?_ GE324.out) | exact HB.out))); (case side2 => exact HC0_1.out); rintro e w59 ⟨rfl, hb⟩; have n0_ := Aside0.mk (blk_below (g := gb313) (o := .cells #[.int .i64 a0_0, .slice (some ad323) l0_1.length c0_1] 50 (0, 0)) (by (with_reducible repeat (first | refine blk_drewN ?_ _ | refine blk_drew ?_ | refine blk_alloc ?_ _)); refine blk_far ?_ NB313_324.out _; (with_reducible repeat (first | refine blk_drewN ?_ _ | refine blk_drew ?_ | refine blk_alloc ?_ _)); refine blk_far ?_ NB313_324.out _; (with_reducible repeat (first | refine blk_drewN ?_ _ | refine blk_drew ?_ | refine blk_alloc ?_ _)); refine blk_far ?_ NB313_324.out _; (with_reducible repeat (first | refine blk_drewN ?_ _ | refine blk_drew ?_ | refine blk_alloc ?_ _)); exact BK313.out) hb); have n1_ := Aside0.mk (blk_below (g := gb324) (o := .cells #[.int .i64 ((rd_T87 l0_1 x63_4).f0), .int .i64 ((rd_T87 l0_1 x63_4).f1), .int .i64 ((rd_T87 l0_1 x63_4).f2)] 87 (0, 0)) (by (with_reducible repeat (first | refine blk_drewN ?_ _ | refine blk_drew ?_ | refine blk_alloc ?_ _)); refine blk_put (cs := #[.int .i64 ((rd_T87 l0_1 x63_4).f0), .int .i64 ((rd_T87 l0_1 x63_4).f1), .int .i64 0]) ?_ 2 _ rfl; (with_reducible repeat (first | refine blk_drewN ?_ _ | refine blk_drew ?_ | refine blk_alloc ?_ _)); refine blk_put (cs := #[.int .i64 ((rd_T87 l0_1 x63_4).f0), .int .i64 0, .int .i64 0]) ?_ 1 _ rfl; (with_reducible repeat (first | refine blk_drewN ?_ _ | refine blk_drew ?_ | refine blk_alloc ?_ _)); refine blk_put (cs := #[.int .i64 0, .int .i64 0, .int .i64 0]) ?_ 0 _ rfl; (with_reducible repeat (first | refine blk_drewN ?_ _ | refine blk_drew ?_ | refine blk_alloc ?_ _)); exact BK324.out) hb); have n2_ := Aside0.mk (below_step (by repeat (first | (with_reducible first | exact HB.out | apply below_alloc | apply pw_below_drewN | apply below_drew1 | refine below_set ?_ GE313.out | refine below_set ?_ GE324.out) | exact HB.out)) hb); clear BK313; clear BK324; clear HB; have BK313 := n0_; have BK324 := n1_; have HB := n2_; clear n0_ n1_ n2_; (try clear hb); (try clear hb2); (try clear hk); (try clear hi)))
                repeat (go_quiet (first | ((with_reducible refine gate_dst (N := 9) rfl ?_); (try (refine gate_guard (by rfl) ?_; dsimp only)); refine box_event ?hg (N := 9) ?hd (cs := #[.int .i64 0, .int .i64 0, .int .i64 0]) (t := 87) ?hr ?_; (case hd => rfl); (case hg => rfl); (case hr => first | (go_simp; done) | (go_simp; rfl)); intro gb324 hg w55 hbox hb; have n0_ := Aside0.mk (blk_below (g := gb313) (o := .cells #[.int .i64 a0_0, .slice (some ad323) l0_1.length c0_1] 50 (0, 0)) (by (with_reducible repeat (first | refine blk_drewN ?_ _ | refine blk_drew ?_ | refine blk_alloc ?_ _)); exact BK313.out) hb); have n1_ := Aside0.mk (below_step (by repeat (first | (with_reducible first | exact HB.out | apply below_alloc | apply pw_below_drewN | apply below_drew1 | refine below_set ?_ GE313.out) | exact HB.out)) hb); have n2_ := Aside0.mk (hbox); have n3_ := Aside0.mk ((by rw [hg]; exact (below_size (by repeat (first | (with_reducible first | exact HB.out | apply below_alloc | apply pw_below_drewN | apply below_drew1 | refine below_set ?_ GE313.out) | exact HB.out))) : w.heap.size ≤ gb324)); have n4_ := Aside0.mk ((by rw [hg]; exact (below_size (by repeat (first | (with_reducible first | exact HB.out | apply below_alloc | apply pw_below_drewN | apply below_drew1 | refine below_set ?_ GE313.out) | exact HB.out))) : w.heap.size ≤ gb324)); have n5_ := Aside0.mk ((by rw [hg]; exact Nat.ne_of_lt (blk_lt (g := gb313) (o := .cells #[.int .i64 a0_0, .slice (some ad323) l0_1.length c0_1] 50 (0, 0)) (by (with_reducible repeat (first | refine blk_drewN ?_ _ | refine blk_drew ?_ | refine blk_alloc ?_ _)); exact BK313.out)) : gb313 ≠ gb324)); have n6_ := Aside0.mk ((by rw [hg]; exact Nat.ne_of_gt (blk_lt (g := gb313) (o := .cells #[.int .i64 a0_0, .slice (some ad323) l0_1.length c0_1] 50 (0, 0)) (by (with_reducible repeat (first | refine blk_drewN ?_ _ | refine blk_drew ?_ | refine blk_alloc ?_ _)); exact BK313.out)) : gb324 ≠ gb313)); clear BK313; clear HB; have BK313 := n0_; have HB := n1_; have BK324 := n2_; have GW324 := n3_; have GE324 := n4_; have NB313_324 := n5_; have NB324_313 := n6_; clear n0_ n1_ n2_ n3_ n4_ n5_ n6_; clear hb hbox hg; have hnb56 := NB324_313.out; have hnc56 := NB313_324.out; have hcz57_0 : w55.cell? ⟨gb324, 0, none⟩ = some (.int .i64 0) := (blk_cell BK324.out 0).trans rfl; have hcz57_1 : w55.cell? ⟨gb324, 1, none⟩ = some (.int .i64 0) := (blk_cell BK324.out 1).trans rfl; have hcz57_2 : w55.cell? ⟨gb324, 2, none⟩ = some (.int .i64 0) := (blk_cell BK324.out 2).trans rfl; have hfz57_0 := blk_frozen BK324.out 0; have hfz57_1 := blk_frozen BK324.out 1; have hfz57_2 := blk_frozen BK324.out 2; have hcz58_0 : w55.cell? ⟨gb313, 0, none⟩ = some (.int .i64 a0_0) := (blk_cell BK313.out 0).trans rfl; have hcz58_1 : w55.cell? ⟨gb313, 1, none⟩ = some (.slice (some ad323) l0_1.length c0_1) := (blk_cell BK313.out 1).trans rfl; have hfz58_0 := blk_frozen BK313.out 0; have hfz58_1 := blk_frozen BK313.out 1) | (go_at_call 72; (with_reducible refine (deadboltref08_lighter.calls a0_0 _ _ l0_1 ((rd_T87 l0_1 x63_4).f1) ((rd_T87 l0_1 x63_4).f0) false _ ?side1 ?side2 A35.out).mono ?_); (case side1 => exact Kd.C_below HR0_1.out (by repeat (first | (with_reducible first | exact HB.out | apply below_alloc | apply pw_below_drewN | apply below_drew1 | refine below_set ?_ GE313.out | refine below_set ?_ GE324.out) | exact HB.out))); (case side2 => exact HC0_1.out); rintro e w59 ⟨rfl, hb⟩; have n0_ := Aside0.mk (blk_below (g := gb313) (o := .cells #[.int .i64 a0_0, .slice (some ad323) l0_1.length c0_1] 50 (0, 0)) (by (with_reducible repeat (first | refine blk_drewN ?_ _ | refine blk_drew ?_ | refine blk_alloc ?_ _)); refine blk_far ?_ NB313_324.out _; (with_reducible repeat (first | refine blk_drewN ?_ _ | refine blk_drew ?_ | refine blk_alloc ?_ _)); refine blk_far ?_ NB313_324.out _; (with_reducible repeat (first | refine blk_drewN ?_ _ | refine blk_drew ?_ | refine blk_alloc ?_ _)); refine blk_far ?_ NB313_324.out _; (with_reducible repeat (first | refine blk_drewN ?_ _ | refine blk_drew ?_ | refine blk_alloc ?_ _)); exact BK313.out) hb); have n1_ := Aside0.mk (blk_below (g := gb324) (o := .cells #[.int .i64 ((rd_T87 l0_1 x63_4).f0), .int .i64 ((rd_T87 l0_1 x63_4).f1), .int .i64 ((rd_T87 l0_1 x63_4).f2)] 87 (0, 0)) (by (with_reducible repeat (first | refine blk_drewN ?_ _ | refine blk_drew ?_ | refine blk_alloc ?_ _)); refine blk_put (cs := #[.int .i64 ((rd_T87 l0_1 x63_4).f0), .int .i64 ((rd_T87 l0_1 x63_4).f1), .int .i64 0]) ?_ 2 _ rfl; (with_reducible repeat (first | refine blk_drewN ?_ _ | refine blk_drew ?_ | refine blk_alloc ?_ _)); refine blk_put (cs := #[.int .i64 ((rd_T87 l0_1 x63_4).f0), .int .i64 0, .int .i64 0]) ?_ 1 _ rfl; (with_reducible repeat (first | refine blk_drewN ?_ _ | refine blk_drew ?_ | refine blk_alloc ?_ _)); refine blk_put (cs := #[.int .i64 0, .int .i64 0, .int .i64 0]) ?_ 0 _ rfl; (with_reducible repeat (first | refine blk_drewN ?_ _ | refine blk_drew ?_ | refine blk_alloc ?_ _)); exact BK324.out) hb); have n2_ := Aside0.mk (below_step (by repeat (first | (with_reducible first | exact HB.out | apply below_alloc | apply pw_below_drewN | apply below_drew1 | refine below_set ?_ GE313.out | refine below_set ?_ GE324.out) | exact HB.out)) hb); clear BK313; clear BK324; clear HB; have BK313 := n0_; have BK324 := n1_; have HB := n2_; clear n0_ n1_ n2_; (try clear hb); (try clear hb2); (try clear hk); (try clear hi))); try go_wp2_with (first | ((with_reducible refine gate_dst (N := 9) rfl ?_); (try (refine gate_guard (by rfl) ?_; dsimp only)); refine box_event ?hg (N := 9) ?hd (cs := #[.int .i64 0, .int .i64 0, .int .i64 0]) (t := 87) ?hr ?_; (case hd => rfl); (case hg => rfl); (case hr => first | (go_simp; done) | (go_simp; rfl)); intro gb324 hg w55 hbox hb; have n0_ := Aside0.mk (blk_below (g := gb313) (o := .cells #[.int .i64 a0_0, .slice (some ad323) l0_1.length c0_1] 50 (0, 0)) (by (with_reducible repeat (first | refine blk_drewN ?_ _ | refine blk_drew ?_ | refine blk_alloc ?_ _)); exact BK313.out) hb); have n1_ := Aside0.mk (below_step (by repeat (first | (with_reducible first | exact HB.out | apply below_alloc | apply pw_below_drewN | apply below_drew1 | refine below_set ?_ GE313.out) | exact HB.out)) hb); have n2_ := Aside0.mk (hbox); have n3_ := Aside0.mk ((by rw [hg]; exact (below_size (by repeat (first | (with_reducible first | exact HB.out | apply below_alloc | apply pw_below_drewN | apply below_drew1 | refine below_set ?_ GE313.out) | exact HB.out))) : w.heap.size ≤ gb324)); have n4_ := Aside0.mk ((by rw [hg]; exact (below_size (by repeat (first | (with_reducible first | exact HB.out | apply below_alloc | apply pw_below_drewN | apply below_drew1 | refine below_set ?_ GE313.out) | exact HB.out))) : w.heap.size ≤ gb324)); have n5_ := Aside0.mk ((by rw [hg]; exact Nat.ne_of_lt (blk_lt (g := gb313) (o := .cells #[.int .i64 a0_0, .slice (some ad323) l0_1.length c0_1] 50 (0, 0)) (by (with_reducible repeat (first | refine blk_drewN ?_ _ | refine blk_drew ?_ | refine blk_alloc ?_ _)); exact BK313.out)) : gb313 ≠ gb324)); have n6_ := Aside0.mk ((by rw [hg]; exact Nat.ne_of_gt (blk_lt (g := gb313) (o := .cells #[.int .i64 a0_0, .slice (some ad323) l0_1.length c0_1] 50 (0, 0)) (by (with_reducible repeat (first | refine blk_drewN ?_ _ | refine blk_drew ?_ | refine blk_alloc ?_ _)); exact BK313.out)) : gb324 ≠ gb313)); clear BK313; clear HB; have BK313 := n0_; have HB := n1_; have BK324 := n2_; have GW324 := n3_; have GE324 := n4_; have NB313_324 := n5_; have NB324_313 := n6_; clear n0_ n1_ n2_ n3_ n4_ n5_ n6_; clear hb hbox hg; have hnb56 := NB324_313.out; have hnc56 := NB313_324.out; have hcz57_0 : w55.cell? ⟨gb324, 0, none⟩ = some (.int .i64 0) := (blk_cell BK324.out 0).trans rfl; have hcz57_1 : w55.cell? ⟨gb324, 1, none⟩ = some (.int .i64 0) := (blk_cell BK324.out 1).trans rfl; have hcz57_2 : w55.cell? ⟨gb324, 2, none⟩ = some (.int .i64 0) := (blk_cell BK324.out 2).trans rfl; have hfz57_0 := blk_frozen BK324.out 0; have hfz57_1 := blk_frozen BK324.out 1; have hfz57_2 := blk_frozen BK324.out 2; have hcz58_0 : w55.cell? ⟨gb313, 0, none⟩ = some (.int .i64 a0_0) := (blk_cell BK313.out 0).trans rfl; have hcz58_1 : w55.cell? ⟨gb313, 1, none⟩ = some (.slice (some ad323) l0_1.length c0_1) := (blk_cell BK313.out 1).trans rfl; have hfz58_0 := blk_frozen BK313.out 0; have hfz58_1 := blk_frozen BK313.out 1) | (go_at_call 72; (with_reducible refine (deadboltref08_lighter.calls a0_0 _ _ l0_1 ((rd_T87 l0_1 x63_4).f1) ((rd_T87 l0_1 x63_4).f0) false _ ?side1 ?side2 A35.out).mono ?_); (case side1 => exact Kd.C_below HR0_1.out (by repeat (first | (with_reducible first | exact HB.out | apply below_alloc | apply pw_below_drewN | apply below_drew1 | refine below_set ?_ GE313.out | refine below_set ?_ GE324.out) | exact HB.out))); (case side2 => exact HC0_1.out); rintro e w59 ⟨rfl, hb⟩; have n0_ := Aside0.mk (blk_below (g := gb313) (o := .cells #[.int .i64 a0_0, .slice (some ad323) l0_1.length c0_1] 50 (0, 0)) (by (with_reducible repeat (first | refine blk_drewN ?_ _ | refine blk_drew ?_ | refine blk_alloc ?_ _)); refine blk_far ?_ NB313_324.out _; (with_reducible repeat (first | refine blk_drewN ?_ _ | refine blk_drew ?_ | refine blk_alloc ?_ _)); refine blk_far ?_ NB313_324.out _; (with_reducible repeat (first | refine blk_drewN ?_ _ | refine blk_drew ?_ | refine blk_alloc ?_ _)); refine blk_far ?_ NB313_324.out _; (with_reducible repeat (first | refine blk_drewN ?_ _ | refine blk_drew ?_ | refine blk_alloc ?_ _)); exact BK313.out) hb); have n1_ := Aside0.mk (blk_below (g := gb324) (o := .cells #[.int .i64 ((rd_T87 l0_1 x63_4).f0), .int .i64 ((rd_T87 l0_1 x63_4).f1), .int .i64 ((rd_T87 l0_1 x63_4).f2)] 87 (0, 0)) (by (with_reducible repeat (first | refine blk_drewN ?_ _ | refine blk_drew ?_ | refine blk_alloc ?_ _)); refine blk_put (cs := #[.int .i64 ((rd_T87 l0_1 x63_4).f0), .int .i64 ((rd_T87 l0_1 x63_4).f1), .int .i64 0]) ?_ 2 _ rfl; (with_reducible repeat (first | refine blk_drewN ?_ _ | refine blk_drew ?_ | refine blk_alloc ?_ _)); refine blk_put (cs := #[.int .i64 ((rd_T87 l0_1 x63_4).f0), .int .i64 0, .int .i64 0]) ?_ 1 _ rfl; (with_reducible repeat (first | refine blk_drewN ?_ _ | refine blk_drew ?_ | refine blk_alloc ?_ _)); refine blk_put (cs := #[.int .i64 0, .int .i64 0, .int .i64 0]) ?_ 0 _ rfl; (with_reducible repeat (first | refine blk_drewN ?_ _ | refine blk_drew ?_ | refine blk_alloc ?_ _)); exact BK324.out) hb); have n2_ := Aside0.mk (below_step (by repeat (first | (with_reducible first | exact HB.out | apply below_alloc | apply pw_below_drewN | apply below_drew1 | refine below_set ?_ GE313.out | refine below_set ?_ GE324.out) | exact HB.out)) hb); clear BK313; clear BK324; clear HB; have BK313 := n0_; have BK324 := n1_; have HB := n2_; clear n0_ n1_ n2_; (try clear hb); (try clear hb2); (try clear hk); (try clear hi))))
                go_ret
                exact ⟨by first | rfl | (simp [errW_none, errW_some] <;> rfl) | (simp [*, errW_none, errW_some] <;> rfl), by repeat (first | (with_reducible first | exact HB.out | apply below_alloc | apply pw_below_drewN | apply below_drew1 | refine below_set ?_ GE313.out | refine below_set ?_ GE324.out) | exact HB.out)⟩
              ·rw [if_neg c34] at H
               exact absurd H (by simp)
             ·rw [if_neg c33] at H
              exact absurd H (by simp)
            ·rw [if_neg c32] at H
             have c32b0 : decide (x63_4 < (l0_1.length : Int)) = false := decide_eq_false c32
             clear c32
             obtain rfl := Option.some.inj H
             go_wp2
             repeat (go_quiet (fail); try go_wp2)
             go_ret
             exact ⟨by first | rfl | (simp [errW_none, errW_some] <;> rfl) | (simp [*, errW_none, errW_some] <;> rfl), by repeat (first | (with_reducible first | exact HB.out | apply below_alloc | apply pw_below_drewN | apply below_drew1 | refine below_set ?_ GE313.out) | exact HB.out)⟩

end Go.Proofs.Ytjdjmhagafmkaaa.PX

namespace Go.Proofs.Ytjdjmhagafmkaaa.PX
open Go.RowKit Go.Proofs.YtjdjmhagafmkaaaW.PrintWords Go.Proofs.YtjdjmhagafmkaaaW.PrintLast Go.Proofs.YtjdjmhagafmkaaaW.PrintMore
attribute [local go_sem] max2_int min2_int max_two min_two max_three min_three max_four min_four   -- for this text's walks alone
set_option linter.unusedVariables false
set_option linter.unusedSimpArgs false

/-! ### deadboltref08_Keys: function 40 -/
def deadboltref08_Keys.f (k : Nat) (a0_0 : Int) (l0_1 : List (S87)) : Option (List Int) := (deadboltref08_walk.f k a0_0 l0_1 a0_0 (l0_1.length : Int)).bind fun bt328 => (some bt328.1)
theorem deadboltref08_Keys.mono : ∀ a0 a1 k, LeO (deadboltref08_Keys.f k a0 a1) (deadboltref08_Keys.f (k + 1) a0 a1) := by
 intro a0 a1 k
 unfold deadboltref08_Keys.f
 repeat' first
   | (with_reducible exact deadboltref08_walk.mono _ _ _ _ _)
   | (with_reducible exact LeO.refl _)
   | (with_reducible exact LeO.none _)
   | (with_reducible refine LeO.ite ?_ ?_)
   | (with_reducible refine LeO.bind ?_ (fun _ => ?_))
   | exact deadboltref08_walk.mono _ _ _ _ _
   | exact LeO.none _
   | refine LeO.ite ?_ ?_
   | refine LeO.bind ?_ (fun _ => ?_)
set_option maxHeartbeats 8000000 in
set_option maxRecDepth 100000 in
theorem deadboltref08_Keys.calls (k : Nat) (a0_0 : Int) (A0_1 : Option Addr) (c0_1 : Nat) (l0_1 : List (S87)) (r : List Int) (w : World) (hr0_1 : Kd.C k87 w A0_1 l0_1.length l0_1) (hc0_1 : l0_1.length ≤ c0_1) (h : deadboltref08_Keys.f k a0_0 l0_1 = some r) :
  Calls Try.prog 40 #[.agg #[.int .i64 a0_0, .slice A0_1 l0_1.length c0_1]] w fun e w' => ∃ v0_ : Value, e = .returned (v0_) ∧ Kd.R (Kd.int .i64) 3 w' w.heap.size (fun _ => True) v0_ r ∧ Below w.heap.size w w' := by
 have hu50 := Try.underlying50
 have HR0_1 := Aside0.mk hr0_1
 have HC0_1 := Aside0.mk hc0_1
 clear hr0_1 hc0_1
 have HB := Aside0.mk (Below.refl w.heap.size w)
 have H : ((deadboltref08_walk.f k a0_0 l0_1 a0_0 (l0_1.length : Int)).bind fun bt328 => (some bt328.1)) = some r := h
 clear h
 replace H := Option.bind_eq_some_iff.mp H
 obtain ⟨⟨t328, t331⟩, A20, H⟩ := H
 replace H : (some t328) = some r := H
 have A2 := Aside0.mk A20
 clear A20
 obtain rfl := Option.some.inj H
 go_enter Try.func40, Try.ntmps40
 go_wp2_with (first | ((with_reducible refine gate_dst (N := 1) rfl ?_); refine box_event ?hg (N := 1) ?hd (cs := #[.int .i64 a0_0, .slice A0_1 l0_1.length c0_1]) (t := 50) ?hr ?_; (case hd => rfl); (case hg => rfl); (case hr => first | (go_simp; done) | (go_simp; rfl)); intro gb327 hg w3 hbox hb; have n0_ := Aside0.mk (below_step (by repeat (first | (with_reducible first | exact HB.out | apply below_alloc | apply pw_below_drewN | apply below_drew1) | exact HB.out)) hb); have n1_ := Aside0.mk (hbox); have n2_ := Aside0.mk ((by rw [hg]; exact (below_size (by repeat (first | (with_reducible first | exact HB.out | apply below_alloc | apply pw_below_drewN | apply below_drew1) | exact HB.out))) : w.heap.size ≤ gb327)); have n3_ := Aside0.mk ((by rw [hg]; exact (below_size (by repeat (first | (with_reducible first | exact HB.out | apply below_alloc | apply pw_below_drewN | apply below_drew1) | exact HB.out))) : w.heap.size ≤ gb327)); clear HB; have HB := n0_; have BK327 := n1_; have GW327 := n2_; have GE327 := n3_; clear n0_ n1_ n2_ n3_; clear hb hbox hg; have hcz4_0 : w3.cell? ⟨gb327, 0, none⟩ = some (.int .i64 a0_0) := (blk_cell BK327.out 0).trans rfl; have hcz4_1 : w3.cell? ⟨gb327, 1, none⟩ = some (.slice A0_1 l0_1.length c0_1) := (blk_cell BK327.out 1).trans rfl; have hfz4_0 := blk_frozen BK327.out 0; have hfz4_1 := blk_frozen BK327.out 1) | ((with_reducible refine gate_callee (f := 71) rfl ?_); refine goesL_ (some 12) rfl rfl Try.func71 (by kernel_rfl) rfl #[.agg #[.int .i64 a0_0, .slice A0_1 l0_1.length c0_1], .int .i64 a0_0, .int .i64 (l0_1.length : Int)] rfl (by (try simp only [List.map_toArray, List.map_cons, List.map_nil]); first | done | rfl | (simp only [List.length_drop, List.length_take]; rfl)) ?_; (with_reducible refine (deadboltref08_walk.calls k a0_0 _ _ l0_1 a0_0 (l0_1.length : Int) t328 t331 _ ?side1 ?side2 A2.out).mono ?_); (case side1 => repeat (first | exact (Kd.C_below HR0_1.out HB.out) | (with_reducible refine Kd.C_alloc ?_ _) | (with_reducible refine Kd.C_drewN ?_ _) | (with_reducible refine Kd.C_drew ?_))); (case side2 => exact HC0_1.out); rintro e w5 ⟨v329, rfl, ho0, hb⟩; refine ⟨_, rfl, ?_⟩; have n0_ := Aside0.mk (Kd.R_lower ho0 (below_size (by repeat (first | (with_reducible first | exact HB.out | apply below_alloc | apply pw_below_drewN | apply below_drew1 | refine below_set ?_ GE327.out) | exact HB.out)))); have n1_ := Aside0.mk (blk_below (g := gb327) (o := .cells #[.int .i64 a0_0, .slice A0_1 l0_1.length c0_1] 50 (0, 0)) (by (with_reducible repeat (first | refine blk_drewN ?_ _ | refine blk_drew ?_ | refine blk_alloc ?_ _)); exact BK327.out) hb); have n2_ := Aside0.mk (below_step (by repeat (first | (with_reducible first | exact HB.out | apply below_alloc | apply pw_below_drewN | apply below_drew1 | refine below_set ?_ GE327.out) | exact HB.out)) hb); clear BK327; clear HB; have HO330 := n0_; have BK327 := n1_; have HB := n2_; clear n0_ n1_ n2_; (try clear hb); (try clear hb2); (try clear hk); (try clear hi); (try clear ho0)))
 go_ret
 exact ⟨_, by first | rfl | (simp [errW_none, errW_some] <;> rfl) | (simp [*, errW_none, errW_some] <;> rfl), by (with_reducible repeat (first | apply Kd.R_alloc | apply Kd.R_drewN | apply Kd.R_drew)); exact HO330.out, by repeat (first | (with_reducible first | exact HB.out | apply below_alloc | apply pw_below_drewN | apply below_drew1 | refine below_set ?_ GE327.out) | exact HB.out)⟩

end Go.Proofs.Ytjdjmhagafmkaaa.PX

namespace Go.Proofs.Ytjdjmhagafmkaaa.PX
open Go.RowKit Go.Proofs.YtjdjmhagafmkaaaW.PrintWords Go.Proofs.YtjdjmhagafmkaaaW.PrintLast Go.Proofs.YtjdjmhagafmkaaaW.PrintMore
attribute [local go_sem] max2_int min2_int max_two min_two max_three min_three max_four min_four   -- for this text's walks alone
set_option linter.unusedVariables false
set_option linter.unusedSimpArgs false

/-! ### deadboltref08_Next: function 42 -/
def deadboltref08_Next.l0 : Nat → Int → List Int → Int → Int → Option (Int)
 | 0, _, _, _, _ => none
 | k + 1, x1, x7, x8, x9 => if x9 < x8 then (if 0 ≤ x9 then (if x9 < (x7.length : Int) then (if (rd x7 x9) ≥ x1 then (some x9) else (deadboltref08_Next.l0 k x1 x7 x8 (wrap64 (x9 + 1)))) else (none)) else (none)) else (some (-1))
def deadboltref08_Next.f (k : Nat) (l0 : List Int) (a1 : Int) : Option (Int) := deadboltref08_Next.l0 k a1 l0 (l0.length : Int) 0
theorem deadboltref08_Next.mono_l : ∀ k, (∀ y0 y1 y2 y3, LeO (deadboltref08_Next.l0 k y0 y1 y2 y3) (deadboltref08_Next.l0 (k + 1) y0 y1 y2 y3))
 | 0 => fun _ _ _ _ r h => by simp [deadboltref08_Next.l0] at h
 | k + 1 => by
  have ih0 := deadboltref08_Next.mono_l k
  ·intro y0 y1 y2 y3
   unfold deadboltref08_Next.l0
   repeat' first
   | (with_reducible exact ih0 _ _ _ _)
   | (with_reducible exact LeO.refl _)
   | (with_reducible exact LeO.none _)
   | (with_reducible refine LeO.ite ?_ ?_)
   | (with_reducible refine LeO.bind ?_ (fun _ => ?_))
   | exact ih0 _ _ _ _
   | exact LeO.none _
   | refine LeO.ite ?_ ?_
   | refine LeO.bind ?_ (fun _ => ?_)
theorem deadboltref08_Next.mono : ∀ a0 a1 k, LeO (deadboltref08_Next.f k a0 a1) (deadboltref08_Next.f (k + 1) a0 a1) := by
 intro a0 a1 k
 have ih0 := deadboltref08_Next.mono_l k
 unfold deadboltref08_Next.f
 repeat' first
   | (with_reducible exact ih0 _ _ _ _)
   | (with_reducible exact LeO.refl _)
   | (with_reducible exact LeO.none _)
   | (with_reducible refine LeO.ite ?_ ?_)
   | (with_reducible refine LeO.bind ?_ (fun _ => ?_))
   | exact ih0 _ _ _ _
   | exact LeO.none _
   | refine LeO.ite ?_ ?_
   | refine LeO.bind ?_ (fun _ => ?_)
set_option maxHeartbeats 8000000 in
set_option maxRecDepth 100000 in
theorem deadboltref08_Next.calls (k : Nat) (A0 : Option Addr) (c0 : Nat) (l0 : List Int) (a1 : Int) (r : Int) (w : World) (hr0 : Kd.C (Kd.int .i64) w A0 l0.length l0) (hc0 : l0.length ≤ c0) (h : deadboltref08_Next.f k l0 a1 = some r) :
  Calls Try.prog 42 #[.slice A0 l0.length c0, .int .i64 a1] w fun e w' => e = .returned (.int .i64 r) ∧ Drawn0 w w' := by
 have HR0 := Aside0.mk hr0
 have HC0 := Aside0.mk hc0
 clear hr0 hc0
 have H : (deadboltref08_Next.l0 k a1 l0 (l0.length : Int) 0) = some r := h
 clear h
 have H' := Aside0.mk H
 clear H
 go_enter Try.func42, Try.ntmps42
 go_wp2
 go_loopg [9] k (fun kq v9 w' => ∃ (x9_1 : Int), v9 = .int .i64 x9_1 ∧ Aside0 (deadboltref08_Next.l0 kq a1 l0 (l0.length : Int) x9_1 = some r) ∧ Aside0 (kq ≤ k) ∧ Drawn0 w w')
 case atStart => exact ⟨(0), (by first | rfl | (simp; done) | (simp [*]; done)), H', ⟨Nat.le_refl _⟩, by repeat (first | exact Drawn0.refl _ | apply Drawn0.step)⟩
 case round =>
  clear H'
  try clear p2
  obtain ⟨x9_1, rfl, HA, HK1, ⟨m1, rfl⟩⟩ := hrel
  cases gk with
  | zero => exact absurd HA.out (by simp [deadboltref08_Next.l0])
  | succ k1 =>
   have H := HA.out
   clear HA
   simp only [deadboltref08_Next.l0] at H
   by_cases c3 : x9_1 < (l0.length : Int)
   ·rw [if_pos c3] at H
    have c3b0 : decide (x9_1 < (l0.length : Int)) = true := decide_eq_true c3
    clear c3
    by_cases c4 : 0 ≤ x9_1
    ·rw [if_pos c4] at H
     have c4b0 : decide (0 ≤ x9_1) = true := decide_eq_true c4
     clear c4
     by_cases c5 : x9_1 < (l0.length : Int)
     ·rw [if_pos c5] at H
      have c5b0 : decide (x9_1 < (l0.length : Int)) = true := decide_eq_true c5
      clear c5
      by_cases c6 : (rd l0 x9_1) ≥ a1
      ·rw [if_pos c6] at H
       have c6b0 : decide (a1 ≤ (rd l0 x9_1)) = true := decide_eq_true c6
       clear c6
       obtain rfl := Option.some.inj H
       have p334 : 0 ≤ (x9_1 : Int) := of_decide_eq_true (by first | (with_reducible assumption) | assumption)
       have q334 : x9_1 < (l0.length : Int) := of_decide_eq_true (by first | (with_reducible assumption) | assumption)
       obtain ⟨ad334, e334, hx334_0⟩ := Kd.at_int HR0.out x9_1 p334 q334
       cases e334
       replace p334 := eq_true p334
       replace q334 := eq_true q334
       go_wp2
       go_ret
       exact ⟨by first | rfl | (simp; done) | (simp [*]; done), by repeat (first | exact Drawn0.refl _ | apply Drawn0.step)⟩
      ·rw [if_neg c6] at H
       have c6b0 : decide (a1 ≤ (rd l0 x9_1)) = false := decide_eq_false c6
       clear c6
       have H' := Aside0.mk H
       clear H
       have p334 : 0 ≤ (x9_1 : Int) := of_decide_eq_true (by first | (with_reducible assumption) | assumption)
       have q334 : x9_1 < (l0.length : Int) := of_decide_eq_true (by first | (with_reducible assumption) | assumption)
       obtain ⟨ad334, e334, hx334_0⟩ := Kd.at_int HR0.out x9_1 p334 q334
       cases e334
       replace p334 := eq_true p334
       replace q334 := eq_true q334
       go_wp2
       go_roundg k1
       case measure => have := HK1.out; omega
       case rel => exact ⟨(wrap64 (x9_1 + 1)), (by first | rfl | (simp; done) | (simp [*]; done)), H', ⟨by have := HK1.out; omega⟩, by repeat (first | exact Drawn0.refl _ | apply Drawn0.step)⟩
     ·rw [if_neg c5] at H
      exact absurd H (by simp)
    ·rw [if_neg c4] at H
     exact absurd H (by simp)
   ·rw [if_neg c3] at H
    have c3b0 : decide (x9_1 < (l0.length : Int)) = false := decide_eq_false c3
    clear c3
    obtain rfl := Option.some.inj H
    go_wp2
    go_ret
    exact ⟨by first | rfl | (simp; done) | (simp [*]; done), by repeat (first | exact Drawn0.refl _ | apply Drawn0.step)⟩

end Go.Proofs.Ytjdjmhagafmkaaa.PX

/-
 What the document's functions of layer 8 tell of trees: which may be, their keys, how deep a key is. Plain lists.
-/
namespace Go.Proofs.Ytjdjmhagafmkaaa.PX
open Go.RowKit Treap Go.Proofs.YtjdjmhagafmkaaaW.PrintWords Go.Proofs.YtjdjmhagafmkaaaW.PrintLast Go.Proofs.YtjdjmhagafmkaaaW.PrintMore
namespace TreapP
theorem rdN {l : List S87} {i : Nat} (h : i < l.length) : rd_T87 l (i : Int) = l[i] := by
 unfold rd_T87
 rw [Int.toNat_natCast, List.getD_eq_getElem?_getD, List.getElem?_eq_getElem h]
 rfl
theorem nd_toNd {l : List S87} {i : Nat} (h : i < l.length) : nd (l.map toNd) i = toNd l[i] := by
 unfold nd
 rw [List.getD_eq_getElem?_getD, List.getElem?_map, List.getElem?_eq_getElem h]
 rfl
theorem refKey_f (a : Int) : deadboltref08_Key.f a = some (isKey a) := by
 unfold deadboltref08_Key.f isKey
 by_cases h0 : 0 ≤ a
 ·rw [if_pos h0, decide_eq_true h0]; rfl
 ·rw [if_neg h0, decide_eq_false h0]; rfl
theorem refPri_f {a : Int} (h : isKey a = true) : deadboltref08_Pri.f a = some (priOf a) := by
 have hk := isKey_iff.1 h
 rw [priOf_eq h]
 unfold deadboltref08_Pri.f
 have e : ∀ x : Int, IntKind.u64.wrap x = x % 18446744073709551616 := fun x => by simp [IntKind.wrap, IntKind.bits, IntKind.signed]
 rw [e, e]
 have e1 : a % 18446744073709551616 = a := by omega
 rw [e1]
 generalize a * 2654435761 = y
 rw [Int.tmod_eq_emod_of_nonneg (by omega)]
 congr 1
 unfold wrap64
 omega
/-- The document's walk. -/
theorem walk_f (root : Int) (l : List S87) (_hn : l.length ≤ 1000) : ∀ (left : Nat), left ≤ 1000 → ∀ (a : Int) (k f : Nat), 2 * left + 2 ≤ k → left < f →
  deadboltref08_walk.f k root l a (left : Int) = some (match inord (l.map toNd) f a left with | none => (([] : List Int), (-1 : Int)) | some (b, y) => (b.map (fun j => (nd (l.map toNd) j).key), (y : Int))) := by
 intro left
 induction left using Nat.strongRecOn with
 | _ left ih =>
  intro hl a k f hk hf
  obtain ⟨k, rfl⟩ : ∃ q, k = q + 1 := ⟨k - 1, by omega⟩
  obtain ⟨k, rfl⟩ : ∃ q, k = q + 1 := ⟨k - 1, by omega⟩
  obtain ⟨f, rfl⟩ : ∃ q, f = q + 1 := ⟨f - 1, by omega⟩
  rw [deadboltref08_walk.f, inord]
  by_cases h1 : a = -1
  ·rw [if_pos h1, if_pos h1]
   rfl
  ·rw [if_neg h1, if_neg h1]
   have hlen : (l.map toNd).length = l.length := by simp
   rw [hlen]
   by_cases hb : a < 0 ∨ (l.length : Int) ≤ a ∨ left = 0
   ·rw [if_pos hb]
    by_cases h2 : a < 0
    ·rw [if_pos h2, deadboltref08_walk.j0, if_pos rfl]
    ·rw [if_neg h2]
     by_cases h3 : a ≥ (l.length : Int)
     ·rw [if_pos h3, deadboltref08_walk.j0, if_pos rfl]
     ·rw [if_neg h3]
      obtain rfl : left = 0 := by omega
      rw [deadboltref08_walk.j0, if_pos (by decide)]
   ·rw [if_neg hb, if_neg (by omega), if_neg (by omega)]
    obtain ⟨i, rfl⟩ : ∃ i : Nat, a = i := ⟨a.toNat, by omega⟩
    have hi : i < l.length := by omega
    have h0 : ((left : Int) == 0) = false := beq_eq_false_iff_ne.2 (by omega)
    have hw : wrap64 ((left : Int) - 1) = ((left - 1 : Nat) : Int) := by unfold wrap64; omega
    rw [h0, deadboltref08_walk.j0, if_neg Bool.false_ne_true, if_pos (by omega), if_pos (by omega), rdN hi, hw, Int.toNat_natCast, nd_toNd hi]
    have hL : (toNd l[i]).left = l[i].f1 := rfl
    have hR : (toNd l[i]).right = l[i].f2 := rfl
    rw [hL, hR, ih (left - 1) (by omega) (by omega) l[i].f1 k f (by omega) (by omega)]
    simp only [Option.bind_some]
    cases e1 : inord (l.map toNd) f l[i].f1 (left - 1) with
    | none => rfl
    | some p1 =>
     obtain ⟨b1, y1⟩ := p1
     have hle1 := inord_le _ _ _ _ _ _ e1
     simp only
     rw [if_neg (by omega), ih y1 (by omega) (by omega) l[i].f2 k f (by omega) (by omega)]
     simp only [Option.bind_some]
     cases e2 : inord (l.map toNd) f l[i].f2 y1 with
     | none => rfl
     | some p2 =>
      obtain ⟨b2, y2⟩ := p2
      have hle2 := inord_le _ _ _ _ _ _ e2
      simp only
      rw [if_neg (by omega), if_pos (by simp; omega), if_pos (by simp; omega), if_pos (by simp; omega)]
      rw [List.map_append, List.map_cons, nd_toNd hi]
      simp [toNd]
theorem refKeys_f (root : Int) (l : List S87) (hn : l.length ≤ 1000) (k : Nat) (hk : 2 * l.length + 2 ≤ k) (hr : rightB (l.map toNd) root = true) : deadboltref08_Keys.f k root l = some (keysL (l.map toNd) root) := by
 unfold deadboltref08_Keys.f
 rw [walk_f root l hn l.length hn root k (l.length + 1) hk (Nat.lt_succ_self _)]
 unfold rightB at hr
 simp only [Bool.and_eq_true] at hr
 have := whole_some hr.2.1
 have hlen : (l.map toNd).length = l.length := by simp
 rw [hlen] at this
 rw [this]
 simp only [Option.bind_some]
 unfold keysL
 rw [List.map_map]
 rfl
def upB : Option Int → List Int → Bool
 | _, [] => true
 | p, x :: l => (match p with | none => true | some q => decide (q < x)) && upB (some x) l
theorem upB_some : ∀ (l : List Int) (q : Int), upB (some q) l = true ↔ (q :: l).Pairwise (· < ·) := by
 intro l
 induction l with
 | nil => intro q; simp [upB]
 | cons x l ih =>
  intro q
  rw [upB, Bool.and_eq_true, ih x, List.pairwise_cons]
  simp only [decide_eq_true_eq, List.pairwise_cons]
  constructor
  ·rintro ⟨h1, h2, h3⟩
   refine ⟨fun y hy => ?_, h2, h3⟩
   rcases List.mem_cons.1 hy with rfl | hy
   ·exact h1
   ·exact Int.lt_trans h1 (h2 y hy)
  ·rintro ⟨h1, h2, h3⟩
   exact ⟨h1 x (by simp), h2, h3⟩
theorem upB_none (l : List Int) : upB none l = true ↔ l.Pairwise (· < ·) := by
 cases l with
 | nil => simp [upB]
 | cons x l => rw [upB]; simp only [Bool.true_and]; exact upB_some l x
theorem light_f (root : Int) (l : List S87) (i : Int) (key : Int) (hk : isKey key = true) (hall : ∀ x ∈ l, isKey x.f0 = true) (hi : okLink l.length i) :
  deadboltref08_lighter.f root l i key = some (!(!(i == -1) && decide (priOf key ≤ priOf (nd (l.map toNd) i.toNat).key))) := by
 unfold deadboltref08_lighter.f
 rcases hi with rfl | hi
 ·rw [if_pos (by omega)]; rfl
 ·obtain ⟨j, rfl⟩ : ∃ j : Nat, i = j := ⟨i.toNat, by omega⟩
  have hj : j < l.length := by omega
  have hb : ((j : Int) == -1) = false := beq_eq_false_iff_ne.2 (by omega)
  rw [if_neg (by omega), if_pos (by omega), if_pos (by omega), rdN hj, refPri_f (hall _ (List.getElem_mem _)), refPri_f hk, hb, Int.toNat_natCast, nd_toNd hj]
  have e : (toNd l[j]).key = l[j].f0 := rfl
  rw [e]
  simp only [Option.bind_some, Bool.not_false, Bool.true_and]
  rw [← decide_not]
  exact congrArg some (decide_eq_decide.2 (by omega))
theorem right_l2 (root : Int) (l : List S87) (hn : l.length ≤ 1000) (hall : ∀ x ∈ l, isKey x.f0 = true) (hok : ∀ x ∈ l, okLink l.length x.f1 ∧ okLink l.length x.f2) : ∀ (d i k : Nat), i + d = l.length → d < k →
  deadboltref08_Right.l2 k l (l.length : Int) (i : Int) root l = some (!(((l.map toNd).drop i).any (heavyN (l.map toNd)))) := by
 intro d
 induction d with
 | zero =>
  intro i k hi hk
  obtain ⟨k, rfl⟩ : ∃ q, k = q + 1 := ⟨k - 1, by omega⟩
  rw [deadboltref08_Right.l2, if_neg (by omega), List.drop_eq_nil_of_le (by simp; omega)]
  rfl
 | succ d ih =>
  intro i k hi hk
  obtain ⟨k, rfl⟩ : ∃ q, k = q + 1 := ⟨k - 1, by omega⟩
  have hlt : i < l.length := by omega
  have hm : l[i] ∈ l := List.getElem_mem _
  rw [deadboltref08_Right.l2, if_pos (by omega), if_pos (by omega), if_pos (by omega), w64_next hlt hn, rdN hlt, light_f root l _ _ (hall _ hm) hall (hok _ hm).1, List.drop_eq_getElem_cons (by simpa using hlt), List.any_cons, List.getElem_map]
  simp only [Option.bind_some]
  have e1 : heavyN (l.map toNd) (toNd l[i]) = ((!(l[i].f1 == -1) && decide (priOf l[i].f0 ≤ priOf (nd (l.map toNd) l[i].f1.toNat).key)) || (!(l[i].f2 == -1) && decide (priOf l[i].f0 ≤ priOf (nd (l.map toNd) l[i].f2.toNat).key))) := rfl
  rw [e1]
  obtain ⟨x, hx⟩ : ∃ x, (!(l[i].f1 == -1) && decide (priOf l[i].f0 ≤ priOf (nd (l.map toNd) l[i].f1.toNat).key)) = x := ⟨_, rfl⟩
  rw [hx]
  cases x with
  | true => rw [if_neg (by simp)]; simp
  | false =>
   rw [if_pos (by simp), light_f root l _ _ (hall _ hm) hall (hok _ hm).2]
   simp only [Option.bind_some]
   obtain ⟨y, hy⟩ : ∃ x, (!(l[i].f2 == -1) && decide (priOf l[i].f0 ≤ priOf (nd (l.map toNd) l[i].f2.toNat).key)) = x := ⟨_, rfl⟩
   rw [hy]
   cases y with
   | true => rw [if_neg (by simp)]; simp
   | false =>
    rw [if_pos (by simp), ih (i + 1) k (by omega) (by omega)]
    simp
theorem right_l1 (root : Int) (l : List S87) (keys : List Int) (hn : keys.length ≤ 1000) (v : Bool) (K0 : Nat) (hX : upB none keys = true → ∀ k, K0 ≤ k → deadboltref08_Right.l2 k l (l.length : Int) 0 root l = some v) : ∀ (d i k : Nat), i + d = keys.length → d + K0 < k → (upB none keys = true ∨ upB (if i = 0 then none else some (keys.getD (i - 1) 0)) (keys.drop i) = false) →
  deadboltref08_Right.l1 k keys (keys.length : Int) (i : Int) root l = some (upB (if i = 0 then none else some (keys.getD (i - 1) 0)) (keys.drop i) && v) := by
 intro d
 induction d with
 | zero =>
  intro i k hi hk hor
  obtain ⟨k, rfl⟩ : ∃ q, k = q + 1 := ⟨k - 1, by omega⟩
  rw [List.drop_eq_nil_of_le (by omega)] at hor ⊢
  rcases hor with h | h
  ·rw [deadboltref08_Right.l1, if_neg (by omega), hX h k (by omega), upB]
   rfl
  ·rw [upB] at h; cases h
 | succ d ih =>
  intro i k hi hk hor
  obtain ⟨k, rfl⟩ : ∃ q, k = q + 1 := ⟨k - 1, by omega⟩
  have hlt : i < keys.length := by omega
  rw [deadboltref08_Right.l1, if_pos (by omega), w64_next hlt hn]
  rw [List.drop_eq_getElem_cons hlt] at hor ⊢
  have hnext : keys.getD (i + 1 - 1) 0 = keys[i] := by
   rw [Nat.add_sub_cancel, List.getD_eq_getElem?_getD, List.getElem?_eq_getElem hlt]; rfl
  have ih' := ih (i + 1) k (by omega) (by omega)
  rw [if_neg (Nat.succ_ne_zero i), hnext] at ih'
  by_cases h0 : i = 0
  ·subst h0
   rw [if_pos rfl] at hor ⊢
   rw [upB] at hor ⊢
   simp only [Bool.true_and] at hor ⊢
   rw [if_neg (by omega)]
   exact ih' hor
  ·have hlt1 : i - 1 < keys.length := by omega
   have hw : wrap64 ((i : Int) - 1) = ((i - 1 : Nat) : Int) := by unfold wrap64; omega
   have hprev : keys.getD (i - 1) 0 = keys[i - 1] := by rw [List.getD_eq_getElem?_getD, List.getElem?_eq_getElem hlt1]; rfl
   rw [if_neg h0, hprev] at hor ⊢
   rw [upB] at hor ⊢
   rw [if_pos (by omega), hw, if_pos (by omega), if_pos (by omega), if_pos (by omega), if_pos (by omega), rdI hlt1, rdI hlt]
   by_cases hlt2 : keys[i - 1] < keys[i]
   ·rw [decide_eq_true hlt2] at hor ⊢
    simp only [Bool.true_and] at hor ⊢
    rw [if_neg (by omega)]
    exact ih' hor
   ·rw [decide_eq_false hlt2, if_pos (by omega)]
    rfl
theorem right_l0 (root : Int) (l : List S87) (hn : l.length ≤ 1000) (v : Bool) (K0 : Nat) (hX : l.all (fun x => isKey x.f0) = true → ∀ k, K0 ≤ k → ((deadboltref08_walk.f k root l root (l.length : Int)).bind fun bt317 => (if bt317.2 = 0 then (deadboltref08_Right.j1 k bt317.1 (decide ((l.length : Int) > 64)) root l) else (deadboltref08_Right.j1 k bt317.1 true root l))) = some v) : ∀ (d i k : Nat), i + d = l.length → d + K0 < k → (l.all (fun x => isKey x.f0) = true ∨ (l.drop i).all (fun x => isKey x.f0) = false) →
  deadboltref08_Right.l0 k l (l.length : Int) (i : Int) root l = some ((l.drop i).all (fun x => isKey x.f0) && v) := by
 intro d
 induction d with
 | zero =>
  intro i k hi hk hor
  obtain ⟨k, rfl⟩ : ∃ q, k = q + 1 := ⟨k - 1, by omega⟩
  rw [List.drop_eq_nil_of_le (by omega)] at hor ⊢
  rcases hor with h | h
  ·rw [deadboltref08_Right.l0, if_neg (by omega), hX h k (by omega)]
   simp
  ·simp at h
 | succ d ih =>
  intro i k hi hk hor
  obtain ⟨k, rfl⟩ : ∃ q, k = q + 1 := ⟨k - 1, by omega⟩
  have hlt : i < l.length := by omega
  rw [deadboltref08_Right.l0, if_pos (by omega), if_pos (by omega), if_pos (by omega), w64_next hlt hn, rdN hlt, refKey_f]
  rw [List.drop_eq_getElem_cons hlt, List.all_cons] at hor ⊢
  simp only [Option.bind_some]
  cases hk2 : isKey l[i].f0 with
  | false => rw [if_neg Bool.false_ne_true]; rfl
  | true =>
   rw [hk2] at hor
   simp only [Bool.true_and, if_true] at hor ⊢
   exact ih (i + 1) k (by omega) (by omega) hor
theorem refRight_f (root : Int) (l : List S87) (hn : l.length ≤ 1000) (k : Nat) (hk : 6000 ≤ k) : deadboltref08_Right.f k root l = some (rightB (l.map toNd) root) := by
 have hlen : (l.map toNd).length = l.length := by simp
 have hallm : l.all (fun x => isKey x.f0) = true ↔ ∀ x ∈ l, isKey x.f0 = true := by rw [List.all_eq_true]
 unfold deadboltref08_Right.f
 by_cases hall : l.all (fun x => isKey x.f0) = true
 ·have hX : ∀ k, 4000 ≤ k → ((deadboltref08_walk.f k root l root (l.length : Int)).bind fun bt317 => (if bt317.2 = 0 then (deadboltref08_Right.j1 k bt317.1 (decide ((l.length : Int) > 64)) root l) else (deadboltref08_Right.j1 k bt317.1 true root l))) = some (rightB (l.map toNd) root) := by
   intro k hk
   rw [walk_f root l hn l.length hn root k (l.length + 1) (by omega) (Nat.lt_succ_self _)]
   simp only [Option.bind_some]
   have hwh : whole (l.map toNd) root = (match inord (l.map toNd) (l.length + 1) root l.length with | some (_, 0) => true | _ => false) := by unfold whole; rw [hlen]; rfl
   cases e : inord (l.map toNd) (l.length + 1) root l.length with
   | none =>
    rw [e] at hwh
    simp only at hwh ⊢
    obtain ⟨k, rfl⟩ : ∃ q, k = q + 1 := ⟨k - 1, by omega⟩
    rw [if_neg (by omega), deadboltref08_Right.j1, if_pos rfl]
    unfold rightB
    rw [hwh]
    simp
   | some p =>
    obtain ⟨b, y⟩ := p
    rw [e] at hwh
    simp only at hwh ⊢
    obtain ⟨k, rfl⟩ : ∃ q, k = q + 1 := ⟨k - 1, by omega⟩
    by_cases hy : y = 0
    ·subst hy
     have hwh : whole (l.map toNd) root = true := hwh
     have hseen : Treap.seen (l.map toNd) root = b := by unfold Treap.seen; rw [hlen, e]
     rw [if_pos (show ((0 : Nat) : Int) = 0 from rfl), deadboltref08_Right.j1]
     by_cases h64 : l.length ≤ 64
     ·rw [decide_eq_false (by omega), if_neg Bool.false_ne_true]
      have hbl := inord_le _ _ _ _ _ _ e
      have hrise : rises (l.map toNd) root = upB none (b.map (fun j => (nd (l.map toNd) j).key)) := by
       unfold rises
       rw [hseen, Bool.eq_iff_iff, upB_none]
       constructor
       ·intro h
        have := (rise_of _ _ _ h).2.2
        rw [List.pairwise_map] at this ⊢
        exact this
       ·intro h
        refine rise_mk _ _ (fun x hx => ?_) ?_
        ·obtain ⟨j, hj, rfl⟩ := List.mem_map.1 hx
         have hj2 := ((inord_ok _ _ _ _ _ _ e).2 j hj).1
         rw [hlen] at hj2
         have hk2 := (hallm.1 hall) l[j] (List.getElem_mem _)
         rw [nd_toNd hj2]
         have hk3 : isKey (toNd l[j]).key = true := hk2
         have := (isKey_iff.1 hk3).1
         exact ⟨hk3, by omega⟩
        ·rw [List.pairwise_map] at h ⊢
         exact h
      have hdl : deadboltref08_Right.l1 k (b.map (fun j => (nd (l.map toNd) j).key)) ((b.map (fun j => (nd (l.map toNd) j).key)).length : Int) 0 root l = some (upB none (b.map (fun j => (nd (l.map toNd) j).key)) && !((l.map toNd).any (heavyN (l.map toNd)))) := by
       have hX2 : upB none (b.map (fun j => (nd (l.map toNd) j).key)) = true → ∀ k, 1001 ≤ k → deadboltref08_Right.l2 k l (l.length : Int) 0 root l = some (!((l.map toNd).any (heavyN (l.map toNd)))) := by
        intro hup k hk
        rw [← hrise] at hup
        have hok := links_ok hwh hup
        refine right_l2 root l hn (hallm.1 hall) (fun x hx => ?_) l.length 0 k (by omega) (by omega)
        obtain ⟨j, hj, rfl⟩ := List.getElem_of_mem hx
        have := hok j (by rw [hlen]; exact hj)
        rw [nd_toNd hj, hlen] at this
        exact this
       have := right_l1 root l (b.map (fun j => (nd (l.map toNd) j).key)) (by simp; omega) _ 1001 hX2 (b.map (fun j => (nd (l.map toNd) j).key)).length 0 k (by omega) (by simp; omega) (by
        cases h : upB none (b.map (fun j => (nd (l.map toNd) j).key)) with
        | true => exact .inl rfl
        | false => exact .inr (by rw [if_pos rfl]; exact h))
       rw [if_pos rfl] at this
       exact this
      rw [hdl]
      unfold rightB
      rw [hlen, decide_eq_true h64, hwh, hrise]
      simp
     ·rw [decide_eq_true (by omega), if_pos rfl]
      unfold rightB
      rw [hlen, decide_eq_false h64]
      rfl
    ·rw [if_neg (by omega), deadboltref08_Right.j1, if_pos rfl]
     have hwh : whole (l.map toNd) root = false := by
      rw [hwh]
      cases y with
      | zero => exact absurd rfl hy
      | succ y => rfl
     unfold rightB
     rw [hwh]
     simp
  have := right_l0 root l hn _ 4000 (fun _ => hX) l.length 0 k (by omega) (by omega) (.inl hall)
  rw [List.drop_zero, hall, Bool.true_and] at this
  exact this
 ·have hf : l.all (fun x => isKey x.f0) = false := by simpa using hall
  have := right_l0 root l hn false 4000 (fun h => absurd h hall) l.length 0 k (by omega) (by omega) (.inr (by rw [List.drop_zero]; exact hf))
  rw [List.drop_zero, hf] at this
  have hr : rightB (l.map toNd) root = false := by
   cases h : rightB (l.map toNd) root with
   | false => rfl
   | true =>
    obtain ⟨_, t, ht⟩ := good_of h
    refine absurd (hallm.2 (fun x hx => ?_)) hall
    obtain ⟨j, hj, rfl⟩ := List.getElem_of_mem hx
    have h2 := ht.keys j (ht.all j (by show j < (l.map toNd).length; rw [hlen]; exact hj))
    have h3 : isKey (nd (l.map toNd) j).key = true := h2
    rw [nd_toNd hj] at h3
    exact h3
  rw [hr]
  exact this
end TreapP
end Go.Proofs.Ytjdjmhagafmkaaa.PX

namespace Go.Proofs.Ytjdjmhagafmkaaa.PX
open Go.RowKit Go.Proofs.YtjdjmhagafmkaaaW.PrintWords Go.Proofs.YtjdjmhagafmkaaaW.PrintLast Go.Proofs.YtjdjmhagafmkaaaW.PrintMore
attribute [local go_sem] max2_int min2_int max_two min_two max_three min_three max_four min_four   -- for this text's walks alone
set_option linter.unusedVariables false
set_option linter.unusedSimpArgs false

/-! ### deadboltref08_Without: function 48 -/
def deadboltref08_Without.l0 : Nat → Int → List Int → List Int → Int → Int → Option (List Int)
 | 0, _, _, _, _, _ => none
 | k + 1, x1, x5, x9, x10, x11 => if x11 < x10 then (if 0 ≤ x11 then (if x11 < (x9.length : Int) then (if (rd x9 x11) = x1 then (deadboltref08_Without.l0 k x1 x5 x9 x10 (wrap64 (x11 + 1))) else (if x5.length < 17592186044416 then (deadboltref08_Without.l0 k x1 (x5 ++ [rd x9 x11]) x9 x10 (wrap64 (x11 + 1))) else (none))) else (none)) else (none)) else (some x5)
def deadboltref08_Without.f (k : Nat) (l0 : List Int) (a1 : Int) : Option (List Int) := deadboltref08_Without.l0 k a1 (([] : List Int)) l0 (l0.length : Int) 0
theorem deadboltref08_Without.mono_l : ∀ k, (∀ y0 y1 y2 y3 y4, LeO (deadboltref08_Without.l0 k y0 y1 y2 y3 y4) (deadboltref08_Without.l0 (k + 1) y0 y1 y2 y3 y4))
 | 0 => fun _ _ _ _ _ r h => by simp [deadboltref08_Without.l0] at h
 | k + 1 => by
  have ih0 := deadboltref08_Without.mono_l k
  ·intro y0 y1 y2 y3 y4
   unfold deadboltref08_Without.l0
   repeat' first
   | (with_reducible exact ih0 _ _ _ _ _)
   | (with_reducible exact LeO.refl _)
   | (with_reducible exact LeO.none _)
   | (with_reducible refine LeO.ite ?_ ?_)
   | (with_reducible refine LeO.bind ?_ (fun _ => ?_))
   | exact ih0 _ _ _ _ _
   | exact LeO.none _
   | refine LeO.ite ?_ ?_
   | refine LeO.bind ?_ (fun _ => ?_)
theorem deadboltref08_Without.mono : ∀ a0 a1 k, LeO (deadboltref08_Without.f k a0 a1) (deadboltref08_Without.f (k + 1) a0 a1) := by
 intro a0 a1 k
 have ih0 := deadboltref08_Without.mono_l k
 unfold deadboltref08_Without.f
 repeat' first
   | (with_reducible exact ih0 _ _ _ _ _)
   | (with_reducible exact LeO.refl _)
   | (with_reducible exact LeO.none _)
   | (with_reducible refine LeO.ite ?_ ?_)
   | (with_reducible refine LeO.bind ?_ (fun _ => ?_))
   | exact ih0 _ _ _ _ _
   | exact LeO.none _
   | refine LeO.ite ?_ ?_
   | refine LeO.bind ?_ (fun _ => ?_)
set_option maxHeartbeats 8000000 in
set_option maxRecDepth 100000 in
theorem deadboltref08_Without.calls (k : Nat) (A0 : Option Addr) (c0 : Nat) (l0 : List Int) (a1 : Int) (r : List Int) (w : World) (hr0 : Kd.C (Kd.int .i64) w A0 l0.length l0) (hc0 : l0.length ≤ c0) (h : deadboltref08_Without.f k l0 a1 = some r) :
  Calls Try.prog 48 #[.slice A0 l0.length c0, .int .i64 a1] w fun e w' => ∃ v0_ : Value, e = .returned (v0_) ∧ Kd.R (Kd.int .i64) 3 w' w.heap.size (fun _ => True) v0_ r ∧ Below w.heap.size w w' := by
 have HR0 := Aside0.mk hr0
 have HC0 := Aside0.mk hc0
 clear hr0 hc0
 have HB := Aside0.mk (Below.refl w.heap.size w)
 have H : (deadboltref08_Without.l0 k a1 (([] : List Int)) l0 (l0.length : Int) 0) = some r := h
 clear h
 obtain ⟨y347, hy347⟩ : ∃ y_ : List Int, y_ = (([] : List Int)) := ⟨_, rfl⟩
 replace H : (deadboltref08_Without.l0 k a1 y347 l0 (l0.length : Int) 0) = some r := by first | (rw [hy347]; with_reducible exact H) | (have H2_ := (Option.bind_some _ _).symm.trans H; rw [hy347]; with_reducible exact H2_) | (have H2_ := (Option.bind_some _ _).symm.trans H; with_reducible exact H2_) | with_reducible exact H | (rw [hy347]; exact H) | exact H
 have Ny347 := Aside0.mk hy347
 clear hy347
 have H' := Aside0.mk H
 clear H
 go_enter Try.func48, Try.ntmps48
 go_wp2_with (first | ((with_reducible refine gate_dst (N := 8) rfl ?_); refine Kd.R_lit (Kd.int .i64) _ 3 ?hg (N := 8) ?hd (xs := ([] : List Int)) (inner := []) (ok := fun _ => True) (okp := fun _ => True) ?hr ?hp (fun _ hk => hk) trivial (Below.refl _ _) (Nat.le_refl _) (by simp) ?_; (case hd => rfl); (case hg => rfl); (case hr => first | (go_simp; done) | (go_simp; rfl)); (case hp => exact (Reps.none _ _)); intro v348 w3 ho4 hb hg_ hnew_; clear hg_ hnew_; (first | rw [← Ny347.out] at ho4 | (simp only [Int.reduceToNat] at ho4; rw [← Ny347.out] at ho4)); have n0_ := Aside0.mk (Kd.R_lower ho4 (below_size (by repeat (first | (with_reducible first | exact HB.out | apply below_alloc | apply pw_below_drewN | apply below_drew1) | exact HB.out)))); have n1_ := Aside0.mk (below_step (by repeat (first | (with_reducible first | exact HB.out | apply below_alloc | apply pw_below_drewN | apply below_drew1) | exact HB.out)) hb); clear HB; have HO349 := n0_; have HB := n1_; clear n0_ n1_; clear hb ho4))
 go_loopg [5, 11] k (fun kq v5 v11 w' => ∃ (x5_1 : List Int) (x11_1 : Int), v11 = .int .i64 x11_1 ∧ Aside0 (deadboltref08_Without.l0 kq a1 x5_1 l0 (l0.length : Int) x11_1 = some r) ∧ Aside0 (kq ≤ k) ∧ Aside0 (Kd.R (Kd.int .i64) 3 w' w.heap.size (fun _ => True) v5 x5_1) ∧ Aside0 (Below w.heap.size w w'))
 case atStart => exact ⟨(y347), (0), (by first | rfl | (simp; done) | (simp [*]; done)), H', ⟨Nat.le_refl _⟩, ⟨by (with_reducible repeat (first | apply Kd.R_alloc | apply Kd.R_drewN | apply Kd.R_drew)); exact HO349.out⟩, ⟨by repeat (first | (with_reducible first | exact HB.out | apply below_alloc | apply pw_below_drewN | apply below_drew1) | exact HB.out)⟩⟩
 case round =>
  clear H'
  try clear p2
  try clear c4
  obtain ⟨x5_1, x11_1, rfl, HA, HK1, HO_5, HB⟩ := hrel
  cases gk with
  | zero => exact absurd HA.out (by simp [deadboltref08_Without.l0])
  | succ k1 =>
   have H := HA.out
   clear HA
   simp only [deadboltref08_Without.l0] at H
   by_cases c5 : x11_1 < (l0.length : Int)
   ·rw [if_pos c5] at H
    have c5b0 : decide (x11_1 < (l0.length : Int)) = true := decide_eq_true c5
    clear c5
    by_cases c6 : 0 ≤ x11_1
    ·rw [if_pos c6] at H
     have c6b0 : decide (0 ≤ x11_1) = true := decide_eq_true c6
     clear c6
     by_cases c7 : x11_1 < (l0.length : Int)
     ·rw [if_pos c7] at H
      have c7b0 : decide (x11_1 < (l0.length : Int)) = true := decide_eq_true c7
      clear c7
      by_cases c8 : (rd l0 x11_1) = a1
      ·rw [if_pos c8] at H
       have c8b0 : ((rd l0 x11_1) == a1) = true := beq_iff_eq.mpr c8
       have c8b1 : ((rd l0 x11_1) != a1) = false := bne_eq_false_iff_eq.mpr c8
       clear c8
       have H' := Aside0.mk H
       clear H
       have p350 : 0 ≤ (x11_1 : Int) := of_decide_eq_true (by first | (with_reducible assumption) | assumption)
       have q350 : x11_1 < (l0.length : Int) := of_decide_eq_true (by first | (with_reducible assumption) | assumption)
       obtain ⟨ad350, e350, hx350_0⟩ := Kd.at_int HR0.out x11_1 p350 q350
       cases e350
       replace hx350_0 := (HB.out.cell (World.block_lt_of_cell? w _ hx350_0)).trans hx350_0
       replace p350 := eq_true p350
       replace q350 := eq_true q350
       go_wp2
       go_roundg k1
       case measure => have := HK1.out; omega
       case rel => exact ⟨(x5_1), (wrap64 (x11_1 + 1)), (by first | rfl | (simp; done) | (simp [*]; done)), H', ⟨by have := HK1.out; omega⟩, ⟨by (with_reducible repeat (first | apply Kd.R_alloc | apply Kd.R_drewN | apply Kd.R_drew)); exact HO_5.out⟩, ⟨by repeat (first | (with_reducible first | exact HB.out | apply below_alloc | apply pw_below_drewN | apply below_drew1) | exact HB.out)⟩⟩
      ·rw [if_neg c8] at H
       have c8b0 : ((rd l0 x11_1) == a1) = false := beq_eq_false_iff_ne.mpr c8
       have c8b1 : ((rd l0 x11_1) != a1) = true := bne_iff_ne.mpr c8
       by_cases c9 : x5_1.length < 17592186044416
       ·rw [if_pos c9] at H
        have LMc9 := Aside0.mk c9
        clear c9
        obtain ⟨y351, hy351⟩ : ∃ y_ : List Int, y_ = (x5_1 ++ [rd l0 x11_1]) := ⟨_, rfl⟩
        replace H : (deadboltref08_Without.l0 k1 a1 y351 l0 (l0.length : Int) (wrap64 (x11_1 + 1))) = some r := by first | (rw [hy351]; with_reducible exact H) | (have H2_ := (Option.bind_some _ _).symm.trans H; rw [hy351]; with_reducible exact H2_) | (have H2_ := (Option.bind_some _ _).symm.trans H; with_reducible exact H2_) | with_reducible exact H | (rw [hy351]; exact H) | exact H
        have Ny351 := Aside0.mk hy351
        clear hy351
        have H' := Aside0.mk H
        clear H
        have p350 : 0 ≤ (x11_1 : Int) := of_decide_eq_true (by first | (with_reducible assumption) | assumption)
        have q350 : x11_1 < (l0.length : Int) := of_decide_eq_true (by first | (with_reducible assumption) | assumption)
        obtain ⟨ad350, e350, hx350_0⟩ := Kd.at_int HR0.out x11_1 p350 q350
        cases e350
        replace hx350_0 := (HB.out.cell (World.block_lt_of_cell? w _ hx350_0)).trans hx350_0
        replace p350 := eq_true p350
        replace q350 := eq_true q350
        go_wp2_with (first | ((with_reducible refine gate_builtin (b := .append) (xs := #[.tmp 18, .tmp 20]) rfl ?_); at_builtin; refine Kd.R_append (Kd.int .i64) (w0 := w) w.heap.size rfl (.tmp 18) (.tmp 20) 26 3 (.int .i64 0) 8 rfl Try.underlying26 info3 rfl (by decide) (by omega) u5 x5_1 (rd l0 x11_1) [.int .i64 (rd l0 x11_1)] (fun _ => True) (fun _ => False) rfl rfl ?aP (fun _ hk => hk.elim) ?aF ?aO ?aB ?aS ?aL ?_; (case aP => exact rfl); (case aB => exact (by repeat (first | (with_reducible first | exact HB.out | apply below_alloc | apply pw_below_drewN | apply below_drew1) | exact HB.out))); (case aF => exact (fun _ _ => trivial)); (case aO => exact (by (with_reducible repeat (first | apply Kd.R_alloc | apply Kd.R_drewN | apply Kd.R_drew)); exact HO_5.out)); (case aS => exact (below_size (by repeat (first | (with_reducible first | exact HB.out | apply below_alloc | apply pw_below_drewN | apply below_drew1) | exact HB.out)))); (case aL => have := LMc9.out; omega); intro v352 w10 ho hb hg hat; rw [← Ny351.out] at ho; have n0_ := Aside0.mk (hb); have n1_ := Aside0.mk (ho); clear HB; clear HO_5; have HB := n0_; have HO353 := n1_; clear n0_ n1_; clear ho hb hg hat))
        go_roundg k1
        case measure => have := HK1.out; omega
        case rel => exact ⟨(y351), (wrap64 (x11_1 + 1)), (by first | rfl | (simp; done) | (simp [*]; done)), H', ⟨by have := HK1.out; omega⟩, ⟨by (with_reducible repeat (first | apply Kd.R_alloc | apply Kd.R_drewN | apply Kd.R_drew)); exact HO353.out⟩, ⟨by repeat (first | (with_reducible first | exact HB.out | apply below_alloc | apply pw_below_drewN | apply below_drew1) | exact HB.out)⟩⟩
       ·rw [if_neg c9] at H
        exact absurd H (by simp)
     ·rw [if_neg c7] at H
      exact absurd H (by simp)
    ·rw [if_neg c6] at H
     exact absurd H (by simp)
   ·rw [if_neg c5] at H
    have c5b0 : decide (x11_1 < (l0.length : Int)) = false := decide_eq_false c5
    clear c5
    obtain rfl := Option.some.inj H
    go_wp2
    go_ret
    exact ⟨_, by first | rfl | (simp [errW_none, errW_some] <;> rfl) | (simp [*, errW_none, errW_some] <;> rfl), by (with_reducible repeat (first | apply Kd.R_alloc | apply Kd.R_drewN | apply Kd.R_drew)); exact HO_5.out, by repeat (first | (with_reducible first | exact HB.out | apply below_alloc | apply pw_below_drewN | apply below_drew1) | exact HB.out)⟩

end Go.Proofs.Ytjdjmhagafmkaaa.PX

namespace Go.Proofs.Ytjdjmhagafmkaaa.PX
open Go.RowKit Go.Proofs.YtjdjmhagafmkaaaW.PrintWords Go.Proofs.YtjdjmhagafmkaaaW.PrintLast Go.Proofs.YtjdjmhagafmkaaaW.PrintMore
attribute [local go_sem] max2_int min2_int max_two min_two max_three min_three max_four min_four   -- for this text's walks alone
set_option linter.unusedVariables false
set_option linter.unusedSimpArgs false

/-! ### deadboltref08_Same: function 41 -/
def deadboltref08_Same.l0 : Nat → List Int → List Int → Int → Int → Option (Bool)
 | 0, _, _, _, _ => none
 | k + 1, x0, x1, x12, x13 => if x13 < x12 then (if 0 ≤ x13 then (if x13 < (x0.length : Int) then (if x13 < (x1.length : Int) then (if (rd x0 x13) = (rd x1 x13) then (deadboltref08_Same.l0 k x0 x1 x12 (wrap64 (x13 + 1))) else (some false)) else (none)) else (none)) else (none)) else (some true)
def deadboltref08_Same.f (k : Nat) (l0 : List Int) (l1 : List Int) : Option (Bool) := if (l0.length : Int) = (l1.length : Int) then (deadboltref08_Same.l0 k l0 l1 (l0.length : Int) 0) else (some false)
theorem deadboltref08_Same.mono_l : ∀ k, (∀ y0 y1 y2 y3, LeO (deadboltref08_Same.l0 k y0 y1 y2 y3) (deadboltref08_Same.l0 (k + 1) y0 y1 y2 y3))
 | 0 => fun _ _ _ _ r h => by simp [deadboltref08_Same.l0] at h
 | k + 1 => by
  have ih0 := deadboltref08_Same.mono_l k
  ·intro y0 y1 y2 y3
   unfold deadboltref08_Same.l0
   repeat' first
   | (with_reducible exact ih0 _ _ _ _)
   | (with_reducible exact LeO.refl _)
   | (with_reducible exact LeO.none _)
   | (with_reducible refine LeO.ite ?_ ?_)
   | (with_reducible refine LeO.bind ?_ (fun _ => ?_))
   | exact ih0 _ _ _ _
   | exact LeO.none _
   | refine LeO.ite ?_ ?_
   | refine LeO.bind ?_ (fun _ => ?_)
theorem deadboltref08_Same.mono : ∀ a0 a1 k, LeO (deadboltref08_Same.f k a0 a1) (deadboltref08_Same.f (k + 1) a0 a1) := by
 intro a0 a1 k
 have ih0 := deadboltref08_Same.mono_l k
 unfold deadboltref08_Same.f
 repeat' first
   | (with_reducible exact ih0 _ _ _ _)
   | (with_reducible exact LeO.refl _)
   | (with_reducible exact LeO.none _)
   | (with_reducible refine LeO.ite ?_ ?_)
   | (with_reducible refine LeO.bind ?_ (fun _ => ?_))
   | exact ih0 _ _ _ _
   | exact LeO.none _
   | refine LeO.ite ?_ ?_
   | refine LeO.bind ?_ (fun _ => ?_)
set_option maxHeartbeats 8000000 in
set_option maxRecDepth 100000 in
theorem deadboltref08_Same.calls (k : Nat) (A0 : Option Addr) (c0 : Nat) (l0 : List Int) (A1 : Option Addr) (c1 : Nat) (l1 : List Int) (r : Bool) (w : World) (hr0 : Kd.C (Kd.int .i64) w A0 l0.length l0) (hc0 : l0.length ≤ c0) (hr1 : Kd.C (Kd.int .i64) w A1 l1.length l1) (hc1 : l1.length ≤ c1) (h : deadboltref08_Same.f k l0 l1 = some r) :
  Calls Try.prog 41 #[.slice A0 l0.length c0, .slice A1 l1.length c1] w fun e w' => e = .returned (.bool r) ∧ Drawn0 w w' := by
 have HR0 := Aside0.mk hr0
 have HC0 := Aside0.mk hc0
 clear hr0 hc0
 have HR1 := Aside0.mk hr1
 have HC1 := Aside0.mk hc1
 clear hr1 hc1
 have H : (if (l0.length : Int) = (l1.length : Int) then (deadboltref08_Same.l0 k l0 l1 (l0.length : Int) 0) else (some false)) = some r := h
 clear h
 by_cases c3 : (l0.length : Int) = (l1.length : Int)
 ·rw [if_pos c3] at H
  have c3b0 : ((l0.length : Int) == (l1.length : Int)) = true := beq_iff_eq.mpr c3
  have c3b1 : ((l0.length : Int) != (l1.length : Int)) = false := bne_eq_false_iff_eq.mpr c3
  have c3b2 : (l0.length == l1.length) = true := by first | simpa using c3 | (simp at c3 ⊢; omega)
  clear c3
  have H' := Aside0.mk H
  clear H
  go_enter Try.func41, Try.ntmps41
  go_wp2
  repeat (go_quiet (fail); try go_wp2)
  go_loopg [13] k (fun kq v13 w' => ∃ (x13_1 : Int), v13 = .int .i64 x13_1 ∧ Aside0 (deadboltref08_Same.l0 kq l0 l1 (l0.length : Int) x13_1 = some r) ∧ Aside0 (kq ≤ k) ∧ Drawn0 w w')
  case atStart => exact ⟨(0), (by first | rfl | (simp; done) | (simp [*]; done)), H', ⟨Nat.le_refl _⟩, by repeat (first | exact Drawn0.refl _ | apply Drawn0.step)⟩
  case round =>
   clear H'
   try clear c1
   try clear p2
   try clear c3
   try clear c3b0
   try clear c3b1
   try clear c3b2
   obtain ⟨x13_1, rfl, HA, HK1, ⟨m1, rfl⟩⟩ := hrel
   cases gk with
   | zero => exact absurd HA.out (by simp [deadboltref08_Same.l0])
   | succ k1 =>
    have H := HA.out
    clear HA
    simp only [deadboltref08_Same.l0] at H
    by_cases c4 : x13_1 < (l0.length : Int)
    ·rw [if_pos c4] at H
     have c4b0 : decide (x13_1 < (l0.length : Int)) = true := decide_eq_true c4
     clear c4
     by_cases c5 : 0 ≤ x13_1
     ·rw [if_pos c5] at H
      have c5b0 : decide (0 ≤ x13_1) = true := decide_eq_true c5
      clear c5
      by_cases c6 : x13_1 < (l0.length : Int)
      ·rw [if_pos c6] at H
       have c6b0 : decide (x13_1 < (l0.length : Int)) = true := decide_eq_true c6
       clear c6
       by_cases c7 : x13_1 < (l1.length : Int)
       ·rw [if_pos c7] at H
        have c7b0 : decide (x13_1 < (l1.length : Int)) = true := decide_eq_true c7
        clear c7
        by_cases c8 : (rd l0 x13_1) = (rd l1 x13_1)
        ·rw [if_pos c8] at H
         have c8b0 : ((rd l0 x13_1) == (rd l1 x13_1)) = true := beq_iff_eq.mpr c8
         have c8b1 : ((rd l0 x13_1) != (rd l1 x13_1)) = false := bne_eq_false_iff_eq.mpr c8
         clear c8
         have H' := Aside0.mk H
         clear H
         have p332 : 0 ≤ (x13_1 : Int) := of_decide_eq_true (by first | (with_reducible assumption) | assumption)
         have q332 : x13_1 < (l0.length : Int) := of_decide_eq_true (by first | (with_reducible assumption) | assumption)
         obtain ⟨ad332, e332, hx332_0⟩ := Kd.at_int HR0.out x13_1 p332 q332
         cases e332
         replace p332 := eq_true p332
         replace q332 := eq_true q332
         have p333 : 0 ≤ (x13_1 : Int) := of_decide_eq_true (by first | (with_reducible assumption) | assumption)
         have q333 : x13_1 < (l1.length : Int) := of_decide_eq_true (by first | (with_reducible assumption) | assumption)
         obtain ⟨ad333, e333, hx333_0⟩ := Kd.at_int HR1.out x13_1 p333 q333
         cases e333
         replace p333 := eq_true p333
         replace q333 := eq_true q333
         go_wp2
         repeat (go_quiet (fail); try go_wp2)
         go_roundg k1
         case measure => have := HK1.out; omega
         case rel => exact ⟨(wrap64 (x13_1 + 1)), (by first | rfl | (simp; done) | (simp [*]; done)), H', ⟨by have := HK1.out; omega⟩, by repeat (first | exact Drawn0.refl _ | apply Drawn0.step)⟩
        ·rw [if_neg c8] at H
         have c8b0 : ((rd l0 x13_1) == (rd l1 x13_1)) = false := beq_eq_false_iff_ne.mpr c8
         have c8b1 : ((rd l0 x13_1) != (rd l1 x13_1)) = true := bne_iff_ne.mpr c8
         obtain rfl := Option.some.inj H
         have p332 : 0 ≤ (x13_1 : Int) := of_decide_eq_true (by first | (with_reducible assumption) | assumption)
         have q332 : x13_1 < (l0.length : Int) := of_decide_eq_true (by first | (with_reducible assumption) | assumption)
         obtain ⟨ad332, e332, hx332_0⟩ := Kd.at_int HR0.out x13_1 p332 q332
         cases e332
         replace p332 := eq_true p332
         replace q332 := eq_true q332
         have p333 : 0 ≤ (x13_1 : Int) := of_decide_eq_true (by first | (with_reducible assumption) | assumption)
         have q333 : x13_1 < (l1.length : Int) := of_decide_eq_true (by first | (with_reducible assumption) | assumption)
         obtain ⟨ad333, e333, hx333_0⟩ := Kd.at_int HR1.out x13_1 p333 q333
         cases e333
         replace p333 := eq_true p333
         replace q333 := eq_true q333
         go_wp2
         repeat (go_quiet (fail); try go_wp2)
         go_ret
         exact ⟨by first | rfl | (simp; done) | (simp [*]; done), by repeat (first | exact Drawn0.refl _ | apply Drawn0.step)⟩
       ·rw [if_neg c7] at H
        exact absurd H (by simp)
      ·rw [if_neg c6] at H
       exact absurd H (by simp)
     ·rw [if_neg c5] at H
      exact absurd H (by simp)
    ·rw [if_neg c4] at H
     have c4b0 : decide (x13_1 < (l0.length : Int)) = false := decide_eq_false c4
     clear c4
     obtain rfl := Option.some.inj H
     go_wp2
     repeat (go_quiet (fail); try go_wp2)
     go_ret
     exact ⟨by first | rfl | (simp; done) | (simp [*]; done), by repeat (first | exact Drawn0.refl _ | apply Drawn0.step)⟩
 ·rw [if_neg c3] at H
  have c3b0 : ((l0.length : Int) == (l1.length : Int)) = false := beq_eq_false_iff_ne.mpr c3
  have c3b1 : ((l0.length : Int) != (l1.length : Int)) = true := bne_iff_ne.mpr c3
  have c3b2 : (l0.length == l1.length) = false := by first | simpa using c3 | (simp at c3 ⊢; omega)
  obtain rfl := Option.some.inj H
  go_enter Try.func41, Try.ntmps41
  go_wp2
  repeat (go_quiet (fail); try go_wp2)
  go_ret
  exact ⟨by first | rfl | (simp; done) | (simp [*]; done), by repeat (first | exact Drawn0.refl _ | apply Drawn0.step)⟩

end Go.Proofs.Ytjdjmhagafmkaaa.PX

namespace Go.Proofs.Ytjdjmhagafmkaaa.PX
open Go.RowKit Go.Proofs.YtjdjmhagafmkaaaW.PrintWords Go.Proofs.YtjdjmhagafmkaaaW.PrintLast Go.Proofs.YtjdjmhagafmkaaaW.PrintMore
attribute [local go_sem] max2_int min2_int max_two min_two max_three min_three max_four min_four   -- for this text's walks alone
set_option linter.unusedVariables false
set_option linter.unusedSimpArgs false

/-! ### treap_isKey: function 67 -/
def treap_isKey.f (a0 : Int) : Option (Bool) := if a0 ≥ 0 then (some (decide (a0 ≤ 4294967295))) else (some false)
set_option maxHeartbeats 8000000 in
set_option maxRecDepth 100000 in
theorem treap_isKey.calls (a0 : Int) (r : Bool) (w : World) (h : treap_isKey.f a0 = some r) :
  Calls Try.prog 67 #[.int .i64 a0] w fun e w' => e = .returned (.bool r) ∧ Drawn0 w w' := by
 have H : (if a0 ≥ 0 then (some (decide (a0 ≤ 4294967295))) else (some false)) = some r := h
 clear h
 by_cases c2 : a0 ≥ 0
 ·rw [if_pos c2] at H
  have c2b0 : decide (0 ≤ a0) = true := decide_eq_true c2
  clear c2
  obtain rfl := Option.some.inj H
  go_enter Try.func67, Try.ntmps67
  go_wp2
  go_ret
  exact ⟨by first | rfl | (simp; done) | (simp [*]; done), by repeat (first | exact Drawn0.refl _ | apply Drawn0.step)⟩
 ·rw [if_neg c2] at H
  have c2b0 : decide (0 ≤ a0) = false := decide_eq_false c2
  clear c2
  obtain rfl := Option.some.inj H
  go_enter Try.func67, Try.ntmps67
  go_wp2
  go_ret
  exact ⟨by first | rfl | (simp; done) | (simp [*]; done), by repeat (first | exact Drawn0.refl _ | apply Drawn0.step)⟩

end Go.Proofs.Ytjdjmhagafmkaaa.PX

namespace Go.Proofs.Ytjdjmhagafmkaaa.PX
open Go.RowKit Go.Proofs.YtjdjmhagafmkaaaW.PrintWords Go.Proofs.YtjdjmhagafmkaaaW.PrintLast Go.Proofs.YtjdjmhagafmkaaaW.PrintMore
attribute [local go_sem] max2_int min2_int max_two min_two max_three min_three max_four min_four   -- for this text's walks alone
set_option linter.unusedVariables false
set_option linter.unusedSimpArgs false

/-! ### treap_Pri: function 32 -/
def treap_Pri.f (a0 : Int) : Option (Int) := (treap_isKey.f a0).bind fun t260 => (if t260 = true then (some (Go.bits .and .i64 (wrap64 (a0 * 2654435761)) 4294967295)) else (some (-1)))
set_option maxHeartbeats 8000000 in
set_option maxRecDepth 100000 in
theorem treap_Pri.calls (a0 : Int) (r : Int) (w : World) (h : treap_Pri.f a0 = some r) :
  Calls Try.prog 32 #[.int .i64 a0] w fun e w' => e = .returned (.int .i64 r) ∧ Drawn0 w w' := by
 have H : ((treap_isKey.f a0).bind fun t260 => (if t260 = true then (some (Go.bits .and .i64 (wrap64 (a0 * 2654435761)) 4294967295)) else (some (-1)))) = some r := h
 clear h
 replace H := Option.bind_eq_some_iff.mp H
 obtain ⟨t260, A20, H⟩ := H
 replace H : (if t260 = true then (some (Go.bits .and .i64 (wrap64 (a0 * 2654435761)) 4294967295)) else (some (-1))) = some r := H
 have A2 := Aside0.mk A20
 clear A20
 by_cases c3 : t260 = true
 ·subst c3
  have H1 : (some (Go.bits .and .i64 (wrap64 (a0 * 2654435761)) 4294967295)) = some r := by rw [if_pos rfl] at H; exact H
  clear H
  have H := H1
  clear H1
  obtain rfl := Option.some.inj H
  go_enter Try.func32, Try.ntmps32
  go_wp2_with (first | ((with_reducible refine gate_callee (f := 67) rfl ?_); refine goesL_ (some 4) rfl rfl Try.func67 (by kernel_rfl) rfl #[.int .i64 a0] rfl (by (try simp only [List.map_toArray, List.map_cons, List.map_nil]); first | done | rfl | (simp only [List.length_drop, List.length_take]; rfl)) ?_; (with_reducible refine (treap_isKey.calls a0 true _ A2.out).mono ?_); rintro e w' ⟨rfl, ⟨nd, rfl⟩⟩; refine ⟨_, rfl, ?_⟩))
  go_ret
  exact ⟨by first | rfl | (simp; done) | (simp [*]; done), by repeat (first | exact Drawn0.refl _ | apply Drawn0.step)⟩
 ·replace c3 := Bool.eq_false_iff.mpr c3
  subst c3
  have H1 : (some (-1)) = some r := by rw [if_neg (show ¬ (false = true) by decide)] at H; exact H
  clear H
  have H := H1
  clear H1
  obtain rfl := Option.some.inj H
  go_enter Try.func32, Try.ntmps32
  go_wp2_with (first | ((with_reducible refine gate_callee (f := 67) rfl ?_); refine goesL_ (some 4) rfl rfl Try.func67 (by kernel_rfl) rfl #[.int .i64 a0] rfl (by (try simp only [List.map_toArray, List.map_cons, List.map_nil]); first | done | rfl | (simp only [List.length_drop, List.length_take]; rfl)) ?_; (with_reducible refine (treap_isKey.calls a0 false _ A2.out).mono ?_); rintro e w' ⟨rfl, ⟨nd, rfl⟩⟩; refine ⟨_, rfl, ?_⟩))
  go_ret
  exact ⟨by first | rfl | (simp; done) | (simp [*]; done), by repeat (first | exact Drawn0.refl _ | apply Drawn0.step)⟩

end Go.Proofs.Ytjdjmhagafmkaaa.PX

/-
 What trees that may be tell, in the plain forms of the program's and the document's functions.
-/
namespace Go.Proofs.Ytjdjmhagafmkaaa.PX
open Go.RowKit Treap Go.Proofs.YtjdjmhagafmkaaaW.PrintWords Go.Proofs.YtjdjmhagafmkaaaW.PrintLast Go.Proofs.YtjdjmhagafmkaaaW.PrintMore
namespace TreapP
theorem Tr.next {root : Int} {ns : List S87} {keys : List Int} (h : Tr root ns keys) (h64 : ns.length ≤ 64) {key : Int} (hk : isKey key = true) :
  treap_Next.f root ns key = some (match keys.find? (fun x => decide (key ≤ x)) with | some x => (x, 0) | none => (0, 4)) := by
 obtain ⟨t, hg, rfl⟩ := h
 unfold treap_Next.f
 rw [if_pos (by omega)]
 exact next_good hg (by simpa using h64) hk
theorem pri_f {a : Int} : treap_Pri.f a = some (priOf a) := by
 unfold treap_Pri.f treap_isKey.f priOf isKey
 by_cases h0 : 0 ≤ a
 ·rw [if_pos h0, decide_eq_true h0]
  by_cases h1 : a ≤ 4294967295
  ·rw [decide_eq_true h1]; rfl
  ·rw [decide_eq_false h1]; rfl
 ·rw [if_neg h0, decide_eq_false h0]; rfl
theorem getD_at {keys : List Int} {i : Nat} (h : i < keys.length) : keys.getD i 0 = keys[i] := by
 rw [List.getD_eq_getElem?_getD, List.getElem?_eq_getElem h]
 rfl
theorem without_l0 (key : Int) (l : List Int) (hn : l.length ≤ 1000) : ∀ (d i k : Nat) (acc : List Int), i + d = l.length → acc.length ≤ i → d < k →
  deadboltref08_Without.l0 k key acc l (l.length : Int) (i : Int) = some (acc ++ (l.drop i).filter (fun x => !(x == key))) := by
 intro d
 induction d with
 | zero =>
  intro i k acc hi ha hk
  obtain ⟨k, rfl⟩ : ∃ q, k = q + 1 := ⟨k - 1, by omega⟩
  rw [deadboltref08_Without.l0, if_neg (by omega), List.drop_eq_nil_of_le (by omega)]
  simp
 | succ d ih =>
  intro i k acc hi ha hk
  obtain ⟨k, rfl⟩ : ∃ q, k = q + 1 := ⟨k - 1, by omega⟩
  have hlt : i < l.length := by omega
  rw [deadboltref08_Without.l0, if_pos (by omega), if_pos (by omega), if_pos (by omega), w64_next hlt hn, rdI hlt, List.drop_eq_getElem_cons hlt, List.filter_cons]
  by_cases he : l[i] = key
  ·rw [if_pos he, ih (i + 1) k acc (by omega) (by omega) (by omega), if_neg (by simp [he])]
  ·rw [if_neg he, if_pos (by omega), ih (i + 1) k _ (by omega) (by simp; omega) (by omega), if_pos (by simp [he])]
   simp
theorem without_f (key : Int) (l : List Int) (hn : l.length ≤ 1000) (k : Nat) (hk : l.length < k) : deadboltref08_Without.f k l key = some (l.filter (fun x => !(x == key))) := without_l0 key l hn l.length 0 k [] (by omega) (by simp) hk
theorem same_l0 (l m : List Int) (hm : l.length = m.length) (hn : l.length ≤ 1000) : ∀ (d i k : Nat), i + d = l.length → d < k →
  deadboltref08_Same.l0 k l m (l.length : Int) (i : Int) = some (decide (l.drop i = m.drop i)) := by
 intro d
 induction d with
 | zero =>
  intro i k hi hk
  obtain ⟨k, rfl⟩ : ∃ q, k = q + 1 := ⟨k - 1, by omega⟩
  rw [deadboltref08_Same.l0, if_neg (by omega), List.drop_eq_nil_of_le (by omega), List.drop_eq_nil_of_le (by omega)]
  rfl
 | succ d ih =>
  intro i k hi hk
  obtain ⟨k, rfl⟩ : ∃ q, k = q + 1 := ⟨k - 1, by omega⟩
  have hlt : i < l.length := by omega
  have hlt2 : i < m.length := by omega
  rw [deadboltref08_Same.l0, if_pos (by omega), if_pos (by omega), if_pos (by omega), if_pos (by omega), w64_next hlt hn, rdI hlt, rdI hlt2]
  have e1 : l.drop i = l[i] :: l.drop (i + 1) := List.drop_eq_getElem_cons hlt
  have e2 : m.drop i = m[i] :: m.drop (i + 1) := List.drop_eq_getElem_cons hlt2
  rw [e1, e2]
  by_cases he : l[i] = m[i]
  ·rw [if_pos he, ih (i + 1) k (by omega) (by omega), he]
   exact congrArg some (decide_eq_decide.2 ⟨fun h => by rw [h], fun h => (List.cons.inj h).2⟩)
  ·rw [if_neg he, decide_eq_false (by intro h; exact he (List.cons.inj h).1)]
theorem same_f (l m : List Int) (hn : l.length ≤ 1000) (k : Nat) (hk : l.length < k) : deadboltref08_Same.f k l m = some (decide (l = m)) := by
 unfold deadboltref08_Same.f
 by_cases h : l.length = m.length
 ·rw [if_pos (by omega)]
  exact same_l0 l m h hn l.length 0 k (by omega) hk
 ·rw [if_neg (by omega), decide_eq_false (fun e => h (by rw [e]))]
section
variable {root : Int} {ns : List S87} {keys : List Int}
theorem filter_mid (key : Int) : ∀ (A B : List Int), (A ++ key :: B).Pairwise (· < ·) → (A ++ key :: B).filter (fun x => !(x == key)) = A ++ B := by
 intro A B h
 rw [List.pairwise_append, List.pairwise_cons] at h
 rw [List.filter_append, List.filter_cons, if_neg (by simp)]
 congr 1
 ·rw [List.filter_eq_self]
  intro x hx
  have := h.2.2 x hx key (by simp)
  simp
  omega
 ·rw [List.filter_eq_self]
  intro x hx
  have := h.2.1.1 x hx
  simp
  omega
theorem Tr.del_none (h : Tr root ns keys) (h64 : ns.length ≤ 64) {key : Int} (hk : isKey key = true) (hin : key ∉ keys) : treap_Del.f root ns key = some (0, [], 4) := by
 obtain ⟨t, hg, rfl⟩ := h
 unfold treap_Del.f
 have e : delF (ns.map toNd) root key = some (([], 0), 4) := Treap.del_none hg (by simpa using h64) hk hin
 rw [if_pos (by omega), e]
 rfl
theorem Tr.del (h : Tr root ns keys) (h64 : ns.length ≤ 64) {key : Int} (hk : isKey key = true) (hin : key ∈ keys) : ∃ root' ns', treap_Del.f root ns key = some (root', ns', 0) ∧ ns'.length = ns.length - 1 ∧ Tr root' ns' (keys.filter (fun x => !(x == key))) := by
 obtain ⟨t, hg, rfl⟩ := h
 obtain ⟨s', t', h1, h2, h3, A, B, h4, h5⟩ := del_good hg (by simpa using h64) hk hin
 have h1' : delF (ns.map toNd) root key = some (s', 0) := h1
 have hup := hg.up
 refine ⟨s'.2, s'.1.map ofNd, ?_, by simpa using h2, t', ?_, ?_⟩
 ·unfold treap_Del.f
  rw [if_pos (by omega), h1']
  rfl
 ·rw [map_to_of]; exact h3
 ·rw [map_to_of, h4, filter_mid key A B (by rw [← h4]; exact hup), ← h5]
theorem Tr.right (h : Tr root ns keys) (h64 : ns.length ≤ 64) : treap_Right.f root ns = some true := by
 obtain ⟨t, hg, rfl⟩ := h
 unfold treap_Right.f
 rw [if_pos (by omega)]
 exact congrArg some (hg.right (by simpa using h64))
theorem Tr.all (h : Tr root ns keys) (h64 : ns.length ≤ 64) : treap_Keys.f root ns = some (keys, 0) := by
 obtain ⟨t, hg, rfl⟩ := h
 unfold treap_Keys.f keysF
 have h1 : rightB (ns.map toNd) root = true := hg.right (by simpa using h64)
 rw [if_pos (by omega), if_pos h1]
 exact congrArg some (Prod.ext hg.keysL rfl)
theorem Tr.find (h : Tr root ns keys) (h64 : ns.length ≤ 64) {key : Int} (hk : isKey key = true) (hin : key ∈ keys) : ∃ d : KT, d.Heap ∧ d.keys = keys ∧ treap_Find.f root ns key = some ((((KT.dep key d : Nat) : Int), (0 : Int)) : Int × Int) := by
 obtain ⟨t, hg, rfl⟩ := h
 refine ⟨t.kt (K (ns.map toNd, root)), kt_heap _ t hg.heap, kt_keys _ t, ?_⟩
 unfold treap_Find.f
 have e : findF (ns.map toNd) root key = _ := find_good hg (by simpa using h64) hk
 rw [if_pos (by omega), e, if_pos hin]
end
theorem right_t {root : Int} {t : List S87} (h : t.length ≤ 1000) : treap_Right.f root t = some (rightB (t.map toNd) root) := by
 unfold treap_Right.f
 rw [if_pos h]
theorem bad_t {root key : Int} {t : List S87} (h : t.length ≤ 1000) (hm : mayB (t.map toNd) root key = false) :
  treap_Find.f root t key = some (0, 1) ∧ treap_Next.f root t key = some (0, 1) ∧ treap_Put.f root t key = some (0, [], 1) ∧ treap_Del.f root t key = some (0, [], 1) := by
 obtain ⟨h1, h2, h3, h4⟩ := find_bad hm
 unfold treap_Find.f treap_Next.f treap_Put.f treap_Del.f
 rw [if_pos h, if_pos h, if_pos h, if_pos h, h1, h2, h3, h4]
 exact ⟨rfl, rfl, rfl, rfl⟩
theorem keys_bad {root : Int} {t : List S87} (h : t.length ≤ 1000) (hr : rightB (t.map toNd) root = false) : treap_Keys.f root t = some ([], 1) := by
 unfold treap_Keys.f keysF
 rw [if_pos h, if_neg (by rw [hr]; simp)]
theorem tr_of {root : Int} {t : List S87} (hr : rightB (t.map toNd) root = true) : t.length ≤ 64 ∧ Tr root t (keysL (t.map toNd) root) := by
 obtain ⟨h64, tt, hg⟩ := good_of hr
 exact ⟨by simpa using h64, tt, hg, hg.keysL⟩
theorem Tr.find_none {root : Int} {ns : List S87} {keys : List Int} (h : Tr root ns keys) (h64 : ns.length ≤ 64) {key : Int} (hk : isKey key = true) (hin : key ∉ keys) : treap_Find.f root ns key = some (0, 4) := by
 obtain ⟨t, hg, rfl⟩ := h
 unfold treap_Find.f
 have e : findF (ns.map toNd) root key = _ := find_good hg (by simpa using h64) hk
 rw [if_pos (by omega), e, if_neg hin]
section
variable {root : Int} {ns : List S87} {keys : List Int}
theorem Tr.rightB (h : Tr root ns keys) (h64 : ns.length ≤ 64) : Treap.rightB (ns.map toNd) root = true ∧ keysL (ns.map toNd) root = keys := by
 obtain ⟨t, hg, rfl⟩ := h
 exact ⟨hg.right (by simpa using h64), hg.keysL⟩
theorem Tr.refs (h : Tr root ns keys) (h64 : ns.length ≤ 64) (k : Nat) (hk : 6000 ≤ k) : deadboltref08_Right.f k root ns = some true ∧ deadboltref08_Keys.f k root ns = some keys := by
 obtain ⟨h1, h2⟩ := h.rightB h64
 refine ⟨by rw [refRight_f root ns (by omega) k hk, h1], ?_⟩
 rw [refKeys_f root ns (by omega) k (by omega) h1, h2]
theorem Tr.put_full (h : Tr root ns keys) (h64 : ns.length = 64) {key : Int} (hk : isKey key = true) (hin : key ∉ keys) : treap_Put.f root ns key = some (0, [], 5) := by
 obtain ⟨t, hg, rfl⟩ := h
 unfold treap_Put.f
 have e : putF (ns.map toNd) root key = some (([], 0), 5) := Treap.put_full hg (by simpa using h64) hk hin
 rw [if_pos (by omega), e]
 rfl
end
end TreapP
end Go.Proofs.Ytjdjmhagafmkaaa.PX

namespace Go.Proofs.Ytjdjmhagafmkaaa.PX
open Go.RowKit Go.Proofs.YtjdjmhagafmkaaaW.PrintWords Go.Proofs.YtjdjmhagafmkaaaW.PrintLast Go.Proofs.YtjdjmhagafmkaaaW.PrintMore
attribute [local go_sem] max2_int min2_int max_two min_two max_three min_three max_four min_four   -- for this text's walks alone
set_option linter.unusedVariables false
set_option linter.unusedSimpArgs false

/-! ### deadboltref08_Depth: function 44 -/
mutual
def deadboltref08_Depth.l0 : Nat → List Int → Int → Int → List Int → Int → Int → Option (Int)
 | 0, _, _, _, _, _, _ => none
 | k + 1, x0, x1, x5, x8, x9, x10 => if x10 < x9 then (if 0 ≤ x10 then (if x10 < (x8.length : Int) then ((deadboltref08_Pri.f (rd x8 x10)).bind fun t336 => (if 0 ≤ x5 then (if x5 < (x0.length : Int) then ((deadboltref08_Pri.f (rd x0 x5)).bind fun t338 => (if t336 > t338 then (deadboltref08_Depth.l0 k x0 x1 x10 x8 x9 (wrap64 (x10 + 1))) else (deadboltref08_Depth.l0 k x0 x1 x5 x8 x9 (wrap64 (x10 + 1))))) else (none)) else (none))) else (none)) else (none)) else (if 0 ≤ x5 then (if x5 < (x0.length : Int) then (if (rd x0 x5) = x1 then (some 0) else (if x1 < (rd x0 x5) then (if x5 ≤ (x0.length : Int) then ((deadboltref08_Depth.f k (x0.take (x5 : Int).toNat) x1).bind fun t342 => (some (wrap64 (1 + t342)))) else (none)) else (if 0 ≤ (wrap64 (x5 + 1)) then (if (wrap64 (x5 + 1)) ≤ (x0.length : Int) then ((deadboltref08_Depth.f k (x0.drop ((wrap64 (x5 + 1)) : Int).toNat) x1).bind fun t344 => (some (wrap64 (1 + t344)))) else (none)) else (none)))) else (none)) else (none))
def deadboltref08_Depth.f : Nat → List Int → Int → Option (Int)
 | 0, _, _ => none
 | k + 1, l0, a1 => deadboltref08_Depth.l0 k l0 a1 0 l0 (l0.length : Int) 0
end
theorem deadboltref08_Depth.mono_l : ∀ k, (∀ y0 y1, LeO (deadboltref08_Depth.f k y0 y1) (deadboltref08_Depth.f (k + 1) y0 y1)) ∧ (∀ y0 y1 y2 y3 y4 y5, LeO (deadboltref08_Depth.l0 k y0 y1 y2 y3 y4 y5) (deadboltref08_Depth.l0 (k + 1) y0 y1 y2 y3 y4 y5))
 | 0 => ⟨fun _ _ r h => by simp [deadboltref08_Depth.f] at h, fun _ _ _ _ _ _ r h => by simp [deadboltref08_Depth.l0] at h⟩
 | k + 1 => by
  obtain ⟨ih0, ih1⟩ := deadboltref08_Depth.mono_l k
  refine ⟨?_, ?_⟩
  ·intro y0 y1
   unfold deadboltref08_Depth.f
   repeat' first
   | (with_reducible exact ih0 _ _)
   | (with_reducible exact ih1 _ _ _ _ _ _)
   | (with_reducible exact LeO.refl _)
   | (with_reducible exact LeO.none _)
   | (with_reducible refine LeO.ite ?_ ?_)
   | (with_reducible refine LeO.bind ?_ (fun _ => ?_))
   | exact ih0 _ _
   | exact ih1 _ _ _ _ _ _
   | exact LeO.none _
   | refine LeO.ite ?_ ?_
   | refine LeO.bind ?_ (fun _ => ?_)
  ·intro y0 y1 y2 y3 y4 y5
   unfold deadboltref08_Depth.l0
   repeat' first
   | (with_reducible exact ih0 _ _)
   | (with_reducible exact ih1 _ _ _ _ _ _)
   | (with_reducible exact LeO.refl _)
   | (with_reducible exact LeO.none _)
   | (with_reducible refine LeO.ite ?_ ?_)
   | (with_reducible refine LeO.bind ?_ (fun _ => ?_))
   | exact ih0 _ _
   | exact ih1 _ _ _ _ _ _
   | exact LeO.none _
   | refine LeO.ite ?_ ?_
   | refine LeO.bind ?_ (fun _ => ?_)
theorem deadboltref08_Depth.mono : ∀ a0 a1 k, LeO (deadboltref08_Depth.f k a0 a1) (deadboltref08_Depth.f (k + 1) a0 a1) := by
 intro a0 a1 k
 obtain ⟨ih0, ih1⟩ := deadboltref08_Depth.mono_l k
 exact ih0 a0 a1
set_option maxHeartbeats 8000000 in
set_option maxRecDepth 100000 in
theorem deadboltref08_Depth.calls (k : Nat) : ∀ (A0 : Option Addr) (c0 : Nat) (l0 : List Int) (a1 : Int) (r : Int) (w : World) (hr0 : Kd.C (Kd.int .i64) w A0 l0.length l0) (hc0 : l0.length ≤ c0) (h : deadboltref08_Depth.f k l0 a1 = some r),
  Calls Try.prog 44 #[.slice A0 l0.length c0, .int .i64 a1] w fun e w' => e = .returned (.int .i64 r) ∧ Drawn0 w w' := by
 induction k using Nat.strongRecOn with
 | _ k ih =>
 intro A0 c0 l0 a1 r w hr0 hc0 h
 cases k with
 | zero => exact absurd h (by simp [deadboltref08_Depth.f])
 | succ k =>
 simp only [deadboltref08_Depth.f] at h
 have HR0 := Aside0.mk hr0
 have HC0 := Aside0.mk hc0
 clear hr0 hc0
 have H : (deadboltref08_Depth.l0 k l0 a1 0 l0 (l0.length : Int) 0) = some r := h
 clear h
 have H' := Aside0.mk H
 clear H
 go_enter Try.func44, Try.ntmps44
 go_wp2
 repeat (go_quiet (fail); try go_wp2)
 go_loopg [5, 10] k (fun kq v5 v10 w' => ∃ (x5_1 : Int) (x10_1 : Int), v5 = .int .i64 x5_1 ∧ v10 = .int .i64 x10_1 ∧ Aside0 (deadboltref08_Depth.l0 kq l0 a1 x5_1 l0 (l0.length : Int) x10_1 = some r) ∧ Aside0 (kq ≤ k) ∧ Drawn0 w w')
 case atStart => exact ⟨(0), (0), (by first | rfl | (simp; done) | (simp [*]; done)), (by first | rfl | (simp; done) | (simp [*]; done)), H', ⟨Nat.le_refl _⟩, by repeat (first | exact Drawn0.refl _ | apply Drawn0.step)⟩
 case round =>
  clear H'
  try clear p2
  obtain ⟨x5_1, x10_1, rfl, rfl, HA, HK1, ⟨m1, rfl⟩⟩ := hrel
  cases gk with
  | zero => exact absurd HA.out (by simp [deadboltref08_Depth.l0])
  | succ k1 =>
   have H := HA.out
   clear HA
   simp only [deadboltref08_Depth.l0] at H
   by_cases c3 : x10_1 < (l0.length : Int)
   ·rw [if_pos c3] at H
    have c3b0 : decide (x10_1 < (l0.length : Int)) = true := decide_eq_true c3
    clear c3
    by_cases c4 : 0 ≤ x10_1
    ·rw [if_pos c4] at H
     have c4b0 : decide (0 ≤ x10_1) = true := decide_eq_true c4
     clear c4
     by_cases c5 : x10_1 < (l0.length : Int)
     ·rw [if_pos c5] at H
      have c5b0 : decide (x10_1 < (l0.length : Int)) = true := decide_eq_true c5
      clear c5
      replace H := Option.bind_eq_some_iff.mp H
      obtain ⟨t336, A60, H⟩ := H
      replace H : (if 0 ≤ x5_1 then (if x5_1 < (l0.length : Int) then ((deadboltref08_Pri.f (rd l0 x5_1)).bind fun t338 => (if t336 > t338 then (deadboltref08_Depth.l0 k1 l0 a1 x10_1 l0 (l0.length : Int) (wrap64 (x10_1 + 1))) else (deadboltref08_Depth.l0 k1 l0 a1 x5_1 l0 (l0.length : Int) (wrap64 (x10_1 + 1))))) else (none)) else (none)) = some r := H
      have A6 := Aside0.mk A60
      clear A60
      by_cases c7 : 0 ≤ x5_1
      ·rw [if_pos c7] at H
       have c7b0 : decide (0 ≤ x5_1) = true := decide_eq_true c7
       clear c7
       by_cases c8 : x5_1 < (l0.length : Int)
       ·rw [if_pos c8] at H
        have c8b0 : decide (x5_1 < (l0.length : Int)) = true := decide_eq_true c8
        clear c8
        replace H := Option.bind_eq_some_iff.mp H
        obtain ⟨t338, A90, H⟩ := H
        replace H : (if t336 > t338 then (deadboltref08_Depth.l0 k1 l0 a1 x10_1 l0 (l0.length : Int) (wrap64 (x10_1 + 1))) else (deadboltref08_Depth.l0 k1 l0 a1 x5_1 l0 (l0.length : Int) (wrap64 (x10_1 + 1)))) = some r := H
        have A9 := Aside0.mk A90
        clear A90
        by_cases c10 : t336 > t338
        ·rw [if_pos c10] at H
         have c10b0 : decide (t338 < t336) = true := decide_eq_true c10
         clear c10
         have H' := Aside0.mk H
         clear H
         have p335 : 0 ≤ (x10_1 : Int) := of_decide_eq_true (by first | (with_reducible assumption) | assumption)
         have q335 : x10_1 < (l0.length : Int) := of_decide_eq_true (by first | (with_reducible assumption) | assumption)
         obtain ⟨ad335, e335, hx335_0⟩ := Kd.at_int HR0.out x10_1 p335 q335
         cases e335
         replace p335 := eq_true p335
         replace q335 := eq_true q335
         go_wp2_with (first | (go_at_call 38; (with_reducible refine (deadboltref08_Pri.calls (rd l0 x10_1) t336 _ A6.out).mono ?_); rintro e w' ⟨rfl, ⟨nd, rfl⟩⟩; (try first | exact ⟨rfl, _, World.drewN_drewN _ _ _⟩ | exact ⟨rfl, _, Eq.trans (World.drewN_drewN _ _ _) (congrArg (World.drewN _) (Nat.add_assoc _ _ _))⟩); have p337 : 0 ≤ (x5_1 : Int) := of_decide_eq_true (by first | (with_reducible assumption) | assumption); have q337 : x5_1 < (l0.length : Int) := of_decide_eq_true (by first | (with_reducible assumption) | assumption); obtain ⟨ad337, e337, hx337_0⟩ := Kd.at_int HR0.out x5_1 p337 q337; obtain rfl : ad335 = ad337 := (by injection e337); replace p337 := eq_true p337; replace q337 := eq_true q337) | (go_at_call 38; (with_reducible refine (deadboltref08_Pri.calls (rd l0 x5_1) t338 _ A9.out).mono ?_); rintro e w' ⟨rfl, ⟨nd, rfl⟩⟩; (try first | exact ⟨rfl, _, World.drewN_drewN _ _ _⟩ | exact ⟨rfl, _, Eq.trans (World.drewN_drewN _ _ _) (congrArg (World.drewN _) (Nat.add_assoc _ _ _))⟩)))
         repeat (go_quiet (first | (go_at_call 38; (with_reducible refine (deadboltref08_Pri.calls (rd l0 x10_1) t336 _ A6.out).mono ?_); rintro e w' ⟨rfl, ⟨nd, rfl⟩⟩; (try first | exact ⟨rfl, _, World.drewN_drewN _ _ _⟩ | exact ⟨rfl, _, Eq.trans (World.drewN_drewN _ _ _) (congrArg (World.drewN _) (Nat.add_assoc _ _ _))⟩); have p337 : 0 ≤ (x5_1 : Int) := of_decide_eq_true (by first | (with_reducible assumption) | assumption); have q337 : x5_1 < (l0.length : Int) := of_decide_eq_true (by first | (with_reducible assumption) | assumption); obtain ⟨ad337, e337, hx337_0⟩ := Kd.at_int HR0.out x5_1 p337 q337; obtain rfl : ad335 = ad337 := (by injection e337); replace p337 := eq_true p337; replace q337 := eq_true q337) | (go_at_call 38; (with_reducible refine (deadboltref08_Pri.calls (rd l0 x5_1) t338 _ A9.out).mono ?_); rintro e w' ⟨rfl, ⟨nd, rfl⟩⟩; (try first | exact ⟨rfl, _, World.drewN_drewN _ _ _⟩ | exact ⟨rfl, _, Eq.trans (World.drewN_drewN _ _ _) (congrArg (World.drewN _) (Nat.add_assoc _ _ _))⟩))); try go_wp2_with (first | (go_at_call 38; (with_reducible refine (deadboltref08_Pri.calls (rd l0 x10_1) t336 _ A6.out).mono ?_); rintro e w' ⟨rfl, ⟨nd, rfl⟩⟩; (try first | exact ⟨rfl, _, World.drewN_drewN _ _ _⟩ | exact ⟨rfl, _, Eq.trans (World.drewN_drewN _ _ _) (congrArg (World.drewN _) (Nat.add_assoc _ _ _))⟩); have p337 : 0 ≤ (x5_1 : Int) := of_decide_eq_true (by first | (with_reducible assumption) | assumption); have q337 : x5_1 < (l0.length : Int) := of_decide_eq_true (by first | (with_reducible assumption) | assumption); obtain ⟨ad337, e337, hx337_0⟩ := Kd.at_int HR0.out x5_1 p337 q337; obtain rfl : ad335 = ad337 := (by injection e337); replace p337 := eq_true p337; replace q337 := eq_true q337) | (go_at_call 38; (with_reducible refine (deadboltref08_Pri.calls (rd l0 x5_1) t338 _ A9.out).mono ?_); rintro e w' ⟨rfl, ⟨nd, rfl⟩⟩; (try first | exact ⟨rfl, _, World.drewN_drewN _ _ _⟩ | exact ⟨rfl, _, Eq.trans (World.drewN_drewN _ _ _) (congrArg (World.drewN _) (Nat.add_assoc _ _ _))⟩))))
         go_roundg k1
         case measure => have := HK1.out; omega
         case rel => exact ⟨(x10_1), (wrap64 (x10_1 + 1)), (by first | rfl | (simp; done) | (simp [*]; done)), (by first | rfl | (simp; done) | (simp [*]; done)), H', ⟨by have := HK1.out; omega⟩, by repeat (first | exact Drawn0.refl _ | apply Drawn0.step)⟩
        ·rw [if_neg c10] at H
         have c10b0 : decide (t338 < t336) = false := decide_eq_false c10
         clear c10
         have H' := Aside0.mk H
         clear H
         have p335 : 0 ≤ (x10_1 : Int) := of_decide_eq_true (by first | (with_reducible assumption) | assumption)
         have q335 : x10_1 < (l0.length : Int) := of_decide_eq_true (by first | (with_reducible assumption) | assumption)
         obtain ⟨ad335, e335, hx335_0⟩ := Kd.at_int HR0.out x10_1 p335 q335
         cases e335
         replace p335 := eq_true p335
         replace q335 := eq_true q335
         go_wp2_with (first | (go_at_call 38; (with_reducible refine (deadboltref08_Pri.calls (rd l0 x10_1) t336 _ A6.out).mono ?_); rintro e w' ⟨rfl, ⟨nd, rfl⟩⟩; (try first | exact ⟨rfl, _, World.drewN_drewN _ _ _⟩ | exact ⟨rfl, _, Eq.trans (World.drewN_drewN _ _ _) (congrArg (World.drewN _) (Nat.add_assoc _ _ _))⟩); have p337 : 0 ≤ (x5_1 : Int) := of_decide_eq_true (by first | (with_reducible assumption) | assumption); have q337 : x5_1 < (l0.length : Int) := of_decide_eq_true (by first | (with_reducible assumption) | assumption); obtain ⟨ad337, e337, hx337_0⟩ := Kd.at_int HR0.out x5_1 p337 q337; obtain rfl : ad335 = ad337 := (by injection e337); replace p337 := eq_true p337; replace q337 := eq_true q337) | (go_at_call 38; (with_reducible refine (deadboltref08_Pri.calls (rd l0 x5_1) t338 _ A9.out).mono ?_); rintro e w' ⟨rfl, ⟨nd, rfl⟩⟩; (try first | exact ⟨rfl, _, World.drewN_drewN _ _ _⟩ | exact ⟨rfl, _, Eq.trans (World.drewN_drewN _ _ _) (congrArg (World.drewN _) (Nat.add_assoc _ _ _))⟩)))
         repeat (go_quiet (first | (go_at_call 38; (with_reducible refine (deadboltref08_Pri.calls (rd l0 x10_1) t336 _ A6.out).mono ?_); rintro e w' ⟨rfl, ⟨nd, rfl⟩⟩; (try first | exact ⟨rfl, _, World.drewN_drewN _ _ _⟩ | exact ⟨rfl, _, Eq.trans (World.drewN_drewN _ _ _) (congrArg (World.drewN _) (Nat.add_assoc _ _ _))⟩); have p337 : 0 ≤ (x5_1 : Int) := of_decide_eq_true (by first | (with_reducible assumption) | assumption); have q337 : x5_1 < (l0.length : Int) := of_decide_eq_true (by first | (with_reducible assumption) | assumption); obtain ⟨ad337, e337, hx337_0⟩ := Kd.at_int HR0.out x5_1 p337 q337; obtain rfl : ad335 = ad337 := (by injection e337); replace p337 := eq_true p337; replace q337 := eq_true q337) | (go_at_call 38; (with_reducible refine (deadboltref08_Pri.calls (rd l0 x5_1) t338 _ A9.out).mono ?_); rintro e w' ⟨rfl, ⟨nd, rfl⟩⟩; (try first | exact ⟨rfl, _, World.drewN_drewN _ _ _⟩ | exact ⟨rfl, _, Eq.trans (World.drewN_drewN _ _ _) (congrArg (World.drewN _) (Nat.add_assoc _ _ _))⟩))); try go_wp2_with (first | (go_at_call 38; (with_reducible refine (deadboltref08_Pri.calls (rd l0 x10_1) t336 _ A6.out).mono ?_); rintro e w' ⟨rfl, ⟨nd, rfl⟩⟩; (try first | exact ⟨rfl, _, World.drewN_drewN _ _ _⟩ | exact ⟨rfl, _, Eq.trans (World.drewN_drewN _ _ _) (congrArg (World.drewN _) (Nat.add_assoc _ _ _))⟩); have p337 : 0 ≤ (x5_1 : Int) := of_decide_eq_true (by first | (with_reducible assumption) | assumption); have q337 : x5_1 < (l0.length : Int) := of_decide_eq_true (by first | (with_reducible assumption) | assumption); obtain ⟨ad337, e337, hx337_0⟩ := Kd.at_int HR0.out x5_1 p337 q337; obtain rfl : ad335 = ad337 := (by injection e337); replace p337 := eq_true p337; replace q337 := eq_true q337) | (go_at_call 38; (with_reducible refine (deadboltref08_Pri.calls (rd l0 x5_1) t338 _ A9.out).mono ?_); rintro e w' ⟨rfl, ⟨nd, rfl⟩⟩; (try first | exact ⟨rfl, _, World.drewN_drewN _ _ _⟩ | exact ⟨rfl, _, Eq.trans (World.drewN_drewN _ _ _) (congrArg (World.drewN _) (Nat.add_assoc _ _ _))⟩))))
         go_roundg k1
         case measure => have := HK1.out; omega
         case rel => exact ⟨(x5_1), (wrap64 (x10_1 + 1)), (by first | rfl | (simp; done) | (simp [*]; done)), (by first | rfl | (simp; done) | (simp [*]; done)), H', ⟨by have := HK1.out; omega⟩, by repeat (first | exact Drawn0.refl _ | apply Drawn0.step)⟩
       ·rw [if_neg c8] at H
        exact absurd H (by simp)
      ·rw [if_neg c7] at H
       exact absurd H (by simp)
     ·rw [if_neg c5] at H
      exact absurd H (by simp)
    ·rw [if_neg c4] at H
     exact absurd H (by simp)
   ·rw [if_neg c3] at H
    have c3b0 : decide (x10_1 < (l0.length : Int)) = false := decide_eq_false c3
    clear c3
    by_cases c11 : 0 ≤ x5_1
    ·rw [if_pos c11] at H
     have c11b0 : decide (0 ≤ x5_1) = true := decide_eq_true c11
     clear c11
     by_cases c12 : x5_1 < (l0.length : Int)
     ·rw [if_pos c12] at H
      have c12b0 : decide (x5_1 < (l0.length : Int)) = true := decide_eq_true c12
      clear c12
      by_cases c13 : (rd l0 x5_1) = a1
      ·rw [if_pos c13] at H
       have c13b0 : ((rd l0 x5_1) == a1) = true := beq_iff_eq.mpr c13
       have c13b1 : ((rd l0 x5_1) != a1) = false := bne_eq_false_iff_eq.mpr c13
       clear c13
       obtain rfl := Option.some.inj H
       have p339 : 0 ≤ (x5_1 : Int) := of_decide_eq_true (by first | (with_reducible assumption) | assumption)
       have q339 : x5_1 < (l0.length : Int) := of_decide_eq_true (by first | (with_reducible assumption) | assumption)
       obtain ⟨ad339, e339, hx339_0⟩ := Kd.at_int HR0.out x5_1 p339 q339
       cases e339
       replace p339 := eq_true p339
       replace q339 := eq_true q339
       go_wp2
       repeat (go_quiet (fail); try go_wp2)
       go_ret
       exact ⟨by first | rfl | (simp; done) | (simp [*]; done), by repeat (first | exact Drawn0.refl _ | apply Drawn0.step)⟩
      ·rw [if_neg c13] at H
       have c13b0 : ((rd l0 x5_1) == a1) = false := beq_eq_false_iff_ne.mpr c13
       have c13b1 : ((rd l0 x5_1) != a1) = true := bne_iff_ne.mpr c13
       by_cases c14 : a1 < (rd l0 x5_1)
       ·rw [if_pos c14] at H
        have c14b0 : decide (a1 < (rd l0 x5_1)) = true := decide_eq_true c14
        clear c14
        have c15b0 := eq_true (of_decide_eq_true (by first | (with_reducible assumption) | assumption) : 0 ≤ x5_1)
        by_cases c16 : x5_1 ≤ (l0.length : Int)
        ·rw [if_pos c16] at H
         have c16b0 := eq_true c16
         have c16b1 : decide (x5_1 ≤ (l0.length : Int)) = true := decide_eq_true c16
         clear c16
         replace H := Option.bind_eq_some_iff.mp H
         obtain ⟨t342, A170, H⟩ := H
         replace H : (some (wrap64 (1 + t342))) = some r := H
         have A17 := Aside0.mk A170
         clear A170
         obtain rfl := Option.some.inj H
         have p339 : 0 ≤ (x5_1 : Int) := of_decide_eq_true (by first | (with_reducible assumption) | assumption)
         have q339 : x5_1 < (l0.length : Int) := of_decide_eq_true (by first | (with_reducible assumption) | assumption)
         obtain ⟨ad339, e339, hx339_0⟩ := Kd.at_int HR0.out x5_1 p339 q339
         cases e339
         replace p339 := eq_true p339
         replace q339 := eq_true q339
         have p340 : 0 ≤ (x5_1 : Int) := of_decide_eq_true (by first | (with_reducible assumption) | assumption)
         have q340 : x5_1 < (l0.length : Int) := of_decide_eq_true (by first | (with_reducible assumption) | assumption)
         obtain ⟨ad340, e340, hx340_0⟩ := Kd.at_int HR0.out x5_1 p340 q340
         obtain rfl : ad339 = ad340 := (by injection e340)
         replace p340 := eq_true p340
         replace q340 := eq_true q340
         obtain ⟨i018, hi018, _, hsz18, _⟩ := info_parts info3
         obtain ⟨hcut18, hA18, hC18⟩ := print_take_of (P := Try.prog) (Value.int .i64) 0 26 3 .i64 Try.underlying26 hi018 hsz18 (some ad339) c0 l0 x5_1 (of_decide_eq_true (by first | (with_reducible assumption) | assumption)) (of_decide_eq_true (by first | (with_reducible assumption) | assumption)) HC0.out
         have HR341 := Aside0.mk (Kd.C_of_reads (h1 := fun _ => rfl) (hA18 _ (Kd.reads_of_C HR0.out)))
         have HC341 := Aside0.mk hC18
         clear hA18 hC18 hi018 hsz18
         go_wp2_with (first | (go_at_call 44; (first | rw [show (x5_1 : Int).toNat = (l0.take (x5_1 : Int).toNat).length from by (have hq_ := of_decide_eq_true (by assumption : decide (x5_1 ≤ (l0.length : Int)) = true); rw [List.length_take]; omega)] | skip); (with_reducible refine (ih k1 (by have := HK1.out; omega) _ _ (l0.take (x5_1 : Int).toNat) a1 t342 _ ?side1 ?side2 A17.out).mono ?_); (case side1 => repeat (first | exact HR341.out | (with_reducible refine Kd.C_alloc ?_ _) | (with_reducible refine Kd.C_drewN ?_ _) | (with_reducible refine Kd.C_drew ?_))); (case side2 => exact HC341.out); rintro e w' ⟨rfl, ⟨nd, rfl⟩⟩; (try first | exact ⟨rfl, _, World.drewN_drewN _ _ _⟩ | exact ⟨rfl, _, Eq.trans (World.drewN_drewN _ _ _) (congrArg (World.drewN _) (Nat.add_assoc _ _ _))⟩)))
         repeat (go_quiet (first | (go_at_call 44; (first | rw [show (x5_1 : Int).toNat = (l0.take (x5_1 : Int).toNat).length from by (have hq_ := of_decide_eq_true (by assumption : decide (x5_1 ≤ (l0.length : Int)) = true); rw [List.length_take]; omega)] | skip); (with_reducible refine (ih k1 (by have := HK1.out; omega) _ _ (l0.take (x5_1 : Int).toNat) a1 t342 _ ?side1 ?side2 A17.out).mono ?_); (case side1 => repeat (first | exact HR341.out | (with_reducible refine Kd.C_alloc ?_ _) | (with_reducible refine Kd.C_drewN ?_ _) | (with_reducible refine Kd.C_drew ?_))); (case side2 => exact HC341.out); rintro e w' ⟨rfl, ⟨nd, rfl⟩⟩; (try first | exact ⟨rfl, _, World.drewN_drewN _ _ _⟩ | exact ⟨rfl, _, Eq.trans (World.drewN_drewN _ _ _) (congrArg (World.drewN _) (Nat.add_assoc _ _ _))⟩))); try go_wp2_with (first | (go_at_call 44; (first | rw [show (x5_1 : Int).toNat = (l0.take (x5_1 : Int).toNat).length from by (have hq_ := of_decide_eq_true (by assumption : decide (x5_1 ≤ (l0.length : Int)) = true); rw [List.length_take]; omega)] | skip); (with_reducible refine (ih k1 (by have := HK1.out; omega) _ _ (l0.take (x5_1 : Int).toNat) a1 t342 _ ?side1 ?side2 A17.out).mono ?_); (case side1 => repeat (first | exact HR341.out | (with_reducible refine Kd.C_alloc ?_ _) | (with_reducible refine Kd.C_drewN ?_ _) | (with_reducible refine Kd.C_drew ?_))); (case side2 => exact HC341.out); rintro e w' ⟨rfl, ⟨nd, rfl⟩⟩; (try first | exact ⟨rfl, _, World.drewN_drewN _ _ _⟩ | exact ⟨rfl, _, Eq.trans (World.drewN_drewN _ _ _) (congrArg (World.drewN _) (Nat.add_assoc _ _ _))⟩))))
         go_ret
         exact ⟨by first | rfl | (simp; done) | (simp [*]; done), by repeat (first | exact Drawn0.refl _ | apply Drawn0.step)⟩
        ·rw [if_neg c16] at H
         exact absurd H (by simp)
       ·rw [if_neg c14] at H
        have c14b0 : decide (a1 < (rd l0 x5_1)) = false := decide_eq_false c14
        clear c14
        obtain ⟨ji19, hji19⟩ : ∃ j_ : Int, (wrap64 (x5_1 + 1)) = j_ := ⟨_, rfl⟩
        replace H : (if 0 ≤ (ji19) then (if (ji19) ≤ (l0.length : Int) then ((deadboltref08_Depth.f k1 (l0.drop ((ji19) : Int).toNat) a1).bind fun t344 => (some (wrap64 (1 + t344)))) else (none)) else (none)) = some r := by first | (rw [hji19] at H; exact H) | (simp only [hji19] at H ⊢; exact H)
        have hji19w : (IntKind.i64.wrap (x5_1 + 1)) = ji19 := (i64_w _).trans hji19
        by_cases c20 : 0 ≤ (ji19)
        ·rw [if_pos c20] at H
         have c20b0 := eq_true c20
         have c20b1 : decide (0 ≤ (ji19)) = true := decide_eq_true c20
         clear c20
         by_cases c21 : (ji19) ≤ (l0.length : Int)
         ·rw [if_pos c21] at H
          have c21b0 := eq_true c21
          have c21b1 : decide ((ji19) ≤ (l0.length : Int)) = true := decide_eq_true c21
          clear c21
          replace H := Option.bind_eq_some_iff.mp H
          obtain ⟨t344, A220, H⟩ := H
          replace H : (some (wrap64 (1 + t344))) = some r := H
          have A22 := Aside0.mk A220
          clear A220
          obtain rfl := Option.some.inj H
          have p339 : 0 ≤ (x5_1 : Int) := of_decide_eq_true (by first | (with_reducible assumption) | assumption)
          have q339 : x5_1 < (l0.length : Int) := of_decide_eq_true (by first | (with_reducible assumption) | assumption)
          obtain ⟨ad339, e339, hx339_0⟩ := Kd.at_int HR0.out x5_1 p339 q339
          cases e339
          replace p339 := eq_true p339
          replace q339 := eq_true q339
          have p340 : 0 ≤ (x5_1 : Int) := of_decide_eq_true (by first | (with_reducible assumption) | assumption)
          have q340 : x5_1 < (l0.length : Int) := of_decide_eq_true (by first | (with_reducible assumption) | assumption)
          obtain ⟨ad340, e340, hx340_0⟩ := Kd.at_int HR0.out x5_1 p340 q340
          obtain rfl : ad339 = ad340 := (by injection e340)
          replace p340 := eq_true p340
          replace q340 := eq_true q340
          obtain ⟨i023, hi023, _, hsz23, _⟩ := info_parts info3
          obtain ⟨A23, hcut23, hA23, hC23⟩ := print_drop_of (P := Try.prog) (Value.int .i64) 0 26 3 .i64 Try.underlying26 hi023 hsz23 (some ad339) c0 l0 (ji19) (of_decide_eq_true (by first | (with_reducible assumption) | assumption)) (of_decide_eq_true (by first | (with_reducible assumption) | assumption)) HC0.out
          have HR343 := Aside0.mk (Kd.C_of_reads (h1 := fun _ => rfl) (hA23 _ (Kd.reads_of_C HR0.out)))
          have HC343 := Aside0.mk hC23
          clear hA23 hC23 hi023 hsz23
          go_wp2_with (first | (go_at_call 44; (first | rw [show l0.length - (ji19 : Int).toNat = (l0.drop ((ji19) : Int).toNat).length from List.length_drop.symm] | skip); (with_reducible refine (ih k1 (by have := HK1.out; omega) _ _ (l0.drop ((ji19) : Int).toNat) a1 t344 _ ?side1 ?side2 A22.out).mono ?_); (case side1 => repeat (first | exact HR343.out | (with_reducible refine Kd.C_alloc ?_ _) | (with_reducible refine Kd.C_drewN ?_ _) | (with_reducible refine Kd.C_drew ?_))); (case side2 => exact HC343.out); rintro e w' ⟨rfl, ⟨nd, rfl⟩⟩; (try first | exact ⟨rfl, _, World.drewN_drewN _ _ _⟩ | exact ⟨rfl, _, Eq.trans (World.drewN_drewN _ _ _) (congrArg (World.drewN _) (Nat.add_assoc _ _ _))⟩)))
          repeat (go_quiet (first | (go_at_call 44; (first | rw [show l0.length - (ji19 : Int).toNat = (l0.drop ((ji19) : Int).toNat).length from List.length_drop.symm] | skip); (with_reducible refine (ih k1 (by have := HK1.out; omega) _ _ (l0.drop ((ji19) : Int).toNat) a1 t344 _ ?side1 ?side2 A22.out).mono ?_); (case side1 => repeat (first | exact HR343.out | (with_reducible refine Kd.C_alloc ?_ _) | (with_reducible refine Kd.C_drewN ?_ _) | (with_reducible refine Kd.C_drew ?_))); (case side2 => exact HC343.out); rintro e w' ⟨rfl, ⟨nd, rfl⟩⟩; (try first | exact ⟨rfl, _, World.drewN_drewN _ _ _⟩ | exact ⟨rfl, _, Eq.trans (World.drewN_drewN _ _ _) (congrArg (World.drewN _) (Nat.add_assoc _ _ _))⟩))); try go_wp2_with (first | (go_at_call 44; (first | rw [show l0.length - (ji19 : Int).toNat = (l0.drop ((ji19) : Int).toNat).length from List.length_drop.symm] | skip); (with_reducible refine (ih k1 (by have := HK1.out; omega) _ _ (l0.drop ((ji19) : Int).toNat) a1 t344 _ ?side1 ?side2 A22.out).mono ?_); (case side1 => repeat (first | exact HR343.out | (with_reducible refine Kd.C_alloc ?_ _) | (with_reducible refine Kd.C_drewN ?_ _) | (with_reducible refine Kd.C_drew ?_))); (case side2 => exact HC343.out); rintro e w' ⟨rfl, ⟨nd, rfl⟩⟩; (try first | exact ⟨rfl, _, World.drewN_drewN _ _ _⟩ | exact ⟨rfl, _, Eq.trans (World.drewN_drewN _ _ _) (congrArg (World.drewN _) (Nat.add_assoc _ _ _))⟩))))
          go_ret
          exact ⟨by first | rfl | (simp; done) | (simp only [← hji19] <;> (first | rfl | simp)) | (simp [*]; done), by repeat (first | exact Drawn0.refl _ | apply Drawn0.step)⟩
         ·rw [if_neg c21] at H
          exact absurd H (by simp)
        ·rw [if_neg c20] at H
         exact absurd H (by simp)
     ·rw [if_neg c12] at H
      exact absurd H (by simp)
    ·rw [if_neg c11] at H
     exact absurd H (by simp)

end Go.Proofs.Ytjdjmhagafmkaaa.PX

/-
 How deep the document says a key is, and which key comes next. Plain lists.
-/
namespace Go.Proofs.Ytjdjmhagafmkaaa.PX
open Go.RowKit Treap Go.Proofs.YtjdjmhagafmkaaaW.PrintWords Go.Proofs.YtjdjmhagafmkaaaW.PrintLast Go.Proofs.YtjdjmhagafmkaaaW.PrintMore
namespace TreapP
/-- The place of the first key that is not less. -/
def nextI (key : Int) : Int → List Int → Int
 | _, [] => -1
 | i, x :: l => if x ≥ key then i else nextI key (i + 1) l
theorem next_l0' (key : Int) (l : List Int) (hn : l.length ≤ 1000) : ∀ (d i k : Nat), i + d = l.length → d < k →
  deadboltref08_Next.l0 k key l (l.length : Int) (i : Int) = some (nextI key (i : Int) (l.drop i)) := by
 intro d
 induction d with
 | zero =>
  intro i k hi hk
  obtain ⟨k, rfl⟩ : ∃ q, k = q + 1 := ⟨k - 1, by omega⟩
  rw [deadboltref08_Next.l0, if_neg (by omega), List.drop_eq_nil_of_le (by omega)]
  rfl
 | succ d ih =>
  intro i k hi hk
  obtain ⟨k, rfl⟩ : ∃ q, k = q + 1 := ⟨k - 1, by omega⟩
  have hlt : i < l.length := by omega
  rw [deadboltref08_Next.l0, if_pos (by omega), if_pos (by omega), if_pos (by omega), w64_next hlt hn, rdI hlt, List.drop_eq_getElem_cons hlt, nextI]
  by_cases he : l[i] ≥ key
  ·rw [if_pos he, if_pos he]
  ·rw [if_neg he, if_neg he, ih (i + 1) k (by omega) (by omega)]
   rfl
theorem refNext_f (key : Int) (l : List Int) (hn : l.length ≤ 1000) (k : Nat) (hk : l.length < k) : deadboltref08_Next.f k l key = some (nextI key 0 l) := next_l0' key l hn l.length 0 k (by omega) hk
theorem nextI_find (key : Int) : ∀ (l : List Int) (i : Int), 0 ≤ i → (l.find? (fun x => decide (key ≤ x)) = none ∧ nextI key i l = -1) ∨ (∃ (j : Nat) (hj : j < l.length), l.find? (fun x => decide (key ≤ x)) = some l[j] ∧ nextI key i l = i + j) := by
 intro l
 induction l with
 | nil => exact fun i _ => .inl ⟨rfl, rfl⟩
 | cons x l ih =>
  intro i hi
  rw [List.find?_cons, nextI]
  by_cases h : key ≤ x
  ·rw [decide_eq_true h, if_pos h]
   exact .inr ⟨0, by simp, rfl, by simp⟩
  ·rw [decide_eq_false h, if_neg h]
   rcases ih (i + 1) (by omega) with ⟨h1, h2⟩ | ⟨j, hj, h1, h2⟩
   ·exact .inl ⟨h1, h2⟩
   ·exact .inr ⟨j + 1, by simp; omega, h1, by rw [h2]; omega⟩
/-- The heaviest one is found. -/
theorem depth_l0 (key : Int) (l : List Int) (hn : l.length ≤ 64) (hkey : ∀ x ∈ l, isKey x = true) (a : Nat) (ha : a < l.length) (hmax : ∀ j (hj : j < l.length), j ≠ a → priOf l[j] < priOf l[a]) (r : Option Int) (K0 : Nat) (hX : ∀ k, K0 ≤ k → deadboltref08_Depth.l0 (k + 1) l key (a : Int) l (l.length : Int) (l.length : Int) = r) : ∀ (d i k top : Nat), i + d = l.length → d + K0 < k → (htop : top < l.length) → (a < i → top = a) →
  deadboltref08_Depth.l0 k l key (top : Int) l (l.length : Int) (i : Int) = r := by
 intro d
 induction d with
 | zero =>
  intro i k top hi hk htop h
  obtain ⟨k, rfl⟩ : ∃ q, k = q + 1 := ⟨k - 1, by omega⟩
  obtain rfl := h (by omega)
  obtain rfl : i = l.length := by omega
  exact hX k (by omega)
 | succ d ih =>
  intro i k top hi hk htop h
  obtain ⟨k, rfl⟩ : ∃ q, k = q + 1 := ⟨k - 1, by omega⟩
  have hlt : i < l.length := by omega
  rw [deadboltref08_Depth.l0, if_pos (by omega), if_pos (by omega), if_pos (by omega), rdI hlt, refPri_f (hkey _ (List.getElem_mem _))]
  simp only [Option.bind_some]
  rw [if_pos (by omega), if_pos (by omega), rdI htop, refPri_f (hkey _ (List.getElem_mem _)), w64_next hlt (by omega)]
  simp only [Option.bind_some]
  by_cases hp : priOf l[i] > priOf l[top]
  ·rw [if_pos hp]
   refine ih (i + 1) k i (by omega) (by omega) hlt (fun hai => ?_)
   by_cases e : i = a
   ·exact e
   ·obtain rfl := h (by omega)
    have := hmax i hlt e
    omega
  ·rw [if_neg hp]
   refine ih (i + 1) k top (by omega) (by omega) htop (fun hai => ?_)
   by_cases e : i = a
   ·by_cases e2 : top = a
    ·exact e2
    ·have := hmax top htop e2
     subst e
     omega
   ·exact h (by omega)
theorem depth_f (key : Int) : ∀ (t : KT), t.Heap → t.keys.Pairwise (· < ·) → (∀ x ∈ t.keys, isKey x = true) → key ∈ t.keys → t.keys.length ≤ 64 → ∀ k, 70 * (t.keys.length + 1) ≤ k → deadboltref08_Depth.f k t.keys key = some ((KT.dep key t : Nat) : Int) := by
 intro t
 induction t with
 | leaf => intro _ _ _ h; simp [KT.keys] at h
 | node c l r ihl ihr =>
  intro hh hup hkey hin h64 k hk
  have hup0 := hup
  have hin0 := hin
  have hl : (KT.node c l r).keys = l.keys ++ c :: r.keys := rfl
  rw [hl, List.pairwise_append, List.pairwise_cons] at hup
  obtain ⟨u1, ⟨u2, u3⟩, u4⟩ := hup
  have hlen : (KT.node c l r).keys.length = l.keys.length + (r.keys.length + 1) := by rw [hl]; simp
  have ha : l.keys.length < (KT.node c l r).keys.length := by omega
  have hat : (KT.node c l r).keys[l.keys.length] = c := by simp [KT.keys]
  have hmax : ∀ j (hj : j < (KT.node c l r).keys.length), j ≠ l.keys.length → priOf (KT.node c l r).keys[j] < priOf (KT.node c l r).keys[l.keys.length] := by
   intro j hj hne
   rw [hat]
   by_cases h : j < l.keys.length
   ·have e : (KT.node c l r).keys[j] = l.keys[j] := by simp [KT.keys, List.getElem_append_left h]
    rw [e]
    exact hh.1 _ (List.getElem_mem _)
   ·obtain ⟨q, rfl⟩ : ∃ q, j = l.keys.length + (q + 1) := ⟨j - l.keys.length - 1, by omega⟩
    have e : (KT.node c l r).keys[l.keys.length + (q + 1)] = r.keys[q]'(by omega) := by
     simp [KT.keys]
    rw [e]
    exact hh.2.1 _ (List.getElem_mem _)
  obtain ⟨k, rfl⟩ : ∃ q, k = q + 1 := ⟨k - 1, by omega⟩
  rw [deadboltref08_Depth.f]
  refine depth_l0 key _ h64 hkey l.keys.length ha hmax _ (70 * (l.keys.length + r.keys.length + 1)) (fun k hk => ?_) (KT.node c l r).keys.length 0 k 0 (by omega) (by omega) (by omega) (fun h => by omega)
  rw [deadboltref08_Depth.l0, if_neg (by omega), if_pos (by omega), if_pos (by omega), rdI ha, hat]
  unfold KT.dep
  by_cases he : c = key
  ·rw [if_pos he, if_pos he]
   rfl
  ·rw [if_neg he, if_neg he]
   simp only [KT.keys, List.mem_append, List.mem_cons] at hin
   by_cases hk2 : key < c
   ·have hkl : key ∈ l.keys := by
     rcases hin with h | h | h
     ·exact h
     ·exact absurd h.symm he
     ·have := u2 key h; omega
    have htk : (KT.node c l r).keys.take ((l.keys.length : Nat) : Int).toNat = l.keys := by rw [Int.toNat_natCast, hl, List.take_left']; rfl
    rw [if_pos hk2, if_neg (show ¬ c < key by omega), if_pos (show ((l.keys.length : Nat) : Int) ≤ ((KT.node c l r).keys.length : Int) by omega), htk, ihl hh.2.2.1 u1 (fun x hx => hkey x (by rw [hl]; simp [hx])) hkl (by omega) k (by omega)]
    have hd := KT.dep_lt key l u1 hkl
    simp only [Option.bind_some]
    congr 1
    unfold wrap64
    omega
   ·have hkr : key ∈ r.keys := by
     rcases hin with h | h | h
     ·have := u4 key h c (by simp); omega
     ·exact absurd h.symm he
     ·exact h
    have hw : wrap64 ((l.keys.length : Int) + 1) = ((l.keys.length + 1 : Nat) : Int) := by unfold wrap64; omega
    have hdr : (KT.node c l r).keys.drop ((l.keys.length + 1 : Nat) : Int).toNat = r.keys := by
     rw [Int.toNat_natCast, hl, List.drop_append]
     simp
    rw [if_neg hk2, if_pos (show c < key by omega), hw, if_pos (show (0 : Int) ≤ ((l.keys.length + 1 : Nat) : Int) by omega), if_pos (show ((l.keys.length + 1 : Nat) : Int) ≤ ((KT.node c l r).keys.length : Int) by omega), hdr, ihr hh.2.2.2 u3 (fun x hx => hkey x (by rw [hl]; simp [hx])) hkr (by omega) k (by omega)]
    have hd := KT.dep_lt key r u3 hkr
    simp only [Option.bind_some]
    congr 1
    unfold wrap64
    omega
end TreapP
end Go.Proofs.Ytjdjmhagafmkaaa.PX

/-
 The contract of deadboltlaw08.few: a tree with its first 70 nodes.
-/
namespace Go.Proofs.Ytjdjmhagafmkaaa
open Go.RowKit
namespace Treap
theorem run_to_nodes (A : Option Addr) (n c m : Nat) (hm : m ≤ c) (W : World) : (Instr.slice 48 (.slice A n c) none (some (.int .i64 m)) none).run Try.prog W = .ok (.slice A m c) W := by
 obtain ⟨i0, hi, hz0, hz1, hz2⟩ := info_parts infoN3
 have hel : Try.prog.elem 48 = 87 := by kernel_rfl
 have hu : Try.prog.underlying 48 = some (.slice (Try.prog.elem 48)) := by rw [hel]; exact Try.underlying48
 have ha : (A.map fun x => x.add 0) = A := by cases A <;> simp [Addr.add]
 rw [run_slice_h W 48 A n c hu .i64 m (by omega) (by omega), hel]
 simp [sizeOf, typeInfo, hi, hz1, sliced, Result.andThen, ha]
set_option maxRecDepth 100000 in
theorem few_any (root : Int) (A : Option Addr) (n c : Nat) (hnc : n ≤ c) (w : World) :
  Calls Try.prog 33 #[.agg #[.int .i64 root, .slice A n c]] w fun e w' => e = .returned (.agg #[.int .i64 root, .slice A (min n 70) c]) ∧ Below w.heap.size w w' := by
 have hcut := run_to_nodes A n c (min n 70) (by omega)
 obtain ⟨m, hm⟩ : ∃ m, min n 70 = m := ⟨_, rfl⟩
 rw [hm] at hcut ⊢
 have hmn : (if (70 : Int) < n then (70 : Int) else n) = m := by split <;> omega
 clear hm
 go_enter Try.func33, Try.ntmps33
 go_wp2_with fail
 have hz := Blk.new (w.alloc (.cells #[.int .i64 root, .slice A m c] 50)) 50 #[.int .i64 root, .slice A m c]
 have hb := ((Below.refl w.heap.size w).alloc (Nat.le_refl _) (.cells #[.int .i64 root, .slice A m c] 50)).alloc (by simp) (.cells #[.int .i64 root, .slice A m c] 50)
 rw [World.size_alloc] at hz
 refine bodyPost_ret (results_tree1 (p := 2) (by kernel_rfl) _ _ _ _ _ rfl hz) rfl ?_
 exact ⟨rfl, hb⟩
end Treap
end Go.Proofs.Ytjdjmhagafmkaaa

/-
 What the walks of the laws over trees that came in lean on: a tree in a box, a row of numbers, both read only.
-/
namespace Go.Proofs.Ytjdjmhagafmkaaa.PX
open Go.RowKit Go.Proofs.YtjdjmhagafmkaaaW.PrintWords Go.Proofs.YtjdjmhagafmkaaaW.PrintLast Go.Proofs.YtjdjmhagafmkaaaW.PrintMore
namespace TreapP
theorem C_take {α : Type} {d : Kd α} {w : World} {A : Option Addr} {n : Nat} {xs : List α} (h : Kd.C d w A n xs) (m : Nat) : Kd.C d w A (xs.take m).length (xs.take m) := by
 obtain ⟨h1, h2, h3⟩ := h
 refine ⟨rfl, by rw [List.length_take]; omega, fun h0 => ?_⟩
 rw [List.length_take] at h0
 obtain ⟨ad, hA, hc⟩ := h3 (by omega)
 refine ⟨ad, hA, fun j p hp => hc j p ?_⟩
 rw [List.getElem?_take] at hp
 split at hp
 ·exact hp
 ·cases hp
theorem R_open {α : Type} {d : Kd α} {e : Nat} {w : World} {base : Nat} {ok : Nat → Prop} {v : Value} {xs : List α} (h : Kd.R d e w base ok v xs) : ∃ A c, v = .slice A xs.length c ∧ xs.length ≤ c ∧ Kd.C d w A xs.length xs := by
 obtain ⟨A, c, rfl⟩ := Kd.R_slice h
 obtain ⟨_, h1, h2⟩ := Kd.R_reads' h
 exact ⟨A, c, rfl, h1, h2⟩
theorem few_t (root : Int) (A : Option Addr) (c : Nat) (l t : List S87) (ht : t = l.take 70) (hc : l.length ≤ c) (w : World) :
  Calls Try.prog 33 #[.agg #[.int .i64 root, .slice A l.length c]] w fun e w' => e = .returned (.agg #[.int .i64 root, .slice A t.length c]) ∧ Below w.heap.size w w' := by
 have := Treap.few_any root A l.length c hc w
 rw [ht, List.length_take, Nat.min_comm]
 exact this
/-- A tree in a box. -/
structure Bx (w : World) (T : Nat) (root : Int) (A : Option Addr) (c : Nat) (l : List S87) : Prop where
 box : Blk w T 50 #[.int .i64 root, .slice A l.length c]
 row : Kd.C k87 w A l.length l
 cap : l.length ≤ c
section
variable {w w' : World} {T : Nat} {root : Int} {A : Option Addr} {c : Nat} {l : List S87}
theorem Bx.step (h : Bx w T root A c l) (hb : Below w.heap.size w w') : Bx w' T root A c l := ⟨h.box.below hb h.box.lt, Kd.C_below h.row hb, h.cap⟩
theorem Bx.alloc (h : Bx w T root A c l) (o : Obj) : Bx (w.alloc o) T root A c l := h.step (below_alloc (Below.refl _ _) o)
theorem Bx.c0 (h : Bx w T root A c l) : w.cell? ⟨T, 0, none⟩ = some (.int .i64 root) := by rw [h.box.cell]; rfl
theorem Bx.c1 (h : Bx w T root A c l) : w.cell? ⟨T, 1, none⟩ = some (.slice A l.length c) := by rw [h.box.cell]; rfl
theorem Bx.new (hC : Kd.C k87 w A l.length l) (hc : l.length ≤ c) : Bx (w.alloc (.cells #[.int .i64 root, .slice A l.length c] 50)) w.heap.size root A c l := ⟨Blk.new w _ _, Kd.C_alloc hC _, hc⟩
end
/-- A row of numbers. -/
structure Li (w : World) (A : Option Addr) (c : Nat) (zs : List Int) : Prop where
 row : Kd.C (Kd.int .i64) w A zs.length zs
 cap : zs.length ≤ c
section
variable {w w' : World} {A : Option Addr} {c : Nat} {zs : List Int}
theorem Li.step (h : Li w A c zs) (hb : Below w.heap.size w w') : Li w' A c zs := ⟨Kd.C_below h.row hb, h.cap⟩
theorem Li.get (h : Li w A c zs) {i : Nat} (hi : i < zs.length) : ∃ ad, A = some ad ∧ w.cell? (ad.add i) = some (.int .i64 zs[i]) := by
 obtain ⟨ad, hA, hc⟩ := Kd.at_int h.row (i : Int) (by omega) (by omega)
 refine ⟨ad, hA, ?_⟩
 rw [Int.toNat_natCast] at hc
 rw [hc]
 unfold rd
 rw [Int.toNat_natCast, List.getD_eq_getElem?_getD, List.getElem?_eq_getElem hi]
 rfl
end
end TreapP
end Go.Proofs.Ytjdjmhagafmkaaa.PX

/-
 TreapTells: the walk, where the tree may not be, or the key is none.
-/
namespace Go.Proofs.Ytjdjmhagafmkaaa.PX
open Go.RowKit Go.Proofs.YtjdjmhagafmkaaaW.PrintWords Go.Proofs.YtjdjmhagafmkaaaW.PrintLast Go.Proofs.YtjdjmhagafmkaaaW.PrintMore
namespace TreapP
set_option maxRecDepth 100000 in
set_option maxHeartbeats 4000000 in
theorem tells_bad1 (root key : Int) (A : Option Addr) (c : Nat) (l t : List S87) (ht : t = l.take 70) (hc : l.length ≤ c) (w : World) (hC : Kd.C k87 w A l.length l) (k : Nat)
  (p : Int) (hF : treap_Find.f root t key = some (0, 1)) (hN : treap_Next.f root t key = some (0, 1)) (hK : treap_Keys.f root t = some (([] : List Int), 1)) (hRR : deadboltref08_Right.f k root t = some false) (hTR : treap_Right.f root t = some false) (hKey : deadboltref08_Key.f key = some true) (hTP : treap_Pri.f key = some p) (hA : deadboltlaw08_alive.f k = some true) (hP : deadboltref08_Pri.f key = some p) :
  Calls Try.prog 9 #[.agg #[.int .i64 root, .slice A l.length c], .int .i64 key] w fun e w' => e = .returned (.bool true) ∧ Below w.heap.size w w' := by
 have hx := Bx.new (root := root) hC hc
 have hb0 := (Below.refl w.heap.size w).alloc (Nat.le_refl _) (.cells #[.int .i64 root, .slice A l.length c] 50)
 have hft := few_t root A c l t ht hc
 have hcp : t.length ≤ c := by rw [ht, List.length_take]; omega
 have hct : Kd.C k87 w A t.length t := by rw [ht]; exact C_take hC 70
 clear ht
 have c0 := hx.c0
 have c1 := hx.c1
 have HX := Lib.hid hx
 have HB0 := Lib.hid hb0
 have HC := Lib.hid hC
 have HFT := Lib.hid hft
 clear hx hb0 hC hft
 go_enter Try.func9, Try.ntmps9
 go_wp2_with fail
 clear c0 c1
 have hx := HX.out
 have hb0 := HB0.out
 obtain ⟨W1, hW⟩ : ∃ W, w.alloc (.cells #[.int .i64 root, .slice A l.length c] 50) = W := ⟨_, rfl⟩
 rw [hW] at hx hb0 ⊢
 clear hW
 refine (HFT.out W1).mono ?_
 rintro e w2 ⟨rfl, hb⟩
 have hx2 := hx.box.below hb hx.box.lt
 have hb2 := bthen hb0 hb
 have f2 := fun i => hx2.frozen i
 have q0 : w2.cell? ⟨w.heap.size, 0, none⟩ = some (.int .i64 root) := by rw [hx2.cell]; rfl
 have q1 : w2.cell? ⟨w.heap.size, 1, none⟩ = some (.slice A l.length c) := by rw [hx2.cell]; rfl
 have hx3 := (hx2.set_ 0 (.int .i64 root)).set_ 1 (.slice A t.length c)
 have hb3 := (hb2.setCell (p := ⟨w.heap.size, 0, none⟩) (Nat.le_refl _) (.int .i64 root)).setCell (p := ⟨w.heap.size, 1, none⟩) (Nat.le_refl _) (.slice A t.length c)
 have ht3 : Bx ((w2.setCell ⟨w.heap.size, 0, none⟩ (.int .i64 root)).setCell ⟨w.heap.size, 1, none⟩ (.slice A t.length c)) w.heap.size root A c t := ⟨hx3, Kd.C_below hct hb3, hcp⟩
 have r0 := ht3.c0
 have r1 := ht3.c1
 have HT3 := Lib.hid ht3
 have HB3 := Lib.hid hb3
 clear hx hb0 hx2 hb2 hx3 hb3 ht3 hb HX HB0
 go_wp2_with fail
 clear q0 q1 r0 r1 f2
 have ht3 := HT3.out
 have hb3 := HB3.out
 obtain ⟨W2, hW⟩ : ∃ W, (w2.setCell ⟨w.heap.size, 0, none⟩ (.int .i64 root)).setCell ⟨w.heap.size, 1, none⟩ (.slice A t.length c) = W := ⟨_, rfl⟩
 rw [hW] at ht3 hb3 ⊢
 clear hW
 have Ht_0 := Lib.hid ht3
 have HB_0 := Lib.hid hb3
 clear ht3 hb3 HT3 HB3
 refine (treap_Find.calls root _ _ t key 0 1 W2 Ht_0.out.row Ht_0.out.cap hF).mono ?_
 rintro e w3 ⟨rfl, hb⟩
 have Ht_3 := Lib.hid (Ht_0.out.step hb)
 have HB_3 := Lib.hid (bthen HB_0.out hb)
 clear hb
 have ct0_3 := Ht_3.out.c0
 have ct1_3 := Ht_3.out.c1
 go_wp2_with fail
 clear ct0_3 ct1_3
 refine (treap_Next.calls root _ _ t key 0 1 w3 Ht_3.out.row Ht_3.out.cap hN).mono ?_
 rintro e w4 ⟨rfl, hb⟩
 have Ht_4 := Lib.hid (Ht_3.out.step hb)
 have HB_4 := Lib.hid (bthen HB_3.out hb)
 clear hb
 have ct0_4 := Ht_4.out.c0
 have ct1_4 := Ht_4.out.c1
 go_wp2_with fail
 clear ct0_4 ct1_4
 refine (treap_Keys.calls root _ _ t  ([] : List Int) 1 w4 Ht_4.out.row Ht_4.out.cap hK).mono ?_
 rintro e w5 ⟨v, rfl, hR, hb⟩
 have Ht_5 := Lib.hid (Ht_4.out.step hb)
 have HB_5 := Lib.hid (bthen HB_4.out hb)
 clear hb
 obtain ⟨Al, cl, rfl, hcl, hCl⟩ := R_open hR
 have Hl_5 : Hid (Li w5 Al cl ([] : List Int)) := ⟨hCl, hcl⟩
 clear hR hCl hcl
 have ct0_5 := Ht_5.out.c0
 have ct1_5 := Ht_5.out.c1
 go_wp2_with fail
 clear ct0_5 ct1_5
 refine (deadboltref08_Right.calls k root _ _ t  false w5 Ht_5.out.row Ht_5.out.cap hRR).mono ?_
 rintro e w6 ⟨rfl, hb⟩
 have Ht_6 := Lib.hid (Ht_5.out.step hb)
 have Hl_6 := Lib.hid (Hl_5.out.step hb)
 have HB_6 := Lib.hid (bthen HB_5.out hb)
 clear hb
 go_wp2_with fail
 refine (deadboltref08_Key.calls key true w6 hKey).mono ?_
 rintro e w7 ⟨rfl, hb⟩
 replace hb := hb.below
 have Ht_7 := Lib.hid (Ht_6.out.step hb)
 have Hl_7 := Lib.hid (Hl_6.out.step hb)
 have HB_7 := Lib.hid (bthen HB_6.out hb)
 clear hb
 go_wp2_with fail
 refine (deadboltref08_Pri.calls key p w7 hP).mono ?_
 rintro e w8 ⟨rfl, hb⟩
 replace hb := hb.below
 have Ht_8 := Lib.hid (Ht_7.out.step hb)
 have Hl_8 := Lib.hid (Hl_7.out.step hb)
 have HB_8 := Lib.hid (bthen HB_7.out hb)
 clear hb
 have ct0_8 := Ht_8.out.c0
 have ct1_8 := Ht_8.out.c1
 go_wp2_with fail
 clear ct0_8 ct1_8
 refine (treap_Right.calls root _ _ t  false w8 Ht_8.out.row Ht_8.out.cap hTR).mono ?_
 rintro e w9 ⟨rfl, hb⟩
 have Ht_9 := Lib.hid (Ht_8.out.step hb)
 have Hl_9 := Lib.hid (Hl_8.out.step hb)
 have HB_9 := Lib.hid (bthen HB_8.out hb)
 clear hb
 go_wp2_with fail
 refine (treap_Pri.calls key p w9 hTP).mono ?_
 rintro e w10 ⟨rfl, hb⟩
 replace hb := hb.below
 have Ht_10 := Lib.hid (Ht_9.out.step hb)
 have Hl_10 := Lib.hid (Hl_9.out.step hb)
 have HB_10 := Lib.hid (bthen HB_9.out hb)
 clear hb
 go_wp2_with fail
 refine (deadboltlaw08_alive.calls k true w10 hA).mono ?_
 rintro e w11 ⟨rfl, hb⟩
 have Ht_11 := Lib.hid (Ht_10.out.step hb)
 have Hl_11 := Lib.hid (Hl_10.out.step hb)
 have HB_11 := Lib.hid (bthen HB_10.out hb)
 clear hb
 go_wp2_with fail
 go_ret
 exact ⟨rfl, HB_11.out⟩
set_option maxRecDepth 100000 in
set_option maxHeartbeats 4000000 in
theorem tells_bad2 (root key : Int) (A : Option Addr) (c : Nat) (l t : List S87) (ht : t = l.take 70) (hc : l.length ≤ c) (w : World) (hC : Kd.C k87 w A l.length l) (k : Nat)
  (hF : treap_Find.f root t key = some (0, 1)) (hN : treap_Next.f root t key = some (0, 1)) (hK : treap_Keys.f root t = some (([] : List Int), 1)) (hRR : deadboltref08_Right.f k root t = some false) (hTR : treap_Right.f root t = some false) (hKey : deadboltref08_Key.f key = some false) (hTP : treap_Pri.f key = some (-1)) (hA : deadboltlaw08_alive.f k = some true) :
  Calls Try.prog 9 #[.agg #[.int .i64 root, .slice A l.length c], .int .i64 key] w fun e w' => e = .returned (.bool true) ∧ Below w.heap.size w w' := by
 have hx := Bx.new (root := root) hC hc
 have hb0 := (Below.refl w.heap.size w).alloc (Nat.le_refl _) (.cells #[.int .i64 root, .slice A l.length c] 50)
 have hft := few_t root A c l t ht hc
 have hcp : t.length ≤ c := by rw [ht, List.length_take]; omega
 have hct : Kd.C k87 w A t.length t := by rw [ht]; exact C_take hC 70
 clear ht
 have c0 := hx.c0
 have c1 := hx.c1
 have HX := Lib.hid hx
 have HB0 := Lib.hid hb0
 have HC := Lib.hid hC
 have HFT := Lib.hid hft
 clear hx hb0 hC hft
 go_enter Try.func9, Try.ntmps9
 go_wp2_with fail
 clear c0 c1
 have hx := HX.out
 have hb0 := HB0.out
 obtain ⟨W1, hW⟩ : ∃ W, w.alloc (.cells #[.int .i64 root, .slice A l.length c] 50) = W := ⟨_, rfl⟩
 rw [hW] at hx hb0 ⊢
 clear hW
 refine (HFT.out W1).mono ?_
 rintro e w2 ⟨rfl, hb⟩
 have hx2 := hx.box.below hb hx.box.lt
 have hb2 := bthen hb0 hb
 have f2 := fun i => hx2.frozen i
 have q0 : w2.cell? ⟨w.heap.size, 0, none⟩ = some (.int .i64 root) := by rw [hx2.cell]; rfl
 have q1 : w2.cell? ⟨w.heap.size, 1, none⟩ = some (.slice A l.length c) := by rw [hx2.cell]; rfl
 have hx3 := (hx2.set_ 0 (.int .i64 root)).set_ 1 (.slice A t.length c)
 have hb3 := (hb2.setCell (p := ⟨w.heap.size, 0, none⟩) (Nat.le_refl _) (.int .i64 root)).setCell (p := ⟨w.heap.size, 1, none⟩) (Nat.le_refl _) (.slice A t.length c)
 have ht3 : Bx ((w2.setCell ⟨w.heap.size, 0, none⟩ (.int .i64 root)).setCell ⟨w.heap.size, 1, none⟩ (.slice A t.length c)) w.heap.size root A c t := ⟨hx3, Kd.C_below hct hb3, hcp⟩
 have r0 := ht3.c0
 have r1 := ht3.c1
 have HT3 := Lib.hid ht3
 have HB3 := Lib.hid hb3
 clear hx hb0 hx2 hb2 hx3 hb3 ht3 hb HX HB0
 go_wp2_with fail
 clear q0 q1 r0 r1 f2
 have ht3 := HT3.out
 have hb3 := HB3.out
 obtain ⟨W2, hW⟩ : ∃ W, (w2.setCell ⟨w.heap.size, 0, none⟩ (.int .i64 root)).setCell ⟨w.heap.size, 1, none⟩ (.slice A t.length c) = W := ⟨_, rfl⟩
 rw [hW] at ht3 hb3 ⊢
 clear hW
 have Ht_0 := Lib.hid ht3
 have HB_0 := Lib.hid hb3
 clear ht3 hb3 HT3 HB3
 refine (treap_Find.calls root _ _ t key 0 1 W2 Ht_0.out.row Ht_0.out.cap hF).mono ?_
 rintro e w3 ⟨rfl, hb⟩
 have Ht_3 := Lib.hid (Ht_0.out.step hb)
 have HB_3 := Lib.hid (bthen HB_0.out hb)
 clear hb
 have ct0_3 := Ht_3.out.c0
 have ct1_3 := Ht_3.out.c1
 go_wp2_with fail
 clear ct0_3 ct1_3
 refine (treap_Next.calls root _ _ t key 0 1 w3 Ht_3.out.row Ht_3.out.cap hN).mono ?_
 rintro e w4 ⟨rfl, hb⟩
 have Ht_4 := Lib.hid (Ht_3.out.step hb)
 have HB_4 := Lib.hid (bthen HB_3.out hb)
 clear hb
 have ct0_4 := Ht_4.out.c0
 have ct1_4 := Ht_4.out.c1
 go_wp2_with fail
 clear ct0_4 ct1_4
 refine (treap_Keys.calls root _ _ t  ([] : List Int) 1 w4 Ht_4.out.row Ht_4.out.cap hK).mono ?_
 rintro e w5 ⟨v, rfl, hR, hb⟩
 have Ht_5 := Lib.hid (Ht_4.out.step hb)
 have HB_5 := Lib.hid (bthen HB_4.out hb)
 clear hb
 obtain ⟨Al, cl, rfl, hcl, hCl⟩ := R_open hR
 have Hl_5 : Hid (Li w5 Al cl ([] : List Int)) := ⟨hCl, hcl⟩
 clear hR hCl hcl
 have ct0_5 := Ht_5.out.c0
 have ct1_5 := Ht_5.out.c1
 go_wp2_with fail
 clear ct0_5 ct1_5
 refine (deadboltref08_Right.calls k root _ _ t  false w5 Ht_5.out.row Ht_5.out.cap hRR).mono ?_
 rintro e w6 ⟨rfl, hb⟩
 have Ht_6 := Lib.hid (Ht_5.out.step hb)
 have Hl_6 := Lib.hid (Hl_5.out.step hb)
 have HB_6 := Lib.hid (bthen HB_5.out hb)
 clear hb
 go_wp2_with fail
 refine (deadboltref08_Key.calls key false w6 hKey).mono ?_
 rintro e w7 ⟨rfl, hb⟩
 replace hb := hb.below
 have Ht_7 := Lib.hid (Ht_6.out.step hb)
 have Hl_7 := Lib.hid (Hl_6.out.step hb)
 have HB_7 := Lib.hid (bthen HB_6.out hb)
 clear hb
 have ct0_7 := Ht_7.out.c0
 have ct1_7 := Ht_7.out.c1
 go_wp2_with fail
 clear ct0_7 ct1_7
 refine (treap_Right.calls root _ _ t  false w7 Ht_7.out.row Ht_7.out.cap hTR).mono ?_
 rintro e w8 ⟨rfl, hb⟩
 have Ht_8 := Lib.hid (Ht_7.out.step hb)
 have Hl_8 := Lib.hid (Hl_7.out.step hb)
 have HB_8 := Lib.hid (bthen HB_7.out hb)
 clear hb
 go_wp2_with fail
 refine (treap_Pri.calls key (-1) w8 hTP).mono ?_
 rintro e w9 ⟨rfl, hb⟩
 replace hb := hb.below
 have Ht_9 := Lib.hid (Ht_8.out.step hb)
 have Hl_9 := Lib.hid (Hl_8.out.step hb)
 have HB_9 := Lib.hid (bthen HB_8.out hb)
 clear hb
 go_wp2_with fail
 refine (deadboltlaw08_alive.calls k true w9 hA).mono ?_
 rintro e w10 ⟨rfl, hb⟩
 have Ht_10 := Lib.hid (Ht_9.out.step hb)
 have Hl_10 := Lib.hid (Hl_9.out.step hb)
 have HB_10 := Lib.hid (bthen HB_9.out hb)
 clear hb
 go_wp2_with fail
 go_ret
 exact ⟨rfl, HB_10.out⟩
end TreapP
end Go.Proofs.Ytjdjmhagafmkaaa.PX

/-
 TreapTells: the walk, where the tree may be.
-/
namespace Go.Proofs.Ytjdjmhagafmkaaa.PX
open Go.RowKit Go.Proofs.YtjdjmhagafmkaaaW.PrintWords Go.Proofs.YtjdjmhagafmkaaaW.PrintLast Go.Proofs.YtjdjmhagafmkaaaW.PrintMore
namespace TreapP
set_option maxRecDepth 100000 in
set_option maxHeartbeats 4000000 in
theorem tells_nokey (root key : Int) (A : Option Addr) (c : Nat) (l t : List S87) (ht : t = l.take 70) (hc : l.length ≤ c) (w : World) (hC : Kd.C k87 w A l.length l) (k : Nat)
  (zs : List Int) (hF : treap_Find.f root t key = some (0, 1)) (hN : treap_Next.f root t key = some (0, 1)) (hK : treap_Keys.f root t = some (zs, 0)) (hRR : deadboltref08_Right.f k root t = some true) (hTR : treap_Right.f root t = some true) (hKey : deadboltref08_Key.f key = some false) (hTP : treap_Pri.f key = some (-1)) (hA : deadboltlaw08_alive.f k = some true) (hRK : deadboltref08_Keys.f k root t = some zs) (hS : deadboltref08_Same.f k zs zs = some true) :
  Calls Try.prog 9 #[.agg #[.int .i64 root, .slice A l.length c], .int .i64 key] w fun e w' => e = .returned (.bool true) ∧ Below w.heap.size w w' := by
 have hx := Bx.new (root := root) hC hc
 have hb0 := (Below.refl w.heap.size w).alloc (Nat.le_refl _) (.cells #[.int .i64 root, .slice A l.length c] 50)
 have hft := few_t root A c l t ht hc
 have hcp : t.length ≤ c := by rw [ht, List.length_take]; omega
 have hct : Kd.C k87 w A t.length t := by rw [ht]; exact C_take hC 70
 clear ht
 have c0 := hx.c0
 have c1 := hx.c1
 have HX := Lib.hid hx
 have HB0 := Lib.hid hb0
 have HC := Lib.hid hC
 have HFT := Lib.hid hft
 clear hx hb0 hC hft
 go_enter Try.func9, Try.ntmps9
 go_wp2_with fail
 clear c0 c1
 have hx := HX.out
 have hb0 := HB0.out
 obtain ⟨W1, hW⟩ : ∃ W, w.alloc (.cells #[.int .i64 root, .slice A l.length c] 50) = W := ⟨_, rfl⟩
 rw [hW] at hx hb0 ⊢
 clear hW
 refine (HFT.out W1).mono ?_
 rintro e w2 ⟨rfl, hb⟩
 have hx2 := hx.box.below hb hx.box.lt
 have hb2 := bthen hb0 hb
 have f2 := fun i => hx2.frozen i
 have q0 : w2.cell? ⟨w.heap.size, 0, none⟩ = some (.int .i64 root) := by rw [hx2.cell]; rfl
 have q1 : w2.cell? ⟨w.heap.size, 1, none⟩ = some (.slice A l.length c) := by rw [hx2.cell]; rfl
 have hx3 := (hx2.set_ 0 (.int .i64 root)).set_ 1 (.slice A t.length c)
 have hb3 := (hb2.setCell (p := ⟨w.heap.size, 0, none⟩) (Nat.le_refl _) (.int .i64 root)).setCell (p := ⟨w.heap.size, 1, none⟩) (Nat.le_refl _) (.slice A t.length c)
 have ht3 : Bx ((w2.setCell ⟨w.heap.size, 0, none⟩ (.int .i64 root)).setCell ⟨w.heap.size, 1, none⟩ (.slice A t.length c)) w.heap.size root A c t := ⟨hx3, Kd.C_below hct hb3, hcp⟩
 have r0 := ht3.c0
 have r1 := ht3.c1
 have HT3 := Lib.hid ht3
 have HB3 := Lib.hid hb3
 clear hx hb0 hx2 hb2 hx3 hb3 ht3 hb HX HB0
 go_wp2_with fail
 clear q0 q1 r0 r1 f2
 have ht3 := HT3.out
 have hb3 := HB3.out
 obtain ⟨W2, hW⟩ : ∃ W, (w2.setCell ⟨w.heap.size, 0, none⟩ (.int .i64 root)).setCell ⟨w.heap.size, 1, none⟩ (.slice A t.length c) = W := ⟨_, rfl⟩
 rw [hW] at ht3 hb3 ⊢
 clear hW
 have Ht_0 := Lib.hid ht3
 have HB_0 := Lib.hid hb3
 clear ht3 hb3 HT3 HB3
 refine (treap_Find.calls root _ _ t key 0 1 W2 Ht_0.out.row Ht_0.out.cap hF).mono ?_
 rintro e w3 ⟨rfl, hb⟩
 have Ht_3 := Lib.hid (Ht_0.out.step hb)
 have HB_3 := Lib.hid (bthen HB_0.out hb)
 clear hb
 have ct0_3 := Ht_3.out.c0
 have ct1_3 := Ht_3.out.c1
 go_wp2_with fail
 clear ct0_3 ct1_3
 refine (treap_Next.calls root _ _ t key 0 1 w3 Ht_3.out.row Ht_3.out.cap hN).mono ?_
 rintro e w4 ⟨rfl, hb⟩
 have Ht_4 := Lib.hid (Ht_3.out.step hb)
 have HB_4 := Lib.hid (bthen HB_3.out hb)
 clear hb
 have ct0_4 := Ht_4.out.c0
 have ct1_4 := Ht_4.out.c1
 go_wp2_with fail
 clear ct0_4 ct1_4
 refine (treap_Keys.calls root _ _ t  zs 0 w4 Ht_4.out.row Ht_4.out.cap hK).mono ?_
 rintro e w5 ⟨v, rfl, hR, hb⟩
 have Ht_5 := Lib.hid (Ht_4.out.step hb)
 have HB_5 := Lib.hid (bthen HB_4.out hb)
 clear hb
 obtain ⟨Al, cl, rfl, hcl, hCl⟩ := R_open hR
 have Hl_5 : Hid (Li w5 Al cl zs) := ⟨hCl, hcl⟩
 clear hR hCl hcl
 have ct0_5 := Ht_5.out.c0
 have ct1_5 := Ht_5.out.c1
 go_wp2_with fail
 clear ct0_5 ct1_5
 refine (deadboltref08_Right.calls k root _ _ t  true w5 Ht_5.out.row Ht_5.out.cap hRR).mono ?_
 rintro e w6 ⟨rfl, hb⟩
 have Ht_6 := Lib.hid (Ht_5.out.step hb)
 have Hl_6 := Lib.hid (Hl_5.out.step hb)
 have HB_6 := Lib.hid (bthen HB_5.out hb)
 clear hb
 go_wp2_with fail
 refine (deadboltref08_Key.calls key false w6 hKey).mono ?_
 rintro e w7 ⟨rfl, hb⟩
 replace hb := hb.below
 have Ht_7 := Lib.hid (Ht_6.out.step hb)
 have Hl_7 := Lib.hid (Hl_6.out.step hb)
 have HB_7 := Lib.hid (bthen HB_6.out hb)
 clear hb
 have ct0_7 := Ht_7.out.c0
 have ct1_7 := Ht_7.out.c1
 go_wp2_with fail
 clear ct0_7 ct1_7
 refine (treap_Right.calls root _ _ t  true w7 Ht_7.out.row Ht_7.out.cap hTR).mono ?_
 rintro e w8 ⟨rfl, hb⟩
 have Ht_8 := Lib.hid (Ht_7.out.step hb)
 have Hl_8 := Lib.hid (Hl_7.out.step hb)
 have HB_8 := Lib.hid (bthen HB_7.out hb)
 clear hb
 go_wp2_with fail
 refine (treap_Pri.calls key (-1) w8 hTP).mono ?_
 rintro e w9 ⟨rfl, hb⟩
 replace hb := hb.below
 have Ht_9 := Lib.hid (Ht_8.out.step hb)
 have Hl_9 := Lib.hid (Hl_8.out.step hb)
 have HB_9 := Lib.hid (bthen HB_8.out hb)
 clear hb
 go_wp2_with fail
 refine (deadboltlaw08_alive.calls k true w9 hA).mono ?_
 rintro e w10 ⟨rfl, hb⟩
 have Ht_10 := Lib.hid (Ht_9.out.step hb)
 have Hl_10 := Lib.hid (Hl_9.out.step hb)
 have HB_10 := Lib.hid (bthen HB_9.out hb)
 clear hb
 have ct0_10 := Ht_10.out.c0
 have ct1_10 := Ht_10.out.c1
 go_wp2_with fail
 clear ct0_10 ct1_10
 refine (deadboltref08_Keys.calls k root _ _ t  zs w10 Ht_10.out.row Ht_10.out.cap hRK).mono ?_
 rintro e w11 ⟨v, rfl, hR, hb⟩
 have Ht_11 := Lib.hid (Ht_10.out.step hb)
 have Hl_11 := Lib.hid (Hl_10.out.step hb)
 have HB_11 := Lib.hid (bthen HB_10.out hb)
 clear hb
 obtain ⟨Am, cm, rfl, hcm, hCm⟩ := R_open hR
 have Hm_11 : Hid (Li w11 Am cm zs) := ⟨hCm, hcm⟩
 clear hR hCm hcm
 go_wp2_with fail
 refine (deadboltref08_Same.calls k _ _ zs _ _ zs true w11 Hl_11.out.row Hl_11.out.cap Hm_11.out.row Hm_11.out.cap hS).mono ?_
 rintro e w12 ⟨rfl, hb⟩
 replace hb := hb.below
 have Ht_12 := Lib.hid (Ht_11.out.step hb)
 have Hl_12 := Lib.hid (Hl_11.out.step hb)
 have Hm_12 := Lib.hid (Hm_11.out.step hb)
 have HB_12 := Lib.hid (bthen HB_11.out hb)
 clear hb
 go_wp2_with fail
 refine (deadboltref08_Key.calls key false w12 hKey).mono ?_
 rintro e w13 ⟨rfl, hb⟩
 replace hb := hb.below
 have Ht_13 := Lib.hid (Ht_12.out.step hb)
 have Hl_13 := Lib.hid (Hl_12.out.step hb)
 have Hm_13 := Lib.hid (Hm_12.out.step hb)
 have HB_13 := Lib.hid (bthen HB_12.out hb)
 clear hb
 go_wp2_with fail
 go_ret
 exact ⟨rfl, HB_13.out⟩
end TreapP
end Go.Proofs.Ytjdjmhagafmkaaa.PX

/-
 TreapTells: the walk, where the tree may be.
-/
namespace Go.Proofs.Ytjdjmhagafmkaaa.PX
open Go.RowKit Go.Proofs.YtjdjmhagafmkaaaW.PrintWords Go.Proofs.YtjdjmhagafmkaaaW.PrintLast Go.Proofs.YtjdjmhagafmkaaaW.PrintMore
namespace TreapP
set_option maxRecDepth 100000 in
set_option maxHeartbeats 4000000 in
theorem tells_key00 (root key : Int) (A : Option Addr) (c : Nat) (l t : List S87) (ht : t = l.take 70) (hc : l.length ≤ c) (w : World) (hC : Kd.C k87 w A l.length l) (k : Nat)
  (p : Int) (zs : List Int) (hF : treap_Find.f root t key = some (0, 4)) (hN : treap_Next.f root t key = some (0, 4)) (hK : treap_Keys.f root t = some (zs, 0)) (hRR : deadboltref08_Right.f k root t = some true) (hTR : treap_Right.f root t = some true) (hKey : deadboltref08_Key.f key = some true) (hTP : treap_Pri.f key = some p) (hA : deadboltlaw08_alive.f k = some true) (hP : deadboltref08_Pri.f key = some p) (hRK : deadboltref08_Keys.f k root t = some zs) (hS : deadboltref08_Same.f k zs zs = some true) (hNI : deadboltref08_Next.f k zs key = some (-1)) (hPl : deadboltref08_Place.f k zs key = some (-1)) :
  Calls Try.prog 9 #[.agg #[.int .i64 root, .slice A l.length c], .int .i64 key] w fun e w' => e = .returned (.bool true) ∧ Below w.heap.size w w' := by
 have hx := Bx.new (root := root) hC hc
 have hb0 := (Below.refl w.heap.size w).alloc (Nat.le_refl _) (.cells #[.int .i64 root, .slice A l.length c] 50)
 have hft := few_t root A c l t ht hc
 have hcp : t.length ≤ c := by rw [ht, List.length_take]; omega
 have hct : Kd.C k87 w A t.length t := by rw [ht]; exact C_take hC 70
 clear ht
 have c0 := hx.c0
 have c1 := hx.c1
 have HX := Lib.hid hx
 have HB0 := Lib.hid hb0
 have HC := Lib.hid hC
 have HFT := Lib.hid hft
 clear hx hb0 hC hft
 go_enter Try.func9, Try.ntmps9
 go_wp2_with fail
 clear c0 c1
 have hx := HX.out
 have hb0 := HB0.out
 obtain ⟨W1, hW⟩ : ∃ W, w.alloc (.cells #[.int .i64 root, .slice A l.length c] 50) = W := ⟨_, rfl⟩
 rw [hW] at hx hb0 ⊢
 clear hW
 refine (HFT.out W1).mono ?_
 rintro e w2 ⟨rfl, hb⟩
 have hx2 := hx.box.below hb hx.box.lt
 have hb2 := bthen hb0 hb
 have f2 := fun i => hx2.frozen i
 have q0 : w2.cell? ⟨w.heap.size, 0, none⟩ = some (.int .i64 root) := by rw [hx2.cell]; rfl
 have q1 : w2.cell? ⟨w.heap.size, 1, none⟩ = some (.slice A l.length c) := by rw [hx2.cell]; rfl
 have hx3 := (hx2.set_ 0 (.int .i64 root)).set_ 1 (.slice A t.length c)
 have hb3 := (hb2.setCell (p := ⟨w.heap.size, 0, none⟩) (Nat.le_refl _) (.int .i64 root)).setCell (p := ⟨w.heap.size, 1, none⟩) (Nat.le_refl _) (.slice A t.length c)
 have ht3 : Bx ((w2.setCell ⟨w.heap.size, 0, none⟩ (.int .i64 root)).setCell ⟨w.heap.size, 1, none⟩ (.slice A t.length c)) w.heap.size root A c t := ⟨hx3, Kd.C_below hct hb3, hcp⟩
 have r0 := ht3.c0
 have r1 := ht3.c1
 have HT3 := Lib.hid ht3
 have HB3 := Lib.hid hb3
 clear hx hb0 hx2 hb2 hx3 hb3 ht3 hb HX HB0
 go_wp2_with fail
 clear q0 q1 r0 r1 f2
 have ht3 := HT3.out
 have hb3 := HB3.out
 obtain ⟨W2, hW⟩ : ∃ W, (w2.setCell ⟨w.heap.size, 0, none⟩ (.int .i64 root)).setCell ⟨w.heap.size, 1, none⟩ (.slice A t.length c) = W := ⟨_, rfl⟩
 rw [hW] at ht3 hb3 ⊢
 clear hW
 have Ht_0 := Lib.hid ht3
 have HB_0 := Lib.hid hb3
 clear ht3 hb3 HT3 HB3
 refine (treap_Find.calls root _ _ t key 0 4 W2 Ht_0.out.row Ht_0.out.cap hF).mono ?_
 rintro e w3 ⟨rfl, hb⟩
 have Ht_3 := Lib.hid (Ht_0.out.step hb)
 have HB_3 := Lib.hid (bthen HB_0.out hb)
 clear hb
 have ct0_3 := Ht_3.out.c0
 have ct1_3 := Ht_3.out.c1
 go_wp2_with fail
 clear ct0_3 ct1_3
 refine (treap_Next.calls root _ _ t key 0 4 w3 Ht_3.out.row Ht_3.out.cap hN).mono ?_
 rintro e w4 ⟨rfl, hb⟩
 have Ht_4 := Lib.hid (Ht_3.out.step hb)
 have HB_4 := Lib.hid (bthen HB_3.out hb)
 clear hb
 have ct0_4 := Ht_4.out.c0
 have ct1_4 := Ht_4.out.c1
 go_wp2_with fail
 clear ct0_4 ct1_4
 refine (treap_Keys.calls root _ _ t  zs 0 w4 Ht_4.out.row Ht_4.out.cap hK).mono ?_
 rintro e w5 ⟨v, rfl, hR, hb⟩
 have Ht_5 := Lib.hid (Ht_4.out.step hb)
 have HB_5 := Lib.hid (bthen HB_4.out hb)
 clear hb
 obtain ⟨Al, cl, rfl, hcl, hCl⟩ := R_open hR
 have Hl_5 : Hid (Li w5 Al cl zs) := ⟨hCl, hcl⟩
 clear hR hCl hcl
 have ct0_5 := Ht_5.out.c0
 have ct1_5 := Ht_5.out.c1
 go_wp2_with fail
 clear ct0_5 ct1_5
 refine (deadboltref08_Right.calls k root _ _ t  true w5 Ht_5.out.row Ht_5.out.cap hRR).mono ?_
 rintro e w6 ⟨rfl, hb⟩
 have Ht_6 := Lib.hid (Ht_5.out.step hb)
 have Hl_6 := Lib.hid (Hl_5.out.step hb)
 have HB_6 := Lib.hid (bthen HB_5.out hb)
 clear hb
 go_wp2_with fail
 refine (deadboltref08_Key.calls key true w6 hKey).mono ?_
 rintro e w7 ⟨rfl, hb⟩
 replace hb := hb.below
 have Ht_7 := Lib.hid (Ht_6.out.step hb)
 have Hl_7 := Lib.hid (Hl_6.out.step hb)
 have HB_7 := Lib.hid (bthen HB_6.out hb)
 clear hb
 go_wp2_with fail
 refine (deadboltref08_Pri.calls key p w7 hP).mono ?_
 rintro e w8 ⟨rfl, hb⟩
 replace hb := hb.below
 have Ht_8 := Lib.hid (Ht_7.out.step hb)
 have Hl_8 := Lib.hid (Hl_7.out.step hb)
 have HB_8 := Lib.hid (bthen HB_7.out hb)
 clear hb
 have ct0_8 := Ht_8.out.c0
 have ct1_8 := Ht_8.out.c1
 go_wp2_with fail
 clear ct0_8 ct1_8
 refine (treap_Right.calls root _ _ t  true w8 Ht_8.out.row Ht_8.out.cap hTR).mono ?_
 rintro e w9 ⟨rfl, hb⟩
 have Ht_9 := Lib.hid (Ht_8.out.step hb)
 have Hl_9 := Lib.hid (Hl_8.out.step hb)
 have HB_9 := Lib.hid (bthen HB_8.out hb)
 clear hb
 go_wp2_with fail
 refine (treap_Pri.calls key p w9 hTP).mono ?_
 rintro e w10 ⟨rfl, hb⟩
 replace hb := hb.below
 have Ht_10 := Lib.hid (Ht_9.out.step hb)
 have Hl_10 := Lib.hid (Hl_9.out.step hb)
 have HB_10 := Lib.hid (bthen HB_9.out hb)
 clear hb
 go_wp2_with fail
 refine (deadboltlaw08_alive.calls k true w10 hA).mono ?_
 rintro e w11 ⟨rfl, hb⟩
 have Ht_11 := Lib.hid (Ht_10.out.step hb)
 have Hl_11 := Lib.hid (Hl_10.out.step hb)
 have HB_11 := Lib.hid (bthen HB_10.out hb)
 clear hb
 have ct0_11 := Ht_11.out.c0
 have ct1_11 := Ht_11.out.c1
 go_wp2_with fail
 clear ct0_11 ct1_11
 refine (deadboltref08_Keys.calls k root _ _ t  zs w11 Ht_11.out.row Ht_11.out.cap hRK).mono ?_
 rintro e w12 ⟨v, rfl, hR, hb⟩
 have Ht_12 := Lib.hid (Ht_11.out.step hb)
 have Hl_12 := Lib.hid (Hl_11.out.step hb)
 have HB_12 := Lib.hid (bthen HB_11.out hb)
 clear hb
 obtain ⟨Am, cm, rfl, hcm, hCm⟩ := R_open hR
 have Hm_12 : Hid (Li w12 Am cm zs) := ⟨hCm, hcm⟩
 clear hR hCm hcm
 go_wp2_with fail
 refine (deadboltref08_Same.calls k _ _ zs _ _ zs true w12 Hl_12.out.row Hl_12.out.cap Hm_12.out.row Hm_12.out.cap hS).mono ?_
 rintro e w13 ⟨rfl, hb⟩
 replace hb := hb.below
 have Ht_13 := Lib.hid (Ht_12.out.step hb)
 have Hl_13 := Lib.hid (Hl_12.out.step hb)
 have Hm_13 := Lib.hid (Hm_12.out.step hb)
 have HB_13 := Lib.hid (bthen HB_12.out hb)
 clear hb
 go_wp2_with fail
 refine (deadboltref08_Key.calls key true w13 hKey).mono ?_
 rintro e w14 ⟨rfl, hb⟩
 replace hb := hb.below
 have Ht_14 := Lib.hid (Ht_13.out.step hb)
 have Hl_14 := Lib.hid (Hl_13.out.step hb)
 have Hm_14 := Lib.hid (Hm_13.out.step hb)
 have HB_14 := Lib.hid (bthen HB_13.out hb)
 clear hb
 go_wp2_with fail
 refine (deadboltref08_Next.calls k _ _ zs key (-1) w14 Hm_14.out.row Hm_14.out.cap hNI).mono ?_
 rintro e w15 ⟨rfl, hb⟩
 replace hb := hb.below
 have Ht_15 := Lib.hid (Ht_14.out.step hb)
 have Hl_15 := Lib.hid (Hl_14.out.step hb)
 have Hm_15 := Lib.hid (Hm_14.out.step hb)
 have HB_15 := Lib.hid (bthen HB_14.out hb)
 clear hb
 go_wp2_with fail
 refine (deadboltref08_Place.calls k _ _ zs key (-1) w15 Hm_15.out.row Hm_15.out.cap hPl).mono ?_
 rintro e w16 ⟨rfl, hb⟩
 replace hb := hb.below
 have Ht_16 := Lib.hid (Ht_15.out.step hb)
 have Hl_16 := Lib.hid (Hl_15.out.step hb)
 have Hm_16 := Lib.hid (Hm_15.out.step hb)
 have HB_16 := Lib.hid (bthen HB_15.out hb)
 clear hb
 go_wp2_with fail
 go_ret
 exact ⟨rfl, HB_16.out⟩
set_option maxRecDepth 100000 in
set_option maxHeartbeats 4000000 in
theorem tells_key01 (root key : Int) (A : Option Addr) (c : Nat) (l t : List S87) (ht : t = l.take 70) (hc : l.length ≤ c) (w : World) (hC : Kd.C k87 w A l.length l) (k : Nat)
  (p : Int) (zs : List Int) (d : Int) (hF : treap_Find.f root t key = some (d, 0)) (hN : treap_Next.f root t key = some (0, 4)) (hK : treap_Keys.f root t = some (zs, 0)) (hRR : deadboltref08_Right.f k root t = some true) (hTR : treap_Right.f root t = some true) (hKey : deadboltref08_Key.f key = some true) (hTP : treap_Pri.f key = some p) (hA : deadboltlaw08_alive.f k = some true) (hP : deadboltref08_Pri.f key = some p) (hRK : deadboltref08_Keys.f k root t = some zs) (hS : deadboltref08_Same.f k zs zs = some true) (hNI : deadboltref08_Next.f k zs key = some (-1)) (j : Int) (hj : 0 ≤ j) (hPl : deadboltref08_Place.f k zs key = some j) (hD : deadboltref08_Depth.f k zs key = some d) :
  Calls Try.prog 9 #[.agg #[.int .i64 root, .slice A l.length c], .int .i64 key] w fun e w' => e = .returned (.bool true) ∧ Below w.heap.size w w' := by
 have hx := Bx.new (root := root) hC hc
 have hb0 := (Below.refl w.heap.size w).alloc (Nat.le_refl _) (.cells #[.int .i64 root, .slice A l.length c] 50)
 have hft := few_t root A c l t ht hc
 have hcp : t.length ≤ c := by rw [ht, List.length_take]; omega
 have hct : Kd.C k87 w A t.length t := by rw [ht]; exact C_take hC 70
 clear ht
 have c0 := hx.c0
 have c1 := hx.c1
 have HX := Lib.hid hx
 have HB0 := Lib.hid hb0
 have HC := Lib.hid hC
 have HFT := Lib.hid hft
 clear hx hb0 hC hft
 go_enter Try.func9, Try.ntmps9
 go_wp2_with fail
 clear c0 c1
 have hx := HX.out
 have hb0 := HB0.out
 obtain ⟨W1, hW⟩ : ∃ W, w.alloc (.cells #[.int .i64 root, .slice A l.length c] 50) = W := ⟨_, rfl⟩
 rw [hW] at hx hb0 ⊢
 clear hW
 refine (HFT.out W1).mono ?_
 rintro e w2 ⟨rfl, hb⟩
 have hx2 := hx.box.below hb hx.box.lt
 have hb2 := bthen hb0 hb
 have f2 := fun i => hx2.frozen i
 have q0 : w2.cell? ⟨w.heap.size, 0, none⟩ = some (.int .i64 root) := by rw [hx2.cell]; rfl
 have q1 : w2.cell? ⟨w.heap.size, 1, none⟩ = some (.slice A l.length c) := by rw [hx2.cell]; rfl
 have hx3 := (hx2.set_ 0 (.int .i64 root)).set_ 1 (.slice A t.length c)
 have hb3 := (hb2.setCell (p := ⟨w.heap.size, 0, none⟩) (Nat.le_refl _) (.int .i64 root)).setCell (p := ⟨w.heap.size, 1, none⟩) (Nat.le_refl _) (.slice A t.length c)
 have ht3 : Bx ((w2.setCell ⟨w.heap.size, 0, none⟩ (.int .i64 root)).setCell ⟨w.heap.size, 1, none⟩ (.slice A t.length c)) w.heap.size root A c t := ⟨hx3, Kd.C_below hct hb3, hcp⟩
 have r0 := ht3.c0
 have r1 := ht3.c1
 have HT3 := Lib.hid ht3
 have HB3 := Lib.hid hb3
 clear hx hb0 hx2 hb2 hx3 hb3 ht3 hb HX HB0
 go_wp2_with fail
 clear q0 q1 r0 r1 f2
 have ht3 := HT3.out
 have hb3 := HB3.out
 obtain ⟨W2, hW⟩ : ∃ W, (w2.setCell ⟨w.heap.size, 0, none⟩ (.int .i64 root)).setCell ⟨w.heap.size, 1, none⟩ (.slice A t.length c) = W := ⟨_, rfl⟩
 rw [hW] at ht3 hb3 ⊢
 clear hW
 have Ht_0 := Lib.hid ht3
 have HB_0 := Lib.hid hb3
 clear ht3 hb3 HT3 HB3
 refine (treap_Find.calls root _ _ t key d 0 W2 Ht_0.out.row Ht_0.out.cap hF).mono ?_
 rintro e w3 ⟨rfl, hb⟩
 have Ht_3 := Lib.hid (Ht_0.out.step hb)
 have HB_3 := Lib.hid (bthen HB_0.out hb)
 clear hb
 have ct0_3 := Ht_3.out.c0
 have ct1_3 := Ht_3.out.c1
 go_wp2_with fail
 clear ct0_3 ct1_3
 refine (treap_Next.calls root _ _ t key 0 4 w3 Ht_3.out.row Ht_3.out.cap hN).mono ?_
 rintro e w4 ⟨rfl, hb⟩
 have Ht_4 := Lib.hid (Ht_3.out.step hb)
 have HB_4 := Lib.hid (bthen HB_3.out hb)
 clear hb
 have ct0_4 := Ht_4.out.c0
 have ct1_4 := Ht_4.out.c1
 go_wp2_with fail
 clear ct0_4 ct1_4
 refine (treap_Keys.calls root _ _ t  zs 0 w4 Ht_4.out.row Ht_4.out.cap hK).mono ?_
 rintro e w5 ⟨v, rfl, hR, hb⟩
 have Ht_5 := Lib.hid (Ht_4.out.step hb)
 have HB_5 := Lib.hid (bthen HB_4.out hb)
 clear hb
 obtain ⟨Al, cl, rfl, hcl, hCl⟩ := R_open hR
 have Hl_5 : Hid (Li w5 Al cl zs) := ⟨hCl, hcl⟩
 clear hR hCl hcl
 have ct0_5 := Ht_5.out.c0
 have ct1_5 := Ht_5.out.c1
 go_wp2_with fail
 clear ct0_5 ct1_5
 refine (deadboltref08_Right.calls k root _ _ t  true w5 Ht_5.out.row Ht_5.out.cap hRR).mono ?_
 rintro e w6 ⟨rfl, hb⟩
 have Ht_6 := Lib.hid (Ht_5.out.step hb)
 have Hl_6 := Lib.hid (Hl_5.out.step hb)
 have HB_6 := Lib.hid (bthen HB_5.out hb)
 clear hb
 go_wp2_with fail
 refine (deadboltref08_Key.calls key true w6 hKey).mono ?_
 rintro e w7 ⟨rfl, hb⟩
 replace hb := hb.below
 have Ht_7 := Lib.hid (Ht_6.out.step hb)
 have Hl_7 := Lib.hid (Hl_6.out.step hb)
 have HB_7 := Lib.hid (bthen HB_6.out hb)
 clear hb
 go_wp2_with fail
 refine (deadboltref08_Pri.calls key p w7 hP).mono ?_
 rintro e w8 ⟨rfl, hb⟩
 replace hb := hb.below
 have Ht_8 := Lib.hid (Ht_7.out.step hb)
 have Hl_8 := Lib.hid (Hl_7.out.step hb)
 have HB_8 := Lib.hid (bthen HB_7.out hb)
 clear hb
 have ct0_8 := Ht_8.out.c0
 have ct1_8 := Ht_8.out.c1
 go_wp2_with fail
 clear ct0_8 ct1_8
 refine (treap_Right.calls root _ _ t  true w8 Ht_8.out.row Ht_8.out.cap hTR).mono ?_
 rintro e w9 ⟨rfl, hb⟩
 have Ht_9 := Lib.hid (Ht_8.out.step hb)
 have Hl_9 := Lib.hid (Hl_8.out.step hb)
 have HB_9 := Lib.hid (bthen HB_8.out hb)
 clear hb
 go_wp2_with fail
 refine (treap_Pri.calls key p w9 hTP).mono ?_
 rintro e w10 ⟨rfl, hb⟩
 replace hb := hb.below
 have Ht_10 := Lib.hid (Ht_9.out.step hb)
 have Hl_10 := Lib.hid (Hl_9.out.step hb)
 have HB_10 := Lib.hid (bthen HB_9.out hb)
 clear hb
 go_wp2_with fail
 refine (deadboltlaw08_alive.calls k true w10 hA).mono ?_
 rintro e w11 ⟨rfl, hb⟩
 have Ht_11 := Lib.hid (Ht_10.out.step hb)
 have Hl_11 := Lib.hid (Hl_10.out.step hb)
 have HB_11 := Lib.hid (bthen HB_10.out hb)
 clear hb
 have ct0_11 := Ht_11.out.c0
 have ct1_11 := Ht_11.out.c1
 go_wp2_with fail
 clear ct0_11 ct1_11
 refine (deadboltref08_Keys.calls k root _ _ t  zs w11 Ht_11.out.row Ht_11.out.cap hRK).mono ?_
 rintro e w12 ⟨v, rfl, hR, hb⟩
 have Ht_12 := Lib.hid (Ht_11.out.step hb)
 have Hl_12 := Lib.hid (Hl_11.out.step hb)
 have HB_12 := Lib.hid (bthen HB_11.out hb)
 clear hb
 obtain ⟨Am, cm, rfl, hcm, hCm⟩ := R_open hR
 have Hm_12 : Hid (Li w12 Am cm zs) := ⟨hCm, hcm⟩
 clear hR hCm hcm
 go_wp2_with fail
 refine (deadboltref08_Same.calls k _ _ zs _ _ zs true w12 Hl_12.out.row Hl_12.out.cap Hm_12.out.row Hm_12.out.cap hS).mono ?_
 rintro e w13 ⟨rfl, hb⟩
 replace hb := hb.below
 have Ht_13 := Lib.hid (Ht_12.out.step hb)
 have Hl_13 := Lib.hid (Hl_12.out.step hb)
 have Hm_13 := Lib.hid (Hm_12.out.step hb)
 have HB_13 := Lib.hid (bthen HB_12.out hb)
 clear hb
 go_wp2_with fail
 refine (deadboltref08_Key.calls key true w13 hKey).mono ?_
 rintro e w14 ⟨rfl, hb⟩
 replace hb := hb.below
 have Ht_14 := Lib.hid (Ht_13.out.step hb)
 have Hl_14 := Lib.hid (Hl_13.out.step hb)
 have Hm_14 := Lib.hid (Hm_13.out.step hb)
 have HB_14 := Lib.hid (bthen HB_13.out hb)
 clear hb
 go_wp2_with fail
 refine (deadboltref08_Next.calls k _ _ zs key (-1) w14 Hm_14.out.row Hm_14.out.cap hNI).mono ?_
 rintro e w15 ⟨rfl, hb⟩
 replace hb := hb.below
 have Ht_15 := Lib.hid (Ht_14.out.step hb)
 have Hl_15 := Lib.hid (Hl_14.out.step hb)
 have Hm_15 := Lib.hid (Hm_14.out.step hb)
 have HB_15 := Lib.hid (bthen HB_14.out hb)
 clear hb
 go_wp2_with fail
 refine (deadboltref08_Place.calls k _ _ zs key j w15 Hm_15.out.row Hm_15.out.cap hPl).mono ?_
 rintro e w16 ⟨rfl, hb⟩
 replace hb := hb.below
 have Ht_16 := Lib.hid (Ht_15.out.step hb)
 have Hl_16 := Lib.hid (Hl_15.out.step hb)
 have Hm_16 := Lib.hid (Hm_15.out.step hb)
 have HB_16 := Lib.hid (bthen HB_15.out hb)
 clear hb
 have dJ : decide (j < 0) = false := decide_eq_false (by omega)
 go_wp2_with fail
 refine (deadboltref08_Depth.calls k _ _ zs key d w16 Hm_16.out.row Hm_16.out.cap hD).mono ?_
 rintro e w17 ⟨rfl, hb⟩
 replace hb := hb.below
 have Ht_17 := Lib.hid (Ht_16.out.step hb)
 have Hl_17 := Lib.hid (Hl_16.out.step hb)
 have Hm_17 := Lib.hid (Hm_16.out.step hb)
 have HB_17 := Lib.hid (bthen HB_16.out hb)
 clear hb
 go_wp2_with fail
 go_ret
 exact ⟨rfl, HB_17.out⟩
end TreapP
end Go.Proofs.Ytjdjmhagafmkaaa.PX
