/-
  Texts of this claim, one behind the other: PXx16, PXx17, PTreap, PXx22, PXx24, PXx23, PXx25.
-/
import Derived.Test.YtjdjmhagafmkaaaBTreapTells2
namespace Go.Proofs.Ytjdjmhagafmkaaa.PX
open Go.RowKit Go.Proofs.YtjdjmhagafmkaaaW.PrintWords Go.Proofs.YtjdjmhagafmkaaaW.PrintLast Go.Proofs.YtjdjmhagafmkaaaW.PrintMore
attribute [local go_sem] max2_int min2_int max_two min_two max_three min_three max_four min_four   -- for this text's walks alone
set_option linter.unusedVariables false
set_option linter.unusedSimpArgs false

/-! ### deadboltlaw08_made: function 29 -/
def deadboltlaw08_made.l0 : Nat → List Int → List Int → Int → Int → Int → List (S87) → Option (Int × (List (S87)) × List Int × Bool)
 | 0, _, _, _, _, _, _ => none
 | k + 1, x6, x16, x17, x18, x232000, x232001 => if x18 < x17 then (if 0 ≤ x18 then (if x18 < (x16.length : Int) then ((treap_Put.f x232000 x232001 (wrap64 (Int.tmod (IntKind.u64.wrap (rd x16 x18)) 4294967296))).bind fun bt234 => ((deadboltref08_Place.f k x6 (wrap64 (Int.tmod (IntKind.u64.wrap (rd x16 x18)) 4294967296))).bind fun t240 => (if t240 ≥ 0 then (if bt234.2.2 = 7 then (deadboltlaw08_made.l0 k x6 x16 x17 (wrap64 (x18 + 1)) x232000 x232001) else (some (x232000, x232001, ([] : List Int), false))) else (if bt234.2.2 = 0 then ((deadboltref08_With.f k x6 (wrap64 (Int.tmod (IntKind.u64.wrap (rd x16 x18)) 4294967296))).bind fun t241 => (deadboltlaw08_made.l0 k t241 x16 x17 (wrap64 (x18 + 1)) bt234.1 bt234.2.1)) else (some (x232000, x232001, ([] : List Int), false)))))) else (none)) else (none)) else (some (x232000, x232001, x6, true))
def deadboltlaw08_made.f (k : Nat) (l0 : List Int) : Option (Int × (List (S87)) × List Int × Bool) := (treap_New.f).bind fun bt227 => (if 0 ≤ (mn (l0.length : Int) 64) then (if (mn (l0.length : Int) 64) ≤ (l0.length : Int) then (deadboltlaw08_made.l0 k ([] : List Int) (l0.take ((mn (l0.length : Int) 64) : Int).toNat) ((l0.take ((mn (l0.length : Int) 64) : Int).toNat).length : Int) 0 bt227.1 bt227.2) else (none)) else (none))
theorem deadboltlaw08_made.mono_l : ∀ k, (∀ y0 y1 y2 y3 y4 y5, LeO (deadboltlaw08_made.l0 k y0 y1 y2 y3 y4 y5) (deadboltlaw08_made.l0 (k + 1) y0 y1 y2 y3 y4 y5))
 | 0 => fun _ _ _ _ _ _ r h => by simp [deadboltlaw08_made.l0] at h
 | k + 1 => by
  have ih0 := deadboltlaw08_made.mono_l k
  ·intro y0 y1 y2 y3 y4 y5
   unfold deadboltlaw08_made.l0
   repeat' first
   | (with_reducible exact ih0 _ _ _ _ _ _)
   | (with_reducible exact deadboltref08_Place.mono _ _ _)
   | (with_reducible exact deadboltref08_With.mono _ _ _)
   | (with_reducible exact LeO.refl _)
   | (with_reducible exact LeO.none _)
   | (with_reducible refine LeO.ite ?_ ?_)
   | (with_reducible refine LeO.bind ?_ (fun _ => ?_))
   | exact ih0 _ _ _ _ _ _
   | exact deadboltref08_Place.mono _ _ _
   | exact deadboltref08_With.mono _ _ _
   | exact LeO.none _
   | refine LeO.ite ?_ ?_
   | refine LeO.bind ?_ (fun _ => ?_)
theorem deadboltlaw08_made.mono : ∀ a0 k, LeO (deadboltlaw08_made.f k a0) (deadboltlaw08_made.f (k + 1) a0) := by
 intro a0 k
 have ih0 := deadboltlaw08_made.mono_l k
 unfold deadboltlaw08_made.f
 repeat' first
   | (with_reducible exact ih0 _ _ _ _ _ _)
   | (with_reducible exact deadboltref08_Place.mono _ _ _)
   | (with_reducible exact deadboltref08_With.mono _ _ _)
   | (with_reducible exact LeO.refl _)
   | (with_reducible exact LeO.none _)
   | (with_reducible refine LeO.ite ?_ ?_)
   | (with_reducible refine LeO.bind ?_ (fun _ => ?_))
   | exact ih0 _ _ _ _ _ _
   | exact deadboltref08_Place.mono _ _ _
   | exact deadboltref08_With.mono _ _ _
   | exact LeO.none _
   | refine LeO.ite ?_ ?_
   | refine LeO.bind ?_ (fun _ => ?_)
set_option maxHeartbeats 8000000 in
set_option maxRecDepth 100000 in
theorem deadboltlaw08_made.calls (k : Nat) (A0 : Option Addr) (c0 : Nat) (l0 : List Int) (r1 : Int) (r2 : List (S87)) (r3 : List Int) (r4 : Bool) (w : World) (hr0 : Kd.C (Kd.int .i64) w A0 l0.length l0) (hc0 : l0.length ≤ c0) (h : deadboltlaw08_made.f k l0 = some (r1, r2, r3, r4)) :
  Calls Try.prog 29 #[.slice A0 l0.length c0] w fun e w' => ∃ v1_ v2_ : Value, e = .returned (.tuple #[.agg #[.int .i64 r1, v1_], v2_, .bool r4]) ∧ Kd.R k87 87 w' w.heap.size (fun _ => True) v1_ r2 ∧ Kd.R (Kd.int .i64) 3 w' w.heap.size (fun _ => True) v2_ r3 ∧ Below w.heap.size w w' := by
 have hu50 := Try.underlying50
 have HR0 := Aside0.mk hr0
 have HC0 := Aside0.mk hc0
 clear hr0 hc0
 have HB := Aside0.mk (Below.refl w.heap.size w)
 have H : ((treap_New.f).bind fun bt227 => (if 0 ≤ (mn (l0.length : Int) 64) then (if (mn (l0.length : Int) 64) ≤ (l0.length : Int) then (deadboltlaw08_made.l0 k ([] : List Int) (l0.take ((mn (l0.length : Int) 64) : Int).toNat) ((l0.take ((mn (l0.length : Int) 64) : Int).toNat).length : Int) 0 bt227.1 bt227.2) else (none)) else (none))) = some (r1, r2, r3, r4) := h
 clear h
 replace H := Option.bind_eq_some_iff.mp H
 obtain ⟨⟨t227, t228⟩, A20, H⟩ := H
 replace H : (if 0 ≤ (mn (l0.length : Int) 64) then (if (mn (l0.length : Int) 64) ≤ (l0.length : Int) then (deadboltlaw08_made.l0 k ([] : List Int) (l0.take ((mn (l0.length : Int) 64) : Int).toNat) ((l0.take ((mn (l0.length : Int) 64) : Int).toNat).length : Int) 0 t227 t228) else (none)) else (none)) = some (r1, r2, r3, r4) := H
 have A2 := Aside0.mk A20
 clear A20
 obtain ⟨ji3, hji3⟩ : ∃ j_ : Int, (mn (l0.length : Int) 64) = j_ := ⟨_, rfl⟩
 replace H : (if 0 ≤ (ji3) then (if (ji3) ≤ (l0.length : Int) then (deadboltlaw08_made.l0 k ([] : List Int) (l0.take ((ji3) : Int).toNat) ((l0.take ((ji3) : Int).toNat).length : Int) 0 t227 t228) else (none)) else (none)) = some (r1, r2, r3, r4) := by first | (rw [hji3] at H; exact H) | (simp only [hji3] at H ⊢; exact H)
 (try rw [hji3] at A2)
 (try (have hji3h : ji3 ≤ 64 := by (rw [← hji3]; unfold mn; (repeat' split) <;> omega)))
 (try (have hji3g : ji3 ≤ 64 := by omega))
 (try (have hji3l : 0 ≤ ji3 := by (rw [← hji3]; unfold mn; (repeat' split) <;> omega)))
 (try (have hji3m : 0 ≤ ji3 := by omega))
 have hji3_ : (if 64 < (l0.length : Int) then 64 else (l0.length : Int)) = ji3 := hji3
 by_cases c4 : 0 ≤ (ji3)
 ·rw [if_pos c4] at H
  have c4b0 := eq_true c4
  have c4b1 : decide (0 ≤ (ji3)) = true := decide_eq_true c4
  clear c4
  by_cases c5 : (ji3) ≤ (l0.length : Int)
  ·rw [if_pos c5] at H
   have c5b0 := eq_true c5
   have c5b1 : decide ((ji3) ≤ (l0.length : Int)) = true := decide_eq_true c5
   clear c5
   have H' := Aside0.mk H
   clear H
   go_enter Try.func29, Try.ntmps29
   go_wp2_with (first | ((with_reducible refine gate_dst (N := 2) rfl ?_); refine box_event ?hg (N := 2) ?hd (cs := #[.int .i64 0, .slice none 0 0]) (t := 50) ?hr ?_; (case hd => rfl); (case hg => rfl); (case hr => first | (go_simp; done) | (go_simp; rfl)); intro gb226 hg w6 hbox hb; have n0_ := Aside0.mk (below_step (by repeat (first | (with_reducible first | exact HB.out | apply below_alloc | apply pw_below_drewN | apply below_drew1) | exact HB.out)) hb); have n1_ := Aside0.mk (hbox); have n2_ := Aside0.mk ((by rw [hg]; exact (below_size (by repeat (first | (with_reducible first | exact HB.out | apply below_alloc | apply pw_below_drewN | apply below_drew1) | exact HB.out))) : w.heap.size ≤ gb226)); have n3_ := Aside0.mk ((by rw [hg]; exact (below_size (by repeat (first | (with_reducible first | exact HB.out | apply below_alloc | apply pw_below_drewN | apply below_drew1) | exact HB.out))) : w.heap.size ≤ gb226)); clear HB; have HB := n0_; have BK226 := n1_; have GW226 := n2_; have GE226 := n3_; clear n0_ n1_ n2_ n3_; clear hb hbox hg) | ((with_reducible refine gate_callee (f := 63) rfl ?_); refine goesL_ (some 11) rfl rfl Try.func63 (by kernel_rfl) rfl #[] rfl (by (try simp only [List.map_toArray, List.map_cons, List.map_nil]); first | done | rfl | (simp only [List.length_drop, List.length_take]; rfl)) ?_; (with_reducible refine (treap_New.calls  t227 t228 _ A2.out).mono ?_); rintro e w7 ⟨v229, rfl, ho0, hb⟩; refine ⟨_, rfl, ?_⟩; have n0_ := Aside0.mk (Kd.R_lower ho0 (below_size (by repeat (first | (with_reducible first | exact HB.out | apply below_alloc | apply pw_below_drewN | apply below_drew1 | refine below_set ?_ GE226.out) | exact HB.out)))); have n1_ := Aside0.mk (blk_below (g := gb226) (o := .cells #[.int .i64 0, .slice none 0 0] 50 (0, 0)) (by (with_reducible repeat (first | refine blk_drewN ?_ _ | refine blk_drew ?_ | refine blk_alloc ?_ _)); exact BK226.out) hb); have n2_ := Aside0.mk (below_step (by repeat (first | (with_reducible first | exact HB.out | apply below_alloc | apply pw_below_drewN | apply below_drew1 | refine below_set ?_ GE226.out) | exact HB.out)) hb); clear BK226; clear HB; have HO230 := n0_; have BK226 := n1_; have HB := n2_; clear n0_ n1_ n2_; (try clear hb); (try clear hb2); (try clear hk); (try clear hi); (try clear ho0)) | ((with_reducible refine gate_dst (N := 5) rfl ?_); refine box_event ?hg (N := 5) ?hd (cs := #[.int .i64 0, .slice none 0 0]) (t := 50) ?hr ?_; (case hd => rfl); (case hg => rfl); (case hr => first | (go_simp; done) | (go_simp; rfl)); intro gb231 hg w8 hbox hb; have n0_ := Aside0.mk (Kd.R_below (by (with_reducible repeat (first | apply Kd.R_alloc | apply Kd.R_drewN | apply Kd.R_drew)); exact HO230.out) hb); have n1_ := Aside0.mk (blk_below (g := gb226) (o := .cells #[.int .i64 0, .slice none 0 0] 50 (0, 0)) (by (with_reducible repeat (first | refine blk_drewN ?_ _ | refine blk_drew ?_ | refine blk_alloc ?_ _)); exact BK226.out) hb); have n2_ := Aside0.mk (below_step (by repeat (first | (with_reducible first | exact HB.out | apply below_alloc | apply pw_below_drewN | apply below_drew1 | refine below_set ?_ GE226.out) | exact HB.out)) hb); have n3_ := Aside0.mk (hbox); have n4_ := Aside0.mk ((by rw [hg]; exact (below_size (by repeat (first | (with_reducible first | exact HB.out | apply below_alloc | apply pw_below_drewN | apply below_drew1 | refine below_set ?_ GE226.out) | exact HB.out))) : w.heap.size ≤ gb231)); have n5_ := Aside0.mk ((by rw [hg]; exact (below_size (by repeat (first | (with_reducible first | exact HB.out | apply below_alloc | apply pw_below_drewN | apply below_drew1 | refine below_set ?_ GE226.out) | exact HB.out))) : w.heap.size ≤ gb231)); have n6_ := Aside0.mk ((by rw [hg]; exact Nat.ne_of_lt (blk_lt (g := gb226) (o := .cells #[.int .i64 0, .slice none 0 0] 50 (0, 0)) (by (with_reducible repeat (first | refine blk_drewN ?_ _ | refine blk_drew ?_ | refine blk_alloc ?_ _)); exact BK226.out)) : gb226 ≠ gb231)); have n7_ := Aside0.mk ((by rw [hg]; exact Nat.ne_of_gt (blk_lt (g := gb226) (o := .cells #[.int .i64 0, .slice none 0 0] 50 (0, 0)) (by (with_reducible repeat (first | refine blk_drewN ?_ _ | refine blk_drew ?_ | refine blk_alloc ?_ _)); exact BK226.out)) : gb231 ≠ gb226)); clear HO230; clear BK226; clear HB; have HO230 := n0_; have BK226 := n1_; have HB := n2_; have BK231 := n3_; have GW231 := n4_; have GE231 := n5_; have NB226_231 := n6_; have NB231_226 := n7_; clear n0_ n1_ n2_ n3_ n4_ n5_ n6_ n7_; clear hb hbox hg; have hnb9 := NB231_226.out; have hnc9 := NB226_231.out; have hcz10_0 : w8.cell? ⟨gb231, 0, none⟩ = some (.int .i64 0) := (blk_cell BK231.out 0).trans rfl; have hcz10_1 : w8.cell? ⟨gb231, 1, none⟩ = some (.slice none 0 0) := (blk_cell BK231.out 1).trans rfl; have hfz10_0 := blk_frozen BK231.out 0; have hfz10_1 := blk_frozen BK231.out 1; obtain ⟨Ao11, co11, eo11⟩ := Kd.R_slice HO230.out; subst eo11; obtain ⟨i012, hi012, _, hsz12, _⟩ := info_parts info3; obtain ⟨hcut12, hA12, hC12⟩ := print_take_of (P := Try.prog) (Value.int .i64) 0 26 3 .i64 Try.underlying26 hi012 hsz12 A0 c0 l0 (ji3) (of_decide_eq_true (by first | (with_reducible assumption) | assumption)) (of_decide_eq_true (by first | (with_reducible assumption) | assumption)) HC0.out; have HR232 := Aside0.mk (Kd.C_of_reads (h1 := fun _ => rfl) (hA12 _ (Kd.reads_of_C HR0.out))); have HC232 := Aside0.mk hC12; clear hA12 hC12 hi012 hsz12))
   go_loopg [6, 18] k (fun kq v6 v18 w' => ∃ (x6_1 : List Int) (x18_1 : Int) (x227000_1 : Int) (x232000_1 : Int) (x232001_1 : List (S87)) (u232001 : Value), v18 = .int .i64 x18_1 ∧ Aside0 (deadboltlaw08_made.l0 kq x6_1 (l0.take ((ji3) : Int).toNat) ((l0.take ((ji3) : Int).toNat).length : Int) x18_1 x232000_1 x232001_1 = some (r1, r2, r3, r4)) ∧ Aside0 (kq ≤ k) ∧ Aside0 (Kd.R (Kd.int .i64) 3 w' w.heap.size (fun _ => True) v6 x6_1) ∧ Aside0 (Kd.R k87 87 w' w.heap.size (fun _ => True) u232001 x232001_1) ∧ Aside0 (w'.heap[gb226]? = some (.cells #[.int .i64 x227000_1, (.slice none 0 0)] 50 (0, 0))) ∧ Aside0 (w'.heap[gb231]? = some (.cells #[.int .i64 x232000_1, u232001] 50 (0, 0))) ∧ Aside0 (Below w.heap.size w w'))
   case atStart => exact ⟨(([] : List Int)), (0), (0), (t227), (t228), (.slice Ao11 t228.length co11), (by first | rfl | (simp; done) | (simp [*]; done)), H', ⟨Nat.le_refl _⟩, ⟨by first | exact Kd.R_nil _ _ _ _ _ | exact Kd.N_nil _ _ _ _ _ | exact Kd.V_nil _ _ _ _ _ | exact Kd.Q_nil _ _ _ _ _ | exact Kd.S_nil _ _ _ _ _⟩, ⟨by (with_reducible repeat (first | apply Kd.R_alloc | apply Kd.R_drewN | apply Kd.R_drew)); exact Kd.R_mono (Kd.R_far (p := ⟨gb231, 1, none⟩) (Kd.R_far (p := ⟨gb231, 0, none⟩) (Kd.R_types HO230.out BK231.out (by decide)) (fun _ hk => hk.2) (.int .i64 t227)) (fun _ hk => hk.2) (.slice Ao11 t228.length co11)) (fun _ hk => trivial)⟩, ⟨by (with_reducible repeat (first | refine blk_drewN ?_ _ | refine blk_drew ?_ | refine blk_alloc ?_ _)); refine blk_far ?_ NB226_231.out _; (with_reducible repeat (first | refine blk_drewN ?_ _ | refine blk_drew ?_ | refine blk_alloc ?_ _)); refine blk_far ?_ NB226_231.out _; (with_reducible repeat (first | refine blk_drewN ?_ _ | refine blk_drew ?_ | refine blk_alloc ?_ _)); exact BK226.out⟩, ⟨by (with_reducible repeat (first | refine blk_drewN ?_ _ | refine blk_drew ?_ | refine blk_alloc ?_ _)); refine blk_put (cs := #[.int .i64 t227, .slice none 0 0]) ?_ 1 _ rfl; (with_reducible repeat (first | refine blk_drewN ?_ _ | refine blk_drew ?_ | refine blk_alloc ?_ _)); refine blk_put (cs := #[.int .i64 0, .slice none 0 0]) ?_ 0 _ rfl; (with_reducible repeat (first | refine blk_drewN ?_ _ | refine blk_drew ?_ | refine blk_alloc ?_ _)); exact BK231.out⟩, ⟨by repeat (first | (with_reducible first | exact HB.out | apply below_alloc | apply pw_below_drewN | apply below_drew1 | refine below_set ?_ GE226.out | refine below_set ?_ GE231.out) | exact HB.out)⟩⟩
   case round =>
    clear H'
    try clear c2
    try clear p2
    try clear c4
    try clear c4b0
    try clear c4b1
    try clear c5
    try clear c5b0
    try clear c5b1
    try clear c6
    try clear c9
    try clear hcz10_0
    try clear hcz10_1
    try clear hfz10_0
    try clear hfz10_1
    obtain ⟨x6_1, x18_1, x227000_1, x232000_1, x232001_1, u232001, rfl, HA, HK1, HO_6, HO_232001, BK226, BK231, HB⟩ := hrel
    cases gk with
    | zero => exact absurd HA.out (by simp [deadboltlaw08_made.l0])
    | succ k1 =>
     have H := HA.out
     clear HA
     simp only [deadboltlaw08_made.l0] at H
     by_cases c13 : x18_1 < ((l0.take ((ji3) : Int).toNat).length : Int)
     ·rw [if_pos c13] at H
      have c13b0 : decide (x18_1 < ((l0.take ((ji3) : Int).toNat).length : Int)) = true := decide_eq_true c13; (try (have c13b0x : decide (x18_1 < max ji3 0) = true := by (have hq_ := c13; rw [List.length_take] at hq_; have hj_ := hji3; unfold mn at hj_; apply decide_eq_true; split at hj_ <;> omega))); (try (have c13b0y := eq_true (of_decide_eq_true c13b0x))); (try (have c13b0z := eq_false (of_decide_eq_false c13b0x)))
      clear c13
      by_cases c14 : 0 ≤ x18_1
      ·rw [if_pos c14] at H
       have c14b0 : decide (0 ≤ x18_1) = true := decide_eq_true c14
       clear c14
       by_cases c15 : x18_1 < ((l0.take ((ji3) : Int).toNat).length : Int)
       ·rw [if_pos c15] at H
        have c15b0 : decide (x18_1 < ((l0.take ((ji3) : Int).toNat).length : Int)) = true := decide_eq_true c15; (try (have c15b0x : decide (x18_1 < max ji3 0) = true := by (have hq_ := c15; rw [List.length_take] at hq_; have hj_ := hji3; unfold mn at hj_; apply decide_eq_true; split at hj_ <;> omega))); (try (have c15b0y := eq_true (of_decide_eq_true c15b0x))); (try (have c15b0z := eq_false (of_decide_eq_false c15b0x)))
        clear c15
        replace H := Option.bind_eq_some_iff.mp H
        obtain ⟨⟨t234, t235, t238⟩, A160, H⟩ := H
        replace H : ((deadboltref08_Place.f k1 x6_1 (wrap64 (Int.tmod (IntKind.u64.wrap (rd (l0.take ((ji3) : Int).toNat) x18_1)) 4294967296))).bind fun t240 => (if t240 ≥ 0 then (if t238 = 7 then (deadboltlaw08_made.l0 k1 x6_1 (l0.take ((ji3) : Int).toNat) ((l0.take ((ji3) : Int).toNat).length : Int) (wrap64 (x18_1 + 1)) x232000_1 x232001_1) else (some (x232000_1, x232001_1, ([] : List Int), false))) else (if t238 = 0 then ((deadboltref08_With.f k1 x6_1 (wrap64 (Int.tmod (IntKind.u64.wrap (rd (l0.take ((ji3) : Int).toNat) x18_1)) 4294967296))).bind fun t241 => (deadboltlaw08_made.l0 k1 t241 (l0.take ((ji3) : Int).toNat) ((l0.take ((ji3) : Int).toNat).length : Int) (wrap64 (x18_1 + 1)) t234 t235)) else (some (x232000_1, x232001_1, ([] : List Int), false))))) = some (r1, r2, r3, r4) := H
        have A16 := Aside0.mk A160
        clear A160
        replace H := Option.bind_eq_some_iff.mp H
        obtain ⟨t240, A170, H⟩ := H
        replace H : (if t240 ≥ 0 then (if t238 = 7 then (deadboltlaw08_made.l0 k1 x6_1 (l0.take ((ji3) : Int).toNat) ((l0.take ((ji3) : Int).toNat).length : Int) (wrap64 (x18_1 + 1)) x232000_1 x232001_1) else (some (x232000_1, x232001_1, ([] : List Int), false))) else (if t238 = 0 then ((deadboltref08_With.f k1 x6_1 (wrap64 (Int.tmod (IntKind.u64.wrap (rd (l0.take ((ji3) : Int).toNat) x18_1)) 4294967296))).bind fun t241 => (deadboltlaw08_made.l0 k1 t241 (l0.take ((ji3) : Int).toNat) ((l0.take ((ji3) : Int).toNat).length : Int) (wrap64 (x18_1 + 1)) t234 t235)) else (some (x232000_1, x232001_1, ([] : List Int), false)))) = some (r1, r2, r3, r4) := H
        have A17 := Aside0.mk A170
        clear A170
        by_cases c18 : t240 ≥ 0
        ·rw [if_pos c18] at H
         have c18b0 : decide (0 ≤ t240) = true := decide_eq_true c18
         clear c18
         by_cases c19 : t238 = 7
         ·rw [if_pos c19] at H
          have c19b0 : (t238 == 7) = true := beq_iff_eq.mpr c19
          have c19b1 : (t238 != 7) = false := bne_eq_false_iff_eq.mpr c19
          clear c19
          have H' := Aside0.mk H
          clear H
          have p233 : 0 ≤ (x18_1 : Int) := of_decide_eq_true (by first | (with_reducible assumption) | assumption)
          have q233 : x18_1 < ((l0.take ((ji3) : Int).toNat).length : Int) := of_decide_eq_true (by first | (with_reducible assumption) | assumption)
          obtain ⟨ad233, e233, hx233_0⟩ := Kd.at_int HR232.out x18_1 p233 q233
          cases e233
          replace hx233_0 := (HB.out.cell (World.block_lt_of_cell? w _ hx233_0)).trans hx233_0
          replace p233 := eq_true p233
          replace q233 := eq_true q233
          have hnb20 := NB231_226.out
          have hnc20 := NB226_231.out
          have hcz21_0 : wr.cell? ⟨gb231, 0, none⟩ = some (.int .i64 x232000_1) := (blk_cell BK231.out 0).trans rfl
          have hcz21_1 : wr.cell? ⟨gb231, 1, none⟩ = some (u232001) := (blk_cell BK231.out 1).trans rfl
          have hfz21_0 := blk_frozen BK231.out 0
          have hfz21_1 := blk_frozen BK231.out 1
          obtain ⟨Ao22, co22, eo22⟩ := Kd.R_slice HO_232001.out
          subst eo22
          go_wp2_with (first | ((with_reducible refine gate_callee (f := 45) rfl ?_); refine goesL_ (some 29) rfl rfl Try.func45 (by kernel_rfl) rfl #[.agg #[.int .i64 x232000_1, .slice Ao22 x232001_1.length co22], .int .i64 (wrap64 (Int.tmod (IntKind.u64.wrap (rd (l0.take ((ji3) : Int).toNat) x18_1)) 4294967296))] rfl (by (try simp only [List.map_toArray, List.map_cons, List.map_nil]); first | done | (simp only [hji3]; rfl) | rfl | (simp only [List.length_drop, List.length_take]; rfl)) ?_; (with_reducible refine (treap_Put.calls x232000_1 _ _ x232001_1 (wrap64 (Int.tmod (IntKind.u64.wrap (rd (l0.take ((ji3) : Int).toNat) x18_1)) 4294967296)) t234 t235 t238 _ ?side1 ?side2 A16.out).mono ?_); (case side1 => repeat (first | exact (Kd.R_reads' HO_232001.out).2.2 | (with_reducible refine Kd.C_alloc ?_ _) | (with_reducible refine Kd.C_drewN ?_ _) | (with_reducible refine Kd.C_drew ?_))); (case side2 => exact (Kd.R_reads' HO_232001.out).2.1); rintro e w23 ⟨v236, rfl, ho0, hb⟩; refine ⟨_, rfl, ?_⟩; have n0_ := Aside0.mk (Kd.R_below (by (with_reducible repeat (first | apply Kd.R_alloc | apply Kd.R_drewN | apply Kd.R_drew)); exact HO_6.out) hb); have n1_ := Aside0.mk (Kd.R_elder' (by (with_reducible repeat (first | apply Kd.R_alloc | apply Kd.R_drewN | apply Kd.R_drew)); exact HO_232001.out) (Kd.R_base ho0) hb); have n2_ := Aside0.mk (Kd.R_lower (Kd.R_new' ho0 (Kd.R_lt (by (with_reducible repeat (first | apply Kd.R_alloc | apply Kd.R_drewN | apply Kd.R_drew)); exact HO_232001.out))) (below_size (by repeat (first | (with_reducible first | exact HB.out | apply below_alloc | apply pw_below_drewN | apply below_drew1 | refine below_set ?_ GE226.out | refine below_set ?_ GE231.out) | exact HB.out)))); have n3_ := Aside0.mk (blk_below (g := gb226) (o := .cells #[.int .i64 x227000_1, .slice none 0 0] 50 (0, 0)) (by (with_reducible repeat (first | refine blk_drewN ?_ _ | refine blk_drew ?_ | refine blk_alloc ?_ _)); exact BK226.out) hb); have n4_ := Aside0.mk (blk_below (g := gb231) (o := .cells #[.int .i64 x232000_1, .slice Ao22 x232001_1.length co22] 50 (0, 0)) (by (with_reducible repeat (first | refine blk_drewN ?_ _ | refine blk_drew ?_ | refine blk_alloc ?_ _)); exact BK231.out) hb); have n5_ := Aside0.mk (below_step (by repeat (first | (with_reducible first | exact HB.out | apply below_alloc | apply pw_below_drewN | apply below_drew1 | refine below_set ?_ GE226.out | refine below_set ?_ GE231.out) | exact HB.out)) hb); clear HO_6; clear HO_232001; clear BK226; clear BK231; clear HB; have HO_6 := n0_; have HO_232001 := n1_; have HO237 := n2_; have BK226 := n3_; have BK231 := n4_; have HB := n5_; clear n0_ n1_ n2_ n3_ n4_ n5_; (try clear hb); (try clear hb2); (try clear hk); (try clear hi); (try clear ho0)) | ((with_reducible refine gate_dst (N := 9) rfl ?_); refine box_event ?hg (N := 9) ?hd (cs := #[.int .i64 0, .slice none 0 0]) (t := 50) ?hr ?_; (case hd => rfl); (case hg => rfl); (case hr => first | (go_simp; done) | (go_simp; rfl)); intro gb239 hg w24 hbox hb; have n0_ := Aside0.mk (Kd.R_below (by (with_reducible repeat (first | apply Kd.R_alloc | apply Kd.R_drewN | apply Kd.R_drew)); exact HO_6.out) hb); have n1_ := Aside0.mk (Kd.R_below (by (with_reducible repeat (first | apply Kd.R_alloc | apply Kd.R_drewN | apply Kd.R_drew)); exact HO_232001.out) hb); have n2_ := Aside0.mk (Kd.R_below (by (with_reducible repeat (first | apply Kd.R_alloc | apply Kd.R_drewN | apply Kd.R_drew)); exact HO237.out) hb); have n3_ := Aside0.mk (blk_below (g := gb226) (o := .cells #[.int .i64 x227000_1, .slice none 0 0] 50 (0, 0)) (by (with_reducible repeat (first | refine blk_drewN ?_ _ | refine blk_drew ?_ | refine blk_alloc ?_ _)); exact BK226.out) hb); have n4_ := Aside0.mk (blk_below (g := gb231) (o := .cells #[.int .i64 x232000_1, .slice Ao22 x232001_1.length co22] 50 (0, 0)) (by (with_reducible repeat (first | refine blk_drewN ?_ _ | refine blk_drew ?_ | refine blk_alloc ?_ _)); exact BK231.out) hb); have n5_ := Aside0.mk (below_step (by repeat (first | (with_reducible first | exact HB.out | apply below_alloc | apply pw_below_drewN | apply below_drew1 | refine below_set ?_ GE226.out | refine below_set ?_ GE231.out) | exact HB.out)) hb); have n6_ := Aside0.mk (hbox); have n7_ := Aside0.mk ((by rw [hg]; exact (below_size (by repeat (first | (with_reducible first | exact HB.out | apply below_alloc | apply pw_below_drewN | apply below_drew1 | refine below_set ?_ GE226.out | refine below_set ?_ GE231.out) | exact HB.out))) : w.heap.size ≤ gb239)); have n8_ := Aside0.mk ((by rw [hg]; exact (below_size (by repeat (first | (with_reducible first | exact HB.out | apply below_alloc | apply pw_below_drewN | apply below_drew1 | refine below_set ?_ GE226.out | refine below_set ?_ GE231.out) | exact HB.out))) : w.heap.size ≤ gb239)); have n9_ := Aside0.mk ((by rw [hg]; exact Nat.ne_of_lt (blk_lt (g := gb226) (o := .cells #[.int .i64 x227000_1, .slice none 0 0] 50 (0, 0)) (by (with_reducible repeat (first | refine blk_drewN ?_ _ | refine blk_drew ?_ | refine blk_alloc ?_ _)); exact BK226.out)) : gb226 ≠ gb239)); have n10_ := Aside0.mk ((by rw [hg]; exact Nat.ne_of_gt (blk_lt (g := gb226) (o := .cells #[.int .i64 x227000_1, .slice none 0 0] 50 (0, 0)) (by (with_reducible repeat (first | refine blk_drewN ?_ _ | refine blk_drew ?_ | refine blk_alloc ?_ _)); exact BK226.out)) : gb239 ≠ gb226)); have n11_ := Aside0.mk ((by rw [hg]; exact Nat.ne_of_lt (blk_lt (g := gb231) (o := .cells #[.int .i64 x232000_1, .slice Ao22 x232001_1.length co22] 50 (0, 0)) (by (with_reducible repeat (first | refine blk_drewN ?_ _ | refine blk_drew ?_ | refine blk_alloc ?_ _)); exact BK231.out)) : gb231 ≠ gb239)); have n12_ := Aside0.mk ((by rw [hg]; exact Nat.ne_of_gt (blk_lt (g := gb231) (o := .cells #[.int .i64 x232000_1, .slice Ao22 x232001_1.length co22] 50 (0, 0)) (by (with_reducible repeat (first | refine blk_drewN ?_ _ | refine blk_drew ?_ | refine blk_alloc ?_ _)); exact BK231.out)) : gb239 ≠ gb231)); clear HO_6; clear HO_232001; clear HO237; clear BK226; clear BK231; clear HB; have HO_6 := n0_; have HO_232001 := n1_; have HO237 := n2_; have BK226 := n3_; have BK231 := n4_; have HB := n5_; have BK239 := n6_; have GW239 := n7_; have GE239 := n8_; have NB226_239 := n9_; have NB239_226 := n10_; have NB231_239 := n11_; have NB239_231 := n12_; clear n0_ n1_ n2_ n3_ n4_ n5_ n6_ n7_ n8_ n9_ n10_ n11_ n12_; clear hb hbox hg; have hnb25 := NB239_226.out; have hnc25 := NB226_239.out; have hnb26 := NB239_231.out; have hnc26 := NB231_239.out; have hcz27_0 : w24.cell? ⟨gb239, 0, none⟩ = some (.int .i64 0) := (blk_cell BK239.out 0).trans rfl; have hcz27_1 : w24.cell? ⟨gb239, 1, none⟩ = some (.slice none 0 0) := (blk_cell BK239.out 1).trans rfl; have hfz27_0 := blk_frozen BK239.out 0; have hfz27_1 := blk_frozen BK239.out 1; obtain ⟨Ao28, co28, eo28⟩ := Kd.R_slice HO237.out; subst eo28; obtain ⟨Ao29, co29, eo29⟩ := Kd.R_slice HO_6.out; subst eo29) | ((with_reducible refine gate_callee (f := 43) rfl ?_); refine goesL_ (some 34) rfl rfl Try.func43 (by kernel_rfl) rfl #[.slice Ao29 x6_1.length co29, .int .i64 (wrap64 (Int.tmod (IntKind.u64.wrap (rd (l0.take ((ji3) : Int).toNat) x18_1)) 4294967296))] rfl (by (try simp only [List.map_toArray, List.map_cons, List.map_nil]); first | done | (simp only [hji3]; rfl) | rfl | (simp only [List.length_drop, List.length_take]; rfl)) ?_; (with_reducible refine (deadboltref08_Place.calls k1 _ _ x6_1 (wrap64 (Int.tmod (IntKind.u64.wrap (rd (l0.take ((ji3) : Int).toNat) x18_1)) 4294967296)) t240 _ ?side1 ?side2 A17.out).mono ?_); (case side1 => refine (Kd.R_reads' (e := 3) (base := w.heap.size) (ok := fun k_ => True) (n := x6_1.length) (c := co29) ?_).2.2; exact (by (with_reducible repeat (first | apply Kd.R_alloc | apply Kd.R_drewN | apply Kd.R_drew)); exact (Kd.R_mono (Kd.R_far (p := ⟨gb239, 1, none⟩) (Kd.R_far (p := ⟨gb239, 0, none⟩) (Kd.R_types HO_6.out BK239.out (by decide)) (fun _ hk => hk.2) (.int .i64 t234)) (fun _ hk => hk.2) (.slice Ao28 t235.length co28)) (fun _ h_ => h_.1)))); (case side2 => exact (Kd.R_reads' HO_6.out).2.1); rintro e w' ⟨rfl, ⟨nd, rfl⟩⟩; refine ⟨_, rfl, ?_⟩))
          go_roundg k1
          case measure => have := HK1.out; omega
          case rel => exact ⟨(x6_1), (wrap64 (x18_1 + 1)), (x227000_1), (x232000_1), (x232001_1), (.slice Ao22 x232001_1.length co22), (by first | rfl | (simp; done) | (simp [*]; done)), H', ⟨by have := HK1.out; omega⟩, ⟨by (with_reducible repeat (first | apply Kd.R_alloc | apply Kd.R_drewN | apply Kd.R_drew)); exact Kd.R_mono (Kd.R_far (p := ⟨gb239, 1, none⟩) (Kd.R_far (p := ⟨gb239, 0, none⟩) (Kd.R_types HO_6.out BK239.out (by decide)) (fun _ hk => hk.2) (.int .i64 t234)) (fun _ hk => hk.2) (.slice Ao28 t235.length co28)) (fun _ hk => trivial)⟩, ⟨by (with_reducible repeat (first | apply Kd.R_alloc | apply Kd.R_drewN | apply Kd.R_drew)); exact Kd.R_mono (Kd.R_far (p := ⟨gb239, 1, none⟩) (Kd.R_far (p := ⟨gb239, 0, none⟩) (Kd.R_types HO_232001.out BK239.out (by decide)) (fun _ hk => hk.2) (.int .i64 t234)) (fun _ hk => hk.2) (.slice Ao28 t235.length co28)) (fun _ hk => trivial)⟩, ⟨by (with_reducible repeat (first | refine blk_drewN ?_ _ | refine blk_drew ?_ | refine blk_alloc ?_ _)); refine blk_far ?_ NB226_239.out _; (with_reducible repeat (first | refine blk_drewN ?_ _ | refine blk_drew ?_ | refine blk_alloc ?_ _)); refine blk_far ?_ NB226_239.out _; (with_reducible repeat (first | refine blk_drewN ?_ _ | refine blk_drew ?_ | refine blk_alloc ?_ _)); exact BK226.out⟩, ⟨by (with_reducible repeat (first | refine blk_drewN ?_ _ | refine blk_drew ?_ | refine blk_alloc ?_ _)); refine blk_far ?_ NB231_239.out _; (with_reducible repeat (first | refine blk_drewN ?_ _ | refine blk_drew ?_ | refine blk_alloc ?_ _)); refine blk_far ?_ NB231_239.out _; (with_reducible repeat (first | refine blk_drewN ?_ _ | refine blk_drew ?_ | refine blk_alloc ?_ _)); exact BK231.out⟩, ⟨by repeat (first | (with_reducible first | exact HB.out | apply below_alloc | apply pw_below_drewN | apply below_drew1 | refine below_set ?_ GE226.out | refine below_set ?_ GE231.out | refine below_set ?_ GE239.out) | exact HB.out)⟩⟩
         ·rw [if_neg c19] at H
          have c19b0 : (t238 == 7) = false := beq_eq_false_iff_ne.mpr c19
          have c19b1 : (t238 != 7) = true := bne_iff_ne.mpr c19
          simp only [Option.some.injEq, Prod.mk.injEq] at H
          obtain ⟨rfl, rfl, rfl, rfl⟩ := H
          have p233 : 0 ≤ (x18_1 : Int) := of_decide_eq_true (by first | (with_reducible assumption) | assumption)
          have q233 : x18_1 < ((l0.take ((ji3) : Int).toNat).length : Int) := of_decide_eq_true (by first | (with_reducible assumption) | assumption)
          obtain ⟨ad233, e233, hx233_0⟩ := Kd.at_int HR232.out x18_1 p233 q233
          cases e233
          replace hx233_0 := (HB.out.cell (World.block_lt_of_cell? w _ hx233_0)).trans hx233_0
          replace p233 := eq_true p233
          replace q233 := eq_true q233
          have hnb30 := NB231_226.out
          have hnc30 := NB226_231.out
          have hcz31_0 : wr.cell? ⟨gb231, 0, none⟩ = some (.int .i64 x232000_1) := (blk_cell BK231.out 0).trans rfl
          have hcz31_1 : wr.cell? ⟨gb231, 1, none⟩ = some (u232001) := (blk_cell BK231.out 1).trans rfl
          have hfz31_0 := blk_frozen BK231.out 0
          have hfz31_1 := blk_frozen BK231.out 1
          obtain ⟨Ao32, co32, eo32⟩ := Kd.R_slice HO_232001.out
          subst eo32
          go_wp2_with (first | ((with_reducible refine gate_callee (f := 45) rfl ?_); refine goesL_ (some 29) rfl rfl Try.func45 (by kernel_rfl) rfl #[.agg #[.int .i64 x232000_1, .slice Ao32 x232001_1.length co32], .int .i64 (wrap64 (Int.tmod (IntKind.u64.wrap (rd (l0.take ((ji3) : Int).toNat) x18_1)) 4294967296))] rfl (by (try simp only [List.map_toArray, List.map_cons, List.map_nil]); first | done | (simp only [hji3]; rfl) | rfl | (simp only [List.length_drop, List.length_take]; rfl)) ?_; (with_reducible refine (treap_Put.calls x232000_1 _ _ x232001_1 (wrap64 (Int.tmod (IntKind.u64.wrap (rd (l0.take ((ji3) : Int).toNat) x18_1)) 4294967296)) t234 t235 t238 _ ?side1 ?side2 A16.out).mono ?_); (case side1 => repeat (first | exact (Kd.R_reads' HO_232001.out).2.2 | (with_reducible refine Kd.C_alloc ?_ _) | (with_reducible refine Kd.C_drewN ?_ _) | (with_reducible refine Kd.C_drew ?_))); (case side2 => exact (Kd.R_reads' HO_232001.out).2.1); rintro e w33 ⟨v236, rfl, ho0, hb⟩; refine ⟨_, rfl, ?_⟩; have n0_ := Aside0.mk (Kd.R_below (by (with_reducible repeat (first | apply Kd.R_alloc | apply Kd.R_drewN | apply Kd.R_drew)); exact HO_6.out) hb); have n1_ := Aside0.mk (Kd.R_elder' (by (with_reducible repeat (first | apply Kd.R_alloc | apply Kd.R_drewN | apply Kd.R_drew)); exact HO_232001.out) (Kd.R_base ho0) hb); have n2_ := Aside0.mk (Kd.R_lower (Kd.R_new' ho0 (Kd.R_lt (by (with_reducible repeat (first | apply Kd.R_alloc | apply Kd.R_drewN | apply Kd.R_drew)); exact HO_232001.out))) (below_size (by repeat (first | (with_reducible first | exact HB.out | apply below_alloc | apply pw_below_drewN | apply below_drew1 | refine below_set ?_ GE226.out | refine below_set ?_ GE231.out) | exact HB.out)))); have n3_ := Aside0.mk (blk_below (g := gb226) (o := .cells #[.int .i64 x227000_1, .slice none 0 0] 50 (0, 0)) (by (with_reducible repeat (first | refine blk_drewN ?_ _ | refine blk_drew ?_ | refine blk_alloc ?_ _)); exact BK226.out) hb); have n4_ := Aside0.mk (blk_below (g := gb231) (o := .cells #[.int .i64 x232000_1, .slice Ao32 x232001_1.length co32] 50 (0, 0)) (by (with_reducible repeat (first | refine blk_drewN ?_ _ | refine blk_drew ?_ | refine blk_alloc ?_ _)); exact BK231.out) hb); have n5_ := Aside0.mk (below_step (by repeat (first | (with_reducible first | exact HB.out | apply below_alloc | apply pw_below_drewN | apply below_drew1 | refine below_set ?_ GE226.out | refine below_set ?_ GE231.out) | exact HB.out)) hb); clear HO_6; clear HO_232001; clear BK226; clear BK231; clear HB; have HO_6 := n0_; have HO_232001 := n1_; have HO237 := n2_; have BK226 := n3_; have BK231 := n4_; have HB := n5_; clear n0_ n1_ n2_ n3_ n4_ n5_; (try clear hb); (try clear hb2); (try clear hk); (try clear hi); (try clear ho0)) | ((with_reducible refine gate_dst (N := 9) rfl ?_); refine box_event ?hg (N := 9) ?hd (cs := #[.int .i64 0, .slice none 0 0]) (t := 50) ?hr ?_; (case hd => rfl); (case hg => rfl); (case hr => first | (go_simp; done) | (go_simp; rfl)); intro gb239 hg w34 hbox hb; have n0_ := Aside0.mk (Kd.R_below (by (with_reducible repeat (first | apply Kd.R_alloc | apply Kd.R_drewN | apply Kd.R_drew)); exact HO_6.out) hb); have n1_ := Aside0.mk (Kd.R_below (by (with_reducible repeat (first | apply Kd.R_alloc | apply Kd.R_drewN | apply Kd.R_drew)); exact HO_232001.out) hb); have n2_ := Aside0.mk (Kd.R_below (by (with_reducible repeat (first | apply Kd.R_alloc | apply Kd.R_drewN | apply Kd.R_drew)); exact HO237.out) hb); have n3_ := Aside0.mk (blk_below (g := gb226) (o := .cells #[.int .i64 x227000_1, .slice none 0 0] 50 (0, 0)) (by (with_reducible repeat (first | refine blk_drewN ?_ _ | refine blk_drew ?_ | refine blk_alloc ?_ _)); exact BK226.out) hb); have n4_ := Aside0.mk (blk_below (g := gb231) (o := .cells #[.int .i64 x232000_1, .slice Ao32 x232001_1.length co32] 50 (0, 0)) (by (with_reducible repeat (first | refine blk_drewN ?_ _ | refine blk_drew ?_ | refine blk_alloc ?_ _)); exact BK231.out) hb); have n5_ := Aside0.mk (below_step (by repeat (first | (with_reducible first | exact HB.out | apply below_alloc | apply pw_below_drewN | apply below_drew1 | refine below_set ?_ GE226.out | refine below_set ?_ GE231.out) | exact HB.out)) hb); have n6_ := Aside0.mk (hbox); have n7_ := Aside0.mk ((by rw [hg]; exact (below_size (by repeat (first | (with_reducible first | exact HB.out | apply below_alloc | apply pw_below_drewN | apply below_drew1 | refine below_set ?_ GE226.out | refine below_set ?_ GE231.out) | exact HB.out))) : w.heap.size ≤ gb239)); have n8_ := Aside0.mk ((by rw [hg]; exact (below_size (by repeat (first | (with_reducible first | exact HB.out | apply below_alloc | apply pw_below_drewN | apply below_drew1 | refine below_set ?_ GE226.out | refine below_set ?_ GE231.out) | exact HB.out))) : w.heap.size ≤ gb239)); have n9_ := Aside0.mk ((by rw [hg]; exact Nat.ne_of_lt (blk_lt (g := gb226) (o := .cells #[.int .i64 x227000_1, .slice none 0 0] 50 (0, 0)) (by (with_reducible repeat (first | refine blk_drewN ?_ _ | refine blk_drew ?_ | refine blk_alloc ?_ _)); exact BK226.out)) : gb226 ≠ gb239)); have n10_ := Aside0.mk ((by rw [hg]; exact Nat.ne_of_gt (blk_lt (g := gb226) (o := .cells #[.int .i64 x227000_1, .slice none 0 0] 50 (0, 0)) (by (with_reducible repeat (first | refine blk_drewN ?_ _ | refine blk_drew ?_ | refine blk_alloc ?_ _)); exact BK226.out)) : gb239 ≠ gb226)); have n11_ := Aside0.mk ((by rw [hg]; exact Nat.ne_of_lt (blk_lt (g := gb231) (o := .cells #[.int .i64 x232000_1, .slice Ao32 x232001_1.length co32] 50 (0, 0)) (by (with_reducible repeat (first | refine blk_drewN ?_ _ | refine blk_drew ?_ | refine blk_alloc ?_ _)); exact BK231.out)) : gb231 ≠ gb239)); have n12_ := Aside0.mk ((by rw [hg]; exact Nat.ne_of_gt (blk_lt (g := gb231) (o := .cells #[.int .i64 x232000_1, .slice Ao32 x232001_1.length co32] 50 (0, 0)) (by (with_reducible repeat (first | refine blk_drewN ?_ _ | refine blk_drew ?_ | refine blk_alloc ?_ _)); exact BK231.out)) : gb239 ≠ gb231)); clear HO_6; clear HO_232001; clear HO237; clear BK226; clear BK231; clear HB; have HO_6 := n0_; have HO_232001 := n1_; have HO237 := n2_; have BK226 := n3_; have BK231 := n4_; have HB := n5_; have BK239 := n6_; have GW239 := n7_; have GE239 := n8_; have NB226_239 := n9_; have NB239_226 := n10_; have NB231_239 := n11_; have NB239_231 := n12_; clear n0_ n1_ n2_ n3_ n4_ n5_ n6_ n7_ n8_ n9_ n10_ n11_ n12_; clear hb hbox hg; have hnb35 := NB239_226.out; have hnc35 := NB226_239.out; have hnb36 := NB239_231.out; have hnc36 := NB231_239.out; have hcz37_0 : w34.cell? ⟨gb239, 0, none⟩ = some (.int .i64 0) := (blk_cell BK239.out 0).trans rfl; have hcz37_1 : w34.cell? ⟨gb239, 1, none⟩ = some (.slice none 0 0) := (blk_cell BK239.out 1).trans rfl; have hfz37_0 := blk_frozen BK239.out 0; have hfz37_1 := blk_frozen BK239.out 1; obtain ⟨Ao38, co38, eo38⟩ := Kd.R_slice HO237.out; subst eo38; obtain ⟨Ao39, co39, eo39⟩ := Kd.R_slice HO_6.out; subst eo39) | ((with_reducible refine gate_callee (f := 43) rfl ?_); refine goesL_ (some 34) rfl rfl Try.func43 (by kernel_rfl) rfl #[.slice Ao39 x6_1.length co39, .int .i64 (wrap64 (Int.tmod (IntKind.u64.wrap (rd (l0.take ((ji3) : Int).toNat) x18_1)) 4294967296))] rfl (by (try simp only [List.map_toArray, List.map_cons, List.map_nil]); first | done | (simp only [hji3]; rfl) | rfl | (simp only [List.length_drop, List.length_take]; rfl)) ?_; (with_reducible refine (deadboltref08_Place.calls k1 _ _ x6_1 (wrap64 (Int.tmod (IntKind.u64.wrap (rd (l0.take ((ji3) : Int).toNat) x18_1)) 4294967296)) t240 _ ?side1 ?side2 A17.out).mono ?_); (case side1 => refine (Kd.R_reads' (e := 3) (base := w.heap.size) (ok := fun k_ => True) (n := x6_1.length) (c := co39) ?_).2.2; exact (by (with_reducible repeat (first | apply Kd.R_alloc | apply Kd.R_drewN | apply Kd.R_drew)); exact (Kd.R_mono (Kd.R_far (p := ⟨gb239, 1, none⟩) (Kd.R_far (p := ⟨gb239, 0, none⟩) (Kd.R_types HO_6.out BK239.out (by decide)) (fun _ hk => hk.2) (.int .i64 t234)) (fun _ hk => hk.2) (.slice Ao38 t235.length co38)) (fun _ h_ => h_.1)))); (case side2 => exact (Kd.R_reads' HO_6.out).2.1); rintro e w' ⟨rfl, ⟨nd, rfl⟩⟩; refine ⟨_, rfl, ?_⟩; have hcz40_0 : w34.cell? ⟨gb231, 0, none⟩ = some (.int .i64 x232000_1) := (blk_cell BK231.out 0).trans rfl; have hcz40_1 : w34.cell? ⟨gb231, 1, none⟩ = some (.slice Ao32 x232001_1.length co32) := (blk_cell BK231.out 1).trans rfl; have hfz40_0 := blk_frozen BK231.out 0; have hfz40_1 := blk_frozen BK231.out 1; have hcz41_0 : w34.cell? ⟨gb226, 0, none⟩ = some (.int .i64 x227000_1) := (blk_cell BK226.out 0).trans rfl; have hcz41_1 : w34.cell? ⟨gb226, 1, none⟩ = some (.slice none 0 0) := (blk_cell BK226.out 1).trans rfl; have hfz41_0 := blk_frozen BK226.out 0; have hfz41_1 := blk_frozen BK226.out 1))
          refine bodyPost_ret (results_ctt rfl _ _ gb226 50 #[.int .i64 x232000_1, .slice Ao32 x232001_1.length co32] (0, 0) _ rfl (by (with_reducible repeat (first | refine blk_drewN ?_ _ | refine blk_drew ?_ | refine blk_alloc ?_ _)); refine blk_put (cs := #[.int .i64 x232000_1, .slice none 0 0]) ?_ 1 _ rfl; (with_reducible repeat (first | refine blk_drewN ?_ _ | refine blk_drew ?_ | refine blk_alloc ?_ _)); refine blk_put (cs := #[.int .i64 x227000_1, .slice none 0 0]) ?_ 0 _ rfl; (with_reducible repeat (first | refine blk_drewN ?_ _ | refine blk_drew ?_ | refine blk_alloc ?_ _)); refine blk_far ?_ NB226_239.out _; (with_reducible repeat (first | refine blk_drewN ?_ _ | refine blk_drew ?_ | refine blk_alloc ?_ _)); refine blk_far ?_ NB226_239.out _; (with_reducible repeat (first | refine blk_drewN ?_ _ | refine blk_drew ?_ | refine blk_alloc ?_ _)); exact BK226.out) Try.underlying50 rfl (by kernel_rfl)) rfl ?_
          exact ⟨_, _, by first | rfl | (simp [errW_none, errW_some] <;> rfl) | (simp only [← hji3]; first | rfl | (simp [errW_none, errW_some] <;> rfl)) | (simp [*, errW_none, errW_some] <;> rfl), by (with_reducible repeat (first | apply Kd.R_alloc | apply Kd.R_drewN | apply Kd.R_drew)); exact Kd.R_mono (Kd.R_far (p := ⟨gb226, 1, none⟩) (Kd.R_far (p := ⟨gb226, 0, none⟩) (Kd.R_far (p := ⟨gb239, 1, none⟩) (Kd.R_far (p := ⟨gb239, 0, none⟩) (Kd.R_types (Kd.R_types HO_232001.out BK239.out (by decide)) BK226.out (by decide)) (fun _ hk => hk.1.2) (.int .i64 t234)) (fun _ hk => hk.1.2) (.slice Ao38 t235.length co38)) (fun _ hk => hk.2) (.int .i64 x232000_1)) (fun _ hk => hk.2) (.slice Ao32 x232001_1.length co32)) (fun _ hk => trivial), by first | exact Kd.R_nil _ _ _ _ _ | exact Kd.N_nil _ _ _ _ _ | exact Kd.V_nil _ _ _ _ _ | exact Kd.Q_nil _ _ _ _ _ | exact Kd.S_nil _ _ _ _ _, by repeat (first | (with_reducible first | exact HB.out | apply below_alloc | apply pw_below_drewN | apply below_drew1 | refine below_set ?_ GE226.out | refine below_set ?_ GE231.out | refine below_set ?_ GE239.out) | exact HB.out)⟩
        ·rw [if_neg c18] at H
         have c18b0 : decide (0 ≤ t240) = false := decide_eq_false c18
         clear c18
         by_cases c42 : t238 = 0
         ·rw [if_pos c42] at H
          have c42b0 : (t238 == 0) = true := beq_iff_eq.mpr c42
          have c42b1 : (t238 != 0) = false := bne_eq_false_iff_eq.mpr c42
          clear c42
          replace H := Option.bind_eq_some_iff.mp H
          obtain ⟨t241, A430, H⟩ := H
          replace H : (deadboltlaw08_made.l0 k1 t241 (l0.take ((ji3) : Int).toNat) ((l0.take ((ji3) : Int).toNat).length : Int) (wrap64 (x18_1 + 1)) t234 t235) = some (r1, r2, r3, r4) := H
          have A43 := Aside0.mk A430
          clear A430
          have H' := Aside0.mk H
          clear H
          have p233 : 0 ≤ (x18_1 : Int) := of_decide_eq_true (by first | (with_reducible assumption) | assumption)
          have q233 : x18_1 < ((l0.take ((ji3) : Int).toNat).length : Int) := of_decide_eq_true (by first | (with_reducible assumption) | assumption)
          obtain ⟨ad233, e233, hx233_0⟩ := Kd.at_int HR232.out x18_1 p233 q233
          cases e233
          replace hx233_0 := (HB.out.cell (World.block_lt_of_cell? w _ hx233_0)).trans hx233_0
          replace p233 := eq_true p233
          replace q233 := eq_true q233
          have hnb44 := NB231_226.out
          have hnc44 := NB226_231.out
          have hcz45_0 : wr.cell? ⟨gb231, 0, none⟩ = some (.int .i64 x232000_1) := (blk_cell BK231.out 0).trans rfl
          have hcz45_1 : wr.cell? ⟨gb231, 1, none⟩ = some (u232001) := (blk_cell BK231.out 1).trans rfl
          have hfz45_0 := blk_frozen BK231.out 0
          have hfz45_1 := blk_frozen BK231.out 1
          obtain ⟨Ao46, co46, eo46⟩ := Kd.R_slice HO_232001.out
          subst eo46
          try go_wp2_with (first | ((with_reducible refine gate_callee (f := 45) rfl ?_); refine goesL_ (some 29) rfl rfl Try.func45 (by kernel_rfl) rfl #[.agg #[.int .i64 x232000_1, .slice Ao46 x232001_1.length co46], .int .i64 (wrap64 (Int.tmod (IntKind.u64.wrap (rd (l0.take ((ji3) : Int).toNat) x18_1)) 4294967296))] rfl (by (try simp only [List.map_toArray, List.map_cons, List.map_nil]); first | done | (simp only [hji3]; rfl) | rfl | (simp only [List.length_drop, List.length_take]; rfl)) ?_; (with_reducible refine (treap_Put.calls x232000_1 _ _ x232001_1 (wrap64 (Int.tmod (IntKind.u64.wrap (rd (l0.take ((ji3) : Int).toNat) x18_1)) 4294967296)) t234 t235 t238 _ ?side1 ?side2 A16.out).mono ?_); (case side1 => repeat (first | exact (Kd.R_reads' HO_232001.out).2.2 | (with_reducible refine Kd.C_alloc ?_ _) | (with_reducible refine Kd.C_drewN ?_ _) | (with_reducible refine Kd.C_drew ?_))); (case side2 => exact (Kd.R_reads' HO_232001.out).2.1); rintro e w47 ⟨v236, rfl, ho0, hb⟩; refine ⟨_, rfl, ?_⟩; have n0_ := Aside0.mk (Kd.R_below (by (with_reducible repeat (first | apply Kd.R_alloc | apply Kd.R_drewN | apply Kd.R_drew)); exact HO_6.out) hb); have n1_ := Aside0.mk (Kd.R_elder' (by (with_reducible repeat (first | apply Kd.R_alloc | apply Kd.R_drewN | apply Kd.R_drew)); exact HO_232001.out) (Kd.R_base ho0) hb); have n2_ := Aside0.mk (Kd.R_lower (Kd.R_new' ho0 (Kd.R_lt (by (with_reducible repeat (first | apply Kd.R_alloc | apply Kd.R_drewN | apply Kd.R_drew)); exact HO_232001.out))) (below_size (by repeat (first | (with_reducible first | exact HB.out | apply below_alloc | apply pw_below_drewN | apply below_drew1 | refine below_set ?_ GE226.out | refine below_set ?_ GE231.out) | exact HB.out)))); have n3_ := Aside0.mk (blk_below (g := gb226) (o := .cells #[.int .i64 x227000_1, .slice none 0 0] 50 (0, 0)) (by (with_reducible repeat (first | refine blk_drewN ?_ _ | refine blk_drew ?_ | refine blk_alloc ?_ _)); exact BK226.out) hb); have n4_ := Aside0.mk (blk_below (g := gb231) (o := .cells #[.int .i64 x232000_1, .slice Ao46 x232001_1.length co46] 50 (0, 0)) (by (with_reducible repeat (first | refine blk_drewN ?_ _ | refine blk_drew ?_ | refine blk_alloc ?_ _)); exact BK231.out) hb); have n5_ := Aside0.mk (below_step (by repeat (first | (with_reducible first | exact HB.out | apply below_alloc | apply pw_below_drewN | apply below_drew1 | refine below_set ?_ GE226.out | refine below_set ?_ GE231.out) | exact HB.out)) hb); clear HO_6; clear HO_232001; clear BK226; clear BK231; clear HB; have HO_6 := n0_; have HO_232001 := n1_; have HO237 := n2_; have BK226 := n3_; have BK231 := n4_; have HB := n5_; clear n0_ n1_ n2_ n3_ n4_ n5_; (try clear hb); (try clear hb2); (try clear hk); (try clear hi); (try clear ho0)) | ((with_reducible refine gate_dst (N := 9) rfl ?_); refine box_event ?hg (N := 9) ?hd (cs := #[.int .i64 0, .slice none 0 0]) (t := 50) ?hr ?_; (case hd => rfl); (case hg => rfl); (case hr => first | (go_simp; done) | (go_simp; rfl)); intro gb239 hg w48 hbox hb; have n0_ := Aside0.mk (Kd.R_below (by (with_reducible repeat (first | apply Kd.R_alloc | apply Kd.R_drewN | apply Kd.R_drew)); exact HO_6.out) hb); have n1_ := Aside0.mk (Kd.R_below (by (with_reducible repeat (first | apply Kd.R_alloc | apply Kd.R_drewN | apply Kd.R_drew)); exact HO_232001.out) hb); have n2_ := Aside0.mk (Kd.R_below (by (with_reducible repeat (first | apply Kd.R_alloc | apply Kd.R_drewN | apply Kd.R_drew)); exact HO237.out) hb); have n3_ := Aside0.mk (blk_below (g := gb226) (o := .cells #[.int .i64 x227000_1, .slice none 0 0] 50 (0, 0)) (by (with_reducible repeat (first | refine blk_drewN ?_ _ | refine blk_drew ?_ | refine blk_alloc ?_ _)); exact BK226.out) hb); have n4_ := Aside0.mk (blk_below (g := gb231) (o := .cells #[.int .i64 x232000_1, .slice Ao46 x232001_1.length co46] 50 (0, 0)) (by (with_reducible repeat (first | refine blk_drewN ?_ _ | refine blk_drew ?_ | refine blk_alloc ?_ _)); exact BK231.out) hb); have n5_ := Aside0.mk (below_step (by repeat (first | (with_reducible first | exact HB.out | apply below_alloc | apply pw_below_drewN | apply below_drew1 | refine below_set ?_ GE226.out | refine below_set ?_ GE231.out) | exact HB.out)) hb); have n6_ := Aside0.mk (hbox); have n7_ := Aside0.mk ((by rw [hg]; exact (below_size (by repeat (first | (with_reducible first | exact HB.out | apply below_alloc | apply pw_below_drewN | apply below_drew1 | refine below_set ?_ GE226.out | refine below_set ?_ GE231.out) | exact HB.out))) : w.heap.size ≤ gb239)); have n8_ := Aside0.mk ((by rw [hg]; exact (below_size (by repeat (first | (with_reducible first | exact HB.out | apply below_alloc | apply pw_below_drewN | apply below_drew1 | refine below_set ?_ GE226.out | refine below_set ?_ GE231.out) | exact HB.out))) : w.heap.size ≤ gb239)); have n9_ := Aside0.mk ((by rw [hg]; exact Nat.ne_of_lt (blk_lt (g := gb226) (o := .cells #[.int .i64 x227000_1, .slice none 0 0] 50 (0, 0)) (by (with_reducible repeat (first | refine blk_drewN ?_ _ | refine blk_drew ?_ | refine blk_alloc ?_ _)); exact BK226.out)) : gb226 ≠ gb239)); have n10_ := Aside0.mk ((by rw [hg]; exact Nat.ne_of_gt (blk_lt (g := gb226) (o := .cells #[.int .i64 x227000_1, .slice none 0 0] 50 (0, 0)) (by (with_reducible repeat (first | refine blk_drewN ?_ _ | refine blk_drew ?_ | refine blk_alloc ?_ _)); exact BK226.out)) : gb239 ≠ gb226)); have n11_ := Aside0.mk ((by rw [hg]; exact Nat.ne_of_lt (blk_lt (g := gb231) (o := .cells #[.int .i64 x232000_1, .slice Ao46 x232001_1.length co46] 50 (0, 0)) (by (with_reducible repeat (first | refine blk_drewN ?_ _ | refine blk_drew ?_ | refine blk_alloc ?_ _)); exact BK231.out)) : gb231 ≠ gb239)); have n12_ := Aside0.mk ((by rw [hg]; exact Nat.ne_of_gt (blk_lt (g := gb231) (o := .cells #[.int .i64 x232000_1, .slice Ao46 x232001_1.length co46] 50 (0, 0)) (by (with_reducible repeat (first | refine blk_drewN ?_ _ | refine blk_drew ?_ | refine blk_alloc ?_ _)); exact BK231.out)) : gb239 ≠ gb231)); clear HO_6; clear HO_232001; clear HO237; clear BK226; clear BK231; clear HB; have HO_6 := n0_; have HO_232001 := n1_; have HO237 := n2_; have BK226 := n3_; have BK231 := n4_; have HB := n5_; have BK239 := n6_; have GW239 := n7_; have GE239 := n8_; have NB226_239 := n9_; have NB239_226 := n10_; have NB231_239 := n11_; have NB239_231 := n12_; clear n0_ n1_ n2_ n3_ n4_ n5_ n6_ n7_ n8_ n9_ n10_ n11_ n12_; clear hb hbox hg; have hnb49 := NB239_226.out; have hnc49 := NB226_239.out; have hnb50 := NB239_231.out; have hnc50 := NB231_239.out; have hcz51_0 : w48.cell? ⟨gb239, 0, none⟩ = some (.int .i64 0) := (blk_cell BK239.out 0).trans rfl; have hcz51_1 : w48.cell? ⟨gb239, 1, none⟩ = some (.slice none 0 0) := (blk_cell BK239.out 1).trans rfl; have hfz51_0 := blk_frozen BK239.out 0; have hfz51_1 := blk_frozen BK239.out 1; obtain ⟨Ao52, co52, eo52⟩ := Kd.R_slice HO237.out; subst eo52; obtain ⟨Ao53, co53, eo53⟩ := Kd.R_slice HO_6.out; subst eo53) | ((with_reducible refine gate_callee (f := 43) rfl ?_); refine goesL_ (some 34) rfl rfl Try.func43 (by kernel_rfl) rfl #[.slice Ao53 x6_1.length co53, .int .i64 (wrap64 (Int.tmod (IntKind.u64.wrap (rd (l0.take ((ji3) : Int).toNat) x18_1)) 4294967296))] rfl (by (try simp only [List.map_toArray, List.map_cons, List.map_nil]); first | done | (simp only [hji3]; rfl) | rfl | (simp only [List.length_drop, List.length_take]; rfl)) ?_; (with_reducible refine (deadboltref08_Place.calls k1 _ _ x6_1 (wrap64 (Int.tmod (IntKind.u64.wrap (rd (l0.take ((ji3) : Int).toNat) x18_1)) 4294967296)) t240 _ ?side1 ?side2 A17.out).mono ?_); (case side1 => refine (Kd.R_reads' (e := 3) (base := w.heap.size) (ok := fun k_ => True) (n := x6_1.length) (c := co53) ?_).2.2; exact (by (with_reducible repeat (first | apply Kd.R_alloc | apply Kd.R_drewN | apply Kd.R_drew)); exact (Kd.R_mono (Kd.R_far (p := ⟨gb239, 1, none⟩) (Kd.R_far (p := ⟨gb239, 0, none⟩) (Kd.R_types HO_6.out BK239.out (by decide)) (fun _ hk => hk.2) (.int .i64 t234)) (fun _ hk => hk.2) (.slice Ao52 t235.length co52)) (fun _ h_ => h_.1)))); (case side2 => exact (Kd.R_reads' HO_6.out).2.1); rintro e w' ⟨rfl, ⟨nd, rfl⟩⟩; refine ⟨_, rfl, ?_⟩))
          have n0_ : Aside0 (Kd.R (Kd.int .i64) 3 ((w48.setCell ⟨gb239, 0, none⟩ (.int .i64 t234)).setCell ⟨gb239, 1, none⟩ (.slice Ao52 t235.length co52)) w.heap.size (fun _ => True) (.slice Ao53 x6_1.length co53) x6_1) := ⟨by (with_reducible repeat (first | apply Kd.R_alloc | apply Kd.R_drewN | apply Kd.R_drew)); exact Kd.R_mono (Kd.R_far (p := ⟨gb239, 1, none⟩) (Kd.R_far (p := ⟨gb239, 0, none⟩) (Kd.R_types HO_6.out BK239.out (by decide)) (fun _ hk => hk.2) (.int .i64 t234)) (fun _ hk => hk.2) (.slice Ao52 t235.length co52)) (fun _ hk => trivial)⟩
          have n1_ : Aside0 (Kd.R k87 87 ((w48.setCell ⟨gb239, 0, none⟩ (.int .i64 t234)).setCell ⟨gb239, 1, none⟩ (.slice Ao52 t235.length co52)) w.heap.size (fun k_ => some k_ ≠ (.slice Ao52 t235.length co52 : Value).ownBlock) (.slice Ao46 x232001_1.length co46) x232001_1) := ⟨by (with_reducible repeat (first | apply Kd.R_alloc | apply Kd.R_drewN | apply Kd.R_drew)); exact Kd.R_mono (Kd.R_far (p := ⟨gb239, 1, none⟩) (Kd.R_far (p := ⟨gb239, 0, none⟩) (Kd.R_types HO_232001.out BK239.out (by decide)) (fun _ hk => hk.2) (.int .i64 t234)) (fun _ hk => hk.2) (.slice Ao52 t235.length co52)) (fun _ hk => hk.1.2)⟩
          have n2_ : Aside0 (Kd.R k87 87 ((w48.setCell ⟨gb239, 0, none⟩ (.int .i64 t234)).setCell ⟨gb239, 1, none⟩ (.slice Ao52 t235.length co52)) w.heap.size (fun k_ => some k_ ≠ (.slice Ao46 x232001_1.length co46 : Value).ownBlock) (.slice Ao52 t235.length co52) t235) := ⟨by (with_reducible repeat (first | apply Kd.R_alloc | apply Kd.R_drewN | apply Kd.R_drew)); exact Kd.R_mono (Kd.R_far (p := ⟨gb239, 1, none⟩) (Kd.R_far (p := ⟨gb239, 0, none⟩) (Kd.R_types HO237.out BK239.out (by decide)) (fun _ hk => hk.2) (.int .i64 t234)) (fun _ hk => hk.2) (.slice Ao52 t235.length co52)) (fun _ hk => hk.1.2)⟩
          have n3_ : Aside0 (((w48.setCell ⟨gb239, 0, none⟩ (.int .i64 t234)).setCell ⟨gb239, 1, none⟩ (.slice Ao52 t235.length co52)).heap[gb226]? = some (.cells #[.int .i64 x227000_1, .slice none 0 0] 50 (0, 0))) := ⟨by (with_reducible repeat (first | refine blk_drewN ?_ _ | refine blk_drew ?_ | refine blk_alloc ?_ _)); refine blk_far ?_ NB226_239.out _; (with_reducible repeat (first | refine blk_drewN ?_ _ | refine blk_drew ?_ | refine blk_alloc ?_ _)); refine blk_far ?_ NB226_239.out _; (with_reducible repeat (first | refine blk_drewN ?_ _ | refine blk_drew ?_ | refine blk_alloc ?_ _)); exact BK226.out⟩
          have n4_ : Aside0 (((w48.setCell ⟨gb239, 0, none⟩ (.int .i64 t234)).setCell ⟨gb239, 1, none⟩ (.slice Ao52 t235.length co52)).heap[gb231]? = some (.cells #[.int .i64 x232000_1, .slice Ao46 x232001_1.length co46] 50 (0, 0))) := ⟨by (with_reducible repeat (first | refine blk_drewN ?_ _ | refine blk_drew ?_ | refine blk_alloc ?_ _)); refine blk_far ?_ NB231_239.out _; (with_reducible repeat (first | refine blk_drewN ?_ _ | refine blk_drew ?_ | refine blk_alloc ?_ _)); refine blk_far ?_ NB231_239.out _; (with_reducible repeat (first | refine blk_drewN ?_ _ | refine blk_drew ?_ | refine blk_alloc ?_ _)); exact BK231.out⟩
          have n5_ : Aside0 (((w48.setCell ⟨gb239, 0, none⟩ (.int .i64 t234)).setCell ⟨gb239, 1, none⟩ (.slice Ao52 t235.length co52)).heap[gb239]? = some (.cells #[.int .i64 t234, .slice Ao52 t235.length co52] 50 (0, 0))) := ⟨by (with_reducible repeat (first | refine blk_drewN ?_ _ | refine blk_drew ?_ | refine blk_alloc ?_ _)); refine blk_put (cs := #[.int .i64 t234, .slice none 0 0]) ?_ 1 _ rfl; (with_reducible repeat (first | refine blk_drewN ?_ _ | refine blk_drew ?_ | refine blk_alloc ?_ _)); refine blk_put (cs := #[.int .i64 0, .slice none 0 0]) ?_ 0 _ rfl; (with_reducible repeat (first | refine blk_drewN ?_ _ | refine blk_drew ?_ | refine blk_alloc ?_ _)); exact BK239.out⟩
          have n6_ : Aside0 (Below w.heap.size w ((w48.setCell ⟨gb239, 0, none⟩ (.int .i64 t234)).setCell ⟨gb239, 1, none⟩ (.slice Ao52 t235.length co52))) := ⟨by repeat (first | (with_reducible first | exact HB.out | apply below_alloc | apply pw_below_drewN | apply below_drew1 | refine below_set ?_ GE226.out | refine below_set ?_ GE231.out | refine below_set ?_ GE239.out) | exact HB.out)⟩
          (try clear HO_6)
          (try clear HO_232001)
          (try clear HO237)
          (try clear BK226)
          (try clear BK231)
          (try clear BK239)
          (try clear HB)
          generalize ((w48.setCell ⟨gb239, 0, none⟩ (.int .i64 t234)).setCell ⟨gb239, 1, none⟩ (.slice Ao52 t235.length co52)) = w54 at n0_ n1_ n2_ n3_ n4_ n5_ n6_ ⊢
          have HO_6 := n0_
          have HO_232001 := n1_
          have HO237 := n2_
          have BK226 := n3_
          have BK231 := n4_
          have BK239 := n5_
          have HB := n6_
          clear n0_ n1_ n2_ n3_ n4_ n5_ n6_
          (try (rw [drewN_self w54]; generalize hq_ : World.drewN w54 _ = w54; have n0_ : Aside0 (Kd.R k87 87 w54 w.heap.size (fun k_ => some k_ ≠ (.slice Ao46 x232001_1.length co46 : Value).ownBlock) (.slice Ao52 t235.length co52) t235) := ⟨by rw [← hq_]; exact (by (with_reducible repeat (first | apply Kd.R_alloc | apply Kd.R_drewN | apply Kd.R_drew)); exact HO237.out)⟩; have n1_ : Aside0 (Kd.R k87 87 w54 w.heap.size (fun k_ => some k_ ≠ (.slice Ao52 t235.length co52 : Value).ownBlock) (.slice Ao46 x232001_1.length co46) x232001_1) := ⟨by rw [← hq_]; exact (by (with_reducible repeat (first | apply Kd.R_alloc | apply Kd.R_drewN | apply Kd.R_drew)); exact HO_232001.out)⟩; have n2_ : Aside0 (Kd.R (Kd.int .i64) 3 w54 w.heap.size (fun _ => True) (.slice Ao53 x6_1.length co53) x6_1) := ⟨by rw [← hq_]; exact (by (with_reducible repeat (first | apply Kd.R_alloc | apply Kd.R_drewN | apply Kd.R_drew)); exact HO_6.out)⟩; have n3_ : Aside0 (w54.heap[gb226]? = some (.cells #[.int .i64 x227000_1, .slice none 0 0] 50 (0, 0))) := ⟨by rw [← hq_]; exact (by (with_reducible repeat (first | refine blk_drewN ?_ _ | refine blk_drew ?_ | refine blk_alloc ?_ _)); exact BK226.out)⟩; have n4_ : Aside0 (w54.heap[gb231]? = some (.cells #[.int .i64 x232000_1, .slice Ao46 x232001_1.length co46] 50 (0, 0))) := ⟨by rw [← hq_]; exact (by (with_reducible repeat (first | refine blk_drewN ?_ _ | refine blk_drew ?_ | refine blk_alloc ?_ _)); exact BK231.out)⟩; have n5_ : Aside0 (w54.heap[gb239]? = some (.cells #[.int .i64 t234, .slice Ao52 t235.length co52] 50 (0, 0))) := ⟨by rw [← hq_]; exact (by (with_reducible repeat (first | refine blk_drewN ?_ _ | refine blk_drew ?_ | refine blk_alloc ?_ _)); exact BK239.out)⟩; have n6_ : Aside0 (Below w.heap.size w w54) := ⟨by rw [← hq_]; exact (by repeat (first | (with_reducible first | exact HB.out | apply below_alloc | apply pw_below_drewN | apply below_drew1 | refine below_set ?_ GE226.out | refine below_set ?_ GE231.out | refine below_set ?_ GE239.out) | exact HB.out))⟩; clear HO237 HO_232001 HO_6 BK226 BK231 BK239 HB hq_; have HO237 := n0_; have HO_232001 := n1_; have HO_6 := n2_; have BK226 := n3_; have BK231 := n4_; have BK239 := n5_; have HB := n6_; clear n0_ n1_ n2_ n3_ n4_ n5_ n6_))
          have n0_ := Aside0.mk (Kd.R_drew HO_6.out)
          have n1_ := Aside0.mk (Kd.R_drew HO_232001.out)
          have n2_ := Aside0.mk (Kd.R_drew HO237.out)
          have n3_ := Aside0.mk (blk_drew BK226.out)
          have n4_ := Aside0.mk (blk_drew BK231.out)
          have n5_ := Aside0.mk (blk_drew BK239.out)
          have n6_ := Aside0.mk (below_drew1 HB.out)
          clear HO_6
          clear HO_232001
          clear HO237
          clear BK226
          clear BK231
          clear BK239
          clear HB
          have HO_6 := n0_
          have HO_232001 := n1_
          have HO237 := n2_
          have BK226 := n3_
          have BK231 := n4_
          have BK239 := n5_
          have HB := n6_
          clear n0_ n1_ n2_ n3_ n4_ n5_ n6_
          refine start_ (n := 6) (S := fun w' => w'.cell? ⟨gb239, 0, none⟩ = some (.int .i64 t234) ∧ w'.cell? ⟨gb239, 1, none⟩ = some (.slice Ao52 t235.length co52)) (ds := []) #[false, false, false, false, false, false] (by kernel_rfl) rfl rfl ⟨(blk_cell BK239.out 0).trans rfl, (blk_cell BK239.out 1).trans rfl⟩ (fun hHeld => ?_)
          generalize w54.drew = w55 at HO_6 HO_232001 HO237 BK226 BK231 BK239 HB hHeld ⊢
          refine pure_ (i := 1) (N := some 43) (v := ?_) (a' := ?_) #[false, true, false, false, false, false] rfl rfl (by kernel_rfl) (fun _ _ _ h => h) (Or.inl ⟨by rfl, ?_⟩) ?_ ?_
          rotate_left
          ·intro w'
           go_simp
           with_reducible rfl
          rotate_left
          ·simp only [Act.put, List.setIfInBounds_toArray, List.set_cons_zero, List.set_cons_succ, i64_w, i32_w]
           rfl
          refine pure_ (i := 2) (N := some 44) (v := ?_) (a' := ?_) #[false, true, true, false, false, false] rfl rfl (by kernel_rfl) (fun _ _ _ h => h) (Or.inl ⟨by rfl, ?_⟩) ?_ ?_
          rotate_left
          ·intro w'
           go_simp
           with_reducible rfl
          rotate_left
          ·simp only [Act.put, List.setIfInBounds_toArray, List.set_cons_zero, List.set_cons_succ, i64_w, i32_w]
           rfl
          refine take_ (i := 0) (N := some 42) (v := ?_) (a' := ?_) #[true, true, true, false, false, false] rfl rfl (by kernel_rfl) (fun _ _ _ h => h) (Or.inl ⟨by rfl, ?_⟩) hHeld ?_ ?_
          rotate_left
          ·rintro w' ⟨s0, s1⟩
           go_simp
           with_reducible rfl
          rotate_left
          ·simp only [Act.put, List.setIfInBounds_toArray, List.set_cons_zero, List.set_cons_succ, i64_w, i32_w]
           rfl
          refine one_ (i := 3) (N := some 45) #[true, true, true, true, false, false] rfl rfl (by kernel_rfl) (by decide) (fun K hK => ?_)
          refine goes_ Try.func49 (by kernel_rfl) rfl #[.slice Ao53 x6_1.length co53, .int .i64 (wrap64 (Int.tmod (IntKind.u64.wrap (rd (l0.take ((ji3) : Int).toNat) x18_1)) 4294967296))] (by rfl) rfl rfl (by (try simp only [List.map_toArray, List.map_cons, List.map_nil]); first | done | (simp only [hji3]; rfl) | rfl | (simp only [List.length_drop, List.length_take]; rfl)) ?_
          with_reducible refine (deadboltref08_With.calls k1 _ _ x6_1 (wrap64 (Int.tmod (IntKind.u64.wrap (rd (l0.take ((ji3) : Int).toNat) x18_1)) 4294967296)) t241 _ ?side1 ?side2 A43.out).mono ?_
          (case side1 => repeat (first | exact (Kd.R_reads' HO_6.out).2.2 | (with_reducible refine Kd.C_alloc ?_ _) | (with_reducible refine Kd.C_drewN ?_ _) | (with_reducible refine Kd.C_drew ?_)))
          (case side2 => exact (Kd.R_reads' HO_6.out).2.1)
          rintro e w56 ⟨v242, rfl, ho0, hb⟩
          refine ⟨_, rfl, ?_⟩
          have n0_ := Aside0.mk (Kd.R_elder' (by (with_reducible repeat (first | apply Kd.R_alloc | apply Kd.R_drewN | apply Kd.R_drew)); exact HO_6.out) (Kd.R_base ho0) hb)
          have n1_ := Aside0.mk (Kd.R_below (by (with_reducible repeat (first | apply Kd.R_alloc | apply Kd.R_drewN | apply Kd.R_drew)); exact HO_232001.out) hb)
          have n2_ := Aside0.mk (Kd.R_below (by (with_reducible repeat (first | apply Kd.R_alloc | apply Kd.R_drewN | apply Kd.R_drew)); exact HO237.out) hb)
          have n3_ := Aside0.mk (Kd.R_lower (Kd.R_new' ho0 (Kd.R_lt (by (with_reducible repeat (first | apply Kd.R_alloc | apply Kd.R_drewN | apply Kd.R_drew)); exact HO_6.out))) (below_size (by repeat (first | (with_reducible first | exact HB.out | apply below_alloc | apply pw_below_drewN | apply below_drew1 | refine below_set ?_ GE226.out | refine below_set ?_ GE231.out | refine below_set ?_ GE239.out) | exact HB.out))))
          have n4_ := Aside0.mk (blk_below (g := gb226) (o := .cells #[.int .i64 x227000_1, .slice none 0 0] 50 (0, 0)) (by (with_reducible repeat (first | refine blk_drewN ?_ _ | refine blk_drew ?_ | refine blk_alloc ?_ _)); exact BK226.out) hb)
          have n5_ := Aside0.mk (blk_below (g := gb231) (o := .cells #[.int .i64 x232000_1, .slice Ao46 x232001_1.length co46] 50 (0, 0)) (by (with_reducible repeat (first | refine blk_drewN ?_ _ | refine blk_drew ?_ | refine blk_alloc ?_ _)); exact BK231.out) hb)
          have n6_ := Aside0.mk (blk_below (g := gb239) (o := .cells #[.int .i64 t234, .slice Ao52 t235.length co52] 50 (0, 0)) (by (with_reducible repeat (first | refine blk_drewN ?_ _ | refine blk_drew ?_ | refine blk_alloc ?_ _)); exact BK239.out) hb)
          have n7_ := Aside0.mk (below_step (by repeat (first | (with_reducible first | exact HB.out | apply below_alloc | apply pw_below_drewN | apply below_drew1 | refine below_set ?_ GE226.out | refine below_set ?_ GE231.out | refine below_set ?_ GE239.out) | exact HB.out)) hb)
          clear HO_6
          clear HO_232001
          clear HO237
          clear BK226
          clear BK231
          clear BK239
          clear HB
          have HO_6 := n0_
          have HO_232001 := n1_
          have HO237 := n2_
          have HO243 := n3_
          have BK226 := n4_
          have BK231 := n5_
          have BK239 := n6_
          have HB := n7_
          clear n0_ n1_ n2_ n3_ n4_ n5_ n6_ n7_
          (try clear hb)
          (try clear hb2)
          (try clear hk)
          (try clear hi)
          (try clear ho0)
          refine hK.out _ _ ⟨(blk_cell BK239.out 0).trans rfl, (blk_cell BK239.out 1).trans rfl⟩ (fun hHeld => ?_)
          clear hK K
          refine norm_ (a' := ?_) ?_ ?_
          rotate_left
          ·show Act.put _ (some 45) _ = _
           simp only [Act.put, List.setIfInBounds_toArray, List.set_cons_zero, List.set_cons_succ, i64_w, i32_w]
           rfl
          refine one_ (i := 4) (N := none) #[true, true, true, true, true, false] rfl rfl (by kernel_rfl) (by decide) (fun K hK => ?_)
          have hs57 : w56.cell? ⟨gb231, 0, none⟩ = some (.int .i64 x232000_1) := (blk_cell BK231.out 0).trans rfl
          have hfs57 := blk_frozen BK231.out 0
          have hns57_0 := NB226_231.out
          have hns57_2 := NB239_231.out
          have hms57_0 := NB231_226.out
          have hms57_2 := NB231_239.out
          have hs58 : w56.cell? ⟨gb231, 1, none⟩ = some (.slice Ao46 x232001_1.length co46) := (blk_cell BK231.out 1).trans rfl
          have hfs58 := blk_frozen BK231.out 1
          have hns58_0 := NB226_231.out
          have hns58_2 := NB239_231.out
          have hms58_0 := NB231_226.out
          have hms58_2 := NB231_239.out
          refine skip_ (w1 := ?_) (by rfl) rfl ?_ ?_
          rotate_left
          ·go_simp
           rfl
          refine hK.out _ _ ⟨((cell_far (p := ⟨gb231, _, none⟩) NB239_231.out _).trans (((cell_far (p := ⟨gb231, _, none⟩) NB239_231.out _).trans (hHeld.1)))), ((cell_far (p := ⟨gb231, _, none⟩) NB239_231.out _).trans (((cell_far (p := ⟨gb231, _, none⟩) NB239_231.out _).trans (hHeld.2))))⟩ (fun hHeld => ?_)
          clear hK K
          refine pure_ (i := 5) (N := some 6) (v := ?_) (a' := ?_) #[true, true, true, true, true, true] rfl rfl (by kernel_rfl) (fun _ _ _ h => h) (Or.inl ⟨by rfl, ?_⟩) ?_ ?_
          rotate_left
          ·intro w'
           go_simp
           with_reducible rfl
          rotate_left
          ·simp only [Act.put, List.setIfInBounds_toArray, List.set_cons_zero, List.set_cons_succ, i64_w, i32_w]
           rfl
          refine done_ (by kernel_rfl) ?_
          try go_wp2
          go_roundg k1
          case measure => have := HK1.out; omega
          case rel => exact ⟨(t241), (wrap64 (x18_1 + 1)), (x227000_1), (t234), (t235), (.slice Ao52 t235.length co52), (by first | rfl | (simp; done) | (simp [*]; done)), H', ⟨by have := HK1.out; omega⟩, ⟨by (with_reducible repeat (first | apply Kd.R_alloc | apply Kd.R_drewN | apply Kd.R_drew)); exact Kd.R_mono (Kd.R_far (p := ⟨gb231, 1, none⟩) (Kd.R_far (p := ⟨gb231, 0, none⟩) (Kd.R_types HO243.out BK231.out (by decide)) (fun _ hk => hk.2) (.int .i64 t234)) (fun _ hk => hk.2) (.slice Ao52 t235.length co52)) (fun _ hk => trivial)⟩, ⟨by (with_reducible repeat (first | apply Kd.R_alloc | apply Kd.R_drewN | apply Kd.R_drew)); exact Kd.R_mono (Kd.R_far (p := ⟨gb231, 1, none⟩) (Kd.R_far (p := ⟨gb231, 0, none⟩) (Kd.R_types HO237.out BK231.out (by decide)) (fun _ hk => hk.2) (.int .i64 t234)) (fun _ hk => hk.2) (.slice Ao52 t235.length co52)) (fun _ hk => trivial)⟩, ⟨by (with_reducible repeat (first | refine blk_drewN ?_ _ | refine blk_drew ?_ | refine blk_alloc ?_ _)); refine blk_far ?_ NB226_231.out _; (with_reducible repeat (first | refine blk_drewN ?_ _ | refine blk_drew ?_ | refine blk_alloc ?_ _)); refine blk_far ?_ NB226_231.out _; (with_reducible repeat (first | refine blk_drewN ?_ _ | refine blk_drew ?_ | refine blk_alloc ?_ _)); exact BK226.out⟩, ⟨by (with_reducible repeat (first | refine blk_drewN ?_ _ | refine blk_drew ?_ | refine blk_alloc ?_ _)); refine blk_put (cs := #[.int .i64 t234, .slice Ao46 x232001_1.length co46]) ?_ 1 _ rfl; (with_reducible repeat (first | refine blk_drewN ?_ _ | refine blk_drew ?_ | refine blk_alloc ?_ _)); refine blk_put (cs := #[.int .i64 x232000_1, .slice Ao46 x232001_1.length co46]) ?_ 0 _ rfl; (with_reducible repeat (first | refine blk_drewN ?_ _ | refine blk_drew ?_ | refine blk_alloc ?_ _)); exact BK231.out⟩, ⟨by repeat (first | (with_reducible first | exact HB.out | apply below_alloc | apply pw_below_drewN | apply below_drew1 | refine below_set ?_ GE226.out | refine below_set ?_ GE231.out | refine below_set ?_ GE239.out) | exact HB.out)⟩⟩
         ·rw [if_neg c42] at H
          have c42b0 : (t238 == 0) = false := beq_eq_false_iff_ne.mpr c42
          have c42b1 : (t238 != 0) = true := bne_iff_ne.mpr c42
          simp only [Option.some.injEq, Prod.mk.injEq] at H
          obtain ⟨rfl, rfl, rfl, rfl⟩ := H
          have p233 : 0 ≤ (x18_1 : Int) := of_decide_eq_true (by first | (with_reducible assumption) | assumption)
          have q233 : x18_1 < ((l0.take ((ji3) : Int).toNat).length : Int) := of_decide_eq_true (by first | (with_reducible assumption) | assumption)
          obtain ⟨ad233, e233, hx233_0⟩ := Kd.at_int HR232.out x18_1 p233 q233
          cases e233
          replace hx233_0 := (HB.out.cell (World.block_lt_of_cell? w _ hx233_0)).trans hx233_0
          replace p233 := eq_true p233
          replace q233 := eq_true q233
          have hnb59 := NB231_226.out
          have hnc59 := NB226_231.out
          have hcz60_0 : wr.cell? ⟨gb231, 0, none⟩ = some (.int .i64 x232000_1) := (blk_cell BK231.out 0).trans rfl
          have hcz60_1 : wr.cell? ⟨gb231, 1, none⟩ = some (u232001) := (blk_cell BK231.out 1).trans rfl
          have hfz60_0 := blk_frozen BK231.out 0
          have hfz60_1 := blk_frozen BK231.out 1
          obtain ⟨Ao61, co61, eo61⟩ := Kd.R_slice HO_232001.out
          subst eo61
          go_wp2_with (first | ((with_reducible refine gate_callee (f := 45) rfl ?_); refine goesL_ (some 29) rfl rfl Try.func45 (by kernel_rfl) rfl #[.agg #[.int .i64 x232000_1, .slice Ao61 x232001_1.length co61], .int .i64 (wrap64 (Int.tmod (IntKind.u64.wrap (rd (l0.take ((ji3) : Int).toNat) x18_1)) 4294967296))] rfl (by (try simp only [List.map_toArray, List.map_cons, List.map_nil]); first | done | (simp only [hji3]; rfl) | rfl | (simp only [List.length_drop, List.length_take]; rfl)) ?_; (with_reducible refine (treap_Put.calls x232000_1 _ _ x232001_1 (wrap64 (Int.tmod (IntKind.u64.wrap (rd (l0.take ((ji3) : Int).toNat) x18_1)) 4294967296)) t234 t235 t238 _ ?side1 ?side2 A16.out).mono ?_); (case side1 => repeat (first | exact (Kd.R_reads' HO_232001.out).2.2 | (with_reducible refine Kd.C_alloc ?_ _) | (with_reducible refine Kd.C_drewN ?_ _) | (with_reducible refine Kd.C_drew ?_))); (case side2 => exact (Kd.R_reads' HO_232001.out).2.1); rintro e w62 ⟨v236, rfl, ho0, hb⟩; refine ⟨_, rfl, ?_⟩; have n0_ := Aside0.mk (Kd.R_below (by (with_reducible repeat (first | apply Kd.R_alloc | apply Kd.R_drewN | apply Kd.R_drew)); exact HO_6.out) hb); have n1_ := Aside0.mk (Kd.R_elder' (by (with_reducible repeat (first | apply Kd.R_alloc | apply Kd.R_drewN | apply Kd.R_drew)); exact HO_232001.out) (Kd.R_base ho0) hb); have n2_ := Aside0.mk (Kd.R_lower (Kd.R_new' ho0 (Kd.R_lt (by (with_reducible repeat (first | apply Kd.R_alloc | apply Kd.R_drewN | apply Kd.R_drew)); exact HO_232001.out))) (below_size (by repeat (first | (with_reducible first | exact HB.out | apply below_alloc | apply pw_below_drewN | apply below_drew1 | refine below_set ?_ GE226.out | refine below_set ?_ GE231.out) | exact HB.out)))); have n3_ := Aside0.mk (blk_below (g := gb226) (o := .cells #[.int .i64 x227000_1, .slice none 0 0] 50 (0, 0)) (by (with_reducible repeat (first | refine blk_drewN ?_ _ | refine blk_drew ?_ | refine blk_alloc ?_ _)); exact BK226.out) hb); have n4_ := Aside0.mk (blk_below (g := gb231) (o := .cells #[.int .i64 x232000_1, .slice Ao61 x232001_1.length co61] 50 (0, 0)) (by (with_reducible repeat (first | refine blk_drewN ?_ _ | refine blk_drew ?_ | refine blk_alloc ?_ _)); exact BK231.out) hb); have n5_ := Aside0.mk (below_step (by repeat (first | (with_reducible first | exact HB.out | apply below_alloc | apply pw_below_drewN | apply below_drew1 | refine below_set ?_ GE226.out | refine below_set ?_ GE231.out) | exact HB.out)) hb); clear HO_6; clear HO_232001; clear BK226; clear BK231; clear HB; have HO_6 := n0_; have HO_232001 := n1_; have HO237 := n2_; have BK226 := n3_; have BK231 := n4_; have HB := n5_; clear n0_ n1_ n2_ n3_ n4_ n5_; (try clear hb); (try clear hb2); (try clear hk); (try clear hi); (try clear ho0)) | ((with_reducible refine gate_dst (N := 9) rfl ?_); refine box_event ?hg (N := 9) ?hd (cs := #[.int .i64 0, .slice none 0 0]) (t := 50) ?hr ?_; (case hd => rfl); (case hg => rfl); (case hr => first | (go_simp; done) | (go_simp; rfl)); intro gb239 hg w63 hbox hb; have n0_ := Aside0.mk (Kd.R_below (by (with_reducible repeat (first | apply Kd.R_alloc | apply Kd.R_drewN | apply Kd.R_drew)); exact HO_6.out) hb); have n1_ := Aside0.mk (Kd.R_below (by (with_reducible repeat (first | apply Kd.R_alloc | apply Kd.R_drewN | apply Kd.R_drew)); exact HO_232001.out) hb); have n2_ := Aside0.mk (Kd.R_below (by (with_reducible repeat (first | apply Kd.R_alloc | apply Kd.R_drewN | apply Kd.R_drew)); exact HO237.out) hb); have n3_ := Aside0.mk (blk_below (g := gb226) (o := .cells #[.int .i64 x227000_1, .slice none 0 0] 50 (0, 0)) (by (with_reducible repeat (first | refine blk_drewN ?_ _ | refine blk_drew ?_ | refine blk_alloc ?_ _)); exact BK226.out) hb); have n4_ := Aside0.mk (blk_below (g := gb231) (o := .cells #[.int .i64 x232000_1, .slice Ao61 x232001_1.length co61] 50 (0, 0)) (by (with_reducible repeat (first | refine blk_drewN ?_ _ | refine blk_drew ?_ | refine blk_alloc ?_ _)); exact BK231.out) hb); have n5_ := Aside0.mk (below_step (by repeat (first | (with_reducible first | exact HB.out | apply below_alloc | apply pw_below_drewN | apply below_drew1 | refine below_set ?_ GE226.out | refine below_set ?_ GE231.out) | exact HB.out)) hb); have n6_ := Aside0.mk (hbox); have n7_ := Aside0.mk ((by rw [hg]; exact (below_size (by repeat (first | (with_reducible first | exact HB.out | apply below_alloc | apply pw_below_drewN | apply below_drew1 | refine below_set ?_ GE226.out | refine below_set ?_ GE231.out) | exact HB.out))) : w.heap.size ≤ gb239)); have n8_ := Aside0.mk ((by rw [hg]; exact (below_size (by repeat (first | (with_reducible first | exact HB.out | apply below_alloc | apply pw_below_drewN | apply below_drew1 | refine below_set ?_ GE226.out | refine below_set ?_ GE231.out) | exact HB.out))) : w.heap.size ≤ gb239)); have n9_ := Aside0.mk ((by rw [hg]; exact Nat.ne_of_lt (blk_lt (g := gb226) (o := .cells #[.int .i64 x227000_1, .slice none 0 0] 50 (0, 0)) (by (with_reducible repeat (first | refine blk_drewN ?_ _ | refine blk_drew ?_ | refine blk_alloc ?_ _)); exact BK226.out)) : gb226 ≠ gb239)); have n10_ := Aside0.mk ((by rw [hg]; exact Nat.ne_of_gt (blk_lt (g := gb226) (o := .cells #[.int .i64 x227000_1, .slice none 0 0] 50 (0, 0)) (by (with_reducible repeat (first | refine blk_drewN ?_ _ | refine blk_drew ?_ | refine blk_alloc ?_ _)); exact BK226.out)) : gb239 ≠ gb226)); have n11_ := Aside0.mk ((by rw [hg]; exact Nat.ne_of_lt (blk_lt (g := gb231) (o := .cells #[.int .i64 x232000_1, .slice Ao61 x232001_1.length co61] 50 (0, 0)) (by (with_reducible repeat (first | refine blk_drewN ?_ _ | refine blk_drew ?_ | refine blk_alloc ?_ _)); exact BK231.out)) : gb231 ≠ gb239)); have n12_ := Aside0.mk ((by rw [hg]; exact Nat.ne_of_gt (blk_lt (g := gb231) (o := .cells #[.int .i64 x232000_1, .slice Ao61 x232001_1.length co61] 50 (0, 0)) (by (with_reducible repeat (first | refine blk_drewN ?_ _ | refine blk_drew ?_ | refine blk_alloc ?_ _)); exact BK231.out)) : gb239 ≠ gb231)); clear HO_6; clear HO_232001; clear HO237; clear BK226; clear BK231; clear HB; have HO_6 := n0_; have HO_232001 := n1_; have HO237 := n2_; have BK226 := n3_; have BK231 := n4_; have HB := n5_; have BK239 := n6_; have GW239 := n7_; have GE239 := n8_; have NB226_239 := n9_; have NB239_226 := n10_; have NB231_239 := n11_; have NB239_231 := n12_; clear n0_ n1_ n2_ n3_ n4_ n5_ n6_ n7_ n8_ n9_ n10_ n11_ n12_; clear hb hbox hg; have hnb64 := NB239_226.out; have hnc64 := NB226_239.out; have hnb65 := NB239_231.out; have hnc65 := NB231_239.out; have hcz66_0 : w63.cell? ⟨gb239, 0, none⟩ = some (.int .i64 0) := (blk_cell BK239.out 0).trans rfl; have hcz66_1 : w63.cell? ⟨gb239, 1, none⟩ = some (.slice none 0 0) := (blk_cell BK239.out 1).trans rfl; have hfz66_0 := blk_frozen BK239.out 0; have hfz66_1 := blk_frozen BK239.out 1; obtain ⟨Ao67, co67, eo67⟩ := Kd.R_slice HO237.out; subst eo67; obtain ⟨Ao68, co68, eo68⟩ := Kd.R_slice HO_6.out; subst eo68) | ((with_reducible refine gate_callee (f := 43) rfl ?_); refine goesL_ (some 34) rfl rfl Try.func43 (by kernel_rfl) rfl #[.slice Ao68 x6_1.length co68, .int .i64 (wrap64 (Int.tmod (IntKind.u64.wrap (rd (l0.take ((ji3) : Int).toNat) x18_1)) 4294967296))] rfl (by (try simp only [List.map_toArray, List.map_cons, List.map_nil]); first | done | (simp only [hji3]; rfl) | rfl | (simp only [List.length_drop, List.length_take]; rfl)) ?_; (with_reducible refine (deadboltref08_Place.calls k1 _ _ x6_1 (wrap64 (Int.tmod (IntKind.u64.wrap (rd (l0.take ((ji3) : Int).toNat) x18_1)) 4294967296)) t240 _ ?side1 ?side2 A17.out).mono ?_); (case side1 => refine (Kd.R_reads' (e := 3) (base := w.heap.size) (ok := fun k_ => True) (n := x6_1.length) (c := co68) ?_).2.2; exact (by (with_reducible repeat (first | apply Kd.R_alloc | apply Kd.R_drewN | apply Kd.R_drew)); exact (Kd.R_mono (Kd.R_far (p := ⟨gb239, 1, none⟩) (Kd.R_far (p := ⟨gb239, 0, none⟩) (Kd.R_types HO_6.out BK239.out (by decide)) (fun _ hk => hk.2) (.int .i64 t234)) (fun _ hk => hk.2) (.slice Ao67 t235.length co67)) (fun _ h_ => h_.1)))); (case side2 => exact (Kd.R_reads' HO_6.out).2.1); rintro e w' ⟨rfl, ⟨nd, rfl⟩⟩; refine ⟨_, rfl, ?_⟩; have hcz69_0 : w63.cell? ⟨gb231, 0, none⟩ = some (.int .i64 x232000_1) := (blk_cell BK231.out 0).trans rfl; have hcz69_1 : w63.cell? ⟨gb231, 1, none⟩ = some (.slice Ao61 x232001_1.length co61) := (blk_cell BK231.out 1).trans rfl; have hfz69_0 := blk_frozen BK231.out 0; have hfz69_1 := blk_frozen BK231.out 1; have hcz70_0 : w63.cell? ⟨gb226, 0, none⟩ = some (.int .i64 x227000_1) := (blk_cell BK226.out 0).trans rfl; have hcz70_1 : w63.cell? ⟨gb226, 1, none⟩ = some (.slice none 0 0) := (blk_cell BK226.out 1).trans rfl; have hfz70_0 := blk_frozen BK226.out 0; have hfz70_1 := blk_frozen BK226.out 1))
          refine bodyPost_ret (results_ctt rfl _ _ gb226 50 #[.int .i64 x232000_1, .slice Ao61 x232001_1.length co61] (0, 0) _ rfl (by (with_reducible repeat (first | refine blk_drewN ?_ _ | refine blk_drew ?_ | refine blk_alloc ?_ _)); refine blk_put (cs := #[.int .i64 x232000_1, .slice none 0 0]) ?_ 1 _ rfl; (with_reducible repeat (first | refine blk_drewN ?_ _ | refine blk_drew ?_ | refine blk_alloc ?_ _)); refine blk_put (cs := #[.int .i64 x227000_1, .slice none 0 0]) ?_ 0 _ rfl; (with_reducible repeat (first | refine blk_drewN ?_ _ | refine blk_drew ?_ | refine blk_alloc ?_ _)); refine blk_far ?_ NB226_239.out _; (with_reducible repeat (first | refine blk_drewN ?_ _ | refine blk_drew ?_ | refine blk_alloc ?_ _)); refine blk_far ?_ NB226_239.out _; (with_reducible repeat (first | refine blk_drewN ?_ _ | refine blk_drew ?_ | refine blk_alloc ?_ _)); exact BK226.out) Try.underlying50 rfl (by kernel_rfl)) rfl ?_
          exact ⟨_, _, by first | rfl | (simp [errW_none, errW_some] <;> rfl) | (simp only [← hji3]; first | rfl | (simp [errW_none, errW_some] <;> rfl)) | (simp [*, errW_none, errW_some] <;> rfl), by (with_reducible repeat (first | apply Kd.R_alloc | apply Kd.R_drewN | apply Kd.R_drew)); exact Kd.R_mono (Kd.R_far (p := ⟨gb226, 1, none⟩) (Kd.R_far (p := ⟨gb226, 0, none⟩) (Kd.R_far (p := ⟨gb239, 1, none⟩) (Kd.R_far (p := ⟨gb239, 0, none⟩) (Kd.R_types (Kd.R_types HO_232001.out BK239.out (by decide)) BK226.out (by decide)) (fun _ hk => hk.1.2) (.int .i64 t234)) (fun _ hk => hk.1.2) (.slice Ao67 t235.length co67)) (fun _ hk => hk.2) (.int .i64 x232000_1)) (fun _ hk => hk.2) (.slice Ao61 x232001_1.length co61)) (fun _ hk => trivial), by first | exact Kd.R_nil _ _ _ _ _ | exact Kd.N_nil _ _ _ _ _ | exact Kd.V_nil _ _ _ _ _ | exact Kd.Q_nil _ _ _ _ _ | exact Kd.S_nil _ _ _ _ _, by repeat (first | (with_reducible first | exact HB.out | apply below_alloc | apply pw_below_drewN | apply below_drew1 | refine below_set ?_ GE226.out | refine below_set ?_ GE231.out | refine below_set ?_ GE239.out) | exact HB.out)⟩
       ·rw [if_neg c15] at H
        exact absurd H (by simp)
      ·rw [if_neg c14] at H
       exact absurd H (by simp)
     ·rw [if_neg c13] at H
      have c13b0 : decide (x18_1 < ((l0.take ((ji3) : Int).toNat).length : Int)) = false := decide_eq_false c13; (try (have c13b0x : decide (x18_1 < max ji3 0) = false := by (have hq_ := c13; rw [List.length_take] at hq_; have hj_ := hji3; unfold mn at hj_; apply decide_eq_false; split at hj_ <;> omega))); (try (have c13b0y := eq_true (of_decide_eq_true c13b0x))); (try (have c13b0z := eq_false (of_decide_eq_false c13b0x)))
      clear c13
      simp only [Option.some.injEq, Prod.mk.injEq] at H
      obtain ⟨rfl, rfl, rfl, rfl⟩ := H
      have hnb71 := NB231_226.out
      have hnc71 := NB226_231.out
      have hcz72_0 : wr.cell? ⟨gb231, 0, none⟩ = some (.int .i64 x232000_1) := (blk_cell BK231.out 0).trans rfl
      have hcz72_1 : wr.cell? ⟨gb231, 1, none⟩ = some (u232001) := (blk_cell BK231.out 1).trans rfl
      have hfz72_0 := blk_frozen BK231.out 0
      have hfz72_1 := blk_frozen BK231.out 1
      have hcz73_0 : wr.cell? ⟨gb226, 0, none⟩ = some (.int .i64 x227000_1) := (blk_cell BK226.out 0).trans rfl
      have hcz73_1 : wr.cell? ⟨gb226, 1, none⟩ = some (.slice none 0 0) := (blk_cell BK226.out 1).trans rfl
      have hfz73_0 := blk_frozen BK226.out 0
      have hfz73_1 := blk_frozen BK226.out 1
      obtain ⟨Ao74, co74, eo74⟩ := Kd.R_slice HO_232001.out
      subst eo74
      go_wp2
      refine bodyPost_ret (results_ctt rfl _ _ gb226 50 #[.int .i64 x232000_1, .slice Ao74 x232001_1.length co74] (0, 0) _ rfl (by (with_reducible repeat (first | refine blk_drewN ?_ _ | refine blk_drew ?_ | refine blk_alloc ?_ _)); refine blk_put (cs := #[.int .i64 x232000_1, .slice none 0 0]) ?_ 1 _ rfl; (with_reducible repeat (first | refine blk_drewN ?_ _ | refine blk_drew ?_ | refine blk_alloc ?_ _)); refine blk_put (cs := #[.int .i64 x227000_1, .slice none 0 0]) ?_ 0 _ rfl; (with_reducible repeat (first | refine blk_drewN ?_ _ | refine blk_drew ?_ | refine blk_alloc ?_ _)); exact BK226.out) Try.underlying50 rfl (by kernel_rfl)) rfl ?_
      exact ⟨_, _, by first | rfl | (simp [errW_none, errW_some] <;> rfl) | (simp only [← hji3]; first | rfl | (simp [errW_none, errW_some] <;> rfl)) | (simp [*, errW_none, errW_some] <;> rfl), by (with_reducible repeat (first | apply Kd.R_alloc | apply Kd.R_drewN | apply Kd.R_drew)); exact Kd.R_mono (Kd.R_far (p := ⟨gb226, 1, none⟩) (Kd.R_far (p := ⟨gb226, 0, none⟩) (Kd.R_types HO_232001.out BK226.out (by decide)) (fun _ hk => hk.2) (.int .i64 x232000_1)) (fun _ hk => hk.2) (.slice Ao74 x232001_1.length co74)) (fun _ hk => trivial), by (with_reducible repeat (first | apply Kd.R_alloc | apply Kd.R_drewN | apply Kd.R_drew)); exact Kd.R_mono (Kd.R_far (p := ⟨gb226, 1, none⟩) (Kd.R_far (p := ⟨gb226, 0, none⟩) (Kd.R_types HO_6.out BK226.out (by decide)) (fun _ hk => hk.2) (.int .i64 x232000_1)) (fun _ hk => hk.2) (.slice Ao74 x232001_1.length co74)) (fun _ hk => trivial), by repeat (first | (with_reducible first | exact HB.out | apply below_alloc | apply pw_below_drewN | apply below_drew1 | refine below_set ?_ GE226.out | refine below_set ?_ GE231.out) | exact HB.out)⟩
  ·rw [if_neg c5] at H
   exact absurd H (by simp)
 ·rw [if_neg c4] at H
  exact absurd H (by simp)

end Go.Proofs.Ytjdjmhagafmkaaa.PX

namespace Go.Proofs.Ytjdjmhagafmkaaa.PX
open Go.RowKit Go.Proofs.YtjdjmhagafmkaaaW.PrintWords Go.Proofs.YtjdjmhagafmkaaaW.PrintLast Go.Proofs.YtjdjmhagafmkaaaW.PrintMore
attribute [local go_sem] max2_int min2_int max_two min_two max_three min_three max_four min_four   -- for this text's walks alone
set_option linter.unusedVariables false
set_option linter.unusedSimpArgs false

/-! ### deadboltlaw08_alive: function 30 -/
def deadboltlaw08_alive.f (k : Nat)  : Option (Bool) := (deadboltlaw08_made.f k (([1, 2, 3] : List Int))).bind fun bt247 => ((treap_Find.f bt247.1 bt247.2.1 1).bind fun bt256 => ((treap_Find.f bt247.1 bt247.2.1 2).bind fun bt258 => (if bt247.2.2.2 = true then (if bt256.2 = 0 then (if bt258.2 = 0 then (if bt256.1 = 1 then (if bt258.1 = 2 then (some ((bt247.2.1.length : Int) == 3)) else (some false)) else (some false)) else (some false)) else (some false)) else (some false))))
theorem deadboltlaw08_alive.mono : ∀ k, LeO (deadboltlaw08_alive.f k ) (deadboltlaw08_alive.f (k + 1) ) := by
 intro  k
 unfold deadboltlaw08_alive.f
 repeat' first
   | (with_reducible exact deadboltlaw08_made.mono _ _)
   | (with_reducible exact LeO.refl _)
   | (with_reducible exact LeO.none _)
   | (with_reducible refine LeO.ite ?_ ?_)
   | (with_reducible refine LeO.bind ?_ (fun _ => ?_))
   | exact deadboltlaw08_made.mono _ _
   | exact LeO.none _
   | refine LeO.ite ?_ ?_
   | refine LeO.bind ?_ (fun _ => ?_)
set_option maxHeartbeats 8000000 in
set_option maxRecDepth 100000 in
theorem deadboltlaw08_alive.calls (k : Nat)  (r : Bool) (w : World) (h : deadboltlaw08_alive.f k  = some r) :
  Calls Try.prog 30 #[] w fun e w' => e = .returned (.bool r) ∧ Below w.heap.size w w' := by
 have hu50 := Try.underlying50
 have HB := Aside0.mk (Below.refl w.heap.size w)
 have H : ((deadboltlaw08_made.f k (([1, 2, 3] : List Int))).bind fun bt247 => ((treap_Find.f bt247.1 bt247.2.1 1).bind fun bt256 => ((treap_Find.f bt247.1 bt247.2.1 2).bind fun bt258 => (if bt247.2.2.2 = true then (if bt256.2 = 0 then (if bt258.2 = 0 then (if bt256.1 = 1 then (if bt258.1 = 2 then (some ((bt247.2.1.length : Int) == 3)) else (some false)) else (some false)) else (some false)) else (some false)) else (some false))))) = some r := h
 clear h
 obtain ⟨y244, hy244⟩ : ∃ y_ : List Int, y_ = (([1, 2, 3] : List Int)) := ⟨_, rfl⟩
 replace H : ((deadboltlaw08_made.f k y244).bind fun bt247 => ((treap_Find.f bt247.1 bt247.2.1 1).bind fun bt256 => ((treap_Find.f bt247.1 bt247.2.1 2).bind fun bt258 => (if bt247.2.2.2 = true then (if bt256.2 = 0 then (if bt258.2 = 0 then (if bt256.1 = 1 then (if bt258.1 = 2 then (some ((bt247.2.1.length : Int) == 3)) else (some false)) else (some false)) else (some false)) else (some false)) else (some false))))) = some r := by first | (rw [hy244]; with_reducible exact H) | (have H2_ := (Option.bind_some _ _).symm.trans H; rw [hy244]; with_reducible exact H2_) | (have H2_ := (Option.bind_some _ _).symm.trans H; with_reducible exact H2_) | with_reducible exact H | (rw [hy244]; exact H) | exact H
 have Ny244 := Aside0.mk hy244
 clear hy244
 replace H := Option.bind_eq_some_iff.mp H
 obtain ⟨⟨t247, t248, t251, t254⟩, A10, H⟩ := H
 replace H : ((treap_Find.f t247 t248 1).bind fun bt256 => ((treap_Find.f t247 t248 2).bind fun bt258 => (if t254 = true then (if bt256.2 = 0 then (if bt258.2 = 0 then (if bt256.1 = 1 then (if bt258.1 = 2 then (some ((t248.length : Int) == 3)) else (some false)) else (some false)) else (some false)) else (some false)) else (some false)))) = some r := H
 have A1 := Aside0.mk A10
 clear A10
 replace H := Option.bind_eq_some_iff.mp H
 obtain ⟨⟨t256, t257⟩, A20, H⟩ := H
 replace H : ((treap_Find.f t247 t248 2).bind fun bt258 => (if t254 = true then (if t257 = 0 then (if bt258.2 = 0 then (if t256 = 1 then (if bt258.1 = 2 then (some ((t248.length : Int) == 3)) else (some false)) else (some false)) else (some false)) else (some false)) else (some false))) = some r := H
 have A2 := Aside0.mk A20
 clear A20
 replace H := Option.bind_eq_some_iff.mp H
 obtain ⟨⟨t258, t259⟩, A30, H⟩ := H
 replace H : (if t254 = true then (if t257 = 0 then (if t259 = 0 then (if t256 = 1 then (if t258 = 2 then (some ((t248.length : Int) == 3)) else (some false)) else (some false)) else (some false)) else (some false)) else (some false)) = some r := H
 have A3 := Aside0.mk A30
 clear A30
 by_cases c4 : t254 = true
 ·subst c4
  have H1 : (if t257 = 0 then (if t259 = 0 then (if t256 = 1 then (if t258 = 2 then (some ((t248.length : Int) == 3)) else (some false)) else (some false)) else (some false)) else (some false)) = some r := by rw [if_pos rfl] at H; exact H
  clear H
  have H := H1
  clear H1
  by_cases c5 : t257 = 0
  ·rw [if_pos c5] at H
   have c5b0 : (t257 == 0) = true := beq_iff_eq.mpr c5
   have c5b1 : (t257 != 0) = false := bne_eq_false_iff_eq.mpr c5
   clear c5
   by_cases c6 : t259 = 0
   ·rw [if_pos c6] at H
    have c6b0 : (t259 == 0) = true := beq_iff_eq.mpr c6
    have c6b1 : (t259 != 0) = false := bne_eq_false_iff_eq.mpr c6
    clear c6
    by_cases c7 : t256 = 1
    ·rw [if_pos c7] at H
     have c7b0 : (t256 == 1) = true := beq_iff_eq.mpr c7
     have c7b1 : (t256 != 1) = false := bne_eq_false_iff_eq.mpr c7
     clear c7
     by_cases c8 : t258 = 2
     ·rw [if_pos c8] at H
      have c8b0 : (t258 == 2) = true := beq_iff_eq.mpr c8
      have c8b1 : (t258 != 2) = false := bne_eq_false_iff_eq.mpr c8
      clear c8
      obtain rfl := Option.some.inj H
      go_enter Try.func30, Try.ntmps30
      go_wp2_with (first | ((with_reducible refine gate_dst (N := 9) rfl ?_); (try (refine gate_guard (by rfl) ?_; dsimp only)); refine Kd.R_lit (Kd.int .i64) _ 3 ?hg (N := 9) ?hd (xs := ([1, 2, 3] : List Int)) (inner := [.int .i64 1, .int .i64 2, .int .i64 3]) (ok := fun _ => True) (okp := fun _ => True) ?hr ?hp (fun _ hk => hk) trivial (Below.refl _ _) (Nat.le_refl _) (by simp) ?_; (case hd => rfl); (case hg => rfl); (case hr => first | (go_simp; done) | (go_simp; rfl)); (case hp => exact (Reps.one (show Kd.M (Kd.int .i64) _ _ _ 1 [.int .i64 1] from rfl) (Reps.one (show Kd.M (Kd.int .i64) _ _ _ 2 [.int .i64 2] from rfl) (Reps.one (show Kd.M (Kd.int .i64) _ _ _ 3 [.int .i64 3] from rfl) (Reps.none _ _))))); intro v245 w9 ho10 hb hg_ hnew_; clear hg_ hnew_; (first | rw [← Ny244.out] at ho10 | (simp only [Int.reduceToNat] at ho10; rw [← Ny244.out] at ho10)); have n0_ := Aside0.mk (Kd.R_lower ho10 (below_size (by repeat (first | (with_reducible first | exact HB.out | apply below_alloc | apply pw_below_drewN | apply below_drew1) | exact HB.out)))); have n1_ := Aside0.mk (below_step (by repeat (first | (with_reducible first | exact HB.out | apply below_alloc | apply pw_below_drewN | apply below_drew1) | exact HB.out)) hb); clear HB; have HO246 := n0_; have HB := n1_; clear n0_ n1_; clear hb ho10; obtain ⟨Ao11, co11, eo11⟩ := Kd.R_slice HO246.out; subst eo11) | ((with_reducible refine gate_callee (f := 29) rfl ?_); refine goesL_ (some 10) rfl rfl Try.func29 (by kernel_rfl) rfl #[.slice Ao11 y244.length co11] rfl (by (try simp only [List.map_toArray, List.map_cons, List.map_nil]); first | done | rfl | (simp only [List.length_drop, List.length_take]; rfl)) ?_; (with_reducible refine (deadboltlaw08_made.calls k _ _ y244 t247 t248 t251 true _ ?side1 ?side2 A1.out).mono ?_); (case side1 => repeat (first | exact (Kd.R_reads' HO246.out).2.2 | (with_reducible refine Kd.C_alloc ?_ _) | (with_reducible refine Kd.C_drewN ?_ _) | (with_reducible refine Kd.C_drew ?_))); (case side2 => exact (Kd.R_reads' HO246.out).2.1); rintro e w12 ⟨v249, v252, rfl, ho0, ho1, hb⟩; refine ⟨_, rfl, ?_⟩; have n0_ := Aside0.mk (Kd.R_elder' (by (with_reducible repeat (first | apply Kd.R_alloc | apply Kd.R_drewN | apply Kd.R_drew)); exact HO246.out) (Kd.R_base ho1) hb); have n1_ := Aside0.mk (Kd.R_lower ho0 (below_size (by repeat (first | (with_reducible first | exact HB.out | apply below_alloc | apply pw_below_drewN | apply below_drew1) | exact HB.out)))); have n2_ := Aside0.mk (Kd.R_lower (Kd.R_new' ho1 (Kd.R_lt (by (with_reducible repeat (first | apply Kd.R_alloc | apply Kd.R_drewN | apply Kd.R_drew)); exact HO246.out))) (below_size (by repeat (first | (with_reducible first | exact HB.out | apply below_alloc | apply pw_below_drewN | apply below_drew1) | exact HB.out)))); have n3_ := Aside0.mk (below_step (by repeat (first | (with_reducible first | exact HB.out | apply below_alloc | apply pw_below_drewN | apply below_drew1) | exact HB.out)) hb); clear HO246; clear HB; have HO246 := n0_; have HO250 := n1_; have HO253 := n2_; have HB := n3_; clear n0_ n1_ n2_ n3_; (try clear hb); (try clear hb2); (try clear hk); (try clear hi); (try clear ho0); (try clear ho1)) | ((with_reducible refine gate_dst (N := 1) rfl ?_); (try (refine gate_guard (by rfl) ?_; dsimp only)); refine box_event ?hg (N := 1) ?hd (cs := #[.int .i64 0, .slice none 0 0]) (t := 50) ?hr ?_; (case hd => rfl); (case hg => rfl); (case hr => first | (go_simp; done) | (go_simp; rfl)); intro gb255 hg w13 hbox hb; have n0_ := Aside0.mk (Kd.R_below (by (with_reducible repeat (first | apply Kd.R_alloc | apply Kd.R_drewN | apply Kd.R_drew)); exact HO246.out) hb); have n1_ := Aside0.mk (Kd.R_below (by (with_reducible repeat (first | apply Kd.R_alloc | apply Kd.R_drewN | apply Kd.R_drew)); exact HO250.out) hb); have n2_ := Aside0.mk (Kd.R_below (by (with_reducible repeat (first | apply Kd.R_alloc | apply Kd.R_drewN | apply Kd.R_drew)); exact HO253.out) hb); have n3_ := Aside0.mk (below_step (by repeat (first | (with_reducible first | exact HB.out | apply below_alloc | apply pw_below_drewN | apply below_drew1) | exact HB.out)) hb); have n4_ := Aside0.mk (hbox); have n5_ := Aside0.mk ((by rw [hg]; exact (below_size (by repeat (first | (with_reducible first | exact HB.out | apply below_alloc | apply pw_below_drewN | apply below_drew1) | exact HB.out))) : w.heap.size ≤ gb255)); have n6_ := Aside0.mk ((by rw [hg]; exact (below_size (by repeat (first | (with_reducible first | exact HB.out | apply below_alloc | apply pw_below_drewN | apply below_drew1) | exact HB.out))) : w.heap.size ≤ gb255)); clear HO246; clear HO250; clear HO253; clear HB; have HO246 := n0_; have HO250 := n1_; have HO253 := n2_; have HB := n3_; have BK255 := n4_; have GW255 := n5_; have GE255 := n6_; clear n0_ n1_ n2_ n3_ n4_ n5_ n6_; clear hb hbox hg; have hcz14_0 : w13.cell? ⟨gb255, 0, none⟩ = some (.int .i64 0) := (blk_cell BK255.out 0).trans rfl; have hcz14_1 : w13.cell? ⟨gb255, 1, none⟩ = some (.slice none 0 0) := (blk_cell BK255.out 1).trans rfl; have hfz14_0 := blk_frozen BK255.out 0; have hfz14_1 := blk_frozen BK255.out 1; obtain ⟨Ao15, co15, eo15⟩ := Kd.R_slice HO250.out; subst eo15) | ((with_reducible refine gate_callee (f := 34) rfl ?_); refine goesL_ (some 16) rfl rfl Try.func34 (by kernel_rfl) rfl #[.agg #[.int .i64 t247, .slice Ao15 t248.length co15], .int .i64 1] rfl (by (try simp only [List.map_toArray, List.map_cons, List.map_nil]); first | done | rfl | (simp only [List.length_drop, List.length_take]; rfl)) ?_; (with_reducible refine (treap_Find.calls t247 _ _ t248 1 t256 t257 _ ?side1 ?side2 A2.out).mono ?_); (case side1 => refine (Kd.R_reads' (e := 87) (base := w.heap.size) (ok := fun k_ => True) (n := t248.length) (c := co15) ?_).2.2; exact (by (with_reducible repeat (first | apply Kd.R_alloc | apply Kd.R_drewN | apply Kd.R_drew)); exact (Kd.R_mono (Kd.R_far (p := ⟨gb255, 1, none⟩) (Kd.R_far (p := ⟨gb255, 0, none⟩) (Kd.R_types HO250.out BK255.out (by decide)) (fun _ hk => hk.2) (.int .i64 t247)) (fun _ hk => hk.2) (.slice Ao15 t248.length co15)) (fun _ h_ => h_.1)))); (case side2 => exact (Kd.R_reads' HO250.out).2.1); rintro e w16 ⟨rfl, hb⟩; refine ⟨_, rfl, ?_⟩; have n0_ := Aside0.mk (Kd.R_below (by (with_reducible repeat (first | apply Kd.R_alloc | apply Kd.R_drewN | apply Kd.R_drew)); exact (Kd.R_mono (Kd.R_far (p := ⟨gb255, 1, none⟩) (Kd.R_far (p := ⟨gb255, 0, none⟩) (Kd.R_types HO246.out BK255.out (by decide)) (fun _ hk => hk.2) (.int .i64 t247)) (fun _ hk => hk.2) (.slice Ao15 t248.length co15)) (fun _ h_ => h_.1))) hb); have n1_ := Aside0.mk (Kd.R_below (by (with_reducible repeat (first | apply Kd.R_alloc | apply Kd.R_drewN | apply Kd.R_drew)); exact (Kd.R_mono (Kd.R_far (p := ⟨gb255, 1, none⟩) (Kd.R_far (p := ⟨gb255, 0, none⟩) (Kd.R_types HO250.out BK255.out (by decide)) (fun _ hk => hk.2) (.int .i64 t247)) (fun _ hk => hk.2) (.slice Ao15 t248.length co15)) (fun _ h_ => h_.1))) hb); have n2_ := Aside0.mk (Kd.R_below (by (with_reducible repeat (first | apply Kd.R_alloc | apply Kd.R_drewN | apply Kd.R_drew)); exact (Kd.R_mono (Kd.R_far (p := ⟨gb255, 1, none⟩) (Kd.R_far (p := ⟨gb255, 0, none⟩) (Kd.R_types HO253.out BK255.out (by decide)) (fun _ hk => hk.2) (.int .i64 t247)) (fun _ hk => hk.2) (.slice Ao15 t248.length co15)) (fun _ h_ => h_.1))) hb); have n3_ := Aside0.mk (blk_below (g := gb255) (o := .cells #[.int .i64 t247, .slice Ao15 t248.length co15] 50 (0, 0)) (by (with_reducible repeat (first | refine blk_drewN ?_ _ | refine blk_drew ?_ | refine blk_alloc ?_ _)); refine blk_put (cs := #[.int .i64 t247, .slice none 0 0]) ?_ 1 _ rfl; (with_reducible repeat (first | refine blk_drewN ?_ _ | refine blk_drew ?_ | refine blk_alloc ?_ _)); refine blk_put (cs := #[.int .i64 0, .slice none 0 0]) ?_ 0 _ rfl; (with_reducible repeat (first | refine blk_drewN ?_ _ | refine blk_drew ?_ | refine blk_alloc ?_ _)); exact BK255.out) hb); have n4_ := Aside0.mk (below_step (by repeat (first | (with_reducible first | exact HB.out | apply below_alloc | apply pw_below_drewN | apply below_drew1 | refine below_set ?_ GE255.out) | exact HB.out)) hb); clear HO246; clear HO250; clear HO253; clear BK255; clear HB; have HO246 := n0_; have HO250 := n1_; have HO253 := n2_; have BK255 := n3_; have HB := n4_; clear n0_ n1_ n2_ n3_ n4_; (try clear hb); (try clear hb2); (try clear hk); (try clear hi); have hcz17_0 : w16.cell? ⟨gb255, 0, none⟩ = some (.int .i64 t247) := (blk_cell BK255.out 0).trans rfl; have hcz17_1 : w16.cell? ⟨gb255, 1, none⟩ = some (.slice Ao15 t248.length co15) := (blk_cell BK255.out 1).trans rfl; have hfz17_0 := blk_frozen BK255.out 0; have hfz17_1 := blk_frozen BK255.out 1) | ((with_reducible refine gate_callee (f := 34) rfl ?_); refine goesL_ (some 21) rfl rfl Try.func34 (by kernel_rfl) rfl #[.agg #[.int .i64 t247, .slice Ao15 t248.length co15], .int .i64 2] rfl (by (try simp only [List.map_toArray, List.map_cons, List.map_nil]); first | done | rfl | (simp only [List.length_drop, List.length_take]; rfl)) ?_; (with_reducible refine (treap_Find.calls t247 _ _ t248 2 t258 t259 _ ?side1 ?side2 A3.out).mono ?_); (case side1 => repeat (first | exact (Kd.R_reads' HO250.out).2.2 | (with_reducible refine Kd.C_alloc ?_ _) | (with_reducible refine Kd.C_drewN ?_ _) | (with_reducible refine Kd.C_drew ?_))); (case side2 => exact (Kd.R_reads' HO250.out).2.1); rintro e w18 ⟨rfl, hb⟩; refine ⟨_, rfl, ?_⟩; have n0_ := Aside0.mk (Kd.R_below (by (with_reducible repeat (first | apply Kd.R_alloc | apply Kd.R_drewN | apply Kd.R_drew)); exact HO246.out) hb); have n1_ := Aside0.mk (Kd.R_below (by (with_reducible repeat (first | apply Kd.R_alloc | apply Kd.R_drewN | apply Kd.R_drew)); exact HO250.out) hb); have n2_ := Aside0.mk (Kd.R_below (by (with_reducible repeat (first | apply Kd.R_alloc | apply Kd.R_drewN | apply Kd.R_drew)); exact HO253.out) hb); have n3_ := Aside0.mk (blk_below (g := gb255) (o := .cells #[.int .i64 t247, .slice Ao15 t248.length co15] 50 (0, 0)) (by (with_reducible repeat (first | refine blk_drewN ?_ _ | refine blk_drew ?_ | refine blk_alloc ?_ _)); exact BK255.out) hb); have n4_ := Aside0.mk (below_step (by repeat (first | (with_reducible first | exact HB.out | apply below_alloc | apply pw_below_drewN | apply below_drew1 | refine below_set ?_ GE255.out) | exact HB.out)) hb); clear HO246; clear HO250; clear HO253; clear BK255; clear HB; have HO246 := n0_; have HO250 := n1_; have HO253 := n2_; have BK255 := n3_; have HB := n4_; clear n0_ n1_ n2_ n3_ n4_; (try clear hb); (try clear hb2); (try clear hk); (try clear hi); have hcz19_0 : w18.cell? ⟨gb255, 0, none⟩ = some (.int .i64 t247) := (blk_cell BK255.out 0).trans rfl; have hcz19_1 : w18.cell? ⟨gb255, 1, none⟩ = some (.slice Ao15 t248.length co15) := (blk_cell BK255.out 1).trans rfl; have hfz19_0 := blk_frozen BK255.out 0; have hfz19_1 := blk_frozen BK255.out 1))
      go_ret
      exact ⟨by first | rfl | (simp [errW_none, errW_some] <;> rfl) | (simp [*, errW_none, errW_some] <;> rfl), by repeat (first | (with_reducible first | exact HB.out | apply below_alloc | apply pw_below_drewN | apply below_drew1 | refine below_set ?_ GE255.out) | exact HB.out)⟩
     ·rw [if_neg c8] at H
      have c8b0 : (t258 == 2) = false := beq_eq_false_iff_ne.mpr c8
      have c8b1 : (t258 != 2) = true := bne_iff_ne.mpr c8
      obtain rfl := Option.some.inj H
      go_enter Try.func30, Try.ntmps30
      go_wp2_with (first | ((with_reducible refine gate_dst (N := 9) rfl ?_); (try (refine gate_guard (by rfl) ?_; dsimp only)); refine Kd.R_lit (Kd.int .i64) _ 3 ?hg (N := 9) ?hd (xs := ([1, 2, 3] : List Int)) (inner := [.int .i64 1, .int .i64 2, .int .i64 3]) (ok := fun _ => True) (okp := fun _ => True) ?hr ?hp (fun _ hk => hk) trivial (Below.refl _ _) (Nat.le_refl _) (by simp) ?_; (case hd => rfl); (case hg => rfl); (case hr => first | (go_simp; done) | (go_simp; rfl)); (case hp => exact (Reps.one (show Kd.M (Kd.int .i64) _ _ _ 1 [.int .i64 1] from rfl) (Reps.one (show Kd.M (Kd.int .i64) _ _ _ 2 [.int .i64 2] from rfl) (Reps.one (show Kd.M (Kd.int .i64) _ _ _ 3 [.int .i64 3] from rfl) (Reps.none _ _))))); intro v245 w20 ho21 hb hg_ hnew_; clear hg_ hnew_; (first | rw [← Ny244.out] at ho21 | (simp only [Int.reduceToNat] at ho21; rw [← Ny244.out] at ho21)); have n0_ := Aside0.mk (Kd.R_lower ho21 (below_size (by repeat (first | (with_reducible first | exact HB.out | apply below_alloc | apply pw_below_drewN | apply below_drew1) | exact HB.out)))); have n1_ := Aside0.mk (below_step (by repeat (first | (with_reducible first | exact HB.out | apply below_alloc | apply pw_below_drewN | apply below_drew1) | exact HB.out)) hb); clear HB; have HO246 := n0_; have HB := n1_; clear n0_ n1_; clear hb ho21; obtain ⟨Ao22, co22, eo22⟩ := Kd.R_slice HO246.out; subst eo22) | ((with_reducible refine gate_callee (f := 29) rfl ?_); refine goesL_ (some 10) rfl rfl Try.func29 (by kernel_rfl) rfl #[.slice Ao22 y244.length co22] rfl (by (try simp only [List.map_toArray, List.map_cons, List.map_nil]); first | done | rfl | (simp only [List.length_drop, List.length_take]; rfl)) ?_; (with_reducible refine (deadboltlaw08_made.calls k _ _ y244 t247 t248 t251 true _ ?side1 ?side2 A1.out).mono ?_); (case side1 => repeat (first | exact (Kd.R_reads' HO246.out).2.2 | (with_reducible refine Kd.C_alloc ?_ _) | (with_reducible refine Kd.C_drewN ?_ _) | (with_reducible refine Kd.C_drew ?_))); (case side2 => exact (Kd.R_reads' HO246.out).2.1); rintro e w23 ⟨v249, v252, rfl, ho0, ho1, hb⟩; refine ⟨_, rfl, ?_⟩; have n0_ := Aside0.mk (Kd.R_elder' (by (with_reducible repeat (first | apply Kd.R_alloc | apply Kd.R_drewN | apply Kd.R_drew)); exact HO246.out) (Kd.R_base ho1) hb); have n1_ := Aside0.mk (Kd.R_lower ho0 (below_size (by repeat (first | (with_reducible first | exact HB.out | apply below_alloc | apply pw_below_drewN | apply below_drew1) | exact HB.out)))); have n2_ := Aside0.mk (Kd.R_lower (Kd.R_new' ho1 (Kd.R_lt (by (with_reducible repeat (first | apply Kd.R_alloc | apply Kd.R_drewN | apply Kd.R_drew)); exact HO246.out))) (below_size (by repeat (first | (with_reducible first | exact HB.out | apply below_alloc | apply pw_below_drewN | apply below_drew1) | exact HB.out)))); have n3_ := Aside0.mk (below_step (by repeat (first | (with_reducible first | exact HB.out | apply below_alloc | apply pw_below_drewN | apply below_drew1) | exact HB.out)) hb); clear HO246; clear HB; have HO246 := n0_; have HO250 := n1_; have HO253 := n2_; have HB := n3_; clear n0_ n1_ n2_ n3_; (try clear hb); (try clear hb2); (try clear hk); (try clear hi); (try clear ho0); (try clear ho1)) | ((with_reducible refine gate_dst (N := 1) rfl ?_); (try (refine gate_guard (by rfl) ?_; dsimp only)); refine box_event ?hg (N := 1) ?hd (cs := #[.int .i64 0, .slice none 0 0]) (t := 50) ?hr ?_; (case hd => rfl); (case hg => rfl); (case hr => first | (go_simp; done) | (go_simp; rfl)); intro gb255 hg w24 hbox hb; have n0_ := Aside0.mk (Kd.R_below (by (with_reducible repeat (first | apply Kd.R_alloc | apply Kd.R_drewN | apply Kd.R_drew)); exact HO246.out) hb); have n1_ := Aside0.mk (Kd.R_below (by (with_reducible repeat (first | apply Kd.R_alloc | apply Kd.R_drewN | apply Kd.R_drew)); exact HO250.out) hb); have n2_ := Aside0.mk (Kd.R_below (by (with_reducible repeat (first | apply Kd.R_alloc | apply Kd.R_drewN | apply Kd.R_drew)); exact HO253.out) hb); have n3_ := Aside0.mk (below_step (by repeat (first | (with_reducible first | exact HB.out | apply below_alloc | apply pw_below_drewN | apply below_drew1) | exact HB.out)) hb); have n4_ := Aside0.mk (hbox); have n5_ := Aside0.mk ((by rw [hg]; exact (below_size (by repeat (first | (with_reducible first | exact HB.out | apply below_alloc | apply pw_below_drewN | apply below_drew1) | exact HB.out))) : w.heap.size ≤ gb255)); have n6_ := Aside0.mk ((by rw [hg]; exact (below_size (by repeat (first | (with_reducible first | exact HB.out | apply below_alloc | apply pw_below_drewN | apply below_drew1) | exact HB.out))) : w.heap.size ≤ gb255)); clear HO246; clear HO250; clear HO253; clear HB; have HO246 := n0_; have HO250 := n1_; have HO253 := n2_; have HB := n3_; have BK255 := n4_; have GW255 := n5_; have GE255 := n6_; clear n0_ n1_ n2_ n3_ n4_ n5_ n6_; clear hb hbox hg; have hcz25_0 : w24.cell? ⟨gb255, 0, none⟩ = some (.int .i64 0) := (blk_cell BK255.out 0).trans rfl; have hcz25_1 : w24.cell? ⟨gb255, 1, none⟩ = some (.slice none 0 0) := (blk_cell BK255.out 1).trans rfl; have hfz25_0 := blk_frozen BK255.out 0; have hfz25_1 := blk_frozen BK255.out 1; obtain ⟨Ao26, co26, eo26⟩ := Kd.R_slice HO250.out; subst eo26) | ((with_reducible refine gate_callee (f := 34) rfl ?_); refine goesL_ (some 16) rfl rfl Try.func34 (by kernel_rfl) rfl #[.agg #[.int .i64 t247, .slice Ao26 t248.length co26], .int .i64 1] rfl (by (try simp only [List.map_toArray, List.map_cons, List.map_nil]); first | done | rfl | (simp only [List.length_drop, List.length_take]; rfl)) ?_; (with_reducible refine (treap_Find.calls t247 _ _ t248 1 t256 t257 _ ?side1 ?side2 A2.out).mono ?_); (case side1 => refine (Kd.R_reads' (e := 87) (base := w.heap.size) (ok := fun k_ => True) (n := t248.length) (c := co26) ?_).2.2; exact (by (with_reducible repeat (first | apply Kd.R_alloc | apply Kd.R_drewN | apply Kd.R_drew)); exact (Kd.R_mono (Kd.R_far (p := ⟨gb255, 1, none⟩) (Kd.R_far (p := ⟨gb255, 0, none⟩) (Kd.R_types HO250.out BK255.out (by decide)) (fun _ hk => hk.2) (.int .i64 t247)) (fun _ hk => hk.2) (.slice Ao26 t248.length co26)) (fun _ h_ => h_.1)))); (case side2 => exact (Kd.R_reads' HO250.out).2.1); rintro e w27 ⟨rfl, hb⟩; refine ⟨_, rfl, ?_⟩; have n0_ := Aside0.mk (Kd.R_below (by (with_reducible repeat (first | apply Kd.R_alloc | apply Kd.R_drewN | apply Kd.R_drew)); exact (Kd.R_mono (Kd.R_far (p := ⟨gb255, 1, none⟩) (Kd.R_far (p := ⟨gb255, 0, none⟩) (Kd.R_types HO246.out BK255.out (by decide)) (fun _ hk => hk.2) (.int .i64 t247)) (fun _ hk => hk.2) (.slice Ao26 t248.length co26)) (fun _ h_ => h_.1))) hb); have n1_ := Aside0.mk (Kd.R_below (by (with_reducible repeat (first | apply Kd.R_alloc | apply Kd.R_drewN | apply Kd.R_drew)); exact (Kd.R_mono (Kd.R_far (p := ⟨gb255, 1, none⟩) (Kd.R_far (p := ⟨gb255, 0, none⟩) (Kd.R_types HO250.out BK255.out (by decide)) (fun _ hk => hk.2) (.int .i64 t247)) (fun _ hk => hk.2) (.slice Ao26 t248.length co26)) (fun _ h_ => h_.1))) hb); have n2_ := Aside0.mk (Kd.R_below (by (with_reducible repeat (first | apply Kd.R_alloc | apply Kd.R_drewN | apply Kd.R_drew)); exact (Kd.R_mono (Kd.R_far (p := ⟨gb255, 1, none⟩) (Kd.R_far (p := ⟨gb255, 0, none⟩) (Kd.R_types HO253.out BK255.out (by decide)) (fun _ hk => hk.2) (.int .i64 t247)) (fun _ hk => hk.2) (.slice Ao26 t248.length co26)) (fun _ h_ => h_.1))) hb); have n3_ := Aside0.mk (blk_below (g := gb255) (o := .cells #[.int .i64 t247, .slice Ao26 t248.length co26] 50 (0, 0)) (by (with_reducible repeat (first | refine blk_drewN ?_ _ | refine blk_drew ?_ | refine blk_alloc ?_ _)); refine blk_put (cs := #[.int .i64 t247, .slice none 0 0]) ?_ 1 _ rfl; (with_reducible repeat (first | refine blk_drewN ?_ _ | refine blk_drew ?_ | refine blk_alloc ?_ _)); refine blk_put (cs := #[.int .i64 0, .slice none 0 0]) ?_ 0 _ rfl; (with_reducible repeat (first | refine blk_drewN ?_ _ | refine blk_drew ?_ | refine blk_alloc ?_ _)); exact BK255.out) hb); have n4_ := Aside0.mk (below_step (by repeat (first | (with_reducible first | exact HB.out | apply below_alloc | apply pw_below_drewN | apply below_drew1 | refine below_set ?_ GE255.out) | exact HB.out)) hb); clear HO246; clear HO250; clear HO253; clear BK255; clear HB; have HO246 := n0_; have HO250 := n1_; have HO253 := n2_; have BK255 := n3_; have HB := n4_; clear n0_ n1_ n2_ n3_ n4_; (try clear hb); (try clear hb2); (try clear hk); (try clear hi); have hcz28_0 : w27.cell? ⟨gb255, 0, none⟩ = some (.int .i64 t247) := (blk_cell BK255.out 0).trans rfl; have hcz28_1 : w27.cell? ⟨gb255, 1, none⟩ = some (.slice Ao26 t248.length co26) := (blk_cell BK255.out 1).trans rfl; have hfz28_0 := blk_frozen BK255.out 0; have hfz28_1 := blk_frozen BK255.out 1) | ((with_reducible refine gate_callee (f := 34) rfl ?_); refine goesL_ (some 21) rfl rfl Try.func34 (by kernel_rfl) rfl #[.agg #[.int .i64 t247, .slice Ao26 t248.length co26], .int .i64 2] rfl (by (try simp only [List.map_toArray, List.map_cons, List.map_nil]); first | done | rfl | (simp only [List.length_drop, List.length_take]; rfl)) ?_; (with_reducible refine (treap_Find.calls t247 _ _ t248 2 t258 t259 _ ?side1 ?side2 A3.out).mono ?_); (case side1 => repeat (first | exact (Kd.R_reads' HO250.out).2.2 | (with_reducible refine Kd.C_alloc ?_ _) | (with_reducible refine Kd.C_drewN ?_ _) | (with_reducible refine Kd.C_drew ?_))); (case side2 => exact (Kd.R_reads' HO250.out).2.1); rintro e w29 ⟨rfl, hb⟩; refine ⟨_, rfl, ?_⟩; have n0_ := Aside0.mk (Kd.R_below (by (with_reducible repeat (first | apply Kd.R_alloc | apply Kd.R_drewN | apply Kd.R_drew)); exact HO246.out) hb); have n1_ := Aside0.mk (Kd.R_below (by (with_reducible repeat (first | apply Kd.R_alloc | apply Kd.R_drewN | apply Kd.R_drew)); exact HO250.out) hb); have n2_ := Aside0.mk (Kd.R_below (by (with_reducible repeat (first | apply Kd.R_alloc | apply Kd.R_drewN | apply Kd.R_drew)); exact HO253.out) hb); have n3_ := Aside0.mk (blk_below (g := gb255) (o := .cells #[.int .i64 t247, .slice Ao26 t248.length co26] 50 (0, 0)) (by (with_reducible repeat (first | refine blk_drewN ?_ _ | refine blk_drew ?_ | refine blk_alloc ?_ _)); exact BK255.out) hb); have n4_ := Aside0.mk (below_step (by repeat (first | (with_reducible first | exact HB.out | apply below_alloc | apply pw_below_drewN | apply below_drew1 | refine below_set ?_ GE255.out) | exact HB.out)) hb); clear HO246; clear HO250; clear HO253; clear BK255; clear HB; have HO246 := n0_; have HO250 := n1_; have HO253 := n2_; have BK255 := n3_; have HB := n4_; clear n0_ n1_ n2_ n3_ n4_; (try clear hb); (try clear hb2); (try clear hk); (try clear hi)))
      go_ret
      exact ⟨by first | rfl | (simp [errW_none, errW_some] <;> rfl) | (simp [*, errW_none, errW_some] <;> rfl), by repeat (first | (with_reducible first | exact HB.out | apply below_alloc | apply pw_below_drewN | apply below_drew1 | refine below_set ?_ GE255.out) | exact HB.out)⟩
    ·rw [if_neg c7] at H
     have c7b0 : (t256 == 1) = false := beq_eq_false_iff_ne.mpr c7
     have c7b1 : (t256 != 1) = true := bne_iff_ne.mpr c7
     obtain rfl := Option.some.inj H
     go_enter Try.func30, Try.ntmps30
     go_wp2_with (first | ((with_reducible refine gate_dst (N := 9) rfl ?_); (try (refine gate_guard (by rfl) ?_; dsimp only)); refine Kd.R_lit (Kd.int .i64) _ 3 ?hg (N := 9) ?hd (xs := ([1, 2, 3] : List Int)) (inner := [.int .i64 1, .int .i64 2, .int .i64 3]) (ok := fun _ => True) (okp := fun _ => True) ?hr ?hp (fun _ hk => hk) trivial (Below.refl _ _) (Nat.le_refl _) (by simp) ?_; (case hd => rfl); (case hg => rfl); (case hr => first | (go_simp; done) | (go_simp; rfl)); (case hp => exact (Reps.one (show Kd.M (Kd.int .i64) _ _ _ 1 [.int .i64 1] from rfl) (Reps.one (show Kd.M (Kd.int .i64) _ _ _ 2 [.int .i64 2] from rfl) (Reps.one (show Kd.M (Kd.int .i64) _ _ _ 3 [.int .i64 3] from rfl) (Reps.none _ _))))); intro v245 w30 ho31 hb hg_ hnew_; clear hg_ hnew_; (first | rw [← Ny244.out] at ho31 | (simp only [Int.reduceToNat] at ho31; rw [← Ny244.out] at ho31)); have n0_ := Aside0.mk (Kd.R_lower ho31 (below_size (by repeat (first | (with_reducible first | exact HB.out | apply below_alloc | apply pw_below_drewN | apply below_drew1) | exact HB.out)))); have n1_ := Aside0.mk (below_step (by repeat (first | (with_reducible first | exact HB.out | apply below_alloc | apply pw_below_drewN | apply below_drew1) | exact HB.out)) hb); clear HB; have HO246 := n0_; have HB := n1_; clear n0_ n1_; clear hb ho31; obtain ⟨Ao32, co32, eo32⟩ := Kd.R_slice HO246.out; subst eo32) | ((with_reducible refine gate_callee (f := 29) rfl ?_); refine goesL_ (some 10) rfl rfl Try.func29 (by kernel_rfl) rfl #[.slice Ao32 y244.length co32] rfl (by (try simp only [List.map_toArray, List.map_cons, List.map_nil]); first | done | rfl | (simp only [List.length_drop, List.length_take]; rfl)) ?_; (with_reducible refine (deadboltlaw08_made.calls k _ _ y244 t247 t248 t251 true _ ?side1 ?side2 A1.out).mono ?_); (case side1 => repeat (first | exact (Kd.R_reads' HO246.out).2.2 | (with_reducible refine Kd.C_alloc ?_ _) | (with_reducible refine Kd.C_drewN ?_ _) | (with_reducible refine Kd.C_drew ?_))); (case side2 => exact (Kd.R_reads' HO246.out).2.1); rintro e w33 ⟨v249, v252, rfl, ho0, ho1, hb⟩; refine ⟨_, rfl, ?_⟩; have n0_ := Aside0.mk (Kd.R_elder' (by (with_reducible repeat (first | apply Kd.R_alloc | apply Kd.R_drewN | apply Kd.R_drew)); exact HO246.out) (Kd.R_base ho1) hb); have n1_ := Aside0.mk (Kd.R_lower ho0 (below_size (by repeat (first | (with_reducible first | exact HB.out | apply below_alloc | apply pw_below_drewN | apply below_drew1) | exact HB.out)))); have n2_ := Aside0.mk (Kd.R_lower (Kd.R_new' ho1 (Kd.R_lt (by (with_reducible repeat (first | apply Kd.R_alloc | apply Kd.R_drewN | apply Kd.R_drew)); exact HO246.out))) (below_size (by repeat (first | (with_reducible first | exact HB.out | apply below_alloc | apply pw_below_drewN | apply below_drew1) | exact HB.out)))); have n3_ := Aside0.mk (below_step (by repeat (first | (with_reducible first | exact HB.out | apply below_alloc | apply pw_below_drewN | apply below_drew1) | exact HB.out)) hb); clear HO246; clear HB; have HO246 := n0_; have HO250 := n1_; have HO253 := n2_; have HB := n3_; clear n0_ n1_ n2_ n3_; (try clear hb); (try clear hb2); (try clear hk); (try clear hi); (try clear ho0); (try clear ho1)) | ((with_reducible refine gate_dst (N := 1) rfl ?_); (try (refine gate_guard (by rfl) ?_; dsimp only)); refine box_event ?hg (N := 1) ?hd (cs := #[.int .i64 0, .slice none 0 0]) (t := 50) ?hr ?_; (case hd => rfl); (case hg => rfl); (case hr => first | (go_simp; done) | (go_simp; rfl)); intro gb255 hg w34 hbox hb; have n0_ := Aside0.mk (Kd.R_below (by (with_reducible repeat (first | apply Kd.R_alloc | apply Kd.R_drewN | apply Kd.R_drew)); exact HO246.out) hb); have n1_ := Aside0.mk (Kd.R_below (by (with_reducible repeat (first | apply Kd.R_alloc | apply Kd.R_drewN | apply Kd.R_drew)); exact HO250.out) hb); have n2_ := Aside0.mk (Kd.R_below (by (with_reducible repeat (first | apply Kd.R_alloc | apply Kd.R_drewN | apply Kd.R_drew)); exact HO253.out) hb); have n3_ := Aside0.mk (below_step (by repeat (first | (with_reducible first | exact HB.out | apply below_alloc | apply pw_below_drewN | apply below_drew1) | exact HB.out)) hb); have n4_ := Aside0.mk (hbox); have n5_ := Aside0.mk ((by rw [hg]; exact (below_size (by repeat (first | (with_reducible first | exact HB.out | apply below_alloc | apply pw_below_drewN | apply below_drew1) | exact HB.out))) : w.heap.size ≤ gb255)); have n6_ := Aside0.mk ((by rw [hg]; exact (below_size (by repeat (first | (with_reducible first | exact HB.out | apply below_alloc | apply pw_below_drewN | apply below_drew1) | exact HB.out))) : w.heap.size ≤ gb255)); clear HO246; clear HO250; clear HO253; clear HB; have HO246 := n0_; have HO250 := n1_; have HO253 := n2_; have HB := n3_; have BK255 := n4_; have GW255 := n5_; have GE255 := n6_; clear n0_ n1_ n2_ n3_ n4_ n5_ n6_; clear hb hbox hg; have hcz35_0 : w34.cell? ⟨gb255, 0, none⟩ = some (.int .i64 0) := (blk_cell BK255.out 0).trans rfl; have hcz35_1 : w34.cell? ⟨gb255, 1, none⟩ = some (.slice none 0 0) := (blk_cell BK255.out 1).trans rfl; have hfz35_0 := blk_frozen BK255.out 0; have hfz35_1 := blk_frozen BK255.out 1; obtain ⟨Ao36, co36, eo36⟩ := Kd.R_slice HO250.out; subst eo36) | ((with_reducible refine gate_callee (f := 34) rfl ?_); refine goesL_ (some 16) rfl rfl Try.func34 (by kernel_rfl) rfl #[.agg #[.int .i64 t247, .slice Ao36 t248.length co36], .int .i64 1] rfl (by (try simp only [List.map_toArray, List.map_cons, List.map_nil]); first | done | rfl | (simp only [List.length_drop, List.length_take]; rfl)) ?_; (with_reducible refine (treap_Find.calls t247 _ _ t248 1 t256 t257 _ ?side1 ?side2 A2.out).mono ?_); (case side1 => refine (Kd.R_reads' (e := 87) (base := w.heap.size) (ok := fun k_ => True) (n := t248.length) (c := co36) ?_).2.2; exact (by (with_reducible repeat (first | apply Kd.R_alloc | apply Kd.R_drewN | apply Kd.R_drew)); exact (Kd.R_mono (Kd.R_far (p := ⟨gb255, 1, none⟩) (Kd.R_far (p := ⟨gb255, 0, none⟩) (Kd.R_types HO250.out BK255.out (by decide)) (fun _ hk => hk.2) (.int .i64 t247)) (fun _ hk => hk.2) (.slice Ao36 t248.length co36)) (fun _ h_ => h_.1)))); (case side2 => exact (Kd.R_reads' HO250.out).2.1); rintro e w37 ⟨rfl, hb⟩; refine ⟨_, rfl, ?_⟩; have n0_ := Aside0.mk (Kd.R_below (by (with_reducible repeat (first | apply Kd.R_alloc | apply Kd.R_drewN | apply Kd.R_drew)); exact (Kd.R_mono (Kd.R_far (p := ⟨gb255, 1, none⟩) (Kd.R_far (p := ⟨gb255, 0, none⟩) (Kd.R_types HO246.out BK255.out (by decide)) (fun _ hk => hk.2) (.int .i64 t247)) (fun _ hk => hk.2) (.slice Ao36 t248.length co36)) (fun _ h_ => h_.1))) hb); have n1_ := Aside0.mk (Kd.R_below (by (with_reducible repeat (first | apply Kd.R_alloc | apply Kd.R_drewN | apply Kd.R_drew)); exact (Kd.R_mono (Kd.R_far (p := ⟨gb255, 1, none⟩) (Kd.R_far (p := ⟨gb255, 0, none⟩) (Kd.R_types HO250.out BK255.out (by decide)) (fun _ hk => hk.2) (.int .i64 t247)) (fun _ hk => hk.2) (.slice Ao36 t248.length co36)) (fun _ h_ => h_.1))) hb); have n2_ := Aside0.mk (Kd.R_below (by (with_reducible repeat (first | apply Kd.R_alloc | apply Kd.R_drewN | apply Kd.R_drew)); exact (Kd.R_mono (Kd.R_far (p := ⟨gb255, 1, none⟩) (Kd.R_far (p := ⟨gb255, 0, none⟩) (Kd.R_types HO253.out BK255.out (by decide)) (fun _ hk => hk.2) (.int .i64 t247)) (fun _ hk => hk.2) (.slice Ao36 t248.length co36)) (fun _ h_ => h_.1))) hb); have n3_ := Aside0.mk (blk_below (g := gb255) (o := .cells #[.int .i64 t247, .slice Ao36 t248.length co36] 50 (0, 0)) (by (with_reducible repeat (first | refine blk_drewN ?_ _ | refine blk_drew ?_ | refine blk_alloc ?_ _)); refine blk_put (cs := #[.int .i64 t247, .slice none 0 0]) ?_ 1 _ rfl; (with_reducible repeat (first | refine blk_drewN ?_ _ | refine blk_drew ?_ | refine blk_alloc ?_ _)); refine blk_put (cs := #[.int .i64 0, .slice none 0 0]) ?_ 0 _ rfl; (with_reducible repeat (first | refine blk_drewN ?_ _ | refine blk_drew ?_ | refine blk_alloc ?_ _)); exact BK255.out) hb); have n4_ := Aside0.mk (below_step (by repeat (first | (with_reducible first | exact HB.out | apply below_alloc | apply pw_below_drewN | apply below_drew1 | refine below_set ?_ GE255.out) | exact HB.out)) hb); clear HO246; clear HO250; clear HO253; clear BK255; clear HB; have HO246 := n0_; have HO250 := n1_; have HO253 := n2_; have BK255 := n3_; have HB := n4_; clear n0_ n1_ n2_ n3_ n4_; (try clear hb); (try clear hb2); (try clear hk); (try clear hi); have hcz38_0 : w37.cell? ⟨gb255, 0, none⟩ = some (.int .i64 t247) := (blk_cell BK255.out 0).trans rfl; have hcz38_1 : w37.cell? ⟨gb255, 1, none⟩ = some (.slice Ao36 t248.length co36) := (blk_cell BK255.out 1).trans rfl; have hfz38_0 := blk_frozen BK255.out 0; have hfz38_1 := blk_frozen BK255.out 1) | ((with_reducible refine gate_callee (f := 34) rfl ?_); refine goesL_ (some 21) rfl rfl Try.func34 (by kernel_rfl) rfl #[.agg #[.int .i64 t247, .slice Ao36 t248.length co36], .int .i64 2] rfl (by (try simp only [List.map_toArray, List.map_cons, List.map_nil]); first | done | rfl | (simp only [List.length_drop, List.length_take]; rfl)) ?_; (with_reducible refine (treap_Find.calls t247 _ _ t248 2 t258 t259 _ ?side1 ?side2 A3.out).mono ?_); (case side1 => repeat (first | exact (Kd.R_reads' HO250.out).2.2 | (with_reducible refine Kd.C_alloc ?_ _) | (with_reducible refine Kd.C_drewN ?_ _) | (with_reducible refine Kd.C_drew ?_))); (case side2 => exact (Kd.R_reads' HO250.out).2.1); rintro e w39 ⟨rfl, hb⟩; refine ⟨_, rfl, ?_⟩; have n0_ := Aside0.mk (Kd.R_below (by (with_reducible repeat (first | apply Kd.R_alloc | apply Kd.R_drewN | apply Kd.R_drew)); exact HO246.out) hb); have n1_ := Aside0.mk (Kd.R_below (by (with_reducible repeat (first | apply Kd.R_alloc | apply Kd.R_drewN | apply Kd.R_drew)); exact HO250.out) hb); have n2_ := Aside0.mk (Kd.R_below (by (with_reducible repeat (first | apply Kd.R_alloc | apply Kd.R_drewN | apply Kd.R_drew)); exact HO253.out) hb); have n3_ := Aside0.mk (blk_below (g := gb255) (o := .cells #[.int .i64 t247, .slice Ao36 t248.length co36] 50 (0, 0)) (by (with_reducible repeat (first | refine blk_drewN ?_ _ | refine blk_drew ?_ | refine blk_alloc ?_ _)); exact BK255.out) hb); have n4_ := Aside0.mk (below_step (by repeat (first | (with_reducible first | exact HB.out | apply below_alloc | apply pw_below_drewN | apply below_drew1 | refine below_set ?_ GE255.out) | exact HB.out)) hb); clear HO246; clear HO250; clear HO253; clear BK255; clear HB; have HO246 := n0_; have HO250 := n1_; have HO253 := n2_; have BK255 := n3_; have HB := n4_; clear n0_ n1_ n2_ n3_ n4_; (try clear hb); (try clear hb2); (try clear hk); (try clear hi)))
     go_ret
     exact ⟨by first | rfl | (simp [errW_none, errW_some] <;> rfl) | (simp [*, errW_none, errW_some] <;> rfl), by repeat (first | (with_reducible first | exact HB.out | apply below_alloc | apply pw_below_drewN | apply below_drew1 | refine below_set ?_ GE255.out) | exact HB.out)⟩
   ·rw [if_neg c6] at H
    have c6b0 : (t259 == 0) = false := beq_eq_false_iff_ne.mpr c6
    have c6b1 : (t259 != 0) = true := bne_iff_ne.mpr c6
    obtain rfl := Option.some.inj H
    go_enter Try.func30, Try.ntmps30
    go_wp2_with (first | ((with_reducible refine gate_dst (N := 9) rfl ?_); (try (refine gate_guard (by rfl) ?_; dsimp only)); refine Kd.R_lit (Kd.int .i64) _ 3 ?hg (N := 9) ?hd (xs := ([1, 2, 3] : List Int)) (inner := [.int .i64 1, .int .i64 2, .int .i64 3]) (ok := fun _ => True) (okp := fun _ => True) ?hr ?hp (fun _ hk => hk) trivial (Below.refl _ _) (Nat.le_refl _) (by simp) ?_; (case hd => rfl); (case hg => rfl); (case hr => first | (go_simp; done) | (go_simp; rfl)); (case hp => exact (Reps.one (show Kd.M (Kd.int .i64) _ _ _ 1 [.int .i64 1] from rfl) (Reps.one (show Kd.M (Kd.int .i64) _ _ _ 2 [.int .i64 2] from rfl) (Reps.one (show Kd.M (Kd.int .i64) _ _ _ 3 [.int .i64 3] from rfl) (Reps.none _ _))))); intro v245 w40 ho41 hb hg_ hnew_; clear hg_ hnew_; (first | rw [← Ny244.out] at ho41 | (simp only [Int.reduceToNat] at ho41; rw [← Ny244.out] at ho41)); have n0_ := Aside0.mk (Kd.R_lower ho41 (below_size (by repeat (first | (with_reducible first | exact HB.out | apply below_alloc | apply pw_below_drewN | apply below_drew1) | exact HB.out)))); have n1_ := Aside0.mk (below_step (by repeat (first | (with_reducible first | exact HB.out | apply below_alloc | apply pw_below_drewN | apply below_drew1) | exact HB.out)) hb); clear HB; have HO246 := n0_; have HB := n1_; clear n0_ n1_; clear hb ho41; obtain ⟨Ao42, co42, eo42⟩ := Kd.R_slice HO246.out; subst eo42) | ((with_reducible refine gate_callee (f := 29) rfl ?_); refine goesL_ (some 10) rfl rfl Try.func29 (by kernel_rfl) rfl #[.slice Ao42 y244.length co42] rfl (by (try simp only [List.map_toArray, List.map_cons, List.map_nil]); first | done | rfl | (simp only [List.length_drop, List.length_take]; rfl)) ?_; (with_reducible refine (deadboltlaw08_made.calls k _ _ y244 t247 t248 t251 true _ ?side1 ?side2 A1.out).mono ?_); (case side1 => repeat (first | exact (Kd.R_reads' HO246.out).2.2 | (with_reducible refine Kd.C_alloc ?_ _) | (with_reducible refine Kd.C_drewN ?_ _) | (with_reducible refine Kd.C_drew ?_))); (case side2 => exact (Kd.R_reads' HO246.out).2.1); rintro e w43 ⟨v249, v252, rfl, ho0, ho1, hb⟩; refine ⟨_, rfl, ?_⟩; have n0_ := Aside0.mk (Kd.R_elder' (by (with_reducible repeat (first | apply Kd.R_alloc | apply Kd.R_drewN | apply Kd.R_drew)); exact HO246.out) (Kd.R_base ho1) hb); have n1_ := Aside0.mk (Kd.R_lower ho0 (below_size (by repeat (first | (with_reducible first | exact HB.out | apply below_alloc | apply pw_below_drewN | apply below_drew1) | exact HB.out)))); have n2_ := Aside0.mk (Kd.R_lower (Kd.R_new' ho1 (Kd.R_lt (by (with_reducible repeat (first | apply Kd.R_alloc | apply Kd.R_drewN | apply Kd.R_drew)); exact HO246.out))) (below_size (by repeat (first | (with_reducible first | exact HB.out | apply below_alloc | apply pw_below_drewN | apply below_drew1) | exact HB.out)))); have n3_ := Aside0.mk (below_step (by repeat (first | (with_reducible first | exact HB.out | apply below_alloc | apply pw_below_drewN | apply below_drew1) | exact HB.out)) hb); clear HO246; clear HB; have HO246 := n0_; have HO250 := n1_; have HO253 := n2_; have HB := n3_; clear n0_ n1_ n2_ n3_; (try clear hb); (try clear hb2); (try clear hk); (try clear hi); (try clear ho0); (try clear ho1)) | ((with_reducible refine gate_dst (N := 1) rfl ?_); (try (refine gate_guard (by rfl) ?_; dsimp only)); refine box_event ?hg (N := 1) ?hd (cs := #[.int .i64 0, .slice none 0 0]) (t := 50) ?hr ?_; (case hd => rfl); (case hg => rfl); (case hr => first | (go_simp; done) | (go_simp; rfl)); intro gb255 hg w44 hbox hb; have n0_ := Aside0.mk (Kd.R_below (by (with_reducible repeat (first | apply Kd.R_alloc | apply Kd.R_drewN | apply Kd.R_drew)); exact HO246.out) hb); have n1_ := Aside0.mk (Kd.R_below (by (with_reducible repeat (first | apply Kd.R_alloc | apply Kd.R_drewN | apply Kd.R_drew)); exact HO250.out) hb); have n2_ := Aside0.mk (Kd.R_below (by (with_reducible repeat (first | apply Kd.R_alloc | apply Kd.R_drewN | apply Kd.R_drew)); exact HO253.out) hb); have n3_ := Aside0.mk (below_step (by repeat (first | (with_reducible first | exact HB.out | apply below_alloc | apply pw_below_drewN | apply below_drew1) | exact HB.out)) hb); have n4_ := Aside0.mk (hbox); have n5_ := Aside0.mk ((by rw [hg]; exact (below_size (by repeat (first | (with_reducible first | exact HB.out | apply below_alloc | apply pw_below_drewN | apply below_drew1) | exact HB.out))) : w.heap.size ≤ gb255)); have n6_ := Aside0.mk ((by rw [hg]; exact (below_size (by repeat (first | (with_reducible first | exact HB.out | apply below_alloc | apply pw_below_drewN | apply below_drew1) | exact HB.out))) : w.heap.size ≤ gb255)); clear HO246; clear HO250; clear HO253; clear HB; have HO246 := n0_; have HO250 := n1_; have HO253 := n2_; have HB := n3_; have BK255 := n4_; have GW255 := n5_; have GE255 := n6_; clear n0_ n1_ n2_ n3_ n4_ n5_ n6_; clear hb hbox hg; have hcz45_0 : w44.cell? ⟨gb255, 0, none⟩ = some (.int .i64 0) := (blk_cell BK255.out 0).trans rfl; have hcz45_1 : w44.cell? ⟨gb255, 1, none⟩ = some (.slice none 0 0) := (blk_cell BK255.out 1).trans rfl; have hfz45_0 := blk_frozen BK255.out 0; have hfz45_1 := blk_frozen BK255.out 1; obtain ⟨Ao46, co46, eo46⟩ := Kd.R_slice HO250.out; subst eo46) | ((with_reducible refine gate_callee (f := 34) rfl ?_); refine goesL_ (some 16) rfl rfl Try.func34 (by kernel_rfl) rfl #[.agg #[.int .i64 t247, .slice Ao46 t248.length co46], .int .i64 1] rfl (by (try simp only [List.map_toArray, List.map_cons, List.map_nil]); first | done | rfl | (simp only [List.length_drop, List.length_take]; rfl)) ?_; (with_reducible refine (treap_Find.calls t247 _ _ t248 1 t256 t257 _ ?side1 ?side2 A2.out).mono ?_); (case side1 => refine (Kd.R_reads' (e := 87) (base := w.heap.size) (ok := fun k_ => True) (n := t248.length) (c := co46) ?_).2.2; exact (by (with_reducible repeat (first | apply Kd.R_alloc | apply Kd.R_drewN | apply Kd.R_drew)); exact (Kd.R_mono (Kd.R_far (p := ⟨gb255, 1, none⟩) (Kd.R_far (p := ⟨gb255, 0, none⟩) (Kd.R_types HO250.out BK255.out (by decide)) (fun _ hk => hk.2) (.int .i64 t247)) (fun _ hk => hk.2) (.slice Ao46 t248.length co46)) (fun _ h_ => h_.1)))); (case side2 => exact (Kd.R_reads' HO250.out).2.1); rintro e w47 ⟨rfl, hb⟩; refine ⟨_, rfl, ?_⟩; have n0_ := Aside0.mk (Kd.R_below (by (with_reducible repeat (first | apply Kd.R_alloc | apply Kd.R_drewN | apply Kd.R_drew)); exact (Kd.R_mono (Kd.R_far (p := ⟨gb255, 1, none⟩) (Kd.R_far (p := ⟨gb255, 0, none⟩) (Kd.R_types HO246.out BK255.out (by decide)) (fun _ hk => hk.2) (.int .i64 t247)) (fun _ hk => hk.2) (.slice Ao46 t248.length co46)) (fun _ h_ => h_.1))) hb); have n1_ := Aside0.mk (Kd.R_below (by (with_reducible repeat (first | apply Kd.R_alloc | apply Kd.R_drewN | apply Kd.R_drew)); exact (Kd.R_mono (Kd.R_far (p := ⟨gb255, 1, none⟩) (Kd.R_far (p := ⟨gb255, 0, none⟩) (Kd.R_types HO250.out BK255.out (by decide)) (fun _ hk => hk.2) (.int .i64 t247)) (fun _ hk => hk.2) (.slice Ao46 t248.length co46)) (fun _ h_ => h_.1))) hb); have n2_ := Aside0.mk (Kd.R_below (by (with_reducible repeat (first | apply Kd.R_alloc | apply Kd.R_drewN | apply Kd.R_drew)); exact (Kd.R_mono (Kd.R_far (p := ⟨gb255, 1, none⟩) (Kd.R_far (p := ⟨gb255, 0, none⟩) (Kd.R_types HO253.out BK255.out (by decide)) (fun _ hk => hk.2) (.int .i64 t247)) (fun _ hk => hk.2) (.slice Ao46 t248.length co46)) (fun _ h_ => h_.1))) hb); have n3_ := Aside0.mk (blk_below (g := gb255) (o := .cells #[.int .i64 t247, .slice Ao46 t248.length co46] 50 (0, 0)) (by (with_reducible repeat (first | refine blk_drewN ?_ _ | refine blk_drew ?_ | refine blk_alloc ?_ _)); refine blk_put (cs := #[.int .i64 t247, .slice none 0 0]) ?_ 1 _ rfl; (with_reducible repeat (first | refine blk_drewN ?_ _ | refine blk_drew ?_ | refine blk_alloc ?_ _)); refine blk_put (cs := #[.int .i64 0, .slice none 0 0]) ?_ 0 _ rfl; (with_reducible repeat (first | refine blk_drewN ?_ _ | refine blk_drew ?_ | refine blk_alloc ?_ _)); exact BK255.out) hb); have n4_ := Aside0.mk (below_step (by repeat (first | (with_reducible first | exact HB.out | apply below_alloc | apply pw_below_drewN | apply below_drew1 | refine below_set ?_ GE255.out) | exact HB.out)) hb); clear HO246; clear HO250; clear HO253; clear BK255; clear HB; have HO246 := n0_; have HO250 := n1_; have HO253 := n2_; have BK255 := n3_; have HB := n4_; clear n0_ n1_ n2_ n3_ n4_; (try clear hb); (try clear hb2); (try clear hk); (try clear hi); have hcz48_0 : w47.cell? ⟨gb255, 0, none⟩ = some (.int .i64 t247) := (blk_cell BK255.out 0).trans rfl; have hcz48_1 : w47.cell? ⟨gb255, 1, none⟩ = some (.slice Ao46 t248.length co46) := (blk_cell BK255.out 1).trans rfl; have hfz48_0 := blk_frozen BK255.out 0; have hfz48_1 := blk_frozen BK255.out 1) | ((with_reducible refine gate_callee (f := 34) rfl ?_); refine goesL_ (some 21) rfl rfl Try.func34 (by kernel_rfl) rfl #[.agg #[.int .i64 t247, .slice Ao46 t248.length co46], .int .i64 2] rfl (by (try simp only [List.map_toArray, List.map_cons, List.map_nil]); first | done | rfl | (simp only [List.length_drop, List.length_take]; rfl)) ?_; (with_reducible refine (treap_Find.calls t247 _ _ t248 2 t258 t259 _ ?side1 ?side2 A3.out).mono ?_); (case side1 => repeat (first | exact (Kd.R_reads' HO250.out).2.2 | (with_reducible refine Kd.C_alloc ?_ _) | (with_reducible refine Kd.C_drewN ?_ _) | (with_reducible refine Kd.C_drew ?_))); (case side2 => exact (Kd.R_reads' HO250.out).2.1); rintro e w49 ⟨rfl, hb⟩; refine ⟨_, rfl, ?_⟩; have n0_ := Aside0.mk (Kd.R_below (by (with_reducible repeat (first | apply Kd.R_alloc | apply Kd.R_drewN | apply Kd.R_drew)); exact HO246.out) hb); have n1_ := Aside0.mk (Kd.R_below (by (with_reducible repeat (first | apply Kd.R_alloc | apply Kd.R_drewN | apply Kd.R_drew)); exact HO250.out) hb); have n2_ := Aside0.mk (Kd.R_below (by (with_reducible repeat (first | apply Kd.R_alloc | apply Kd.R_drewN | apply Kd.R_drew)); exact HO253.out) hb); have n3_ := Aside0.mk (blk_below (g := gb255) (o := .cells #[.int .i64 t247, .slice Ao46 t248.length co46] 50 (0, 0)) (by (with_reducible repeat (first | refine blk_drewN ?_ _ | refine blk_drew ?_ | refine blk_alloc ?_ _)); exact BK255.out) hb); have n4_ := Aside0.mk (below_step (by repeat (first | (with_reducible first | exact HB.out | apply below_alloc | apply pw_below_drewN | apply below_drew1 | refine below_set ?_ GE255.out) | exact HB.out)) hb); clear HO246; clear HO250; clear HO253; clear BK255; clear HB; have HO246 := n0_; have HO250 := n1_; have HO253 := n2_; have BK255 := n3_; have HB := n4_; clear n0_ n1_ n2_ n3_ n4_; (try clear hb); (try clear hb2); (try clear hk); (try clear hi)))
    go_ret
    exact ⟨by first | rfl | (simp [errW_none, errW_some] <;> rfl) | (simp [*, errW_none, errW_some] <;> rfl), by repeat (first | (with_reducible first | exact HB.out | apply below_alloc | apply pw_below_drewN | apply below_drew1 | refine below_set ?_ GE255.out) | exact HB.out)⟩
  ·rw [if_neg c5] at H
   have c5b0 : (t257 == 0) = false := beq_eq_false_iff_ne.mpr c5
   have c5b1 : (t257 != 0) = true := bne_iff_ne.mpr c5
   obtain rfl := Option.some.inj H
   go_enter Try.func30, Try.ntmps30
   go_wp2_with (first | ((with_reducible refine gate_dst (N := 9) rfl ?_); (try (refine gate_guard (by rfl) ?_; dsimp only)); refine Kd.R_lit (Kd.int .i64) _ 3 ?hg (N := 9) ?hd (xs := ([1, 2, 3] : List Int)) (inner := [.int .i64 1, .int .i64 2, .int .i64 3]) (ok := fun _ => True) (okp := fun _ => True) ?hr ?hp (fun _ hk => hk) trivial (Below.refl _ _) (Nat.le_refl _) (by simp) ?_; (case hd => rfl); (case hg => rfl); (case hr => first | (go_simp; done) | (go_simp; rfl)); (case hp => exact (Reps.one (show Kd.M (Kd.int .i64) _ _ _ 1 [.int .i64 1] from rfl) (Reps.one (show Kd.M (Kd.int .i64) _ _ _ 2 [.int .i64 2] from rfl) (Reps.one (show Kd.M (Kd.int .i64) _ _ _ 3 [.int .i64 3] from rfl) (Reps.none _ _))))); intro v245 w50 ho51 hb hg_ hnew_; clear hg_ hnew_; (first | rw [← Ny244.out] at ho51 | (simp only [Int.reduceToNat] at ho51; rw [← Ny244.out] at ho51)); have n0_ := Aside0.mk (Kd.R_lower ho51 (below_size (by repeat (first | (with_reducible first | exact HB.out | apply below_alloc | apply pw_below_drewN | apply below_drew1) | exact HB.out)))); have n1_ := Aside0.mk (below_step (by repeat (first | (with_reducible first | exact HB.out | apply below_alloc | apply pw_below_drewN | apply below_drew1) | exact HB.out)) hb); clear HB; have HO246 := n0_; have HB := n1_; clear n0_ n1_; clear hb ho51; obtain ⟨Ao52, co52, eo52⟩ := Kd.R_slice HO246.out; subst eo52) | ((with_reducible refine gate_callee (f := 29) rfl ?_); refine goesL_ (some 10) rfl rfl Try.func29 (by kernel_rfl) rfl #[.slice Ao52 y244.length co52] rfl (by (try simp only [List.map_toArray, List.map_cons, List.map_nil]); first | done | rfl | (simp only [List.length_drop, List.length_take]; rfl)) ?_; (with_reducible refine (deadboltlaw08_made.calls k _ _ y244 t247 t248 t251 true _ ?side1 ?side2 A1.out).mono ?_); (case side1 => repeat (first | exact (Kd.R_reads' HO246.out).2.2 | (with_reducible refine Kd.C_alloc ?_ _) | (with_reducible refine Kd.C_drewN ?_ _) | (with_reducible refine Kd.C_drew ?_))); (case side2 => exact (Kd.R_reads' HO246.out).2.1); rintro e w53 ⟨v249, v252, rfl, ho0, ho1, hb⟩; refine ⟨_, rfl, ?_⟩; have n0_ := Aside0.mk (Kd.R_elder' (by (with_reducible repeat (first | apply Kd.R_alloc | apply Kd.R_drewN | apply Kd.R_drew)); exact HO246.out) (Kd.R_base ho1) hb); have n1_ := Aside0.mk (Kd.R_lower ho0 (below_size (by repeat (first | (with_reducible first | exact HB.out | apply below_alloc | apply pw_below_drewN | apply below_drew1) | exact HB.out)))); have n2_ := Aside0.mk (Kd.R_lower (Kd.R_new' ho1 (Kd.R_lt (by (with_reducible repeat (first | apply Kd.R_alloc | apply Kd.R_drewN | apply Kd.R_drew)); exact HO246.out))) (below_size (by repeat (first | (with_reducible first | exact HB.out | apply below_alloc | apply pw_below_drewN | apply below_drew1) | exact HB.out)))); have n3_ := Aside0.mk (below_step (by repeat (first | (with_reducible first | exact HB.out | apply below_alloc | apply pw_below_drewN | apply below_drew1) | exact HB.out)) hb); clear HO246; clear HB; have HO246 := n0_; have HO250 := n1_; have HO253 := n2_; have HB := n3_; clear n0_ n1_ n2_ n3_; (try clear hb); (try clear hb2); (try clear hk); (try clear hi); (try clear ho0); (try clear ho1)) | ((with_reducible refine gate_dst (N := 1) rfl ?_); (try (refine gate_guard (by rfl) ?_; dsimp only)); refine box_event ?hg (N := 1) ?hd (cs := #[.int .i64 0, .slice none 0 0]) (t := 50) ?hr ?_; (case hd => rfl); (case hg => rfl); (case hr => first | (go_simp; done) | (go_simp; rfl)); intro gb255 hg w54 hbox hb; have n0_ := Aside0.mk (Kd.R_below (by (with_reducible repeat (first | apply Kd.R_alloc | apply Kd.R_drewN | apply Kd.R_drew)); exact HO246.out) hb); have n1_ := Aside0.mk (Kd.R_below (by (with_reducible repeat (first | apply Kd.R_alloc | apply Kd.R_drewN | apply Kd.R_drew)); exact HO250.out) hb); have n2_ := Aside0.mk (Kd.R_below (by (with_reducible repeat (first | apply Kd.R_alloc | apply Kd.R_drewN | apply Kd.R_drew)); exact HO253.out) hb); have n3_ := Aside0.mk (below_step (by repeat (first | (with_reducible first | exact HB.out | apply below_alloc | apply pw_below_drewN | apply below_drew1) | exact HB.out)) hb); have n4_ := Aside0.mk (hbox); have n5_ := Aside0.mk ((by rw [hg]; exact (below_size (by repeat (first | (with_reducible first | exact HB.out | apply below_alloc | apply pw_below_drewN | apply below_drew1) | exact HB.out))) : w.heap.size ≤ gb255)); have n6_ := Aside0.mk ((by rw [hg]; exact (below_size (by repeat (first | (with_reducible first | exact HB.out | apply below_alloc | apply pw_below_drewN | apply below_drew1) | exact HB.out))) : w.heap.size ≤ gb255)); clear HO246; clear HO250; clear HO253; clear HB; have HO246 := n0_; have HO250 := n1_; have HO253 := n2_; have HB := n3_; have BK255 := n4_; have GW255 := n5_; have GE255 := n6_; clear n0_ n1_ n2_ n3_ n4_ n5_ n6_; clear hb hbox hg; have hcz55_0 : w54.cell? ⟨gb255, 0, none⟩ = some (.int .i64 0) := (blk_cell BK255.out 0).trans rfl; have hcz55_1 : w54.cell? ⟨gb255, 1, none⟩ = some (.slice none 0 0) := (blk_cell BK255.out 1).trans rfl; have hfz55_0 := blk_frozen BK255.out 0; have hfz55_1 := blk_frozen BK255.out 1; obtain ⟨Ao56, co56, eo56⟩ := Kd.R_slice HO250.out; subst eo56) | ((with_reducible refine gate_callee (f := 34) rfl ?_); refine goesL_ (some 16) rfl rfl Try.func34 (by kernel_rfl) rfl #[.agg #[.int .i64 t247, .slice Ao56 t248.length co56], .int .i64 1] rfl (by (try simp only [List.map_toArray, List.map_cons, List.map_nil]); first | done | rfl | (simp only [List.length_drop, List.length_take]; rfl)) ?_; (with_reducible refine (treap_Find.calls t247 _ _ t248 1 t256 t257 _ ?side1 ?side2 A2.out).mono ?_); (case side1 => refine (Kd.R_reads' (e := 87) (base := w.heap.size) (ok := fun k_ => True) (n := t248.length) (c := co56) ?_).2.2; exact (by (with_reducible repeat (first | apply Kd.R_alloc | apply Kd.R_drewN | apply Kd.R_drew)); exact (Kd.R_mono (Kd.R_far (p := ⟨gb255, 1, none⟩) (Kd.R_far (p := ⟨gb255, 0, none⟩) (Kd.R_types HO250.out BK255.out (by decide)) (fun _ hk => hk.2) (.int .i64 t247)) (fun _ hk => hk.2) (.slice Ao56 t248.length co56)) (fun _ h_ => h_.1)))); (case side2 => exact (Kd.R_reads' HO250.out).2.1); rintro e w57 ⟨rfl, hb⟩; refine ⟨_, rfl, ?_⟩; have n0_ := Aside0.mk (Kd.R_below (by (with_reducible repeat (first | apply Kd.R_alloc | apply Kd.R_drewN | apply Kd.R_drew)); exact (Kd.R_mono (Kd.R_far (p := ⟨gb255, 1, none⟩) (Kd.R_far (p := ⟨gb255, 0, none⟩) (Kd.R_types HO246.out BK255.out (by decide)) (fun _ hk => hk.2) (.int .i64 t247)) (fun _ hk => hk.2) (.slice Ao56 t248.length co56)) (fun _ h_ => h_.1))) hb); have n1_ := Aside0.mk (Kd.R_below (by (with_reducible repeat (first | apply Kd.R_alloc | apply Kd.R_drewN | apply Kd.R_drew)); exact (Kd.R_mono (Kd.R_far (p := ⟨gb255, 1, none⟩) (Kd.R_far (p := ⟨gb255, 0, none⟩) (Kd.R_types HO250.out BK255.out (by decide)) (fun _ hk => hk.2) (.int .i64 t247)) (fun _ hk => hk.2) (.slice Ao56 t248.length co56)) (fun _ h_ => h_.1))) hb); have n2_ := Aside0.mk (Kd.R_below (by (with_reducible repeat (first | apply Kd.R_alloc | apply Kd.R_drewN | apply Kd.R_drew)); exact (Kd.R_mono (Kd.R_far (p := ⟨gb255, 1, none⟩) (Kd.R_far (p := ⟨gb255, 0, none⟩) (Kd.R_types HO253.out BK255.out (by decide)) (fun _ hk => hk.2) (.int .i64 t247)) (fun _ hk => hk.2) (.slice Ao56 t248.length co56)) (fun _ h_ => h_.1))) hb); have n3_ := Aside0.mk (blk_below (g := gb255) (o := .cells #[.int .i64 t247, .slice Ao56 t248.length co56] 50 (0, 0)) (by (with_reducible repeat (first | refine blk_drewN ?_ _ | refine blk_drew ?_ | refine blk_alloc ?_ _)); refine blk_put (cs := #[.int .i64 t247, .slice none 0 0]) ?_ 1 _ rfl; (with_reducible repeat (first | refine blk_drewN ?_ _ | refine blk_drew ?_ | refine blk_alloc ?_ _)); refine blk_put (cs := #[.int .i64 0, .slice none 0 0]) ?_ 0 _ rfl; (with_reducible repeat (first | refine blk_drewN ?_ _ | refine blk_drew ?_ | refine blk_alloc ?_ _)); exact BK255.out) hb); have n4_ := Aside0.mk (below_step (by repeat (first | (with_reducible first | exact HB.out | apply below_alloc | apply pw_below_drewN | apply below_drew1 | refine below_set ?_ GE255.out) | exact HB.out)) hb); clear HO246; clear HO250; clear HO253; clear BK255; clear HB; have HO246 := n0_; have HO250 := n1_; have HO253 := n2_; have BK255 := n3_; have HB := n4_; clear n0_ n1_ n2_ n3_ n4_; (try clear hb); (try clear hb2); (try clear hk); (try clear hi); have hcz58_0 : w57.cell? ⟨gb255, 0, none⟩ = some (.int .i64 t247) := (blk_cell BK255.out 0).trans rfl; have hcz58_1 : w57.cell? ⟨gb255, 1, none⟩ = some (.slice Ao56 t248.length co56) := (blk_cell BK255.out 1).trans rfl; have hfz58_0 := blk_frozen BK255.out 0; have hfz58_1 := blk_frozen BK255.out 1) | ((with_reducible refine gate_callee (f := 34) rfl ?_); refine goesL_ (some 21) rfl rfl Try.func34 (by kernel_rfl) rfl #[.agg #[.int .i64 t247, .slice Ao56 t248.length co56], .int .i64 2] rfl (by (try simp only [List.map_toArray, List.map_cons, List.map_nil]); first | done | rfl | (simp only [List.length_drop, List.length_take]; rfl)) ?_; (with_reducible refine (treap_Find.calls t247 _ _ t248 2 t258 t259 _ ?side1 ?side2 A3.out).mono ?_); (case side1 => repeat (first | exact (Kd.R_reads' HO250.out).2.2 | (with_reducible refine Kd.C_alloc ?_ _) | (with_reducible refine Kd.C_drewN ?_ _) | (with_reducible refine Kd.C_drew ?_))); (case side2 => exact (Kd.R_reads' HO250.out).2.1); rintro e w59 ⟨rfl, hb⟩; refine ⟨_, rfl, ?_⟩; have n0_ := Aside0.mk (Kd.R_below (by (with_reducible repeat (first | apply Kd.R_alloc | apply Kd.R_drewN | apply Kd.R_drew)); exact HO246.out) hb); have n1_ := Aside0.mk (Kd.R_below (by (with_reducible repeat (first | apply Kd.R_alloc | apply Kd.R_drewN | apply Kd.R_drew)); exact HO250.out) hb); have n2_ := Aside0.mk (Kd.R_below (by (with_reducible repeat (first | apply Kd.R_alloc | apply Kd.R_drewN | apply Kd.R_drew)); exact HO253.out) hb); have n3_ := Aside0.mk (blk_below (g := gb255) (o := .cells #[.int .i64 t247, .slice Ao56 t248.length co56] 50 (0, 0)) (by (with_reducible repeat (first | refine blk_drewN ?_ _ | refine blk_drew ?_ | refine blk_alloc ?_ _)); exact BK255.out) hb); have n4_ := Aside0.mk (below_step (by repeat (first | (with_reducible first | exact HB.out | apply below_alloc | apply pw_below_drewN | apply below_drew1 | refine below_set ?_ GE255.out) | exact HB.out)) hb); clear HO246; clear HO250; clear HO253; clear BK255; clear HB; have HO246 := n0_; have HO250 := n1_; have HO253 := n2_; have BK255 := n3_; have HB := n4_; clear n0_ n1_ n2_ n3_ n4_; (try clear hb); (try clear hb2); (try clear hk); (try clear hi)))
   go_ret
   exact ⟨by first | rfl | (simp [errW_none, errW_some] <;> rfl) | (simp [*, errW_none, errW_some] <;> rfl), by repeat (first | (with_reducible first | exact HB.out | apply below_alloc | apply pw_below_drewN | apply below_drew1 | refine below_set ?_ GE255.out) | exact HB.out)⟩
 ·replace c4 := Bool.eq_false_iff.mpr c4
  subst c4
  have H1 : (some false) = some r := by rw [if_neg (show ¬ (false = true) by decide)] at H; exact H
  clear H
  have H := H1
  clear H1
  obtain rfl := Option.some.inj H
  go_enter Try.func30, Try.ntmps30
  go_wp2_with (first | ((with_reducible refine gate_dst (N := 9) rfl ?_); (try (refine gate_guard (by rfl) ?_; dsimp only)); refine Kd.R_lit (Kd.int .i64) _ 3 ?hg (N := 9) ?hd (xs := ([1, 2, 3] : List Int)) (inner := [.int .i64 1, .int .i64 2, .int .i64 3]) (ok := fun _ => True) (okp := fun _ => True) ?hr ?hp (fun _ hk => hk) trivial (Below.refl _ _) (Nat.le_refl _) (by simp) ?_; (case hd => rfl); (case hg => rfl); (case hr => first | (go_simp; done) | (go_simp; rfl)); (case hp => exact (Reps.one (show Kd.M (Kd.int .i64) _ _ _ 1 [.int .i64 1] from rfl) (Reps.one (show Kd.M (Kd.int .i64) _ _ _ 2 [.int .i64 2] from rfl) (Reps.one (show Kd.M (Kd.int .i64) _ _ _ 3 [.int .i64 3] from rfl) (Reps.none _ _))))); intro v245 w60 ho61 hb hg_ hnew_; clear hg_ hnew_; (first | rw [← Ny244.out] at ho61 | (simp only [Int.reduceToNat] at ho61; rw [← Ny244.out] at ho61)); have n0_ := Aside0.mk (Kd.R_lower ho61 (below_size (by repeat (first | (with_reducible first | exact HB.out | apply below_alloc | apply pw_below_drewN | apply below_drew1) | exact HB.out)))); have n1_ := Aside0.mk (below_step (by repeat (first | (with_reducible first | exact HB.out | apply below_alloc | apply pw_below_drewN | apply below_drew1) | exact HB.out)) hb); clear HB; have HO246 := n0_; have HB := n1_; clear n0_ n1_; clear hb ho61; obtain ⟨Ao62, co62, eo62⟩ := Kd.R_slice HO246.out; subst eo62) | ((with_reducible refine gate_callee (f := 29) rfl ?_); refine goesL_ (some 10) rfl rfl Try.func29 (by kernel_rfl) rfl #[.slice Ao62 y244.length co62] rfl (by (try simp only [List.map_toArray, List.map_cons, List.map_nil]); first | done | rfl | (simp only [List.length_drop, List.length_take]; rfl)) ?_; (with_reducible refine (deadboltlaw08_made.calls k _ _ y244 t247 t248 t251 false _ ?side1 ?side2 A1.out).mono ?_); (case side1 => repeat (first | exact (Kd.R_reads' HO246.out).2.2 | (with_reducible refine Kd.C_alloc ?_ _) | (with_reducible refine Kd.C_drewN ?_ _) | (with_reducible refine Kd.C_drew ?_))); (case side2 => exact (Kd.R_reads' HO246.out).2.1); rintro e w63 ⟨v249, v252, rfl, ho0, ho1, hb⟩; refine ⟨_, rfl, ?_⟩; have n0_ := Aside0.mk (Kd.R_elder' (by (with_reducible repeat (first | apply Kd.R_alloc | apply Kd.R_drewN | apply Kd.R_drew)); exact HO246.out) (Kd.R_base ho1) hb); have n1_ := Aside0.mk (Kd.R_lower ho0 (below_size (by repeat (first | (with_reducible first | exact HB.out | apply below_alloc | apply pw_below_drewN | apply below_drew1) | exact HB.out)))); have n2_ := Aside0.mk (Kd.R_lower (Kd.R_new' ho1 (Kd.R_lt (by (with_reducible repeat (first | apply Kd.R_alloc | apply Kd.R_drewN | apply Kd.R_drew)); exact HO246.out))) (below_size (by repeat (first | (with_reducible first | exact HB.out | apply below_alloc | apply pw_below_drewN | apply below_drew1) | exact HB.out)))); have n3_ := Aside0.mk (below_step (by repeat (first | (with_reducible first | exact HB.out | apply below_alloc | apply pw_below_drewN | apply below_drew1) | exact HB.out)) hb); clear HO246; clear HB; have HO246 := n0_; have HO250 := n1_; have HO253 := n2_; have HB := n3_; clear n0_ n1_ n2_ n3_; (try clear hb); (try clear hb2); (try clear hk); (try clear hi); (try clear ho0); (try clear ho1)) | ((with_reducible refine gate_dst (N := 1) rfl ?_); (try (refine gate_guard (by rfl) ?_; dsimp only)); refine box_event ?hg (N := 1) ?hd (cs := #[.int .i64 0, .slice none 0 0]) (t := 50) ?hr ?_; (case hd => rfl); (case hg => rfl); (case hr => first | (go_simp; done) | (go_simp; rfl)); intro gb255 hg w64 hbox hb; have n0_ := Aside0.mk (Kd.R_below (by (with_reducible repeat (first | apply Kd.R_alloc | apply Kd.R_drewN | apply Kd.R_drew)); exact HO246.out) hb); have n1_ := Aside0.mk (Kd.R_below (by (with_reducible repeat (first | apply Kd.R_alloc | apply Kd.R_drewN | apply Kd.R_drew)); exact HO250.out) hb); have n2_ := Aside0.mk (Kd.R_below (by (with_reducible repeat (first | apply Kd.R_alloc | apply Kd.R_drewN | apply Kd.R_drew)); exact HO253.out) hb); have n3_ := Aside0.mk (below_step (by repeat (first | (with_reducible first | exact HB.out | apply below_alloc | apply pw_below_drewN | apply below_drew1) | exact HB.out)) hb); have n4_ := Aside0.mk (hbox); have n5_ := Aside0.mk ((by rw [hg]; exact (below_size (by repeat (first | (with_reducible first | exact HB.out | apply below_alloc | apply pw_below_drewN | apply below_drew1) | exact HB.out))) : w.heap.size ≤ gb255)); have n6_ := Aside0.mk ((by rw [hg]; exact (below_size (by repeat (first | (with_reducible first | exact HB.out | apply below_alloc | apply pw_below_drewN | apply below_drew1) | exact HB.out))) : w.heap.size ≤ gb255)); clear HO246; clear HO250; clear HO253; clear HB; have HO246 := n0_; have HO250 := n1_; have HO253 := n2_; have HB := n3_; have BK255 := n4_; have GW255 := n5_; have GE255 := n6_; clear n0_ n1_ n2_ n3_ n4_ n5_ n6_; clear hb hbox hg; have hcz65_0 : w64.cell? ⟨gb255, 0, none⟩ = some (.int .i64 0) := (blk_cell BK255.out 0).trans rfl; have hcz65_1 : w64.cell? ⟨gb255, 1, none⟩ = some (.slice none 0 0) := (blk_cell BK255.out 1).trans rfl; have hfz65_0 := blk_frozen BK255.out 0; have hfz65_1 := blk_frozen BK255.out 1; obtain ⟨Ao66, co66, eo66⟩ := Kd.R_slice HO250.out; subst eo66) | ((with_reducible refine gate_callee (f := 34) rfl ?_); refine goesL_ (some 16) rfl rfl Try.func34 (by kernel_rfl) rfl #[.agg #[.int .i64 t247, .slice Ao66 t248.length co66], .int .i64 1] rfl (by (try simp only [List.map_toArray, List.map_cons, List.map_nil]); first | done | rfl | (simp only [List.length_drop, List.length_take]; rfl)) ?_; (with_reducible refine (treap_Find.calls t247 _ _ t248 1 t256 t257 _ ?side1 ?side2 A2.out).mono ?_); (case side1 => refine (Kd.R_reads' (e := 87) (base := w.heap.size) (ok := fun k_ => True) (n := t248.length) (c := co66) ?_).2.2; exact (by (with_reducible repeat (first | apply Kd.R_alloc | apply Kd.R_drewN | apply Kd.R_drew)); exact (Kd.R_mono (Kd.R_far (p := ⟨gb255, 1, none⟩) (Kd.R_far (p := ⟨gb255, 0, none⟩) (Kd.R_types HO250.out BK255.out (by decide)) (fun _ hk => hk.2) (.int .i64 t247)) (fun _ hk => hk.2) (.slice Ao66 t248.length co66)) (fun _ h_ => h_.1)))); (case side2 => exact (Kd.R_reads' HO250.out).2.1); rintro e w67 ⟨rfl, hb⟩; refine ⟨_, rfl, ?_⟩; have n0_ := Aside0.mk (Kd.R_below (by (with_reducible repeat (first | apply Kd.R_alloc | apply Kd.R_drewN | apply Kd.R_drew)); exact (Kd.R_mono (Kd.R_far (p := ⟨gb255, 1, none⟩) (Kd.R_far (p := ⟨gb255, 0, none⟩) (Kd.R_types HO246.out BK255.out (by decide)) (fun _ hk => hk.2) (.int .i64 t247)) (fun _ hk => hk.2) (.slice Ao66 t248.length co66)) (fun _ h_ => h_.1))) hb); have n1_ := Aside0.mk (Kd.R_below (by (with_reducible repeat (first | apply Kd.R_alloc | apply Kd.R_drewN | apply Kd.R_drew)); exact (Kd.R_mono (Kd.R_far (p := ⟨gb255, 1, none⟩) (Kd.R_far (p := ⟨gb255, 0, none⟩) (Kd.R_types HO250.out BK255.out (by decide)) (fun _ hk => hk.2) (.int .i64 t247)) (fun _ hk => hk.2) (.slice Ao66 t248.length co66)) (fun _ h_ => h_.1))) hb); have n2_ := Aside0.mk (Kd.R_below (by (with_reducible repeat (first | apply Kd.R_alloc | apply Kd.R_drewN | apply Kd.R_drew)); exact (Kd.R_mono (Kd.R_far (p := ⟨gb255, 1, none⟩) (Kd.R_far (p := ⟨gb255, 0, none⟩) (Kd.R_types HO253.out BK255.out (by decide)) (fun _ hk => hk.2) (.int .i64 t247)) (fun _ hk => hk.2) (.slice Ao66 t248.length co66)) (fun _ h_ => h_.1))) hb); have n3_ := Aside0.mk (blk_below (g := gb255) (o := .cells #[.int .i64 t247, .slice Ao66 t248.length co66] 50 (0, 0)) (by (with_reducible repeat (first | refine blk_drewN ?_ _ | refine blk_drew ?_ | refine blk_alloc ?_ _)); refine blk_put (cs := #[.int .i64 t247, .slice none 0 0]) ?_ 1 _ rfl; (with_reducible repeat (first | refine blk_drewN ?_ _ | refine blk_drew ?_ | refine blk_alloc ?_ _)); refine blk_put (cs := #[.int .i64 0, .slice none 0 0]) ?_ 0 _ rfl; (with_reducible repeat (first | refine blk_drewN ?_ _ | refine blk_drew ?_ | refine blk_alloc ?_ _)); exact BK255.out) hb); have n4_ := Aside0.mk (below_step (by repeat (first | (with_reducible first | exact HB.out | apply below_alloc | apply pw_below_drewN | apply below_drew1 | refine below_set ?_ GE255.out) | exact HB.out)) hb); clear HO246; clear HO250; clear HO253; clear BK255; clear HB; have HO246 := n0_; have HO250 := n1_; have HO253 := n2_; have BK255 := n3_; have HB := n4_; clear n0_ n1_ n2_ n3_ n4_; (try clear hb); (try clear hb2); (try clear hk); (try clear hi); have hcz68_0 : w67.cell? ⟨gb255, 0, none⟩ = some (.int .i64 t247) := (blk_cell BK255.out 0).trans rfl; have hcz68_1 : w67.cell? ⟨gb255, 1, none⟩ = some (.slice Ao66 t248.length co66) := (blk_cell BK255.out 1).trans rfl; have hfz68_0 := blk_frozen BK255.out 0; have hfz68_1 := blk_frozen BK255.out 1) | ((with_reducible refine gate_callee (f := 34) rfl ?_); refine goesL_ (some 21) rfl rfl Try.func34 (by kernel_rfl) rfl #[.agg #[.int .i64 t247, .slice Ao66 t248.length co66], .int .i64 2] rfl (by (try simp only [List.map_toArray, List.map_cons, List.map_nil]); first | done | rfl | (simp only [List.length_drop, List.length_take]; rfl)) ?_; (with_reducible refine (treap_Find.calls t247 _ _ t248 2 t258 t259 _ ?side1 ?side2 A3.out).mono ?_); (case side1 => repeat (first | exact (Kd.R_reads' HO250.out).2.2 | (with_reducible refine Kd.C_alloc ?_ _) | (with_reducible refine Kd.C_drewN ?_ _) | (with_reducible refine Kd.C_drew ?_))); (case side2 => exact (Kd.R_reads' HO250.out).2.1); rintro e w69 ⟨rfl, hb⟩; refine ⟨_, rfl, ?_⟩; have n0_ := Aside0.mk (Kd.R_below (by (with_reducible repeat (first | apply Kd.R_alloc | apply Kd.R_drewN | apply Kd.R_drew)); exact HO246.out) hb); have n1_ := Aside0.mk (Kd.R_below (by (with_reducible repeat (first | apply Kd.R_alloc | apply Kd.R_drewN | apply Kd.R_drew)); exact HO250.out) hb); have n2_ := Aside0.mk (Kd.R_below (by (with_reducible repeat (first | apply Kd.R_alloc | apply Kd.R_drewN | apply Kd.R_drew)); exact HO253.out) hb); have n3_ := Aside0.mk (blk_below (g := gb255) (o := .cells #[.int .i64 t247, .slice Ao66 t248.length co66] 50 (0, 0)) (by (with_reducible repeat (first | refine blk_drewN ?_ _ | refine blk_drew ?_ | refine blk_alloc ?_ _)); exact BK255.out) hb); have n4_ := Aside0.mk (below_step (by repeat (first | (with_reducible first | exact HB.out | apply below_alloc | apply pw_below_drewN | apply below_drew1 | refine below_set ?_ GE255.out) | exact HB.out)) hb); clear HO246; clear HO250; clear HO253; clear BK255; clear HB; have HO246 := n0_; have HO250 := n1_; have HO253 := n2_; have BK255 := n3_; have HB := n4_; clear n0_ n1_ n2_ n3_ n4_; (try clear hb); (try clear hb2); (try clear hk); (try clear hi)))
  go_ret
  exact ⟨by first | rfl | (simp [errW_none, errW_some] <;> rfl) | (simp [*, errW_none, errW_some] <;> rfl), by repeat (first | (with_reducible first | exact HB.out | apply below_alloc | apply pw_below_drewN | apply below_drew1 | refine below_set ?_ GE255.out) | exact HB.out)⟩

end Go.Proofs.Ytjdjmhagafmkaaa.PX

/-
 What the document's functions of layer 8 come to, and which trees the law makes, in plain lists.
-/
namespace Go.Proofs.Ytjdjmhagafmkaaa.PX
open Go.RowKit Treap Go.Proofs.YtjdjmhagafmkaaaW.PrintWords Go.Proofs.YtjdjmhagafmkaaaW.PrintLast Go.Proofs.YtjdjmhagafmkaaaW.PrintMore
namespace TreapP

theorem w64_next {i n : Nat} (h : i < n) (hn : n ≤ 1000) : wrap64 ((i : Int) + 1) = ((i + 1 : Nat) : Int) := by unfold wrap64; omega
theorem rdI {l : List Int} {i : Nat} (h : i < l.length) : rd l (i : Int) = l[i] := by
 unfold rd
 rw [Int.toNat_natCast, List.getD_eq_getElem?_getD, List.getElem?_eq_getElem h]
 rfl
/-- A number as a key. -/
def keyOf (x : Int) : Int := wrap64 (Int.tmod (IntKind.u64.wrap x) 4294967296)
theorem keyOf_mod (x : Int) : keyOf x = x % 4294967296 := by
 have e : IntKind.u64.wrap x = x % 18446744073709551616 := by
  simp [IntKind.wrap, IntKind.bits, IntKind.signed]
 unfold keyOf
 rw [e, Int.tmod_eq_emod_of_nonneg (by omega)]
 unfold wrap64
 omega
theorem keyOf_isKey (x : Int) : isKey (keyOf x) = true := by
 rw [keyOf_mod, isKey_iff]
 omega
theorem keyOf_key {x : Int} (h : isKey x = true) : keyOf x = x := by
 have := isKey_iff.1 h
 rw [keyOf_mod]
 omega
def placeF (key : Int) : Int → List Int → Int
 | _, [] => -1
 | i, x :: l => if x = key then i else placeF key (i + 1) l
theorem placeF_iff (key : Int) : ∀ (l : List Int) (i : Int), 0 ≤ i → (key ∈ l → 0 ≤ placeF key i l) ∧ (key ∉ l → placeF key i l = -1) := by
 intro l
 induction l with
 | nil => exact fun i _ => ⟨fun h => by simp at h, fun _ => rfl⟩
 | cons x l ih =>
  intro i hi
  unfold placeF
  by_cases h : x = key
  ·rw [if_pos h]
   exact ⟨fun _ => hi, fun hn => absurd (List.mem_cons.2 (.inl h.symm)) hn⟩
  ·rw [if_neg h]
   obtain ⟨h1, h2⟩ := ih (i + 1) (by omega)
   refine ⟨fun hm => h1 ?_, fun hn => h2 (fun hm => hn (List.mem_cons_of_mem _ hm))⟩
   rcases List.mem_cons.1 hm with e | hm
   ·exact absurd e.symm h
   ·exact hm
theorem place_l0 (key : Int) (l : List Int) (hn : l.length ≤ 1000) : ∀ (d i k : Nat), i + d = l.length → d < k →
  deadboltref08_Place.l0 k key l (l.length : Int) (i : Int) = some (placeF key (i : Int) (l.drop i)) := by
 intro d
 induction d with
 | zero =>
  intro i k hi hk
  obtain ⟨k, rfl⟩ : ∃ q, k = q + 1 := ⟨k - 1, by omega⟩
  rw [deadboltref08_Place.l0, if_neg (by omega), List.drop_eq_nil_of_le (by omega)]
  rfl
 | succ d ih =>
  intro i k hi hk
  obtain ⟨k, rfl⟩ : ∃ q, k = q + 1 := ⟨k - 1, by omega⟩
  have hlt : i < l.length := by omega
  rw [deadboltref08_Place.l0, if_pos (by omega), if_pos (by omega), if_pos (by omega), w64_next hlt hn, rdI hlt, List.drop_eq_getElem_cons hlt, placeF]
  by_cases he : l[i] = key
  ·rw [if_pos he, if_pos he]
  ·rw [if_neg he, if_neg he, ih (i + 1) k (by omega) (by omega)]
   rfl
theorem place_f (key : Int) (l : List Int) (hn : l.length ≤ 1000) (k : Nat) (hk : l.length < k) : deadboltref08_Place.f k l key = some (placeF key 0 l) := place_l0 key l hn l.length 0 k (by omega) hk
def withF (key : Int) : List Int → List Int
 | [] => [key]
 | x :: l => if key < x then key :: x :: l else x :: withF key l
theorem with_l0 (key : Int) (l : List Int) (hn : l.length ≤ 1000) : ∀ (d i k : Nat) (acc : List Int) (done : Bool), i + d = l.length → acc.length ≤ 2 * i + 2 → d < k →
  deadboltref08_With.l0 k key acc done l (l.length : Int) (i : Int) = some (acc ++ if done = true then l.drop i else withF key (l.drop i)) := by
 intro d
 induction d with
 | zero =>
  intro i k acc done hi ha hk
  obtain ⟨k, rfl⟩ : ∃ q, k = q + 1 := ⟨k - 1, by omega⟩
  rw [deadboltref08_With.l0, if_neg (by omega), List.drop_eq_nil_of_le (by omega)]
  cases done with
  | true => simp
  | false => rw [if_neg Bool.false_ne_true, if_neg Bool.false_ne_true, if_pos (by omega)]; rfl
 | succ d ih =>
  intro i k acc done hi ha hk
  obtain ⟨k, rfl⟩ : ∃ q, k = q + 1 := ⟨k - 1, by omega⟩
  have hlt : i < l.length := by omega
  rw [deadboltref08_With.l0, if_pos (by omega), if_pos (by omega), if_pos (by omega), w64_next hlt hn, rdI hlt, List.drop_eq_getElem_cons hlt]
  cases done with
  | true =>
   rw [if_pos rfl, if_pos (by omega), ih (i + 1) k _ true (by omega) (by simp; omega) (by omega), if_pos rfl, if_pos rfl]
   simp
  | false =>
   rw [if_neg Bool.false_ne_true, if_neg Bool.false_ne_true, withF]
   by_cases hk2 : key < l[i]
   ·rw [if_pos hk2, if_pos hk2, if_pos (by omega)]
    simp only [Option.bind_some]
    rw [if_pos (by simp; omega), ih (i + 1) k _ true (by omega) (by simp; omega) (by omega), if_pos rfl]
    simp
   ·rw [if_neg hk2, if_neg hk2, if_pos (by omega), ih (i + 1) k _ false (by omega) (by simp; omega) (by omega), if_neg Bool.false_ne_true]
    simp
theorem with_f (key : Int) (l : List Int) (hn : l.length ≤ 1000) (k : Nat) (hk : l.length < k) : deadboltref08_With.f k l key = some (withF key l) := by
 have := with_l0 key l hn l.length 0 k [] false (by omega) (by simp) hk
 rw [if_neg Bool.false_ne_true] at this
 exact this
theorem withF_mid (key : Int) : ∀ (A B : List Int), (∀ x ∈ A, x < key) → (∀ x ∈ B, key < x) → withF key (A ++ B) = A ++ key :: B := by
 intro A
 induction A with
 | nil =>
  intro B _ hB
  cases B with
  | nil => rfl
  | cons x B => show withF key (x :: B) = key :: x :: B; rw [withF, if_pos (hB x (by simp))]
 | cons x A ih =>
  intro B hA hB
  have := hA x (by simp)
  show withF key (x :: (A ++ B)) = x :: (A ++ key :: B)
  rw [withF, if_neg (by omega), ih B (fun y hy => hA y (List.mem_cons_of_mem _ hy)) hB]
/-- A tree, with its keys. -/
def Tr (root : Int) (ns : List S87) (keys : List Int) : Prop := ∃ t, Treap.Good (ns.map toNd, root) t ∧ keys = t.ins.map (K (ns.map toNd, root))
theorem Tr.new : Tr (-1) [] [] := ⟨.leaf, ⟨rfl, rfl, List.Pairwise.nil, by simp [T.ins], trivial⟩, rfl⟩
theorem Tr.len {root : Int} {ns : List S87} {keys : List Int} (h : Tr root ns keys) : keys.length = ns.length := by
 obtain ⟨t, hg, rfl⟩ := h
 have := hg.len
 simpa using this
theorem Tr.up {root : Int} {ns : List S87} {keys : List Int} (h : Tr root ns keys) : keys.Pairwise (· < ·) := by
 obtain ⟨t, hg, rfl⟩ := h
 exact hg.up
theorem Tr.key {root : Int} {ns : List S87} {keys : List Int} (h : Tr root ns keys) : ∀ x ∈ keys, isKey x = true := by
 obtain ⟨t, hg, rfl⟩ := h
 intro x hx
 obtain ⟨j, hj, rfl⟩ := List.mem_map.1 hx
 exact hg.keys j hj
section
variable {root : Int} {ns : List S87} {keys : List Int}
theorem Tr.put_twice (h : Tr root ns keys) (h64 : ns.length ≤ 64) {key : Int} (hk : isKey key = true) (hin : key ∈ keys) : treap_Put.f root ns key = some (0, [], 7) := by
 obtain ⟨t, hg, rfl⟩ := h
 unfold treap_Put.f
 have e : putF (ns.map toNd) root key = some (([], 0), 7) := Treap.put_twice hg (by simpa using h64) hk hin
 rw [if_pos (by omega), e]
 rfl
theorem Tr.put (h : Tr root ns keys) (h64 : ns.length < 64) {key : Int} (hk : isKey key = true) (hin : key ∉ keys) : ∃ root' ns', treap_Put.f root ns key = some (root', ns', 0) ∧ ns'.length = ns.length + 1 ∧ Tr root' ns' (withF key keys) := by
 obtain ⟨t, hg, rfl⟩ := h
 obtain ⟨s', t', h1, h2, h3, A, B, h4, h5, h6, h7⟩ := put_good hg (by simpa using h64) hk hin
 have h1' : putF (ns.map toNd) root key = some (s', 0) := h1
 refine ⟨s'.2, s'.1.map ofNd, ?_, by simpa using h2, t', ?_, ?_⟩
 ·unfold treap_Put.f
  rw [if_pos (by omega), h1']
  rfl
 ·rw [map_to_of]; exact h3
 ·rw [map_to_of, h4, withF_mid key A B h6 h7, ← h5]
theorem mem_withF (key : Int) : ∀ (l : List Int) (x : Int), x ∈ withF key l ↔ x = key ∨ x ∈ l := by
 intro l
 induction l with
 | nil => intro x; simp [withF]
 | cons y l ih =>
  intro x
  rw [withF]
  split
  ·simp
  ·rw [List.mem_cons, ih, List.mem_cons]
   constructor
   ·rintro (h | h | h)
    ·exact .inr (.inl h)
    ·exact .inl h
    ·exact .inr (.inr h)
   ·rintro (h | h | h)
    ·exact .inr (.inl h)
    ·exact .inl h
    ·exact .inr (.inr h)
end
/-- What 'made' makes, from one place on. -/
theorem made_l0 (l : List Int) (hn : l.length ≤ 64) : ∀ (d i k : Nat) (root : Int) (ns : List S87) (keys : List Int), i + d = l.length → ns.length ≤ i → d + 66 ≤ k → Tr root ns keys →
  ∃ root' ns' keys', deadboltlaw08_made.l0 k keys l (l.length : Int) (i : Int) root ns = some (root', ns', keys', true) ∧ Tr root' ns' keys' ∧ ns'.length ≤ 64 ∧ ∀ x, x ∈ keys' ↔ x ∈ keys ∨ x ∈ (l.drop i).map keyOf := by
 intro d
 induction d with
 | zero =>
  intro i k root ns keys hi hl hk ht
  obtain ⟨k, rfl⟩ : ∃ q, k = q + 1 := ⟨k - 1, by omega⟩
  refine ⟨root, ns, keys, by rw [deadboltlaw08_made.l0, if_neg (by omega)], ht, by omega, fun x => ?_⟩
  rw [List.drop_eq_nil_of_le (by omega)]
  simp
 | succ d ih =>
  intro i k root ns keys hi hl hk ht
  obtain ⟨k, rfl⟩ : ∃ q, k = q + 1 := ⟨k - 1, by omega⟩
  have hlt : i < l.length := by omega
  have hkl := ht.len
  rw [deadboltlaw08_made.l0, if_pos (by omega), if_pos (by omega), if_pos (by omega), w64_next hlt (by omega), rdI hlt, List.drop_eq_getElem_cons hlt, List.map_cons]
  change ∃ root' ns' keys', (treap_Put.f root ns (keyOf l[i])).bind _ = _ ∧ _
  have hpl := place_f (keyOf l[i]) keys (by omega) k (by omega)
  by_cases hin : keyOf l[i] ∈ keys
  ·rw [ht.put_twice (by omega) (keyOf_isKey _) hin]
   obtain ⟨r', n', k', h1, h2, h3, h4⟩ := ih (i + 1) k root ns keys (by omega) (by omega) (by omega) ht
   refine ⟨r', n', k', ?_, h2, h3, fun x => ?_⟩
   ·show (deadboltref08_Place.f k keys (keyOf l[i])).bind _ = _
    rw [hpl]
    show (if placeF (keyOf l[i]) 0 keys ≥ 0 then _ else _) = _
    rw [if_pos ((placeF_iff _ keys 0 (by omega)).1 hin), if_pos rfl]
    exact h1
   ·rw [h4, List.mem_cons]
    constructor
    ·rintro (h | h)
     ·exact .inl h
     ·exact .inr (.inr h)
    ·rintro (h | rfl | h)
     ·exact .inl h
     ·exact .inl hin
     ·exact .inr h
  ·obtain ⟨r1, n1, hp, hlen, ht1⟩ := ht.put (by omega) (keyOf_isKey l[i]) hin
   rw [hp]
   obtain ⟨r', n', k', h1, h2, h3, h4⟩ := ih (i + 1) k r1 n1 _ (by omega) (by omega) (by omega) ht1
   refine ⟨r', n', k', ?_, h2, h3, fun x => ?_⟩
   ·show (deadboltref08_Place.f k keys (keyOf l[i])).bind _ = _
    rw [hpl]
    show (if placeF (keyOf l[i]) 0 keys ≥ 0 then _ else _) = _
    rw [(placeF_iff _ keys 0 (by omega)).2 hin, if_neg (by omega), if_pos rfl]
    show (deadboltref08_With.f k keys (keyOf l[i])).bind _ = _
    rw [with_f _ _ (by omega) k (by omega)]
    exact h1
   ·rw [h4, mem_withF, List.mem_cons]
    constructor
    ·rintro ((h | h) | h)
     ·exact .inr (.inl h)
     ·exact .inl h
     ·exact .inr (.inr h)
    ·rintro (h | h | h)
     ·exact .inl (.inr h)
     ·exact .inl (.inl h)
     ·exact .inr h
theorem made_f (l : List Int) (k : Nat) (hk : 130 ≤ k) : ∃ root ns keys, deadboltlaw08_made.f k l = some (root, ns, keys, true) ∧ Tr root ns keys ∧ ns.length ≤ 64 ∧ ∀ x, x ∈ keys ↔ x ∈ (l.take 64).map keyOf := by
 obtain ⟨j, hj⟩ : ∃ j : Int, mn (l.length : Int) 64 = j := ⟨_, rfl⟩
 have h0 : 0 ≤ j ∧ j ≤ l.length ∧ j ≤ 64 ∧ l.take j.toNat = l.take 64 := by
  unfold mn at hj
  split at hj
  ·subst hj; exact ⟨by omega, by omega, by omega, rfl⟩
  ·subst hj
   refine ⟨by omega, by omega, by omega, ?_⟩
   rw [Int.toNat_natCast, List.take_of_length_le (Nat.le_refl _), List.take_of_length_le (by omega)]
 obtain ⟨r, n, ks, h1, h2, h3, h4⟩ := made_l0 (l.take 64) (by simp; omega) (l.take 64).length 0 k (-1) [] [] (by omega) (by simp) (by simp; omega) Tr.new
 refine ⟨r, n, ks, ?_, h2, h3, fun x => by rw [h4]; simp⟩
 unfold deadboltlaw08_made.f
 rw [hj, h0.2.2.2]
 show (if 0 ≤ j then _ else _) = _
 rw [if_pos h0.1, if_pos h0.2.1]
 exact h1
theorem leO_add {α : Type} {f : Nat → Option α} (h : ∀ k, LeO (f k) (f (k + 1))) : ∀ (d k : Nat), LeO (f k) (f (k + d)) := by
 intro d
 induction d with
 | zero => exact fun k => LeO.refl _
 | succ d ih => exact fun k => LeO.trans (ih k) (h (k + d))
theorem alive_100 : deadboltlaw08_alive.f 100 = some true := by decide +kernel
theorem alive_f (k : Nat) (hk : 100 ≤ k) : deadboltlaw08_alive.f k = some true := by
 obtain ⟨d, rfl⟩ : ∃ d, k = 100 + d := ⟨k - 100, by omega⟩
 exact leO_add deadboltlaw08_alive.mono d 100 _ alive_100
end TreapP
end Go.Proofs.Ytjdjmhagafmkaaa.PX

namespace Go.Proofs.Ytjdjmhagafmkaaa.PX
open Go.RowKit Go.Proofs.YtjdjmhagafmkaaaW.PrintWords Go.Proofs.YtjdjmhagafmkaaaW.PrintLast Go.Proofs.YtjdjmhagafmkaaaW.PrintMore
attribute [local go_sem] max2_int min2_int max_two min_two max_three min_three max_four min_four   -- for this text's walks alone
set_option linter.unusedVariables false
set_option linter.unusedSimpArgs false

/-! ### deadboltref08_Key: function 37 -/
def deadboltref08_Key.f (a0 : Int) : Option (Bool) := if a0 ≥ 0 then (some (decide (a0 ≤ 4294967295))) else (some false)
set_option maxHeartbeats 8000000 in
set_option maxRecDepth 100000 in
theorem deadboltref08_Key.calls (a0 : Int) (r : Bool) (w : World) (h : deadboltref08_Key.f a0 = some r) :
  Calls Try.prog 37 #[.int .i64 a0] w fun e w' => e = .returned (.bool r) ∧ Drawn0 w w' := by
 have H : (if a0 ≥ 0 then (some (decide (a0 ≤ 4294967295))) else (some false)) = some r := h
 clear h
 by_cases c2 : a0 ≥ 0
 ·rw [if_pos c2] at H
  have c2b0 : decide (0 ≤ a0) = true := decide_eq_true c2
  clear c2
  obtain rfl := Option.some.inj H
  go_enter Try.func37, Try.ntmps37
  go_wp2
  go_ret
  exact ⟨by first | rfl | (simp; done) | (simp [*]; done), by repeat (first | exact Drawn0.refl _ | apply Drawn0.step)⟩
 ·rw [if_neg c2] at H
  have c2b0 : decide (0 ≤ a0) = false := decide_eq_false c2
  clear c2
  obtain rfl := Option.some.inj H
  go_enter Try.func37, Try.ntmps37
  go_wp2
  go_ret
  exact ⟨by first | rfl | (simp; done) | (simp [*]; done), by repeat (first | exact Drawn0.refl _ | apply Drawn0.step)⟩

end Go.Proofs.Ytjdjmhagafmkaaa.PX

namespace Go.Proofs.Ytjdjmhagafmkaaa.PX
open Go.RowKit Go.Proofs.YtjdjmhagafmkaaaW.PrintWords Go.Proofs.YtjdjmhagafmkaaaW.PrintLast Go.Proofs.YtjdjmhagafmkaaaW.PrintMore
attribute [local go_sem] max2_int min2_int max_two min_two max_three min_three max_four min_four   -- for this text's walks alone
set_option linter.unusedVariables false
set_option linter.unusedSimpArgs false

/-! ### deadboltref08_Pri: function 38 -/
def deadboltref08_Pri.f (a0 : Int) : Option (Int) := some (wrap64 (Int.tmod (IntKind.u64.wrap ((IntKind.u64.wrap (a0)) * 2654435761)) 4294967296))
set_option maxHeartbeats 8000000 in
set_option maxRecDepth 100000 in
theorem deadboltref08_Pri.calls (a0 : Int) (r : Int) (w : World) (h : deadboltref08_Pri.f a0 = some r) :
  Calls Try.prog 38 #[.int .i64 a0] w fun e w' => e = .returned (.int .i64 r) ∧ Drawn0 w w' := by
 have H : (some (wrap64 (Int.tmod (IntKind.u64.wrap ((IntKind.u64.wrap (a0)) * 2654435761)) 4294967296))) = some r := h
 clear h
 obtain rfl := Option.some.inj H
 go_enter Try.func38, Try.ntmps38
 go_wp2
 go_ret
 exact ⟨by first | rfl | (simp; done) | (simp [*]; done), by repeat (first | exact Drawn0.refl _ | apply Drawn0.step)⟩

end Go.Proofs.Ytjdjmhagafmkaaa.PX

namespace Go.Proofs.Ytjdjmhagafmkaaa.PX
open Go.RowKit Go.Proofs.YtjdjmhagafmkaaaW.PrintWords Go.Proofs.YtjdjmhagafmkaaaW.PrintLast Go.Proofs.YtjdjmhagafmkaaaW.PrintMore
attribute [local go_sem] max2_int min2_int max_two min_two max_three min_three max_four min_four   -- for this text's walks alone
set_option linter.unusedVariables false
set_option linter.unusedSimpArgs false

/-! ### deadboltref08_walk: function 71 -/
mutual
def deadboltref08_walk.j0 : Nat → Int → Int → Bool → Int → List (S87) → Option (List Int × Int)
 | 0, _, _, _, _, _ => none
 | k + 1, x1, x2, x29, x287000, x287001 => if x29 = true then (some (([] : List Int), (-1))) else (if 0 ≤ x1 then (if x1 < (x287001.length : Int) then ((deadboltref08_walk.f k x287000 x287001 ((rd_T87 x287001 x1).f1) (wrap64 (x2 - 1))).bind fun bt289 => (if bt289.2 < 0 then (some (([] : List Int), (-1))) else ((deadboltref08_walk.f k x287000 x287001 ((rd_T87 x287001 x1).f2) bt289.2).bind fun bt293 => (if bt293.2 < 0 then (some (([] : List Int), (-1))) else ((some (([] : List Int) : List Int)).bind fun y297 => (if y297.length + bt289.1.length < 17592186044416 then ((some (y297 ++ bt289.1 : List Int)).bind fun y300 => (if y300.length < 17592186044416 then ((some (y300 ++ [(rd_T87 x287001 x1).f0] : List Int)).bind fun y303 => (if y303.length + bt293.1.length < 17592186044416 then (some ((y303 ++ bt293.1), bt293.2)) else (none))) else (none))) else (none))))))) else (none)) else (none))
def deadboltref08_walk.f : Nat → Int → List (S87) → Int → Int → Option (List Int × Int)
 | 0, _, _, _, _ => none
 | k + 1, a0_0, l0_1, a1, a2 => if a1 = (-1) then (some (([] : List Int), a2)) else (if a1 < 0 then (deadboltref08_walk.j0 k a1 a2 true a0_0 l0_1) else (if a1 ≥ (l0_1.length : Int) then (deadboltref08_walk.j0 k a1 a2 true a0_0 l0_1) else (deadboltref08_walk.j0 k a1 a2 (a2 == 0) a0_0 l0_1)))
end
theorem deadboltref08_walk.mono_l : ∀ k, (∀ y0 y1 y2 y3, LeO (deadboltref08_walk.f k y0 y1 y2 y3) (deadboltref08_walk.f (k + 1) y0 y1 y2 y3)) ∧ (∀ y0 y1 y2 y3 y4, LeO (deadboltref08_walk.j0 k y0 y1 y2 y3 y4) (deadboltref08_walk.j0 (k + 1) y0 y1 y2 y3 y4))
 | 0 => ⟨fun _ _ _ _ r h => by simp [deadboltref08_walk.f] at h, fun _ _ _ _ _ r h => by simp [deadboltref08_walk.j0] at h⟩
 | k + 1 => by
  obtain ⟨ih0, ih1⟩ := deadboltref08_walk.mono_l k
  refine ⟨?_, ?_⟩
  ·intro y0 y1 y2 y3
   unfold deadboltref08_walk.f
   repeat' first
   | (with_reducible exact ih0 _ _ _ _)
   | (with_reducible exact ih1 _ _ _ _ _)
   | (with_reducible exact LeO.refl _)
   | (with_reducible exact LeO.none _)
   | (with_reducible refine LeO.ite ?_ ?_)
   | (with_reducible refine LeO.bind ?_ (fun _ => ?_))
   | exact ih0 _ _ _ _
   | exact ih1 _ _ _ _ _
   | exact LeO.none _
   | refine LeO.ite ?_ ?_
   | refine LeO.bind ?_ (fun _ => ?_)
  ·intro y0 y1 y2 y3 y4
   unfold deadboltref08_walk.j0
   repeat' first
   | (with_reducible exact ih0 _ _ _ _)
   | (with_reducible exact ih1 _ _ _ _ _)
   | (with_reducible exact LeO.refl _)
   | (with_reducible exact LeO.none _)
   | (with_reducible refine LeO.ite ?_ ?_)
   | (with_reducible refine LeO.bind ?_ (fun _ => ?_))
   | exact ih0 _ _ _ _
   | exact ih1 _ _ _ _ _
   | exact LeO.none _
   | refine LeO.ite ?_ ?_
   | refine LeO.bind ?_ (fun _ => ?_)
theorem deadboltref08_walk.mono : ∀ a0 a1 a2 a3 k, LeO (deadboltref08_walk.f k a0 a1 a2 a3) (deadboltref08_walk.f (k + 1) a0 a1 a2 a3) := by
 intro a0 a1 a2 a3 k
 obtain ⟨ih0, ih1⟩ := deadboltref08_walk.mono_l k
 exact ih0 a0 a1 a2 a3
set_option maxHeartbeats 8000000 in
set_option maxRecDepth 100000 in
theorem deadboltref08_walk.calls (k : Nat) : ∀ (a0_0 : Int) (A0_1 : Option Addr) (c0_1 : Nat) (l0_1 : List (S87)) (a1 : Int) (a2 : Int) (r1 : List Int) (r2 : Int) (w : World) (hr0_1 : Kd.C k87 w A0_1 l0_1.length l0_1) (hc0_1 : l0_1.length ≤ c0_1) (h : deadboltref08_walk.f k a0_0 l0_1 a1 a2 = some (r1, r2)),
  Calls Try.prog 71 #[.agg #[.int .i64 a0_0, .slice A0_1 l0_1.length c0_1], .int .i64 a1, .int .i64 a2] w fun e w' => ∃ v0_ : Value, e = .returned (.tuple #[v0_, .int .i64 r2]) ∧ Kd.R (Kd.int .i64) 3 w' w.heap.size (fun _ => True) v0_ r1 ∧ Below w.heap.size w w' := by
 induction k using Nat.strongRecOn with
 | _ k ih =>
 intro a0_0 A0_1 c0_1 l0_1 a1 a2 r1 r2 w hr0_1 hc0_1 h
 cases k with
 | zero => exact absurd h (by simp [deadboltref08_walk.f])
 | succ k =>
 simp only [deadboltref08_walk.f] at h
 have hu50 := Try.underlying50
 have hu87 := Try.underlying87
 have HR0_1 := Aside0.mk hr0_1
 have HC0_1 := Aside0.mk hc0_1
 clear hr0_1 hc0_1
 have HB := Aside0.mk (Below.refl w.heap.size w)
 have H : (if a1 = (-1) then (some (([] : List Int), a2)) else (if a1 < 0 then (deadboltref08_walk.j0 k a1 a2 true a0_0 l0_1) else (if a1 ≥ (l0_1.length : Int) then (deadboltref08_walk.j0 k a1 a2 true a0_0 l0_1) else (deadboltref08_walk.j0 k a1 a2 (a2 == 0) a0_0 l0_1)))) = some (r1, r2) := h
 clear h
 by_cases c4 : a1 = (-1)
 ·rw [if_pos c4] at H
  have c4b0 : (a1 == (-1)) = true := beq_iff_eq.mpr c4
  have c4b1 : (a1 != (-1)) = false := bne_eq_false_iff_eq.mpr c4
  clear c4
  simp only [Option.some.injEq, Prod.mk.injEq] at H
  obtain ⟨rfl, rfl⟩ := H
  go_enter Try.func71, Try.ntmps71
  go_wp2_with (first | ((with_reducible refine gate_dst (N := 3) rfl ?_); (try (refine gate_guard (by rfl) ?_; dsimp only)); refine box_event ?hg (N := 3) ?hd (cs := #[.int .i64 a0_0, .slice A0_1 l0_1.length c0_1]) (t := 50) ?hr ?_; (case hd => rfl); (case hg => rfl); (case hr => first | (go_simp; done) | (go_simp; rfl)); intro gb286 hg w5 hbox hb; have n0_ := Aside0.mk (below_step (by repeat (first | (with_reducible first | exact HB.out | apply below_alloc | apply pw_below_drewN | apply below_drew1) | exact HB.out)) hb); have n1_ := Aside0.mk (hbox); have n2_ := Aside0.mk ((by rw [hg]; exact (below_size (by repeat (first | (with_reducible first | exact HB.out | apply below_alloc | apply pw_below_drewN | apply below_drew1) | exact HB.out))) : w.heap.size ≤ gb286)); have n3_ := Aside0.mk ((by rw [hg]; exact (below_size (by repeat (first | (with_reducible first | exact HB.out | apply below_alloc | apply pw_below_drewN | apply below_drew1) | exact HB.out))) : w.heap.size ≤ gb286)); clear HB; have HB := n0_; have BK286 := n1_; have GW286 := n2_; have GE286 := n3_; clear n0_ n1_ n2_ n3_; clear hb hbox hg))
  go_ret2
  exact ⟨_, by first | rfl | (simp [errW_none, errW_some] <;> rfl) | (simp [*, errW_none, errW_some] <;> rfl), by first | exact Kd.R_nil _ _ _ _ _ | exact Kd.N_nil _ _ _ _ _ | exact Kd.V_nil _ _ _ _ _ | exact Kd.Q_nil _ _ _ _ _ | exact Kd.S_nil _ _ _ _ _, by repeat (first | (with_reducible first | exact HB.out | apply below_alloc | apply pw_below_drewN | apply below_drew1 | refine below_set ?_ GE286.out) | exact HB.out)⟩
 ·rw [if_neg c4] at H
  have c4b0 : (a1 == (-1)) = false := beq_eq_false_iff_ne.mpr c4
  have c4b1 : (a1 != (-1)) = true := bne_iff_ne.mpr c4
  have HC6 := Aside0.mk H
  clear H
  go_enter Try.func71, Try.ntmps71
  go_upto_region 3 with (first | ((with_reducible refine gate_dst (N := 3) rfl ?_); (try (refine gate_guard (by rfl) ?_; dsimp only)); refine box_event ?hg (N := 3) ?hd (cs := #[.int .i64 a0_0, .slice A0_1 l0_1.length c0_1]) (t := 50) ?hr ?_; (case hd => rfl); (case hg => rfl); (case hr => first | (go_simp; done) | (go_simp; rfl)); intro gb286 hg w7 hbox hb; have n0_ := Aside0.mk (below_step (by repeat (first | (with_reducible first | exact HB.out | apply below_alloc | apply pw_below_drewN | apply below_drew1) | exact HB.out)) hb); have n1_ := Aside0.mk (hbox); have n2_ := Aside0.mk ((by rw [hg]; exact (below_size (by repeat (first | (with_reducible first | exact HB.out | apply below_alloc | apply pw_below_drewN | apply below_drew1) | exact HB.out))) : w.heap.size ≤ gb286)); have n3_ := Aside0.mk ((by rw [hg]; exact (below_size (by repeat (first | (with_reducible first | exact HB.out | apply below_alloc | apply pw_below_drewN | apply below_drew1) | exact HB.out))) : w.heap.size ≤ gb286)); clear HB; have HB := n0_; have BK286 := n1_; have GW286 := n2_; have GE286 := n3_; clear n0_ n1_ n2_ n3_; clear hb hbox hg))
  (try simp only [Act.put, List.setIfInBounds_toArray, List.set_cons_zero, List.set_cons_succ])
  go_cut [29] (fun v29 wc => ∃ (kq : Nat) (x29_5 : Bool), v29 = .bool x29_5 ∧ Aside0 (deadboltref08_walk.j0 kq a1 a2 x29_5 a0_0 l0_1 = some (r1, r2)) ∧ Aside0 (kq ≤ k) ∧ Aside0 (wc.heap[gb286]? = some (.cells #[.int .i64 a0_0, (.slice A0_1 l0_1.length c0_1)] 50 (0, 0))) ∧ Aside0 (Below w.heap.size w wc))
  case first =>
   have H := HC6.out
   clear HC6
   by_cases c8 : a1 < 0
   ·rw [if_pos c8] at H
    have c8b0 : decide (a1 < 0) = true := decide_eq_true c8
    clear c8
    (first | rw [c8b0] | (simp only [i64_w, i32_w]; rw [c8b0]) | skip)
    have H' := Aside0.mk H
    clear H
    go_wp2
    go_meet
    case rel => exact ⟨_, (true), (by first | rfl | (simp; done) | (simp [*]; done)), H', ⟨by first | omega | exact Nat.le_refl _⟩, ⟨by (with_reducible repeat (first | refine blk_drewN ?_ _ | refine blk_drew ?_ | refine blk_alloc ?_ _)); exact BK286.out⟩, ⟨by repeat (first | (with_reducible first | exact HB.out | apply below_alloc | apply pw_below_drewN | apply below_drew1 | refine below_set ?_ GE286.out) | exact HB.out)⟩⟩
   ·rw [if_neg c8] at H
    have c8b0 : decide (a1 < 0) = false := decide_eq_false c8
    clear c8
    (first | rw [c8b0] | (simp only [i64_w, i32_w]; rw [c8b0]) | skip)
    by_cases c9 : a1 ≥ (l0_1.length : Int)
    ·rw [if_pos c9] at H
     have c9b0 : decide ((l0_1.length : Int) ≤ a1) = true := decide_eq_true c9
     clear c9
     have H' := Aside0.mk H
     clear H
     have hcz10_0 : w7.cell? ⟨gb286, 0, none⟩ = some (.int .i64 a0_0) := (blk_cell BK286.out 0).trans rfl
     have hcz10_1 : w7.cell? ⟨gb286, 1, none⟩ = some (.slice A0_1 l0_1.length c0_1) := (blk_cell BK286.out 1).trans rfl
     have hfz10_0 := blk_frozen BK286.out 0
     have hfz10_1 := blk_frozen BK286.out 1
     go_wp2
     go_meet
     case rel => exact ⟨_, (true), (by first | rfl | (simp; done) | (simp [*]; done)), H', ⟨by first | omega | exact Nat.le_refl _⟩, ⟨by (with_reducible repeat (first | refine blk_drewN ?_ _ | refine blk_drew ?_ | refine blk_alloc ?_ _)); exact BK286.out⟩, ⟨by repeat (first | (with_reducible first | exact HB.out | apply below_alloc | apply pw_below_drewN | apply below_drew1 | refine below_set ?_ GE286.out) | exact HB.out)⟩⟩
    ·rw [if_neg c9] at H
     have c9b0 : decide ((l0_1.length : Int) ≤ a1) = false := decide_eq_false c9
     clear c9
     have H' := Aside0.mk H
     clear H
     have hcz11_0 : w7.cell? ⟨gb286, 0, none⟩ = some (.int .i64 a0_0) := (blk_cell BK286.out 0).trans rfl
     have hcz11_1 : w7.cell? ⟨gb286, 1, none⟩ = some (.slice A0_1 l0_1.length c0_1) := (blk_cell BK286.out 1).trans rfl
     have hfz11_0 := blk_frozen BK286.out 0
     have hfz11_1 := blk_frozen BK286.out 1
     go_wp2
     go_meet
     case rel => exact ⟨_, ((a2 == 0)), (by first | rfl | (simp; done) | (simp [*]; done)), H', ⟨by first | omega | exact Nat.le_refl _⟩, ⟨by (with_reducible repeat (first | refine blk_drewN ?_ _ | refine blk_drew ?_ | refine blk_alloc ?_ _)); exact BK286.out⟩, ⟨by repeat (first | (with_reducible first | exact HB.out | apply below_alloc | apply pw_below_drewN | apply below_drew1 | refine below_set ?_ GE286.out) | exact HB.out)⟩⟩
  case rest =>
   clear HC6
   try clear p2
   try clear c4
   try clear c4b0
   try clear c4b1
   try clear c7
   try clear c8
   try clear c8b0
   try clear c9
   try clear c9b0
   try clear hcz10_0
   try clear hcz10_1
   try clear hcz11_0
   try clear hcz11_1
   try clear hfz10_0
   try clear hfz10_1
   try clear hfz11_0
   try clear hfz11_1
   obtain ⟨kq, x29_5, rfl, HA, HJ5, BK286, HB⟩ := hcut
   cases kq with
   | zero => exact absurd HA.out (by simp [deadboltref08_walk.j0])
   | succ kj5 =>
    have H := HA.out
    clear HA
    simp only [deadboltref08_walk.j0] at H
    by_cases c12 : x29_5 = true
    ·subst c12
     have H1 : (some (([] : List Int), (-1))) = some (r1, r2) := by rw [if_pos rfl] at H; exact H
     clear H
     have H := H1
     clear H1
     simp only [Option.some.injEq, Prod.mk.injEq] at H
     obtain ⟨rfl, rfl⟩ := H
     go_wp2
     go_ret2
     exact ⟨_, by first | rfl | (simp [errW_none, errW_some] <;> rfl) | (simp [*, errW_none, errW_some] <;> rfl), by first | exact Kd.R_nil _ _ _ _ _ | exact Kd.N_nil _ _ _ _ _ | exact Kd.V_nil _ _ _ _ _ | exact Kd.Q_nil _ _ _ _ _ | exact Kd.S_nil _ _ _ _ _, by repeat (first | (with_reducible first | exact HB.out | apply below_alloc | apply pw_below_drewN | apply below_drew1 | refine below_set ?_ GE286.out) | exact HB.out)⟩
    ·replace c12 := Bool.eq_false_iff.mpr c12
     subst c12
     have H1 : (if 0 ≤ a1 then (if a1 < (l0_1.length : Int) then ((deadboltref08_walk.f kj5 a0_0 l0_1 ((rd_T87 l0_1 a1).f1) (wrap64 (a2 - 1))).bind fun bt289 => (if bt289.2 < 0 then (some (([] : List Int), (-1))) else ((deadboltref08_walk.f kj5 a0_0 l0_1 ((rd_T87 l0_1 a1).f2) bt289.2).bind fun bt293 => (if bt293.2 < 0 then (some (([] : List Int), (-1))) else ((some (([] : List Int) : List Int)).bind fun y297 => (if y297.length + bt289.1.length < 17592186044416 then ((some (y297 ++ bt289.1 : List Int)).bind fun y300 => (if y300.length < 17592186044416 then ((some (y300 ++ [(rd_T87 l0_1 a1).f0] : List Int)).bind fun y303 => (if y303.length + bt293.1.length < 17592186044416 then (some ((y303 ++ bt293.1), bt293.2)) else (none))) else (none))) else (none))))))) else (none)) else (none)) = some (r1, r2) := by rw [if_neg (show ¬ (false = true) by decide)] at H; exact H
     clear H
     have H := H1
     clear H1
     by_cases c13 : 0 ≤ a1
     ·rw [if_pos c13] at H
      have c13b0 : decide (0 ≤ a1) = true := decide_eq_true c13
      clear c13
      by_cases c14 : a1 < (l0_1.length : Int)
      ·rw [if_pos c14] at H
       have c14b0 : decide (a1 < (l0_1.length : Int)) = true := decide_eq_true c14
       clear c14
       replace H := Option.bind_eq_some_iff.mp H
       obtain ⟨⟨t289, t292⟩, A150, H⟩ := H
       replace H : (if t292 < 0 then (some (([] : List Int), (-1))) else ((deadboltref08_walk.f kj5 a0_0 l0_1 ((rd_T87 l0_1 a1).f2) t292).bind fun bt293 => (if bt293.2 < 0 then (some (([] : List Int), (-1))) else ((some (([] : List Int) : List Int)).bind fun y297 => (if y297.length + t289.length < 17592186044416 then ((some (y297 ++ t289 : List Int)).bind fun y300 => (if y300.length < 17592186044416 then ((some (y300 ++ [(rd_T87 l0_1 a1).f0] : List Int)).bind fun y303 => (if y303.length + bt293.1.length < 17592186044416 then (some ((y303 ++ bt293.1), bt293.2)) else (none))) else (none))) else (none)))))) = some (r1, r2) := H
       have A15 := Aside0.mk A150
       clear A150
       by_cases c16 : t292 < 0
       ·rw [if_pos c16] at H
        have c16b0 : decide (t292 < 0) = true := decide_eq_true c16
        clear c16
        simp only [Option.some.injEq, Prod.mk.injEq] at H
        obtain ⟨rfl, rfl⟩ := H
        have hcz17_0 : wc.cell? ⟨gb286, 0, none⟩ = some (.int .i64 a0_0) := (blk_cell BK286.out 0).trans rfl
        have hcz17_1 : wc.cell? ⟨gb286, 1, none⟩ = some (.slice A0_1 l0_1.length c0_1) := (blk_cell BK286.out 1).trans rfl
        have hfz17_0 := blk_frozen BK286.out 0
        have hfz17_1 := blk_frozen BK286.out 1
        have p287 : 0 ≤ (a1 : Int) := of_decide_eq_true (by first | (with_reducible assumption) | assumption)
        have q287 : a1 < (l0_1.length : Int) := of_decide_eq_true (by first | (with_reducible assumption) | assumption)
        obtain ⟨ad287, e287, hx287_0, hx287_1, hx287_2⟩ := at_T87 HR0_1.out a1 p287 q287
        cases e287
        replace hx287_0 := (HB.out.cell (World.block_lt_of_cell? w _ hx287_0)).trans hx287_0
        replace hx287_1 := (HB.out.cell (World.block_lt_of_cell? w _ hx287_1)).trans hx287_1
        replace hx287_2 := (HB.out.cell (World.block_lt_of_cell? w _ hx287_2)).trans hx287_2
        replace p287 := eq_true p287
        replace q287 := eq_true q287
        go_wp2_with (first | ((with_reducible refine gate_dst (N := 8) rfl ?_); (try (refine gate_guard (by rfl) ?_; dsimp only)); refine box_event ?hg (N := 8) ?hd (cs := #[.int .i64 0, .int .i64 0, .int .i64 0]) (t := 87) ?hr ?_; (case hd => rfl); (case hg => rfl); (case hr => first | (go_simp; done) | (go_simp; rfl)); intro gb288 hg w18 hbox hb; have n0_ := Aside0.mk (blk_below (g := gb286) (o := .cells #[.int .i64 a0_0, .slice (some ad287) l0_1.length c0_1] 50 (0, 0)) (by (with_reducible repeat (first | refine blk_drewN ?_ _ | refine blk_drew ?_ | refine blk_alloc ?_ _)); exact BK286.out) hb); have n1_ := Aside0.mk (below_step (by repeat (first | (with_reducible first | exact HB.out | apply below_alloc | apply pw_below_drewN | apply below_drew1 | refine below_set ?_ GE286.out) | exact HB.out)) hb); have n2_ := Aside0.mk (hbox); have n3_ := Aside0.mk ((by rw [hg]; exact (below_size (by repeat (first | (with_reducible first | exact HB.out | apply below_alloc | apply pw_below_drewN | apply below_drew1 | refine below_set ?_ GE286.out) | exact HB.out))) : w.heap.size ≤ gb288)); have n4_ := Aside0.mk ((by rw [hg]; exact (below_size (by repeat (first | (with_reducible first | exact HB.out | apply below_alloc | apply pw_below_drewN | apply below_drew1 | refine below_set ?_ GE286.out) | exact HB.out))) : w.heap.size ≤ gb288)); have n5_ := Aside0.mk ((by rw [hg]; exact Nat.ne_of_lt (blk_lt (g := gb286) (o := .cells #[.int .i64 a0_0, .slice (some ad287) l0_1.length c0_1] 50 (0, 0)) (by (with_reducible repeat (first | refine blk_drewN ?_ _ | refine blk_drew ?_ | refine blk_alloc ?_ _)); exact BK286.out)) : gb286 ≠ gb288)); have n6_ := Aside0.mk ((by rw [hg]; exact Nat.ne_of_gt (blk_lt (g := gb286) (o := .cells #[.int .i64 a0_0, .slice (some ad287) l0_1.length c0_1] 50 (0, 0)) (by (with_reducible repeat (first | refine blk_drewN ?_ _ | refine blk_drew ?_ | refine blk_alloc ?_ _)); exact BK286.out)) : gb288 ≠ gb286)); clear BK286; clear HB; have BK286 := n0_; have HB := n1_; have BK288 := n2_; have GW288 := n3_; have GE288 := n4_; have NB286_288 := n5_; have NB288_286 := n6_; clear n0_ n1_ n2_ n3_ n4_ n5_ n6_; clear hb hbox hg; have hnb19 := NB288_286.out; have hnc19 := NB286_288.out; have hcz20_0 : w18.cell? ⟨gb288, 0, none⟩ = some (.int .i64 0) := (blk_cell BK288.out 0).trans rfl; have hcz20_1 : w18.cell? ⟨gb288, 1, none⟩ = some (.int .i64 0) := (blk_cell BK288.out 1).trans rfl; have hcz20_2 : w18.cell? ⟨gb288, 2, none⟩ = some (.int .i64 0) := (blk_cell BK288.out 2).trans rfl; have hfz20_0 := blk_frozen BK288.out 0; have hfz20_1 := blk_frozen BK288.out 1; have hfz20_2 := blk_frozen BK288.out 2; have hcz21_0 : w18.cell? ⟨gb286, 0, none⟩ = some (.int .i64 a0_0) := (blk_cell BK286.out 0).trans rfl; have hcz21_1 : w18.cell? ⟨gb286, 1, none⟩ = some (.slice (some ad287) l0_1.length c0_1) := (blk_cell BK286.out 1).trans rfl; have hfz21_0 := blk_frozen BK286.out 0; have hfz21_1 := blk_frozen BK286.out 1) | ((with_reducible refine gate_callee (f := 71) rfl ?_); refine goesL_ (some 41) rfl rfl Try.func71 (by kernel_rfl) rfl #[.agg #[.int .i64 a0_0, .slice (some ad287) l0_1.length c0_1], .int .i64 ((rd_T87 l0_1 a1).f1), .int .i64 (wrap64 (a2 - 1))] rfl (by (try simp only [List.map_toArray, List.map_cons, List.map_nil]); first | done | rfl | (simp only [List.length_drop, List.length_take]; rfl)) ?_; (with_reducible refine (ih kj5 (by have := HJ5.out; omega) a0_0 _ _ l0_1 ((rd_T87 l0_1 a1).f1) (wrap64 (a2 - 1)) t289 t292 _ ?side1 ?side2 A15.out).mono ?_); (case side1 => exact Kd.C_below HR0_1.out (by repeat (first | (with_reducible first | exact HB.out | apply below_alloc | apply pw_below_drewN | apply below_drew1 | refine below_set ?_ GE286.out | refine below_set ?_ GE288.out) | exact HB.out))); (case side2 => exact HC0_1.out); rintro e w22 ⟨v290, rfl, ho0, hb⟩; refine ⟨_, rfl, ?_⟩; have n0_ := Aside0.mk (Kd.R_lower ho0 (below_size (by repeat (first | (with_reducible first | exact HB.out | apply below_alloc | apply pw_below_drewN | apply below_drew1 | refine below_set ?_ GE286.out | refine below_set ?_ GE288.out) | exact HB.out)))); have n1_ := Aside0.mk (blk_below (g := gb286) (o := .cells #[.int .i64 a0_0, .slice (some ad287) l0_1.length c0_1] 50 (0, 0)) (by (with_reducible repeat (first | refine blk_drewN ?_ _ | refine blk_drew ?_ | refine blk_alloc ?_ _)); refine blk_far ?_ NB286_288.out _; (with_reducible repeat (first | refine blk_drewN ?_ _ | refine blk_drew ?_ | refine blk_alloc ?_ _)); refine blk_far ?_ NB286_288.out _; (with_reducible repeat (first | refine blk_drewN ?_ _ | refine blk_drew ?_ | refine blk_alloc ?_ _)); refine blk_far ?_ NB286_288.out _; (with_reducible repeat (first | refine blk_drewN ?_ _ | refine blk_drew ?_ | refine blk_alloc ?_ _)); exact BK286.out) hb); have n2_ := Aside0.mk (blk_below (g := gb288) (o := .cells #[.int .i64 ((rd_T87 l0_1 a1).f0), .int .i64 ((rd_T87 l0_1 a1).f1), .int .i64 ((rd_T87 l0_1 a1).f2)] 87 (0, 0)) (by (with_reducible repeat (first | refine blk_drewN ?_ _ | refine blk_drew ?_ | refine blk_alloc ?_ _)); refine blk_put (cs := #[.int .i64 ((rd_T87 l0_1 a1).f0), .int .i64 ((rd_T87 l0_1 a1).f1), .int .i64 0]) ?_ 2 _ rfl; (with_reducible repeat (first | refine blk_drewN ?_ _ | refine blk_drew ?_ | refine blk_alloc ?_ _)); refine blk_put (cs := #[.int .i64 ((rd_T87 l0_1 a1).f0), .int .i64 0, .int .i64 0]) ?_ 1 _ rfl; (with_reducible repeat (first | refine blk_drewN ?_ _ | refine blk_drew ?_ | refine blk_alloc ?_ _)); refine blk_put (cs := #[.int .i64 0, .int .i64 0, .int .i64 0]) ?_ 0 _ rfl; (with_reducible repeat (first | refine blk_drewN ?_ _ | refine blk_drew ?_ | refine blk_alloc ?_ _)); exact BK288.out) hb); have n3_ := Aside0.mk (below_step (by repeat (first | (with_reducible first | exact HB.out | apply below_alloc | apply pw_below_drewN | apply below_drew1 | refine below_set ?_ GE286.out | refine below_set ?_ GE288.out) | exact HB.out)) hb); clear BK286; clear BK288; clear HB; have HO291 := n0_; have BK286 := n1_; have BK288 := n2_; have HB := n3_; clear n0_ n1_ n2_ n3_; (try clear hb); (try clear hb2); (try clear hk); (try clear hi); (try clear ho0)))
        go_ret2
        exact ⟨_, by first | rfl | (simp [errW_none, errW_some] <;> rfl) | (simp [*, errW_none, errW_some] <;> rfl), by first | exact Kd.R_nil _ _ _ _ _ | exact Kd.N_nil _ _ _ _ _ | exact Kd.V_nil _ _ _ _ _ | exact Kd.Q_nil _ _ _ _ _ | exact Kd.S_nil _ _ _ _ _, by repeat (first | (with_reducible first | exact HB.out | apply below_alloc | apply pw_below_drewN | apply below_drew1 | refine below_set ?_ GE286.out | refine below_set ?_ GE288.out) | exact HB.out)⟩
       ·rw [if_neg c16] at H
        have c16b0 : decide (t292 < 0) = false := decide_eq_false c16
        clear c16
        replace H := Option.bind_eq_some_iff.mp H
        obtain ⟨⟨t293, t296⟩, A230, H⟩ := H
        replace H : (if t296 < 0 then (some (([] : List Int), (-1))) else ((some (([] : List Int) : List Int)).bind fun y297 => (if y297.length + t289.length < 17592186044416 then ((some (y297 ++ t289 : List Int)).bind fun y300 => (if y300.length < 17592186044416 then ((some (y300 ++ [(rd_T87 l0_1 a1).f0] : List Int)).bind fun y303 => (if y303.length + t293.length < 17592186044416 then (some ((y303 ++ t293), t296)) else (none))) else (none))) else (none)))) = some (r1, r2) := H
        have A23 := Aside0.mk A230
        clear A230
        by_cases c24 : t296 < 0
        ·rw [if_pos c24] at H
         have c24b0 : decide (t296 < 0) = true := decide_eq_true c24
         clear c24
         simp only [Option.some.injEq, Prod.mk.injEq] at H
         obtain ⟨rfl, rfl⟩ := H
         have hcz25_0 : wc.cell? ⟨gb286, 0, none⟩ = some (.int .i64 a0_0) := (blk_cell BK286.out 0).trans rfl
         have hcz25_1 : wc.cell? ⟨gb286, 1, none⟩ = some (.slice A0_1 l0_1.length c0_1) := (blk_cell BK286.out 1).trans rfl
         have hfz25_0 := blk_frozen BK286.out 0
         have hfz25_1 := blk_frozen BK286.out 1
         have p287 : 0 ≤ (a1 : Int) := of_decide_eq_true (by first | (with_reducible assumption) | assumption)
         have q287 : a1 < (l0_1.length : Int) := of_decide_eq_true (by first | (with_reducible assumption) | assumption)
         obtain ⟨ad287, e287, hx287_0, hx287_1, hx287_2⟩ := at_T87 HR0_1.out a1 p287 q287
         cases e287
         replace hx287_0 := (HB.out.cell (World.block_lt_of_cell? w _ hx287_0)).trans hx287_0
         replace hx287_1 := (HB.out.cell (World.block_lt_of_cell? w _ hx287_1)).trans hx287_1
         replace hx287_2 := (HB.out.cell (World.block_lt_of_cell? w _ hx287_2)).trans hx287_2
         replace p287 := eq_true p287
         replace q287 := eq_true q287
         go_wp2_with (first | ((with_reducible refine gate_dst (N := 8) rfl ?_); (try (refine gate_guard (by rfl) ?_; dsimp only)); refine box_event ?hg (N := 8) ?hd (cs := #[.int .i64 0, .int .i64 0, .int .i64 0]) (t := 87) ?hr ?_; (case hd => rfl); (case hg => rfl); (case hr => first | (go_simp; done) | (go_simp; rfl)); intro gb288 hg w26 hbox hb; have n0_ := Aside0.mk (blk_below (g := gb286) (o := .cells #[.int .i64 a0_0, .slice (some ad287) l0_1.length c0_1] 50 (0, 0)) (by (with_reducible repeat (first | refine blk_drewN ?_ _ | refine blk_drew ?_ | refine blk_alloc ?_ _)); exact BK286.out) hb); have n1_ := Aside0.mk (below_step (by repeat (first | (with_reducible first | exact HB.out | apply below_alloc | apply pw_below_drewN | apply below_drew1 | refine below_set ?_ GE286.out) | exact HB.out)) hb); have n2_ := Aside0.mk (hbox); have n3_ := Aside0.mk ((by rw [hg]; exact (below_size (by repeat (first | (with_reducible first | exact HB.out | apply below_alloc | apply pw_below_drewN | apply below_drew1 | refine below_set ?_ GE286.out) | exact HB.out))) : w.heap.size ≤ gb288)); have n4_ := Aside0.mk ((by rw [hg]; exact (below_size (by repeat (first | (with_reducible first | exact HB.out | apply below_alloc | apply pw_below_drewN | apply below_drew1 | refine below_set ?_ GE286.out) | exact HB.out))) : w.heap.size ≤ gb288)); have n5_ := Aside0.mk ((by rw [hg]; exact Nat.ne_of_lt (blk_lt (g := gb286) (o := .cells #[.int .i64 a0_0, .slice (some ad287) l0_1.length c0_1] 50 (0, 0)) (by (with_reducible repeat (first | refine blk_drewN ?_ _ | refine blk_drew ?_ | refine blk_alloc ?_ _)); exact BK286.out)) : gb286 ≠ gb288)); have n6_ := Aside0.mk ((by rw [hg]; exact Nat.ne_of_gt (blk_lt (g := gb286) (o := .cells #[.int .i64 a0_0, .slice (some ad287) l0_1.length c0_1] 50 (0, 0)) (by (with_reducible repeat (first | refine blk_drewN ?_ _ | refine blk_drew ?_ | refine blk_alloc ?_ _)); exact BK286.out)) : gb288 ≠ gb286)); clear BK286; clear HB; have BK286 := n0_; have HB := n1_; have BK288 := n2_; have GW288 := n3_; have GE288 := n4_; have NB286_288 := n5_; have NB288_286 := n6_; clear n0_ n1_ n2_ n3_ n4_ n5_ n6_; clear hb hbox hg; have hnb27 := NB288_286.out; have hnc27 := NB286_288.out; have hcz28_0 : w26.cell? ⟨gb288, 0, none⟩ = some (.int .i64 0) := (blk_cell BK288.out 0).trans rfl; have hcz28_1 : w26.cell? ⟨gb288, 1, none⟩ = some (.int .i64 0) := (blk_cell BK288.out 1).trans rfl; have hcz28_2 : w26.cell? ⟨gb288, 2, none⟩ = some (.int .i64 0) := (blk_cell BK288.out 2).trans rfl; have hfz28_0 := blk_frozen BK288.out 0; have hfz28_1 := blk_frozen BK288.out 1; have hfz28_2 := blk_frozen BK288.out 2; have hcz29_0 : w26.cell? ⟨gb286, 0, none⟩ = some (.int .i64 a0_0) := (blk_cell BK286.out 0).trans rfl; have hcz29_1 : w26.cell? ⟨gb286, 1, none⟩ = some (.slice (some ad287) l0_1.length c0_1) := (blk_cell BK286.out 1).trans rfl; have hfz29_0 := blk_frozen BK286.out 0; have hfz29_1 := blk_frozen BK286.out 1) | ((with_reducible refine gate_callee (f := 71) rfl ?_); refine goesL_ (some 41) rfl rfl Try.func71 (by kernel_rfl) rfl #[.agg #[.int .i64 a0_0, .slice (some ad287) l0_1.length c0_1], .int .i64 ((rd_T87 l0_1 a1).f1), .int .i64 (wrap64 (a2 - 1))] rfl (by (try simp only [List.map_toArray, List.map_cons, List.map_nil]); first | done | rfl | (simp only [List.length_drop, List.length_take]; rfl)) ?_; (with_reducible refine (ih kj5 (by have := HJ5.out; omega) a0_0 _ _ l0_1 ((rd_T87 l0_1 a1).f1) (wrap64 (a2 - 1)) t289 t292 _ ?side1 ?side2 A15.out).mono ?_); (case side1 => exact Kd.C_below HR0_1.out (by repeat (first | (with_reducible first | exact HB.out | apply below_alloc | apply pw_below_drewN | apply below_drew1 | refine below_set ?_ GE286.out | refine below_set ?_ GE288.out) | exact HB.out))); (case side2 => exact HC0_1.out); rintro e w30 ⟨v290, rfl, ho0, hb⟩; refine ⟨_, rfl, ?_⟩; have n0_ := Aside0.mk (Kd.R_lower ho0 (below_size (by repeat (first | (with_reducible first | exact HB.out | apply below_alloc | apply pw_below_drewN | apply below_drew1 | refine below_set ?_ GE286.out | refine below_set ?_ GE288.out) | exact HB.out)))); have n1_ := Aside0.mk (blk_below (g := gb286) (o := .cells #[.int .i64 a0_0, .slice (some ad287) l0_1.length c0_1] 50 (0, 0)) (by (with_reducible repeat (first | refine blk_drewN ?_ _ | refine blk_drew ?_ | refine blk_alloc ?_ _)); refine blk_far ?_ NB286_288.out _; (with_reducible repeat (first | refine blk_drewN ?_ _ | refine blk_drew ?_ | refine blk_alloc ?_ _)); refine blk_far ?_ NB286_288.out _; (with_reducible repeat (first | refine blk_drewN ?_ _ | refine blk_drew ?_ | refine blk_alloc ?_ _)); refine blk_far ?_ NB286_288.out _; (with_reducible repeat (first | refine blk_drewN ?_ _ | refine blk_drew ?_ | refine blk_alloc ?_ _)); exact BK286.out) hb); have n2_ := Aside0.mk (blk_below (g := gb288) (o := .cells #[.int .i64 ((rd_T87 l0_1 a1).f0), .int .i64 ((rd_T87 l0_1 a1).f1), .int .i64 ((rd_T87 l0_1 a1).f2)] 87 (0, 0)) (by (with_reducible repeat (first | refine blk_drewN ?_ _ | refine blk_drew ?_ | refine blk_alloc ?_ _)); refine blk_put (cs := #[.int .i64 ((rd_T87 l0_1 a1).f0), .int .i64 ((rd_T87 l0_1 a1).f1), .int .i64 0]) ?_ 2 _ rfl; (with_reducible repeat (first | refine blk_drewN ?_ _ | refine blk_drew ?_ | refine blk_alloc ?_ _)); refine blk_put (cs := #[.int .i64 ((rd_T87 l0_1 a1).f0), .int .i64 0, .int .i64 0]) ?_ 1 _ rfl; (with_reducible repeat (first | refine blk_drewN ?_ _ | refine blk_drew ?_ | refine blk_alloc ?_ _)); refine blk_put (cs := #[.int .i64 0, .int .i64 0, .int .i64 0]) ?_ 0 _ rfl; (with_reducible repeat (first | refine blk_drewN ?_ _ | refine blk_drew ?_ | refine blk_alloc ?_ _)); exact BK288.out) hb); have n3_ := Aside0.mk (below_step (by repeat (first | (with_reducible first | exact HB.out | apply below_alloc | apply pw_below_drewN | apply below_drew1 | refine below_set ?_ GE286.out | refine below_set ?_ GE288.out) | exact HB.out)) hb); clear BK286; clear BK288; clear HB; have HO291 := n0_; have BK286 := n1_; have BK288 := n2_; have HB := n3_; clear n0_ n1_ n2_ n3_; (try clear hb); (try clear hb2); (try clear hk); (try clear hi); (try clear ho0); have hcz31_0 : w30.cell? ⟨gb286, 0, none⟩ = some (.int .i64 a0_0) := (blk_cell BK286.out 0).trans rfl; have hcz31_1 : w30.cell? ⟨gb286, 1, none⟩ = some (.slice (some ad287) l0_1.length c0_1) := (blk_cell BK286.out 1).trans rfl; have hfz31_0 := blk_frozen BK286.out 0; have hfz31_1 := blk_frozen BK286.out 1; have hcz32_0 : w30.cell? ⟨gb288, 0, none⟩ = some (.int .i64 ((rd_T87 l0_1 a1).f0)) := (blk_cell BK288.out 0).trans rfl; have hcz32_1 : w30.cell? ⟨gb288, 1, none⟩ = some (.int .i64 ((rd_T87 l0_1 a1).f1)) := (blk_cell BK288.out 1).trans rfl; have hcz32_2 : w30.cell? ⟨gb288, 2, none⟩ = some (.int .i64 ((rd_T87 l0_1 a1).f2)) := (blk_cell BK288.out 2).trans rfl; have hfz32_0 := blk_frozen BK288.out 0; have hfz32_1 := blk_frozen BK288.out 1; have hfz32_2 := blk_frozen BK288.out 2) | ((with_reducible refine gate_callee (f := 71) rfl ?_); refine goesL_ (some 51) rfl rfl Try.func71 (by kernel_rfl) rfl #[.agg #[.int .i64 a0_0, .slice (some ad287) l0_1.length c0_1], .int .i64 ((rd_T87 l0_1 a1).f2), .int .i64 t292] rfl (by (try simp only [List.map_toArray, List.map_cons, List.map_nil]); first | done | rfl | (simp only [List.length_drop, List.length_take]; rfl)) ?_; (with_reducible refine (ih kj5 (by have := HJ5.out; omega) a0_0 _ _ l0_1 ((rd_T87 l0_1 a1).f2) t292 t293 t296 _ ?side1 ?side2 A23.out).mono ?_); (case side1 => repeat (first | exact (Kd.C_below HR0_1.out HB.out) | (with_reducible refine Kd.C_alloc ?_ _) | (with_reducible refine Kd.C_drewN ?_ _) | (with_reducible refine Kd.C_drew ?_))); (case side2 => exact HC0_1.out); rintro e w33 ⟨v294, rfl, ho0, hb⟩; refine ⟨_, rfl, ?_⟩; have n0_ := Aside0.mk (Kd.R_elder' (by (with_reducible repeat (first | apply Kd.R_alloc | apply Kd.R_drewN | apply Kd.R_drew)); exact HO291.out) (Kd.R_base ho0) hb); have n1_ := Aside0.mk (Kd.R_lower (Kd.R_new' ho0 (Kd.R_lt (by (with_reducible repeat (first | apply Kd.R_alloc | apply Kd.R_drewN | apply Kd.R_drew)); exact HO291.out))) (below_size (by repeat (first | (with_reducible first | exact HB.out | apply below_alloc | apply pw_below_drewN | apply below_drew1 | refine below_set ?_ GE286.out | refine below_set ?_ GE288.out) | exact HB.out)))); have n2_ := Aside0.mk (blk_below (g := gb286) (o := .cells #[.int .i64 a0_0, .slice (some ad287) l0_1.length c0_1] 50 (0, 0)) (by (with_reducible repeat (first | refine blk_drewN ?_ _ | refine blk_drew ?_ | refine blk_alloc ?_ _)); exact BK286.out) hb); have n3_ := Aside0.mk (blk_below (g := gb288) (o := .cells #[.int .i64 ((rd_T87 l0_1 a1).f0), .int .i64 ((rd_T87 l0_1 a1).f1), .int .i64 ((rd_T87 l0_1 a1).f2)] 87 (0, 0)) (by (with_reducible repeat (first | refine blk_drewN ?_ _ | refine blk_drew ?_ | refine blk_alloc ?_ _)); exact BK288.out) hb); have n4_ := Aside0.mk (below_step (by repeat (first | (with_reducible first | exact HB.out | apply below_alloc | apply pw_below_drewN | apply below_drew1 | refine below_set ?_ GE286.out | refine below_set ?_ GE288.out) | exact HB.out)) hb); clear HO291; clear BK286; clear BK288; clear HB; have HO291 := n0_; have HO295 := n1_; have BK286 := n2_; have BK288 := n3_; have HB := n4_; clear n0_ n1_ n2_ n3_ n4_; (try clear hb); (try clear hb2); (try clear hk); (try clear hi); (try clear ho0)))
         go_ret2
         exact ⟨_, by first | rfl | (simp [errW_none, errW_some] <;> rfl) | (simp [*, errW_none, errW_some] <;> rfl), by first | exact Kd.R_nil _ _ _ _ _ | exact Kd.N_nil _ _ _ _ _ | exact Kd.V_nil _ _ _ _ _ | exact Kd.Q_nil _ _ _ _ _ | exact Kd.S_nil _ _ _ _ _, by repeat (first | (with_reducible first | exact HB.out | apply below_alloc | apply pw_below_drewN | apply below_drew1 | refine below_set ?_ GE286.out | refine below_set ?_ GE288.out) | exact HB.out)⟩
        ·rw [if_neg c24] at H
         have c24b0 : decide (t296 < 0) = false := decide_eq_false c24
         clear c24
         obtain ⟨y297, hy297⟩ : ∃ y_ : List Int, y_ = (([] : List Int)) := ⟨_, rfl⟩
         replace H : (if y297.length + t289.length < 17592186044416 then ((some (y297 ++ t289 : List Int)).bind fun y300 => (if y300.length < 17592186044416 then ((some (y300 ++ [(rd_T87 l0_1 a1).f0] : List Int)).bind fun y303 => (if y303.length + t293.length < 17592186044416 then (some ((y303 ++ t293), t296)) else (none))) else (none))) else (none)) = some (r1, r2) := by first | (rw [hy297]; with_reducible exact H) | (have H2_ := (Option.bind_some _ _).symm.trans H; rw [hy297]; with_reducible exact H2_) | (have H2_ := (Option.bind_some _ _).symm.trans H; with_reducible exact H2_) | with_reducible exact H | (rw [hy297]; exact H) | exact H
         have Ny297 := Aside0.mk hy297
         clear hy297
         by_cases c34 : y297.length + t289.length < 17592186044416
         ·rw [if_pos c34] at H
          have LMc34 := Aside0.mk c34
          clear c34
          obtain ⟨y300, hy300⟩ : ∃ y_ : List Int, y_ = (y297 ++ t289) := ⟨_, rfl⟩
          replace H : (if y300.length < 17592186044416 then ((some (y300 ++ [(rd_T87 l0_1 a1).f0] : List Int)).bind fun y303 => (if y303.length + t293.length < 17592186044416 then (some ((y303 ++ t293), t296)) else (none))) else (none)) = some (r1, r2) := by first | (rw [hy300]; with_reducible exact H) | (have H2_ := (Option.bind_some _ _).symm.trans H; rw [hy300]; with_reducible exact H2_) | (have H2_ := (Option.bind_some _ _).symm.trans H; with_reducible exact H2_) | with_reducible exact H | (rw [hy300]; exact H) | exact H
          have Ny300 := Aside0.mk hy300
          clear hy300
          by_cases c35 : y300.length < 17592186044416
          ·rw [if_pos c35] at H
           have LMc35 := Aside0.mk c35
           clear c35
           obtain ⟨y303, hy303⟩ : ∃ y_ : List Int, y_ = (y300 ++ [(rd_T87 l0_1 a1).f0]) := ⟨_, rfl⟩
           replace H : (if y303.length + t293.length < 17592186044416 then (some ((y303 ++ t293), t296)) else (none)) = some (r1, r2) := by first | (rw [hy303]; with_reducible exact H) | (have H2_ := (Option.bind_some _ _).symm.trans H; rw [hy303]; with_reducible exact H2_) | (have H2_ := (Option.bind_some _ _).symm.trans H; with_reducible exact H2_) | with_reducible exact H | (rw [hy303]; exact H) | exact H
           have Ny303 := Aside0.mk hy303
           clear hy303
           by_cases c36 : y303.length + t293.length < 17592186044416
           ·rw [if_pos c36] at H
            have LMc36 := Aside0.mk c36
            clear c36
            obtain ⟨y306, hy306⟩ : ∃ y_ : List Int, y_ = (y303 ++ t293) := ⟨_, rfl⟩
            replace H : (some (y306, t296)) = some (r1, r2) := by first | (rw [hy306]; with_reducible exact H) | (have H2_ := (Option.bind_some _ _).symm.trans H; rw [hy306]; with_reducible exact H2_) | (have H2_ := (Option.bind_some _ _).symm.trans H; with_reducible exact H2_) | with_reducible exact H | (rw [hy306]; exact H) | exact H
            have Ny306 := Aside0.mk hy306
            clear hy306
            simp only [Option.some.injEq, Prod.mk.injEq] at H
            obtain ⟨rfl, rfl⟩ := H
            have hcz37_0 : wc.cell? ⟨gb286, 0, none⟩ = some (.int .i64 a0_0) := (blk_cell BK286.out 0).trans rfl
            have hcz37_1 : wc.cell? ⟨gb286, 1, none⟩ = some (.slice A0_1 l0_1.length c0_1) := (blk_cell BK286.out 1).trans rfl
            have hfz37_0 := blk_frozen BK286.out 0
            have hfz37_1 := blk_frozen BK286.out 1
            have p287 : 0 ≤ (a1 : Int) := of_decide_eq_true (by first | (with_reducible assumption) | assumption)
            have q287 : a1 < (l0_1.length : Int) := of_decide_eq_true (by first | (with_reducible assumption) | assumption)
            obtain ⟨ad287, e287, hx287_0, hx287_1, hx287_2⟩ := at_T87 HR0_1.out a1 p287 q287
            cases e287
            replace hx287_0 := (HB.out.cell (World.block_lt_of_cell? w _ hx287_0)).trans hx287_0
            replace hx287_1 := (HB.out.cell (World.block_lt_of_cell? w _ hx287_1)).trans hx287_1
            replace hx287_2 := (HB.out.cell (World.block_lt_of_cell? w _ hx287_2)).trans hx287_2
            replace p287 := eq_true p287
            replace q287 := eq_true q287
            go_wp2_with (first | ((with_reducible refine gate_dst (N := 8) rfl ?_); (try (refine gate_guard (by rfl) ?_; dsimp only)); refine box_event ?hg (N := 8) ?hd (cs := #[.int .i64 0, .int .i64 0, .int .i64 0]) (t := 87) ?hr ?_; (case hd => rfl); (case hg => rfl); (case hr => first | (go_simp; done) | (go_simp; rfl)); intro gb288 hg w38 hbox hb; have n0_ := Aside0.mk (blk_below (g := gb286) (o := .cells #[.int .i64 a0_0, .slice (some ad287) l0_1.length c0_1] 50 (0, 0)) (by (with_reducible repeat (first | refine blk_drewN ?_ _ | refine blk_drew ?_ | refine blk_alloc ?_ _)); exact BK286.out) hb); have n1_ := Aside0.mk (below_step (by repeat (first | (with_reducible first | exact HB.out | apply below_alloc | apply pw_below_drewN | apply below_drew1 | refine below_set ?_ GE286.out) | exact HB.out)) hb); have n2_ := Aside0.mk (hbox); have n3_ := Aside0.mk ((by rw [hg]; exact (below_size (by repeat (first | (with_reducible first | exact HB.out | apply below_alloc | apply pw_below_drewN | apply below_drew1 | refine below_set ?_ GE286.out) | exact HB.out))) : w.heap.size ≤ gb288)); have n4_ := Aside0.mk ((by rw [hg]; exact (below_size (by repeat (first | (with_reducible first | exact HB.out | apply below_alloc | apply pw_below_drewN | apply below_drew1 | refine below_set ?_ GE286.out) | exact HB.out))) : w.heap.size ≤ gb288)); have n5_ := Aside0.mk ((by rw [hg]; exact Nat.ne_of_lt (blk_lt (g := gb286) (o := .cells #[.int .i64 a0_0, .slice (some ad287) l0_1.length c0_1] 50 (0, 0)) (by (with_reducible repeat (first | refine blk_drewN ?_ _ | refine blk_drew ?_ | refine blk_alloc ?_ _)); exact BK286.out)) : gb286 ≠ gb288)); have n6_ := Aside0.mk ((by rw [hg]; exact Nat.ne_of_gt (blk_lt (g := gb286) (o := .cells #[.int .i64 a0_0, .slice (some ad287) l0_1.length c0_1] 50 (0, 0)) (by (with_reducible repeat (first | refine blk_drewN ?_ _ | refine blk_drew ?_ | refine blk_alloc ?_ _)); exact BK286.out)) : gb288 ≠ gb286)); clear BK286; clear HB; have BK286 := n0_; have HB := n1_; have BK288 := n2_; have GW288 := n3_; have GE288 := n4_; have NB286_288 := n5_; have NB288_286 := n6_; clear n0_ n1_ n2_ n3_ n4_ n5_ n6_; clear hb hbox hg; have hnb39 := NB288_286.out; have hnc39 := NB286_288.out; have hcz40_0 : w38.cell? ⟨gb288, 0, none⟩ = some (.int .i64 0) := (blk_cell BK288.out 0).trans rfl; have hcz40_1 : w38.cell? ⟨gb288, 1, none⟩ = some (.int .i64 0) := (blk_cell BK288.out 1).trans rfl; have hcz40_2 : w38.cell? ⟨gb288, 2, none⟩ = some (.int .i64 0) := (blk_cell BK288.out 2).trans rfl; have hfz40_0 := blk_frozen BK288.out 0; have hfz40_1 := blk_frozen BK288.out 1; have hfz40_2 := blk_frozen BK288.out 2; have hcz41_0 : w38.cell? ⟨gb286, 0, none⟩ = some (.int .i64 a0_0) := (blk_cell BK286.out 0).trans rfl; have hcz41_1 : w38.cell? ⟨gb286, 1, none⟩ = some (.slice (some ad287) l0_1.length c0_1) := (blk_cell BK286.out 1).trans rfl; have hfz41_0 := blk_frozen BK286.out 0; have hfz41_1 := blk_frozen BK286.out 1) | ((with_reducible refine gate_callee (f := 71) rfl ?_); refine goesL_ (some 41) rfl rfl Try.func71 (by kernel_rfl) rfl #[.agg #[.int .i64 a0_0, .slice (some ad287) l0_1.length c0_1], .int .i64 ((rd_T87 l0_1 a1).f1), .int .i64 (wrap64 (a2 - 1))] rfl (by (try simp only [List.map_toArray, List.map_cons, List.map_nil]); first | done | rfl | (simp only [List.length_drop, List.length_take]; rfl)) ?_; (with_reducible refine (ih kj5 (by have := HJ5.out; omega) a0_0 _ _ l0_1 ((rd_T87 l0_1 a1).f1) (wrap64 (a2 - 1)) t289 t292 _ ?side1 ?side2 A15.out).mono ?_); (case side1 => exact Kd.C_below HR0_1.out (by repeat (first | (with_reducible first | exact HB.out | apply below_alloc | apply pw_below_drewN | apply below_drew1 | refine below_set ?_ GE286.out | refine below_set ?_ GE288.out) | exact HB.out))); (case side2 => exact HC0_1.out); rintro e w42 ⟨v290, rfl, ho0, hb⟩; refine ⟨_, rfl, ?_⟩; have n0_ := Aside0.mk (Kd.R_lower ho0 (below_size (by repeat (first | (with_reducible first | exact HB.out | apply below_alloc | apply pw_below_drewN | apply below_drew1 | refine below_set ?_ GE286.out | refine below_set ?_ GE288.out) | exact HB.out)))); have n1_ := Aside0.mk (blk_below (g := gb286) (o := .cells #[.int .i64 a0_0, .slice (some ad287) l0_1.length c0_1] 50 (0, 0)) (by (with_reducible repeat (first | refine blk_drewN ?_ _ | refine blk_drew ?_ | refine blk_alloc ?_ _)); refine blk_far ?_ NB286_288.out _; (with_reducible repeat (first | refine blk_drewN ?_ _ | refine blk_drew ?_ | refine blk_alloc ?_ _)); refine blk_far ?_ NB286_288.out _; (with_reducible repeat (first | refine blk_drewN ?_ _ | refine blk_drew ?_ | refine blk_alloc ?_ _)); refine blk_far ?_ NB286_288.out _; (with_reducible repeat (first | refine blk_drewN ?_ _ | refine blk_drew ?_ | refine blk_alloc ?_ _)); exact BK286.out) hb); have n2_ := Aside0.mk (blk_below (g := gb288) (o := .cells #[.int .i64 ((rd_T87 l0_1 a1).f0), .int .i64 ((rd_T87 l0_1 a1).f1), .int .i64 ((rd_T87 l0_1 a1).f2)] 87 (0, 0)) (by (with_reducible repeat (first | refine blk_drewN ?_ _ | refine blk_drew ?_ | refine blk_alloc ?_ _)); refine blk_put (cs := #[.int .i64 ((rd_T87 l0_1 a1).f0), .int .i64 ((rd_T87 l0_1 a1).f1), .int .i64 0]) ?_ 2 _ rfl; (with_reducible repeat (first | refine blk_drewN ?_ _ | refine blk_drew ?_ | refine blk_alloc ?_ _)); refine blk_put (cs := #[.int .i64 ((rd_T87 l0_1 a1).f0), .int .i64 0, .int .i64 0]) ?_ 1 _ rfl; (with_reducible repeat (first | refine blk_drewN ?_ _ | refine blk_drew ?_ | refine blk_alloc ?_ _)); refine blk_put (cs := #[.int .i64 0, .int .i64 0, .int .i64 0]) ?_ 0 _ rfl; (with_reducible repeat (first | refine blk_drewN ?_ _ | refine blk_drew ?_ | refine blk_alloc ?_ _)); exact BK288.out) hb); have n3_ := Aside0.mk (below_step (by repeat (first | (with_reducible first | exact HB.out | apply below_alloc | apply pw_below_drewN | apply below_drew1 | refine below_set ?_ GE286.out | refine below_set ?_ GE288.out) | exact HB.out)) hb); clear BK286; clear BK288; clear HB; have HO291 := n0_; have BK286 := n1_; have BK288 := n2_; have HB := n3_; clear n0_ n1_ n2_ n3_; (try clear hb); (try clear hb2); (try clear hk); (try clear hi); (try clear ho0); have hcz43_0 : w42.cell? ⟨gb286, 0, none⟩ = some (.int .i64 a0_0) := (blk_cell BK286.out 0).trans rfl; have hcz43_1 : w42.cell? ⟨gb286, 1, none⟩ = some (.slice (some ad287) l0_1.length c0_1) := (blk_cell BK286.out 1).trans rfl; have hfz43_0 := blk_frozen BK286.out 0; have hfz43_1 := blk_frozen BK286.out 1; have hcz44_0 : w42.cell? ⟨gb288, 0, none⟩ = some (.int .i64 ((rd_T87 l0_1 a1).f0)) := (blk_cell BK288.out 0).trans rfl; have hcz44_1 : w42.cell? ⟨gb288, 1, none⟩ = some (.int .i64 ((rd_T87 l0_1 a1).f1)) := (blk_cell BK288.out 1).trans rfl; have hcz44_2 : w42.cell? ⟨gb288, 2, none⟩ = some (.int .i64 ((rd_T87 l0_1 a1).f2)) := (blk_cell BK288.out 2).trans rfl; have hfz44_0 := blk_frozen BK288.out 0; have hfz44_1 := blk_frozen BK288.out 1; have hfz44_2 := blk_frozen BK288.out 2) | ((with_reducible refine gate_callee (f := 71) rfl ?_); refine goesL_ (some 51) rfl rfl Try.func71 (by kernel_rfl) rfl #[.agg #[.int .i64 a0_0, .slice (some ad287) l0_1.length c0_1], .int .i64 ((rd_T87 l0_1 a1).f2), .int .i64 t292] rfl (by (try simp only [List.map_toArray, List.map_cons, List.map_nil]); first | done | rfl | (simp only [List.length_drop, List.length_take]; rfl)) ?_; (with_reducible refine (ih kj5 (by have := HJ5.out; omega) a0_0 _ _ l0_1 ((rd_T87 l0_1 a1).f2) t292 t293 t296 _ ?side1 ?side2 A23.out).mono ?_); (case side1 => repeat (first | exact (Kd.C_below HR0_1.out HB.out) | (with_reducible refine Kd.C_alloc ?_ _) | (with_reducible refine Kd.C_drewN ?_ _) | (with_reducible refine Kd.C_drew ?_))); (case side2 => exact HC0_1.out); rintro e w45 ⟨v294, rfl, ho0, hb⟩; refine ⟨_, rfl, ?_⟩; have n0_ := Aside0.mk (Kd.R_elder' (by (with_reducible repeat (first | apply Kd.R_alloc | apply Kd.R_drewN | apply Kd.R_drew)); exact HO291.out) (Kd.R_base ho0) hb); have n1_ := Aside0.mk (Kd.R_lower (Kd.R_new' ho0 (Kd.R_lt (by (with_reducible repeat (first | apply Kd.R_alloc | apply Kd.R_drewN | apply Kd.R_drew)); exact HO291.out))) (below_size (by repeat (first | (with_reducible first | exact HB.out | apply below_alloc | apply pw_below_drewN | apply below_drew1 | refine below_set ?_ GE286.out | refine below_set ?_ GE288.out) | exact HB.out)))); have n2_ := Aside0.mk (blk_below (g := gb286) (o := .cells #[.int .i64 a0_0, .slice (some ad287) l0_1.length c0_1] 50 (0, 0)) (by (with_reducible repeat (first | refine blk_drewN ?_ _ | refine blk_drew ?_ | refine blk_alloc ?_ _)); exact BK286.out) hb); have n3_ := Aside0.mk (blk_below (g := gb288) (o := .cells #[.int .i64 ((rd_T87 l0_1 a1).f0), .int .i64 ((rd_T87 l0_1 a1).f1), .int .i64 ((rd_T87 l0_1 a1).f2)] 87 (0, 0)) (by (with_reducible repeat (first | refine blk_drewN ?_ _ | refine blk_drew ?_ | refine blk_alloc ?_ _)); exact BK288.out) hb); have n4_ := Aside0.mk (below_step (by repeat (first | (with_reducible first | exact HB.out | apply below_alloc | apply pw_below_drewN | apply below_drew1 | refine below_set ?_ GE286.out | refine below_set ?_ GE288.out) | exact HB.out)) hb); clear HO291; clear BK286; clear BK288; clear HB; have HO291 := n0_; have HO295 := n1_; have BK286 := n2_; have BK288 := n3_; have HB := n4_; clear n0_ n1_ n2_ n3_ n4_; (try clear hb); (try clear hb2); (try clear hk); (try clear hi); (try clear ho0)) | ((with_reducible refine gate_dst (N := 56) rfl ?_); (try (refine gate_guard (by rfl) ?_; dsimp only)); refine Kd.R_lit (Kd.int .i64) _ 3 ?hg (N := 56) ?hd (xs := ([] : List Int)) (inner := []) (ok := fun _ => True) (okp := fun _ => True) ?hr ?hp (fun _ hk => hk) trivial (Below.refl _ _) (Nat.le_refl _) (by simp) ?_; (case hd => rfl); (case hg => rfl); (case hr => first | (go_simp; done) | (go_simp; rfl)); (case hp => exact (Reps.none _ _)); intro v298 w46 ho47 hb hg_ hnew_; clear hg_ hnew_; (first | rw [← Ny297.out] at ho47 | (simp only [Int.reduceToNat] at ho47; rw [← Ny297.out] at ho47)); have n0_ := Aside0.mk (Kd.R_elder' (by (with_reducible repeat (first | apply Kd.R_alloc | apply Kd.R_drewN | apply Kd.R_drew)); exact HO291.out) (Kd.R_base ho47) hb); have n1_ := Aside0.mk (Kd.R_elder' (by (with_reducible repeat (first | apply Kd.R_alloc | apply Kd.R_drewN | apply Kd.R_drew)); exact HO295.out) (Kd.R_base ho47) hb); have n2_ := Aside0.mk (Kd.R_lower (Kd.R_new' (Kd.R_new' ho47 (Kd.R_lt (by (with_reducible repeat (first | apply Kd.R_alloc | apply Kd.R_drewN | apply Kd.R_drew)); exact HO291.out))) (Kd.R_lt (by (with_reducible repeat (first | apply Kd.R_alloc | apply Kd.R_drewN | apply Kd.R_drew)); exact HO295.out))) (below_size (by repeat (first | (with_reducible first | exact HB.out | apply below_alloc | apply pw_below_drewN | apply below_drew1 | refine below_set ?_ GE286.out | refine below_set ?_ GE288.out) | exact HB.out)))); have n3_ := Aside0.mk (blk_below (g := gb286) (o := .cells #[.int .i64 a0_0, .slice (some ad287) l0_1.length c0_1] 50 (0, 0)) (by (with_reducible repeat (first | refine blk_drewN ?_ _ | refine blk_drew ?_ | refine blk_alloc ?_ _)); exact BK286.out) hb); have n4_ := Aside0.mk (blk_below (g := gb288) (o := .cells #[.int .i64 ((rd_T87 l0_1 a1).f0), .int .i64 ((rd_T87 l0_1 a1).f1), .int .i64 ((rd_T87 l0_1 a1).f2)] 87 (0, 0)) (by (with_reducible repeat (first | refine blk_drewN ?_ _ | refine blk_drew ?_ | refine blk_alloc ?_ _)); exact BK288.out) hb); have n5_ := Aside0.mk (below_step (by repeat (first | (with_reducible first | exact HB.out | apply below_alloc | apply pw_below_drewN | apply below_drew1 | refine below_set ?_ GE286.out | refine below_set ?_ GE288.out) | exact HB.out)) hb); clear HO291; clear HO295; clear BK286; clear BK288; clear HB; have HO291 := n0_; have HO295 := n1_; have HO299 := n2_; have BK286 := n3_; have BK288 := n4_; have HB := n5_; clear n0_ n1_ n2_ n3_ n4_ n5_; clear hb ho47; obtain ⟨Ao49, co49, eo49⟩ := Kd.R_slice HO291.out; subst eo49) | ((with_reducible refine gate_builtin (b := .append) (xs := #[.tmp 57, .tmp 58]) rfl ?_); (try (refine gate_guard (by rfl) ?_; dsimp only)); at_builtin; refine Kd.R_append_rows (Kd.int .i64) (w0 := w) w.heap.size rfl (.tmp 57) (.tmp 58) 26 3 (.int .i64 0) 8 rfl Try.underlying26 info3 rfl (by decide) (by omega) v298 y297 t289 _ _ _ (fun k_ => some k_ ≠ (.slice Ao49 t289.length co49 : Value).ownBlock ∧ some k_ ≠ (v294 : Value).ownBlock) (fun _ => False) rfl rfl ?aO ?aR (fun _ _ h => h) (fun _ h => h.elim) ?aF ?aB ?aS ?aL ?_; (case aR => repeat (first | exact (Kd.R_reads' HO291.out).2.2 | (with_reducible refine Kd.C_alloc ?_ _) | (with_reducible refine Kd.C_drewN ?_ _) | (with_reducible refine Kd.C_drew ?_))); (case aB => exact (by repeat (first | (with_reducible first | exact HB.out | apply below_alloc | apply pw_below_drewN | apply below_drew1 | refine below_set ?_ GE286.out | refine below_set ?_ GE288.out) | exact HB.out))); (case aF => exact (fun k_ hk => ⟨Kd.fresh' (Kd.R_lt (by (with_reducible repeat (first | apply Kd.R_alloc | apply Kd.R_drewN | apply Kd.R_drew)); exact HO291.out)) k_ hk, Kd.fresh' (Kd.R_lt (by (with_reducible repeat (first | apply Kd.R_alloc | apply Kd.R_drewN | apply Kd.R_drew)); exact HO295.out)) k_ hk⟩)); (case aO => exact (by (with_reducible repeat (first | apply Kd.R_alloc | apply Kd.R_drewN | apply Kd.R_drew)); exact Kd.R_mono HO299.out (fun _ hk => ⟨hk.1.2, hk.2⟩))); (case aS => exact (below_size (by repeat (first | (with_reducible first | exact HB.out | apply below_alloc | apply pw_below_drewN | apply below_drew1 | refine below_set ?_ GE286.out | refine below_set ?_ GE288.out) | exact HB.out)))); (case aL => have := LMc34.out; omega); intro v301 w48 ho hb hg hat; rw [← Ny300.out] at ho; have n0_ := Aside0.mk (blk_grown (g := gb286) (o := .cells #[.int .i64 a0_0, .slice (some ad287) l0_1.length c0_1] 50 (0, 0)) (by (with_reducible repeat (first | refine blk_drewN ?_ _ | refine blk_drew ?_ | refine blk_alloc ?_ _)); exact BK286.out) hg (Kd.R_ne HO299.out BK286.out (by decide))); have n1_ := Aside0.mk (blk_grown (g := gb288) (o := .cells #[.int .i64 ((rd_T87 l0_1 a1).f0), .int .i64 ((rd_T87 l0_1 a1).f1), .int .i64 ((rd_T87 l0_1 a1).f2)] 87 (0, 0)) (by (with_reducible repeat (first | refine blk_drewN ?_ _ | refine blk_drew ?_ | refine blk_alloc ?_ _)); exact BK288.out) hg (Kd.R_ne HO299.out BK288.out (by decide))); have n2_ := Aside0.mk (Kd.R_after (ok := (fun k_ => some k_ ≠ (v294 : Value).ownBlock)) (by (with_reducible repeat (first | apply Kd.R_alloc | apply Kd.R_drewN | apply Kd.R_drew)); exact Kd.R_mono HO291.out (fun _ hk => ⟨hk.1.2, hk.2⟩)) hg hat); have n3_ := Aside0.mk (Kd.R_after (ok := (fun k_ => some k_ ≠ (.slice Ao49 t289.length co49 : Value).ownBlock)) (by (with_reducible repeat (first | apply Kd.R_alloc | apply Kd.R_drewN | apply Kd.R_drew)); exact Kd.R_mono HO295.out (fun _ hk => ⟨hk.1.2, hk.2⟩)) hg hat); have n4_ := Aside0.mk (hb); have n5_ := Aside0.mk (ho); clear BK286; clear BK288; clear HO291; clear HO295; clear HB; clear HO299; have BK286 := n0_; have BK288 := n1_; have HO291 := n2_; have HO295 := n3_; have HB := n4_; have HO302 := n5_; clear n0_ n1_ n2_ n3_ n4_ n5_; clear ho hb hg hat; have hcz50_0 : w48.cell? ⟨gb288, 0, none⟩ = some (.int .i64 ((rd_T87 l0_1 a1).f0)) := (blk_cell BK288.out 0).trans rfl; have hcz50_1 : w48.cell? ⟨gb288, 1, none⟩ = some (.int .i64 ((rd_T87 l0_1 a1).f1)) := (blk_cell BK288.out 1).trans rfl; have hcz50_2 : w48.cell? ⟨gb288, 2, none⟩ = some (.int .i64 ((rd_T87 l0_1 a1).f2)) := (blk_cell BK288.out 2).trans rfl; have hfz50_0 := blk_frozen BK288.out 0; have hfz50_1 := blk_frozen BK288.out 1; have hfz50_2 := blk_frozen BK288.out 2) | ((with_reducible refine gate_builtin (b := .append) (xs := #[.tmp 60, .tmp 63]) rfl ?_); (try (refine gate_guard (by rfl) ?_; dsimp only)); at_builtin; refine Kd.R_append (Kd.int .i64) (w0 := w) w.heap.size rfl (.tmp 60) (.tmp 63) 26 3 (.int .i64 0) 8 rfl Try.underlying26 info3 rfl (by decide) (by omega) v301 y300 ((rd_T87 l0_1 a1).f0) [.int .i64 ((rd_T87 l0_1 a1).f0)] (fun k_ => some k_ ≠ (.slice Ao49 t289.length co49 : Value).ownBlock ∧ some k_ ≠ (v294 : Value).ownBlock) (fun _ => False) rfl rfl ?aP (fun _ hk => hk.elim) ?aF ?aO ?aB ?aS ?aL ?_; (case aP => exact rfl); (case aB => exact (by repeat (first | (with_reducible first | exact HB.out | apply below_alloc | apply pw_below_drewN | apply below_drew1 | refine below_set ?_ GE286.out | refine below_set ?_ GE288.out) | exact HB.out))); (case aF => exact (fun k_ hk => ⟨Kd.fresh' (Kd.R_lt (by (with_reducible repeat (first | apply Kd.R_alloc | apply Kd.R_drewN | apply Kd.R_drew)); exact HO291.out)) k_ hk, Kd.fresh' (Kd.R_lt (by (with_reducible repeat (first | apply Kd.R_alloc | apply Kd.R_drewN | apply Kd.R_drew)); exact HO295.out)) k_ hk⟩)); (case aO => exact (by (with_reducible repeat (first | apply Kd.R_alloc | apply Kd.R_drewN | apply Kd.R_drew)); exact HO302.out)); (case aS => exact (below_size (by repeat (first | (with_reducible first | exact HB.out | apply below_alloc | apply pw_below_drewN | apply below_drew1 | refine below_set ?_ GE286.out | refine below_set ?_ GE288.out) | exact HB.out)))); (case aL => have := LMc35.out; omega); intro v304 w51 ho hb hg hat; rw [← Ny303.out] at ho; have n0_ := Aside0.mk (blk_grown (g := gb286) (o := .cells #[.int .i64 a0_0, .slice (some ad287) l0_1.length c0_1] 50 (0, 0)) (by (with_reducible repeat (first | refine blk_drewN ?_ _ | refine blk_drew ?_ | refine blk_alloc ?_ _)); exact BK286.out) hg (Kd.R_ne HO302.out BK286.out (by decide))); have n1_ := Aside0.mk (blk_grown (g := gb288) (o := .cells #[.int .i64 ((rd_T87 l0_1 a1).f0), .int .i64 ((rd_T87 l0_1 a1).f1), .int .i64 ((rd_T87 l0_1 a1).f2)] 87 (0, 0)) (by (with_reducible repeat (first | refine blk_drewN ?_ _ | refine blk_drew ?_ | refine blk_alloc ?_ _)); exact BK288.out) hg (Kd.R_ne HO302.out BK288.out (by decide))); have n2_ := Aside0.mk (Kd.R_after (ok := (fun k_ => some k_ ≠ (v294 : Value).ownBlock)) (by (with_reducible repeat (first | apply Kd.R_alloc | apply Kd.R_drewN | apply Kd.R_drew)); exact HO291.out) hg hat); have n3_ := Aside0.mk (Kd.R_after (ok := (fun k_ => some k_ ≠ (.slice Ao49 t289.length co49 : Value).ownBlock)) (by (with_reducible repeat (first | apply Kd.R_alloc | apply Kd.R_drewN | apply Kd.R_drew)); exact HO295.out) hg hat); have n4_ := Aside0.mk (hb); have n5_ := Aside0.mk (ho); clear BK286; clear BK288; clear HO291; clear HO295; clear HB; clear HO302; have BK286 := n0_; have BK288 := n1_; have HO291 := n2_; have HO295 := n3_; have HB := n4_; have HO305 := n5_; clear n0_ n1_ n2_ n3_ n4_ n5_; clear ho hb hg hat; obtain ⟨Ao53, co53, eo53⟩ := Kd.R_slice HO295.out; subst eo53) | ((with_reducible refine gate_builtin (b := .append) (xs := #[.tmp 65, .tmp 66]) rfl ?_); (try (refine gate_guard (by rfl) ?_; dsimp only)); at_builtin; refine Kd.R_append_rows (Kd.int .i64) (w0 := w) w.heap.size rfl (.tmp 65) (.tmp 66) 26 3 (.int .i64 0) 8 rfl Try.underlying26 info3 rfl (by decide) (by omega) v304 y303 t293 _ _ _ (fun k_ => some k_ ≠ (.slice Ao49 t289.length co49 : Value).ownBlock ∧ some k_ ≠ (.slice Ao53 t293.length co53 : Value).ownBlock) (fun _ => False) rfl rfl ?aO ?aR (fun _ _ h => h) (fun _ h => h.elim) ?aF ?aB ?aS ?aL ?_; (case aR => repeat (first | exact (Kd.R_reads' HO295.out).2.2 | (with_reducible refine Kd.C_alloc ?_ _) | (with_reducible refine Kd.C_drewN ?_ _) | (with_reducible refine Kd.C_drew ?_))); (case aB => exact (by repeat (first | (with_reducible first | exact HB.out | apply below_alloc | apply pw_below_drewN | apply below_drew1 | refine below_set ?_ GE286.out | refine below_set ?_ GE288.out) | exact HB.out))); (case aF => exact (fun k_ hk => ⟨Kd.fresh' (Kd.R_lt (by (with_reducible repeat (first | apply Kd.R_alloc | apply Kd.R_drewN | apply Kd.R_drew)); exact HO291.out)) k_ hk, Kd.fresh' (Kd.R_lt (by (with_reducible repeat (first | apply Kd.R_alloc | apply Kd.R_drewN | apply Kd.R_drew)); exact HO295.out)) k_ hk⟩)); (case aO => exact (by (with_reducible repeat (first | apply Kd.R_alloc | apply Kd.R_drewN | apply Kd.R_drew)); exact HO305.out)); (case aS => exact (below_size (by repeat (first | (with_reducible first | exact HB.out | apply below_alloc | apply pw_below_drewN | apply below_drew1 | refine below_set ?_ GE286.out | refine below_set ?_ GE288.out) | exact HB.out)))); (case aL => have := LMc36.out; omega); intro v307 w52 ho hb hg hat; rw [← Ny306.out] at ho; have n0_ := Aside0.mk (blk_grown (g := gb286) (o := .cells #[.int .i64 a0_0, .slice (some ad287) l0_1.length c0_1] 50 (0, 0)) (by (with_reducible repeat (first | refine blk_drewN ?_ _ | refine blk_drew ?_ | refine blk_alloc ?_ _)); exact BK286.out) hg (Kd.R_ne HO305.out BK286.out (by decide))); have n1_ := Aside0.mk (blk_grown (g := gb288) (o := .cells #[.int .i64 ((rd_T87 l0_1 a1).f0), .int .i64 ((rd_T87 l0_1 a1).f1), .int .i64 ((rd_T87 l0_1 a1).f2)] 87 (0, 0)) (by (with_reducible repeat (first | refine blk_drewN ?_ _ | refine blk_drew ?_ | refine blk_alloc ?_ _)); exact BK288.out) hg (Kd.R_ne HO305.out BK288.out (by decide))); have n2_ := Aside0.mk (Kd.R_after (ok := (fun k_ => some k_ ≠ (.slice Ao53 t293.length co53 : Value).ownBlock)) (by (with_reducible repeat (first | apply Kd.R_alloc | apply Kd.R_drewN | apply Kd.R_drew)); exact HO291.out) hg hat); have n3_ := Aside0.mk (Kd.R_after (ok := (fun k_ => some k_ ≠ (.slice Ao49 t289.length co49 : Value).ownBlock)) (by (with_reducible repeat (first | apply Kd.R_alloc | apply Kd.R_drewN | apply Kd.R_drew)); exact HO295.out) hg hat); have n4_ := Aside0.mk (hb); have n5_ := Aside0.mk (ho); clear BK286; clear BK288; clear HO291; clear HO295; clear HB; clear HO305; have BK286 := n0_; have BK288 := n1_; have HO291 := n2_; have HO295 := n3_; have HB := n4_; have HO308 := n5_; clear n0_ n1_ n2_ n3_ n4_ n5_; clear ho hb hg hat))
            go_ret2
            exact ⟨_, by first | rfl | (simp [errW_none, errW_some] <;> rfl) | (simp [*, errW_none, errW_some] <;> rfl), by (with_reducible repeat (first | apply Kd.R_alloc | apply Kd.R_drewN | apply Kd.R_drew)); exact Kd.R_mono HO308.out (fun _ hk => trivial), by repeat (first | (with_reducible first | exact HB.out | apply below_alloc | apply pw_below_drewN | apply below_drew1 | refine below_set ?_ GE286.out | refine below_set ?_ GE288.out) | exact HB.out)⟩
           ·rw [if_neg c36] at H
            exact absurd H (by simp)
          ·rw [if_neg c35] at H
           exact absurd H (by simp)
         ·rw [if_neg c34] at H
          exact absurd H (by simp)
      ·rw [if_neg c14] at H
       exact absurd H (by simp)
     ·rw [if_neg c13] at H
      exact absurd H (by simp)

end Go.Proofs.Ytjdjmhagafmkaaa.PX

namespace Go.Proofs.Ytjdjmhagafmkaaa.PX
open Go.RowKit Go.Proofs.YtjdjmhagafmkaaaW.PrintWords Go.Proofs.YtjdjmhagafmkaaaW.PrintLast Go.Proofs.YtjdjmhagafmkaaaW.PrintMore
attribute [local go_sem] max2_int min2_int max_two min_two max_three min_three max_four min_four   -- for this text's walks alone
set_option linter.unusedVariables false
set_option linter.unusedSimpArgs false

/-! ### deadboltref08_lighter: function 72 -/
def deadboltref08_lighter.f (a0_0 : Int) (l0_1 : List (S87)) (a1 : Int) (a2 : Int) : Option (Bool) := if a1 < 0 then (some true) else (if 0 ≤ a1 then (if a1 < (l0_1.length : Int) then ((deadboltref08_Pri.f ((rd_T87 l0_1 a1).f0)).bind fun t311 => ((deadboltref08_Pri.f a2).bind fun t312 => (some (decide (t311 < t312))))) else (none)) else (none))
set_option maxHeartbeats 8000000 in
set_option maxRecDepth 100000 in
theorem deadboltref08_lighter.calls (a0_0 : Int) (A0_1 : Option Addr) (c0_1 : Nat) (l0_1 : List (S87)) (a1 : Int) (a2 : Int) (r : Bool) (w : World) (hr0_1 : Kd.C k87 w A0_1 l0_1.length l0_1) (hc0_1 : l0_1.length ≤ c0_1) (h : deadboltref08_lighter.f a0_0 l0_1 a1 a2 = some r) :
  Calls Try.prog 72 #[.agg #[.int .i64 a0_0, .slice A0_1 l0_1.length c0_1], .int .i64 a1, .int .i64 a2] w fun e w' => e = .returned (.bool r) ∧ Below w.heap.size w w' := by
 have hu50 := Try.underlying50
 have HR0_1 := Aside0.mk hr0_1
 have HC0_1 := Aside0.mk hc0_1
 clear hr0_1 hc0_1
 have HB := Aside0.mk (Below.refl w.heap.size w)
 have H : (if a1 < 0 then (some true) else (if 0 ≤ a1 then (if a1 < (l0_1.length : Int) then ((deadboltref08_Pri.f ((rd_T87 l0_1 a1).f0)).bind fun t311 => ((deadboltref08_Pri.f a2).bind fun t312 => (some (decide (t311 < t312))))) else (none)) else (none))) = some r := h
 clear h
 by_cases c4 : a1 < 0
 ·rw [if_pos c4] at H
  have c4b0 : decide (a1 < 0) = true := decide_eq_true c4
  clear c4
  obtain rfl := Option.some.inj H
  go_enter Try.func72, Try.ntmps72
  go_wp2_with (first | ((with_reducible refine gate_dst (N := 3) rfl ?_); refine box_event ?hg (N := 3) ?hd (cs := #[.int .i64 a0_0, .slice A0_1 l0_1.length c0_1]) (t := 50) ?hr ?_; (case hd => rfl); (case hg => rfl); (case hr => first | (go_simp; done) | (go_simp; rfl)); intro gb309 hg w5 hbox hb; have n0_ := Aside0.mk (below_step (by repeat (first | (with_reducible first | exact HB.out | apply below_alloc | apply pw_below_drewN | apply below_drew1) | exact HB.out)) hb); have n1_ := Aside0.mk (hbox); have n2_ := Aside0.mk ((by rw [hg]; exact (below_size (by repeat (first | (with_reducible first | exact HB.out | apply below_alloc | apply pw_below_drewN | apply below_drew1) | exact HB.out))) : w.heap.size ≤ gb309)); have n3_ := Aside0.mk ((by rw [hg]; exact (below_size (by repeat (first | (with_reducible first | exact HB.out | apply below_alloc | apply pw_below_drewN | apply below_drew1) | exact HB.out))) : w.heap.size ≤ gb309)); clear HB; have HB := n0_; have BK309 := n1_; have GW309 := n2_; have GE309 := n3_; clear n0_ n1_ n2_ n3_; clear hb hbox hg))
  go_ret
  exact ⟨by first | rfl | (simp [errW_none, errW_some] <;> rfl) | (simp [*, errW_none, errW_some] <;> rfl), by repeat (first | (with_reducible first | exact HB.out | apply below_alloc | apply pw_below_drewN | apply below_drew1 | refine below_set ?_ GE309.out) | exact HB.out)⟩
 ·rw [if_neg c4] at H
  have c4b0 : decide (a1 < 0) = false := decide_eq_false c4
  clear c4
  by_cases c6 : 0 ≤ a1
  ·rw [if_pos c6] at H
   have c6b0 : decide (0 ≤ a1) = true := decide_eq_true c6
   clear c6
   by_cases c7 : a1 < (l0_1.length : Int)
   ·rw [if_pos c7] at H
    have c7b0 : decide (a1 < (l0_1.length : Int)) = true := decide_eq_true c7
    clear c7
    replace H := Option.bind_eq_some_iff.mp H
    obtain ⟨t311, A80, H⟩ := H
    replace H : ((deadboltref08_Pri.f a2).bind fun t312 => (some (decide (t311 < t312)))) = some r := H
    have A8 := Aside0.mk A80
    clear A80
    replace H := Option.bind_eq_some_iff.mp H
    obtain ⟨t312, A90, H⟩ := H
    replace H : (some (decide (t311 < t312))) = some r := H
    have A9 := Aside0.mk A90
    clear A90
    obtain rfl := Option.some.inj H
    go_enter Try.func72, Try.ntmps72
    go_wp2_with (first | ((with_reducible refine gate_dst (N := 3) rfl ?_); refine box_event ?hg (N := 3) ?hd (cs := #[.int .i64 a0_0, .slice A0_1 l0_1.length c0_1]) (t := 50) ?hr ?_; (case hd => rfl); (case hg => rfl); (case hr => first | (go_simp; done) | (go_simp; rfl)); intro gb309 hg w10 hbox hb; have n0_ := Aside0.mk (below_step (by repeat (first | (with_reducible first | exact HB.out | apply below_alloc | apply pw_below_drewN | apply below_drew1) | exact HB.out)) hb); have n1_ := Aside0.mk (hbox); have n2_ := Aside0.mk ((by rw [hg]; exact (below_size (by repeat (first | (with_reducible first | exact HB.out | apply below_alloc | apply pw_below_drewN | apply below_drew1) | exact HB.out))) : w.heap.size ≤ gb309)); have n3_ := Aside0.mk ((by rw [hg]; exact (below_size (by repeat (first | (with_reducible first | exact HB.out | apply below_alloc | apply pw_below_drewN | apply below_drew1) | exact HB.out))) : w.heap.size ≤ gb309)); clear HB; have HB := n0_; have BK309 := n1_; have GW309 := n2_; have GE309 := n3_; clear n0_ n1_ n2_ n3_; clear hb hbox hg; have hcz11_0 : w10.cell? ⟨gb309, 0, none⟩ = some (.int .i64 a0_0) := (blk_cell BK309.out 0).trans rfl; have hcz11_1 : w10.cell? ⟨gb309, 1, none⟩ = some (.slice A0_1 l0_1.length c0_1) := (blk_cell BK309.out 1).trans rfl; have hfz11_0 := blk_frozen BK309.out 0; have hfz11_1 := blk_frozen BK309.out 1; have p310 : 0 ≤ (a1 : Int) := of_decide_eq_true (by first | (with_reducible assumption) | assumption); have q310 : a1 < (l0_1.length : Int) := of_decide_eq_true (by first | (with_reducible assumption) | assumption); obtain ⟨ad310, e310, hx310_0, hx310_1, hx310_2⟩ := at_T87 HR0_1.out a1 p310 q310; cases e310; replace hx310_0 := (HB.out.cell (World.block_lt_of_cell? w _ hx310_0)).trans hx310_0; replace hx310_1 := (HB.out.cell (World.block_lt_of_cell? w _ hx310_1)).trans hx310_1; replace hx310_2 := (HB.out.cell (World.block_lt_of_cell? w _ hx310_2)).trans hx310_2; replace p310 := eq_true p310; replace q310 := eq_true q310) | (go_at_call 38; (with_reducible refine (deadboltref08_Pri.calls ((rd_T87 l0_1 a1).f0) t311 _ A8.out).mono ?_); rintro e w' ⟨rfl, ⟨nd, rfl⟩⟩) | (go_at_call 38; (with_reducible refine (deadboltref08_Pri.calls a2 t312 _ A9.out).mono ?_); rintro e w' ⟨rfl, ⟨nd, rfl⟩⟩))
    go_ret
    exact ⟨by first | rfl | (simp [errW_none, errW_some] <;> rfl) | (simp [*, errW_none, errW_some] <;> rfl), by repeat (first | (with_reducible first | exact HB.out | apply below_alloc | apply pw_below_drewN | apply below_drew1 | refine below_set ?_ GE309.out) | exact HB.out)⟩
   ·rw [if_neg c7] at H
    exact absurd H (by simp)
  ·rw [if_neg c6] at H
   exact absurd H (by simp)

end Go.Proofs.Ytjdjmhagafmkaaa.PX
