/-
  Texts of this claim, one behind the other: PXx7, CGet, CSet, PXx1, PXx8, PXx9, PRoot.
-/
import Derived.Test.YtnjnjajgpkmfhaaBRootSpots2
namespace Go.Proofs.Ytnjnjajgpkmfhaa.PX
open Go.RowKit Go.Proofs.YtnjnjajgpkmfhaaW.PrintWords Go.Proofs.YtnjnjajgpkmfhaaW.PrintLast Go.Proofs.YtnjnjajgpkmfhaaW.PrintMore
attribute [local go_sem] max2_int min2_int max_two min_two max_three min_three max_four min_four   -- for this text's walks alone
set_option linter.unusedVariables false
set_option linter.unusedSimpArgs false

/-! ### root_Right: function 11 -/
def root_Right.l0 : Nat → List (S33) → List (S33) → Int → Int → Option (Bool)
  | 0, _, _, _, _ => none
  | k + 1, x0, x5, x6, x7 => if x7 < x6 then (if 0 ≤ x7 then (if x7 < (x5.length : Int) then ((root_isSpot.f ((rd_T33 x5 x7).f0) ((rd_T33 x5 x7).f1) ((rd_T33 x5 x7).f2)).bind fun t127 => (if t127 = true then ((root_isEmpty.f ((rd_T33 x5 x7).f0) ((rd_T33 x5 x7).f1) ((rd_T33 x5 x7).f2)).bind fun t128 => (if t128 = true then (some false) else (if x7 > 0 then (if 0 ≤ (wrap64 (x7 - 1)) then (if (wrap64 (x7 - 1)) < (x0.length : Int) then ((root_order.f ((rd_T33 x0 (wrap64 (x7 - 1))).f0) ((rd_T33 x5 x7).f0)).bind fun t130 => (if t130 ≥ 0 then (some false) else (root_Right.l0 k x0 x5 x6 (wrap64 (x7 + 1))))) else (none)) else (none)) else (root_Right.l0 k x0 x5 x6 (wrap64 (x7 + 1)))))) else (some false))) else (none)) else (none)) else (some (decide ((x0.length : Int) ≤ 64)))
def root_Right.f (k : Nat) (l0 : List (S33)) : Option (Bool) := root_Right.l0 k l0 l0 (l0.length : Int) 0
theorem root_Right.mono_l : ∀ k, (∀ y0 y1 y2 y3, LeO (root_Right.l0 k y0 y1 y2 y3) (root_Right.l0 (k + 1) y0 y1 y2 y3))
  | 0 => fun _ _ _ _ r h => by simp [root_Right.l0] at h
  | k + 1 => by
    have ih0 := root_Right.mono_l k
    · intro y0 y1 y2 y3
      unfold root_Right.l0
      repeat' first
      | (with_reducible exact ih0 _ _ _ _)
      | (with_reducible exact LeO.refl _)
      | (with_reducible exact LeO.none _)
      | (with_reducible refine LeO.ite ?_ ?_)
      | (with_reducible refine LeO.bind ?_ (fun _ => ?_))
      | exact ih0 _ _ _ _
      | exact LeO.none _
      | refine LeO.ite ?_ ?_
      | refine LeO.bind ?_ (fun _ => ?_)
theorem root_Right.mono : ∀ a0 k, LeO (root_Right.f k a0) (root_Right.f (k + 1) a0) := by
  intro a0 k
  have ih0 := root_Right.mono_l k
  unfold root_Right.f
  repeat' first
      | (with_reducible exact ih0 _ _ _ _)
      | (with_reducible exact LeO.refl _)
      | (with_reducible exact LeO.none _)
      | (with_reducible refine LeO.ite ?_ ?_)
      | (with_reducible refine LeO.bind ?_ (fun _ => ?_))
      | exact ih0 _ _ _ _
      | exact LeO.none _
      | refine LeO.ite ?_ ?_
      | refine LeO.bind ?_ (fun _ => ?_)
def root_Right.T4 : Bool × List (List Nat × List Nat) := (true, [([], []), ([0], [0]), ([1], [1]), ([2, 1], [2]), ([3], [3]), ([4, 3, 3], [3, 4]), ([3, 5], [3, 5]), ([6, 5], [6]), ([7], [7]), ([8, 7], [7, 8]), ([9, 7, 7], [7, 9]), ([10], [10]), ([10], [10]), ([12, 10], [10, 12]), ([11, 13, 10], [10, 11, 13]), ([14, 10], [10, 14]), ([15, 10], [10, 15]), ([10], [10]), ([17, 10], [10, 17]), ([16, 18, 10, 10], [10, 16, 18]), ([19, 10], [10, 19]), ([10, 20, 7], [7, 10, 20]), ([7, 21], [7, 21])])
def root_Right.B4 : List Nat := [0, 1, 3, 7, 15, 31, 63, 127, 255, 511, 1023, 2047, 2047, 6143, 16383, 32767, 65535, 2047, 133119, 524287, 1048575, 2097151, 4194303]
theorem root_Right.tab4 : rtab .any (opsOf Try.f11 4) = root_Right.T4 := by kernel_rfl
theorem root_Right.bits4 : waitsOk root_Right.T4.2 root_Right.B4 = true := by kernel_rfl
set_option maxHeartbeats 8000000 in
set_option maxRecDepth 100000 in
theorem root_Right.calls (k : Nat) (A0 : Option Addr) (c0 : Nat) (l0 : List (S33)) (r : Bool) (w : World) (hr0 : Kd.C k33 w A0 l0.length l0) (hc0 : l0.length ≤ c0) (h : root_Right.f k l0 = some r) :
    Calls Try.prog 11 #[.slice A0 l0.length c0] w fun e w' => e = .returned (.bool r) ∧ Below w.heap.size w w' := by
  have hu33 := Try.underlying33
  have HR0 := Aside0.mk hr0
  have HC0 := Aside0.mk hc0
  clear hr0 hc0
  have HB := Aside0.mk (Below.refl w.heap.size w)
  have H : (root_Right.l0 k l0 l0 (l0.length : Int) 0) = some r := h
  clear h
  have H' := Aside0.mk H
  clear H
  go_enter Try.func11, Try.ntmps11
  go_wp2
  go_loopg [7] k (fun kq v7 w' => ∃ (x7_1 : Int), v7 = .int .i64 x7_1 ∧ Aside0 (root_Right.l0 kq l0 l0 (l0.length : Int) x7_1 = some r) ∧ Aside0 (kq ≤ k) ∧ Aside0 (Below w.heap.size w w'))
  case atStart => exact ⟨(0), (by first | rfl | (simp; done) | (simp [*]; done)), H', ⟨Nat.le_refl _⟩, ⟨by repeat (first | (with_reducible first | exact HB.out | apply below_alloc | apply pw_below_drewN | apply below_drew1) | exact HB.out)⟩⟩
  case round =>
    clear H'
    try clear c1
    obtain ⟨x7_1, rfl, HA, HK1, HB⟩ := hrel
    cases gk with
    | zero => exact absurd HA.out (by simp [root_Right.l0])
    | succ k1 =>
      have H := HA.out
      clear HA
      simp only [root_Right.l0] at H
      by_cases c2 : x7_1 < (l0.length : Int)
      · rw [if_pos c2] at H
        have c2b0 : decide (x7_1 < (l0.length : Int)) = true := decide_eq_true c2
        clear c2
        by_cases c3 : 0 ≤ x7_1
        · rw [if_pos c3] at H
          have c3b0 : decide (0 ≤ x7_1) = true := decide_eq_true c3
          clear c3
          by_cases c4 : x7_1 < (l0.length : Int)
          · rw [if_pos c4] at H
            have c4b0 : decide (x7_1 < (l0.length : Int)) = true := decide_eq_true c4
            clear c4
            replace H := Option.bind_eq_some_iff.mp H
            obtain ⟨t127, A50, H⟩ := H
            replace H : (if t127 = true then ((root_isEmpty.f ((rd_T33 l0 x7_1).f0) ((rd_T33 l0 x7_1).f1) ((rd_T33 l0 x7_1).f2)).bind fun t128 => (if t128 = true then (some false) else (if x7_1 > 0 then (if 0 ≤ (wrap64 (x7_1 - 1)) then (if (wrap64 (x7_1 - 1)) < (l0.length : Int) then ((root_order.f ((rd_T33 l0 (wrap64 (x7_1 - 1))).f0) ((rd_T33 l0 x7_1).f0)).bind fun t130 => (if t130 ≥ 0 then (some false) else (root_Right.l0 k1 l0 l0 (l0.length : Int) (wrap64 (x7_1 + 1))))) else (none)) else (none)) else (root_Right.l0 k1 l0 l0 (l0.length : Int) (wrap64 (x7_1 + 1)))))) else (some false)) = some r := H
            have A5 := Aside0.mk A50
            clear A50
            by_cases c6 : t127 = true
            · subst c6
              have H1 : ((root_isEmpty.f ((rd_T33 l0 x7_1).f0) ((rd_T33 l0 x7_1).f1) ((rd_T33 l0 x7_1).f2)).bind fun t128 => (if t128 = true then (some false) else (if x7_1 > 0 then (if 0 ≤ (wrap64 (x7_1 - 1)) then (if (wrap64 (x7_1 - 1)) < (l0.length : Int) then ((root_order.f ((rd_T33 l0 (wrap64 (x7_1 - 1))).f0) ((rd_T33 l0 x7_1).f0)).bind fun t130 => (if t130 ≥ 0 then (some false) else (root_Right.l0 k1 l0 l0 (l0.length : Int) (wrap64 (x7_1 + 1))))) else (none)) else (none)) else (root_Right.l0 k1 l0 l0 (l0.length : Int) (wrap64 (x7_1 + 1)))))) = some r := by rw [if_pos rfl] at H; exact H
              clear H
              have H := H1
              clear H1
              replace H := Option.bind_eq_some_iff.mp H
              obtain ⟨t128, A70, H⟩ := H
              replace H : (if t128 = true then (some false) else (if x7_1 > 0 then (if 0 ≤ (wrap64 (x7_1 - 1)) then (if (wrap64 (x7_1 - 1)) < (l0.length : Int) then ((root_order.f ((rd_T33 l0 (wrap64 (x7_1 - 1))).f0) ((rd_T33 l0 x7_1).f0)).bind fun t130 => (if t130 ≥ 0 then (some false) else (root_Right.l0 k1 l0 l0 (l0.length : Int) (wrap64 (x7_1 + 1))))) else (none)) else (none)) else (root_Right.l0 k1 l0 l0 (l0.length : Int) (wrap64 (x7_1 + 1))))) = some r := H
              have A7 := Aside0.mk A70
              clear A70
              by_cases c8 : t128 = true
              · subst c8
                have H1 : (some false) = some r := by rw [if_pos rfl] at H; exact H
                clear H
                have H := H1
                clear H1
                obtain rfl := Option.some.inj H
                have p125 : 0 ≤ (x7_1 : Int) := of_decide_eq_true (by first | (with_reducible assumption) | assumption)
                have q125 : x7_1 < (l0.length : Int) := of_decide_eq_true (by first | (with_reducible assumption) | assumption)
                obtain ⟨ad125, A125_2, c125_2, e125, hx125_0, hx125_1, hx125_2, hl125_2, hi125_2⟩ := at_T33 HR0.out x7_1 p125 q125
                cases e125
                replace hx125_0 := (HB.out.cell (World.block_lt_of_cell? w _ hx125_0)).trans hx125_0
                replace hx125_1 := (HB.out.cell (World.block_lt_of_cell? w _ hx125_1)).trans hx125_1
                replace hx125_2 := (HB.out.cell (World.block_lt_of_cell? w _ hx125_2)).trans hx125_2
                have HR125_2 := Aside0.mk hi125_2
                have HC125_2 := Aside0.mk hl125_2
                clear hi125_2 hl125_2
                replace p125 := eq_true p125
                replace q125 := eq_true q125
                try go_wp2_with (first | ((with_reducible refine gate_dst (N := 4) rfl ?_); refine box_event ?hg (N := 4) ?hd (cs := #[.int .i64 0, .int .i64 0, .slice none 0 0]) (t := 33) ?hr ?_; (case hd => rfl); (case hg => rfl); (case hr => first | (go_simp; done) | (go_simp; rfl)); intro gb126 hg w9 hbox hb; have n0_ := Aside0.mk (below_step (by repeat (first | (with_reducible first | exact HB.out | apply below_alloc | apply pw_below_drewN | apply below_drew1) | exact HB.out)) hb); have n1_ := Aside0.mk (hbox); have n2_ := Aside0.mk ((by rw [hg]; exact (below_size (by repeat (first | (with_reducible first | exact HB.out | apply below_alloc | apply pw_below_drewN | apply below_drew1) | exact HB.out))) : w.heap.size ≤ gb126)); have n3_ := Aside0.mk ((by rw [hg]; exact (below_size (by repeat (first | (with_reducible first | exact HB.out | apply below_alloc | apply pw_below_drewN | apply below_drew1) | exact HB.out))) : w.heap.size ≤ gb126)); clear HB; have HB := n0_; have BK126 := n1_; have GW126 := n2_; have GE126 := n3_; clear n0_ n1_ n2_ n3_; clear hb hbox hg; have hcz10_0 : w9.cell? ⟨gb126, 0, none⟩ = some (.int .i64 0) := (blk_cell BK126.out 0).trans rfl; have hcz10_1 : w9.cell? ⟨gb126, 1, none⟩ = some (.int .i64 0) := (blk_cell BK126.out 1).trans rfl; have hcz10_2 : w9.cell? ⟨gb126, 2, none⟩ = some (.slice none 0 0) := (blk_cell BK126.out 2).trans rfl; have hfz10_0 := blk_frozen BK126.out 0; have hfz10_1 := blk_frozen BK126.out 1; have hfz10_2 := blk_frozen BK126.out 2))
                have n0_ : Aside0 ((((w9.setCell ⟨gb126, 0, none⟩ (.int .i64 ((rd_T33 l0 x7_1).f0))).setCell ⟨gb126, 1, none⟩ (.int .i64 ((rd_T33 l0 x7_1).f1))).setCell ⟨gb126, 2, none⟩ (.slice A125_2 ((rd_T33 l0 x7_1).f2).length c125_2)).heap[gb126]? = some (.cells #[.int .i64 ((rd_T33 l0 x7_1).f0), .int .i64 ((rd_T33 l0 x7_1).f1), .slice A125_2 ((rd_T33 l0 x7_1).f2).length c125_2] 33 (0, 0))) := ⟨by (with_reducible repeat (first | refine blk_drewN ?_ _ | refine blk_drew ?_ | refine blk_alloc ?_ _)); refine blk_put (cs := #[.int .i64 ((rd_T33 l0 x7_1).f0), .int .i64 ((rd_T33 l0 x7_1).f1), .slice none 0 0]) ?_ 2 _ rfl; (with_reducible repeat (first | refine blk_drewN ?_ _ | refine blk_drew ?_ | refine blk_alloc ?_ _)); refine blk_put (cs := #[.int .i64 ((rd_T33 l0 x7_1).f0), .int .i64 0, .slice none 0 0]) ?_ 1 _ rfl; (with_reducible repeat (first | refine blk_drewN ?_ _ | refine blk_drew ?_ | refine blk_alloc ?_ _)); refine blk_put (cs := #[.int .i64 0, .int .i64 0, .slice none 0 0]) ?_ 0 _ rfl; (with_reducible repeat (first | refine blk_drewN ?_ _ | refine blk_drew ?_ | refine blk_alloc ?_ _)); exact BK126.out⟩
                have n1_ : Aside0 (Below w.heap.size w (((w9.setCell ⟨gb126, 0, none⟩ (.int .i64 ((rd_T33 l0 x7_1).f0))).setCell ⟨gb126, 1, none⟩ (.int .i64 ((rd_T33 l0 x7_1).f1))).setCell ⟨gb126, 2, none⟩ (.slice A125_2 ((rd_T33 l0 x7_1).f2).length c125_2))) := ⟨by repeat (first | (with_reducible first | exact HB.out | apply below_alloc | apply pw_below_drewN | apply below_drew1 | refine below_set ?_ GE126.out) | exact HB.out)⟩
                (try clear BK126)
                (try clear HB)
                generalize (((w9.setCell ⟨gb126, 0, none⟩ (.int .i64 ((rd_T33 l0 x7_1).f0))).setCell ⟨gb126, 1, none⟩ (.int .i64 ((rd_T33 l0 x7_1).f1))).setCell ⟨gb126, 2, none⟩ (.slice A125_2 ((rd_T33 l0 x7_1).f2).length c125_2)) = w11 at n0_ n1_ ⊢
                have BK126 := n0_
                have HB := n1_
                clear n0_ n1_
                have n0_ := Aside0.mk (blk_drew BK126.out)
                have n1_ := Aside0.mk (below_drew1 HB.out)
                clear BK126
                clear HB
                have BK126 := n0_
                have HB := n1_
                clear n0_ n1_
                refine start_ (n := 23) (S := fun w' => w'.cell? ⟨gb126, 0, none⟩ = some (.int .i64 ((rd_T33 l0 x7_1).f0)) ∧ w'.cell? ⟨gb126, 1, none⟩ = some (.int .i64 ((rd_T33 l0 x7_1).f1)) ∧ w'.cell? ⟨gb126, 2, none⟩ = some (.slice A125_2 ((rd_T33 l0 x7_1).f2).length c125_2)) (ds := []) #[false, false, false, false, false, false, false, false, false, false, false, false, false, false, false, false, false, false, false, false, false, false, false] (by kernel_rfl) rfl rfl ⟨(blk_cell BK126.out 0).trans rfl, (blk_cell BK126.out 1).trans rfl, (blk_cell BK126.out 2).trans rfl⟩ (fun hHeld => ?_); refine with_tabW root_Right.tab4 root_Right.bits4 (fun HT_ HW_ => ?_)
                generalize w11.drew = w12 at BK126 HB hHeld ⊢
                refine take_ (i := 0) (N := some 12) (v := ?_) (a' := ?_) #[true, false, false, false, false, false, false, false, false, false, false, false, false, false, false, false, false, false, false, false, false, false, false] rfl rfl (take_ofW HT_.out HW_.out (by kernel_rfl)) (fun _ _ _ h => h) (Or.inl ⟨by rfl, ?_⟩) hHeld ?_ ?_
                rotate_left
                · rintro w' ⟨s0, s1, s2⟩
                  go_simp
                  with_reducible rfl
                rotate_left
                · simp only [Act.put, List.setIfInBounds_toArray, List.set_cons_zero, List.set_cons_succ, i64_w, i32_w]
                  rfl
                refine one_ (i := 1) (N := some 13) #[true, true, false, false, false, false, false, false, false, false, false, false, false, false, false, false, false, false, false, false, false, false, false] rfl rfl (one_of HT_.out (by kernel_rfl)) (by decide) (fun K hK => ?_)
                refine goes_ Try.func40 (by kernel_rfl) rfl #[.agg #[.int .i64 ((rd_T33 l0 x7_1).f0), .int .i64 ((rd_T33 l0 x7_1).f1), .slice A125_2 ((rd_T33 l0 x7_1).f2).length c125_2]] (by rfl) rfl rfl (by (try simp only [List.map_toArray, List.map_cons, List.map_nil]); first | done | rfl | (simp only [List.length_drop, List.length_take]; rfl)) ?_
                with_reducible refine (root_isSpot.calls ((rd_T33 l0 x7_1).f0) ((rd_T33 l0 x7_1).f1) _ _ ((rd_T33 l0 x7_1).f2) true _ ?side1 ?side2 A5.out).mono ?_
                (case side1 => repeat (first | exact (Kd.C_below HR125_2.out HB.out) | (with_reducible refine Kd.C_alloc ?_ _) | (with_reducible refine Kd.C_drewN ?_ _) | (with_reducible refine Kd.C_drew ?_)))
                (case side2 => exact HC125_2.out)
                rintro e w13 ⟨rfl, hb⟩
                refine ⟨_, rfl, ?_⟩
                have n0_ := Aside0.mk (blk_below (g := gb126) (o := .cells #[.int .i64 ((rd_T33 l0 x7_1).f0), .int .i64 ((rd_T33 l0 x7_1).f1), .slice A125_2 ((rd_T33 l0 x7_1).f2).length c125_2] 33 (0, 0)) (by (with_reducible repeat (first | refine blk_drewN ?_ _ | refine blk_drew ?_ | refine blk_alloc ?_ _)); exact BK126.out) hb)
                have n1_ := Aside0.mk (below_step (by repeat (first | (with_reducible first | exact HB.out | apply below_alloc | apply pw_below_drewN | apply below_drew1 | refine below_set ?_ GE126.out) | exact HB.out)) hb)
                clear BK126
                clear HB
                have BK126 := n0_
                have HB := n1_
                clear n0_ n1_
                (try clear hb)
                (try clear hb2)
                (try clear hk)
                (try clear hi)
                refine hK.out _ _ ⟨(blk_cell BK126.out 0).trans rfl, (blk_cell BK126.out 1).trans rfl, (blk_cell BK126.out 2).trans rfl⟩ (fun hHeld => ?_)
                clear hK K
                refine norm_ (a' := ?_) ?_ ?_
                rotate_left
                · show Act.put _ (some 13) _ = _
                  simp only [Act.put, List.setIfInBounds_toArray, List.set_cons_zero, List.set_cons_succ, i64_w, i32_w]
                  rfl
                refine pure_ (i := 2) (N := some 14) (v := ?_) (a' := ?_) #[true, true, true, false, false, false, false, false, false, false, false, false, false, false, false, false, false, false, false, false, false, false, false] rfl rfl (any_of HT_.out (by kernel_rfl)) (fun _ _ _ h => h) (Or.inl ⟨by rfl, ?_⟩) ?_ ?_
                rotate_left
                · intro w'
                  go_simp
                  with_reducible rfl
                rotate_left
                · simp only [Act.put, List.setIfInBounds_toArray, List.set_cons_zero, List.set_cons_succ, i64_w, i32_w]
                  rfl
                refine pure_ (i := 3) (N := some 15) (v := ?_) (a' := ?_) #[true, true, true, true, false, false, false, false, false, false, false, false, false, false, false, false, false, false, false, false, false, false, false] rfl rfl (any_of HT_.out (by kernel_rfl)) (fun _ _ _ h => h) (Or.inl ⟨by rfl, ?_⟩) ?_ ?_
                rotate_left
                · intro w'
                  go_simp
                  with_reducible rfl
                rotate_left
                · simp only [Act.put, List.setIfInBounds_toArray, List.set_cons_zero, List.set_cons_succ, i64_w, i32_w]
                  rfl
                refine take_ (i := 4) (N := some 16) (v := ?_) (a' := ?_) #[true, true, true, true, true, false, false, false, false, false, false, false, false, false, false, false, false, false, false, false, false, false, false] rfl rfl (take_ofW HT_.out HW_.out (by kernel_rfl)) (fun _ _ _ h => h) (Or.inl ⟨by rfl, ?_⟩) hHeld ?_ ?_
                rotate_left
                · rintro w' ⟨s0, s1, s2⟩
                  go_simp
                  with_reducible rfl
                rotate_left
                · simp only [Act.put, List.setIfInBounds_toArray, List.set_cons_zero, List.set_cons_succ, i64_w, i32_w]
                  rfl
                refine one_ (i := 5) (N := some 17) #[true, true, true, true, true, true, false, false, false, false, false, false, false, false, false, false, false, false, false, false, false, false, false] rfl rfl (one_of HT_.out (by kernel_rfl)) (by decide) (fun K hK => ?_)
                refine goes_ Try.func41 (by kernel_rfl) rfl #[.agg #[.int .i64 ((rd_T33 l0 x7_1).f0), .int .i64 ((rd_T33 l0 x7_1).f1), .slice A125_2 ((rd_T33 l0 x7_1).f2).length c125_2]] (by rfl) rfl rfl (by (try simp only [List.map_toArray, List.map_cons, List.map_nil]); first | done | rfl | (simp only [List.length_drop, List.length_take]; rfl)) ?_
                with_reducible refine (root_isEmpty.calls ((rd_T33 l0 x7_1).f0) ((rd_T33 l0 x7_1).f1) _ _ ((rd_T33 l0 x7_1).f2) true _ ?side1 ?side2 A7.out).mono ?_
                (case side1 => repeat (first | exact (Kd.C_below HR125_2.out HB.out) | (with_reducible refine Kd.C_alloc ?_ _) | (with_reducible refine Kd.C_drewN ?_ _) | (with_reducible refine Kd.C_drew ?_)))
                (case side2 => exact HC125_2.out)
                rintro e w14 ⟨rfl, hb⟩
                refine ⟨_, rfl, ?_⟩
                have n0_ := Aside0.mk (blk_below (g := gb126) (o := .cells #[.int .i64 ((rd_T33 l0 x7_1).f0), .int .i64 ((rd_T33 l0 x7_1).f1), .slice A125_2 ((rd_T33 l0 x7_1).f2).length c125_2] 33 (0, 0)) (by (with_reducible repeat (first | refine blk_drewN ?_ _ | refine blk_drew ?_ | refine blk_alloc ?_ _)); exact BK126.out) hb)
                have n1_ := Aside0.mk (below_step (by repeat (first | (with_reducible first | exact HB.out | apply below_alloc | apply pw_below_drewN | apply below_drew1 | refine below_set ?_ GE126.out) | exact HB.out)) hb)
                clear BK126
                clear HB
                have BK126 := n0_
                have HB := n1_
                clear n0_ n1_
                (try clear hb)
                (try clear hb2)
                (try clear hk)
                (try clear hi)
                refine hK.out _ _ ⟨(blk_cell BK126.out 0).trans rfl, (blk_cell BK126.out 1).trans rfl, (blk_cell BK126.out 2).trans rfl⟩ (fun hHeld => ?_)
                clear hK K
                refine norm_ (a' := ?_) ?_ ?_
                rotate_left
                · show Act.put _ (some 17) _ = _
                  simp only [Act.put, List.setIfInBounds_toArray, List.set_cons_zero, List.set_cons_succ, i64_w, i32_w]
                  rfl
                refine pure_ (i := 6) (N := some 18) (v := ?_) (a' := ?_) #[true, true, true, true, true, true, true, false, false, false, false, false, false, false, false, false, false, false, false, false, false, false, false] rfl rfl (any_of HT_.out (by kernel_rfl)) (fun _ _ _ h => h) (Or.inl ⟨by rfl, ?_⟩) ?_ ?_
                rotate_left
                · intro w'
                  go_simp
                  with_reducible rfl
                rotate_left
                · simp only [Act.put, List.setIfInBounds_toArray, List.set_cons_zero, List.set_cons_succ, i64_w, i32_w]
                  rfl
                refine pure_ (i := 7) (N := some 19) (v := ?_) (a' := ?_) #[true, true, true, true, true, true, true, true, false, false, false, false, false, false, false, false, false, false, false, false, false, false, false] rfl rfl (any_of HT_.out (by kernel_rfl)) (fun _ _ _ h => h) (Or.inl ⟨by rfl, ?_⟩) ?_ ?_
                rotate_left
                · intro w'
                  go_simp
                  with_reducible rfl
                rotate_left
                · simp only [Act.put, List.setIfInBounds_toArray, List.set_cons_zero, List.set_cons_succ, i64_w, i32_w]
                  rfl
                refine pure_ (i := 8) (N := some 20) (v := undef) (a' := ?_) #[true, true, true, true, true, true, true, true, true, false, false, false, false, false, false, false, false, false, false, false, false, false, false] rfl rfl (any_of HT_.out (by kernel_rfl)) (fun _ _ _ h => h) (Or.inr ⟨by rfl, rfl⟩) ?_ ?_
                rotate_left
                · simp only [Act.put, List.setIfInBounds_toArray, List.set_cons_zero, List.set_cons_succ, i64_w, i32_w]
                  rfl
                refine pure_ (i := 9) (N := some 21) (v := undef) (a' := ?_) #[true, true, true, true, true, true, true, true, true, true, false, false, false, false, false, false, false, false, false, false, false, false, false] rfl rfl (any_of HT_.out (by kernel_rfl)) (fun _ _ _ h => h) (Or.inr ⟨by rfl, rfl⟩) ?_ ?_
                rotate_left
                · simp only [Act.put, List.setIfInBounds_toArray, List.set_cons_zero, List.set_cons_succ, i64_w, i32_w]
                  rfl
                refine pure_ (i := 10) (N := some 22) (v := undef) (a' := ?_) #[true, true, true, true, true, true, true, true, true, true, true, false, false, false, false, false, false, false, false, false, false, false, false] rfl rfl (any_of HT_.out (by kernel_rfl)) (fun _ _ _ h => h) (Or.inr ⟨by rfl, rfl⟩) ?_ ?_
                rotate_left
                · simp only [Act.put, List.setIfInBounds_toArray, List.set_cons_zero, List.set_cons_succ, i64_w, i32_w]
                  rfl
                refine pure_ (i := 11) (N := some 23) (v := undef) (a' := ?_) #[true, true, true, true, true, true, true, true, true, true, true, true, false, false, false, false, false, false, false, false, false, false, false] rfl rfl (any_of HT_.out (by kernel_rfl)) (fun _ _ _ h => h) (Or.inr ⟨by rfl, rfl⟩) ?_ ?_
                rotate_left
                · simp only [Act.put, List.setIfInBounds_toArray, List.set_cons_zero, List.set_cons_succ, i64_w, i32_w]
                  rfl
                refine pure_ (i := 12) (N := some 24) (v := undef) (a' := ?_) #[true, true, true, true, true, true, true, true, true, true, true, true, true, false, false, false, false, false, false, false, false, false, false] rfl rfl (any_of HT_.out (by kernel_rfl)) (fun _ _ _ h => h) (Or.inr ⟨by rfl, rfl⟩) ?_ ?_
                rotate_left
                · simp only [Act.put, List.setIfInBounds_toArray, List.set_cons_zero, List.set_cons_succ, i64_w, i32_w]
                  rfl
                refine pure_ (i := 13) (N := some 25) (v := undef) (a' := ?_) #[true, true, true, true, true, true, true, true, true, true, true, true, true, true, false, false, false, false, false, false, false, false, false] rfl rfl (any_of HT_.out (by kernel_rfl)) (fun _ _ _ h => h) (Or.inr ⟨by rfl, rfl⟩) ?_ ?_
                rotate_left
                · simp only [Act.put, List.setIfInBounds_toArray, List.set_cons_zero, List.set_cons_succ, i64_w, i32_w]
                  rfl
                refine pure_ (i := 14) (N := some 26) (v := undef) (a' := ?_) #[true, true, true, true, true, true, true, true, true, true, true, true, true, true, true, false, false, false, false, false, false, false, false] rfl rfl (any_of HT_.out (by kernel_rfl)) (fun _ _ _ h => h) (Or.inr ⟨by rfl, rfl⟩) ?_ ?_
                rotate_left
                · simp only [Act.put, List.setIfInBounds_toArray, List.set_cons_zero, List.set_cons_succ, i64_w, i32_w]
                  rfl
                refine pure_ (i := 15) (N := some 27) (v := undef) (a' := ?_) #[true, true, true, true, true, true, true, true, true, true, true, true, true, true, true, true, false, false, false, false, false, false, false] rfl rfl (any_of HT_.out (by kernel_rfl)) (fun _ _ _ h => h) (Or.inr ⟨by rfl, rfl⟩) ?_ ?_
                rotate_left
                · simp only [Act.put, List.setIfInBounds_toArray, List.set_cons_zero, List.set_cons_succ, i64_w, i32_w]
                  rfl
                refine pure_ (i := 16) (N := some 28) (v := undef) (a' := ?_) #[true, true, true, true, true, true, true, true, true, true, true, true, true, true, true, true, true, false, false, false, false, false, false] rfl rfl (any_of HT_.out (by kernel_rfl)) (fun _ _ _ h => h) (Or.inr ⟨by rfl, rfl⟩) ?_ ?_
                rotate_left
                · simp only [Act.put, List.setIfInBounds_toArray, List.set_cons_zero, List.set_cons_succ, i64_w, i32_w]
                  rfl
                refine pure_ (i := 17) (N := some 29) (v := undef) (a' := ?_) #[true, true, true, true, true, true, true, true, true, true, true, true, true, true, true, true, true, true, false, false, false, false, false] rfl rfl (any_of HT_.out (by kernel_rfl)) (fun _ _ _ h => h) (Or.inr ⟨by rfl, rfl⟩) ?_ ?_
                rotate_left
                · simp only [Act.put, List.setIfInBounds_toArray, List.set_cons_zero, List.set_cons_succ, i64_w, i32_w]
                  rfl
                refine pure_ (i := 18) (N := some 30) (v := undef) (a' := ?_) #[true, true, true, true, true, true, true, true, true, true, true, true, true, true, true, true, true, true, true, false, false, false, false] rfl rfl (any_of HT_.out (by kernel_rfl)) (fun _ _ _ h => h) (Or.inr ⟨by rfl, rfl⟩) ?_ ?_
                rotate_left
                · simp only [Act.put, List.setIfInBounds_toArray, List.set_cons_zero, List.set_cons_succ, i64_w, i32_w]
                  rfl
                refine pure_ (i := 19) (N := some 31) (v := undef) (a' := ?_) #[true, true, true, true, true, true, true, true, true, true, true, true, true, true, true, true, true, true, true, true, false, false, false] rfl rfl (any_of HT_.out (by kernel_rfl)) (fun _ _ _ h => h) (Or.inr ⟨by rfl, rfl⟩) ?_ ?_
                rotate_left
                · simp only [Act.put, List.setIfInBounds_toArray, List.set_cons_zero, List.set_cons_succ, i64_w, i32_w]
                  rfl
                refine pure_ (i := 20) (N := some 32) (v := undef) (a' := ?_) #[true, true, true, true, true, true, true, true, true, true, true, true, true, true, true, true, true, true, true, true, true, false, false] rfl rfl (any_of HT_.out (by kernel_rfl)) (fun _ _ _ h => h) (Or.inr ⟨by rfl, rfl⟩) ?_ ?_
                rotate_left
                · simp only [Act.put, List.setIfInBounds_toArray, List.set_cons_zero, List.set_cons_succ, i64_w, i32_w]
                  rfl
                refine pure_ (i := 21) (N := some 33) (v := undef) (a' := ?_) #[true, true, true, true, true, true, true, true, true, true, true, true, true, true, true, true, true, true, true, true, true, true, false] rfl rfl (any_of HT_.out (by kernel_rfl)) (fun _ _ _ h => h) (Or.inr ⟨by rfl, rfl⟩) ?_ ?_
                rotate_left
                · simp only [Act.put, List.setIfInBounds_toArray, List.set_cons_zero, List.set_cons_succ, i64_w, i32_w]
                  rfl
                refine pure_ (i := 22) (N := some 34) (v := ?_) (a' := ?_) #[true, true, true, true, true, true, true, true, true, true, true, true, true, true, true, true, true, true, true, true, true, true, true] rfl rfl (any_of HT_.out (by kernel_rfl)) (fun _ _ _ h => h) (Or.inl ⟨by rfl, ?_⟩) ?_ ?_
                rotate_left
                · intro w'
                  go_simp
                  with_reducible rfl
                rotate_left
                · simp only [Act.put, List.setIfInBounds_toArray, List.set_cons_zero, List.set_cons_succ, i64_w, i32_w]
                  rfl
                refine done_ (done_of HT_.out (by kernel_rfl)) ?_
                try go_wp2
                go_ret
                exact ⟨by first | rfl | (simp [errW_none, errW_some] <;> rfl) | (simp [*, errW_none, errW_some] <;> rfl), by repeat (first | (with_reducible first | exact HB.out | apply below_alloc | apply pw_below_drewN | apply below_drew1 | refine below_set ?_ GE126.out) | exact HB.out)⟩
              · replace c8 := Bool.eq_false_iff.mpr c8
                subst c8
                have H1 : (if x7_1 > 0 then (if 0 ≤ (wrap64 (x7_1 - 1)) then (if (wrap64 (x7_1 - 1)) < (l0.length : Int) then ((root_order.f ((rd_T33 l0 (wrap64 (x7_1 - 1))).f0) ((rd_T33 l0 x7_1).f0)).bind fun t130 => (if t130 ≥ 0 then (some false) else (root_Right.l0 k1 l0 l0 (l0.length : Int) (wrap64 (x7_1 + 1))))) else (none)) else (none)) else (root_Right.l0 k1 l0 l0 (l0.length : Int) (wrap64 (x7_1 + 1)))) = some r := by rw [if_neg (show ¬ (false = true) by decide)] at H; exact H
                clear H
                have H := H1
                clear H1
                by_cases c15 : x7_1 > 0
                · rw [if_pos c15] at H
                  have c15b0 : decide (0 < x7_1) = true := decide_eq_true c15
                  clear c15
                  obtain ⟨ji16, hji16⟩ : ∃ j_ : Int, (wrap64 (x7_1 - 1)) = j_ := ⟨_, rfl⟩
                  replace H : (if 0 ≤ (ji16) then (if (ji16) < (l0.length : Int) then ((root_order.f ((rd_T33 l0 (ji16)).f0) ((rd_T33 l0 x7_1).f0)).bind fun t130 => (if t130 ≥ 0 then (some false) else (root_Right.l0 k1 l0 l0 (l0.length : Int) (wrap64 (x7_1 + 1))))) else (none)) else (none)) = some r := by first | (rw [hji16] at H; exact H) | (simp only [hji16] at H ⊢; exact H)
                  (try rw [hji16] at A5)
                  (try rw [hji16] at A7)
                  have hji16w : (IntKind.i64.wrap (x7_1 - 1)) = ji16 := (i64_w _).trans hji16
                  by_cases c17 : 0 ≤ (ji16)
                  · rw [if_pos c17] at H
                    have c17b0 : decide (0 ≤ (ji16)) = true := decide_eq_true c17
                    clear c17
                    by_cases c18 : (ji16) < (l0.length : Int)
                    · rw [if_pos c18] at H
                      have c18b0 : decide ((ji16) < (l0.length : Int)) = true := decide_eq_true c18
                      clear c18
                      replace H := Option.bind_eq_some_iff.mp H
                      obtain ⟨t130, A190, H⟩ := H
                      replace H : (if t130 ≥ 0 then (some false) else (root_Right.l0 k1 l0 l0 (l0.length : Int) (wrap64 (x7_1 + 1)))) = some r := H
                      have A19 := Aside0.mk A190
                      clear A190
                      by_cases c20 : t130 ≥ 0
                      · rw [if_pos c20] at H
                        have c20b0 : decide (0 ≤ t130) = true := decide_eq_true c20
                        clear c20
                        obtain rfl := Option.some.inj H
                        have p125 : 0 ≤ (x7_1 : Int) := of_decide_eq_true (by first | (with_reducible assumption) | assumption)
                        have q125 : x7_1 < (l0.length : Int) := of_decide_eq_true (by first | (with_reducible assumption) | assumption)
                        obtain ⟨ad125, A125_2, c125_2, e125, hx125_0, hx125_1, hx125_2, hl125_2, hi125_2⟩ := at_T33 HR0.out x7_1 p125 q125
                        cases e125
                        replace hx125_0 := (HB.out.cell (World.block_lt_of_cell? w _ hx125_0)).trans hx125_0
                        replace hx125_1 := (HB.out.cell (World.block_lt_of_cell? w _ hx125_1)).trans hx125_1
                        replace hx125_2 := (HB.out.cell (World.block_lt_of_cell? w _ hx125_2)).trans hx125_2
                        have HR125_2 := Aside0.mk hi125_2
                        have HC125_2 := Aside0.mk hl125_2
                        clear hi125_2 hl125_2
                        replace p125 := eq_true p125
                        replace q125 := eq_true q125
                        try go_wp2_with (first | ((with_reducible refine gate_dst (N := 4) rfl ?_); refine box_event ?hg (N := 4) ?hd (cs := #[.int .i64 0, .int .i64 0, .slice none 0 0]) (t := 33) ?hr ?_; (case hd => rfl); (case hg => rfl); (case hr => first | (go_simp; done) | (go_simp; rfl)); intro gb126 hg w21 hbox hb; have n0_ := Aside0.mk (below_step (by repeat (first | (with_reducible first | exact HB.out | apply below_alloc | apply pw_below_drewN | apply below_drew1) | exact HB.out)) hb); have n1_ := Aside0.mk (hbox); have n2_ := Aside0.mk ((by rw [hg]; exact (below_size (by repeat (first | (with_reducible first | exact HB.out | apply below_alloc | apply pw_below_drewN | apply below_drew1) | exact HB.out))) : w.heap.size ≤ gb126)); have n3_ := Aside0.mk ((by rw [hg]; exact (below_size (by repeat (first | (with_reducible first | exact HB.out | apply below_alloc | apply pw_below_drewN | apply below_drew1) | exact HB.out))) : w.heap.size ≤ gb126)); clear HB; have HB := n0_; have BK126 := n1_; have GW126 := n2_; have GE126 := n3_; clear n0_ n1_ n2_ n3_; clear hb hbox hg; have hcz22_0 : w21.cell? ⟨gb126, 0, none⟩ = some (.int .i64 0) := (blk_cell BK126.out 0).trans rfl; have hcz22_1 : w21.cell? ⟨gb126, 1, none⟩ = some (.int .i64 0) := (blk_cell BK126.out 1).trans rfl; have hcz22_2 : w21.cell? ⟨gb126, 2, none⟩ = some (.slice none 0 0) := (blk_cell BK126.out 2).trans rfl; have hfz22_0 := blk_frozen BK126.out 0; have hfz22_1 := blk_frozen BK126.out 1; have hfz22_2 := blk_frozen BK126.out 2))
                        have n0_ : Aside0 ((((w21.setCell ⟨gb126, 0, none⟩ (.int .i64 ((rd_T33 l0 x7_1).f0))).setCell ⟨gb126, 1, none⟩ (.int .i64 ((rd_T33 l0 x7_1).f1))).setCell ⟨gb126, 2, none⟩ (.slice A125_2 ((rd_T33 l0 x7_1).f2).length c125_2)).heap[gb126]? = some (.cells #[.int .i64 ((rd_T33 l0 x7_1).f0), .int .i64 ((rd_T33 l0 x7_1).f1), .slice A125_2 ((rd_T33 l0 x7_1).f2).length c125_2] 33 (0, 0))) := ⟨by (with_reducible repeat (first | refine blk_drewN ?_ _ | refine blk_drew ?_ | refine blk_alloc ?_ _)); refine blk_put (cs := #[.int .i64 ((rd_T33 l0 x7_1).f0), .int .i64 ((rd_T33 l0 x7_1).f1), .slice none 0 0]) ?_ 2 _ rfl; (with_reducible repeat (first | refine blk_drewN ?_ _ | refine blk_drew ?_ | refine blk_alloc ?_ _)); refine blk_put (cs := #[.int .i64 ((rd_T33 l0 x7_1).f0), .int .i64 0, .slice none 0 0]) ?_ 1 _ rfl; (with_reducible repeat (first | refine blk_drewN ?_ _ | refine blk_drew ?_ | refine blk_alloc ?_ _)); refine blk_put (cs := #[.int .i64 0, .int .i64 0, .slice none 0 0]) ?_ 0 _ rfl; (with_reducible repeat (first | refine blk_drewN ?_ _ | refine blk_drew ?_ | refine blk_alloc ?_ _)); exact BK126.out⟩
                        have n1_ : Aside0 (Below w.heap.size w (((w21.setCell ⟨gb126, 0, none⟩ (.int .i64 ((rd_T33 l0 x7_1).f0))).setCell ⟨gb126, 1, none⟩ (.int .i64 ((rd_T33 l0 x7_1).f1))).setCell ⟨gb126, 2, none⟩ (.slice A125_2 ((rd_T33 l0 x7_1).f2).length c125_2))) := ⟨by repeat (first | (with_reducible first | exact HB.out | apply below_alloc | apply pw_below_drewN | apply below_drew1 | refine below_set ?_ GE126.out) | exact HB.out)⟩
                        (try clear BK126)
                        (try clear HB)
                        generalize (((w21.setCell ⟨gb126, 0, none⟩ (.int .i64 ((rd_T33 l0 x7_1).f0))).setCell ⟨gb126, 1, none⟩ (.int .i64 ((rd_T33 l0 x7_1).f1))).setCell ⟨gb126, 2, none⟩ (.slice A125_2 ((rd_T33 l0 x7_1).f2).length c125_2)) = w23 at n0_ n1_ ⊢
                        have BK126 := n0_
                        have HB := n1_
                        clear n0_ n1_
                        have n0_ := Aside0.mk (blk_drew BK126.out)
                        have n1_ := Aside0.mk (below_drew1 HB.out)
                        clear BK126
                        clear HB
                        have BK126 := n0_
                        have HB := n1_
                        clear n0_ n1_
                        have p129 : 0 ≤ ((ji16) : Int) := of_decide_eq_true (by first | (with_reducible assumption) | assumption)
                        have q129 : (ji16) < (l0.length : Int) := of_decide_eq_true (by first | (with_reducible assumption) | assumption)
                        obtain ⟨ad129, A129_2, c129_2, e129, hx129_0, hx129_1, hx129_2, hl129_2, hi129_2⟩ := at_T33 HR0.out (ji16) p129 q129
                        have hw129_2 := hx129_2
                        have hw129_1 := hx129_1
                        have hw129_0 := hx129_0
                        obtain rfl : ad125 = ad129 := (by injection e129)
                        replace hx129_0 := (HB.out.cell (World.block_lt_of_cell? w _ hx129_0)).trans hx129_0
                        replace hx129_1 := (HB.out.cell (World.block_lt_of_cell? w _ hx129_1)).trans hx129_1
                        replace hx129_2 := (HB.out.cell (World.block_lt_of_cell? w _ hx129_2)).trans hx129_2
                        have HR129_2 := Aside0.mk hi129_2
                        have HC129_2 := Aside0.mk hl129_2
                        clear hi129_2 hl129_2
                        replace p129 := eq_true p129
                        replace q129 := eq_true q129
                        refine start_ (n := 23) (S := fun w' => w'.cell? ⟨gb126, 0, none⟩ = some (.int .i64 ((rd_T33 l0 x7_1).f0)) ∧ w'.cell? ⟨gb126, 1, none⟩ = some (.int .i64 ((rd_T33 l0 x7_1).f1)) ∧ w'.cell? ⟨gb126, 2, none⟩ = some (.slice A125_2 ((rd_T33 l0 x7_1).f2).length c125_2) ∧ w'.cell? (ad125.add (((ji16)).toNat * 3)) = some (.int .i64 ((rd_T33 l0 (ji16)).f0)) ∧ w'.cell? ⟨(ad125.add (((ji16)).toNat * 3)).block, (ad125.add (((ji16)).toNat * 3)).off + 1, none⟩ = some (.int .i64 ((rd_T33 l0 (ji16)).f1)) ∧ w'.cell? ⟨(ad125.add (((ji16)).toNat * 3)).block, (ad125.add (((ji16)).toNat * 3)).off + 2, none⟩ = some (.slice A129_2 ((rd_T33 l0 (ji16)).f2).length c129_2)) (ds := []) #[false, false, false, false, false, false, false, false, false, false, false, false, false, false, false, false, false, false, false, false, false, false, false] (by kernel_rfl) rfl rfl ⟨(blk_cell BK126.out 0).trans rfl, (blk_cell BK126.out 1).trans rfl, (blk_cell BK126.out 2).trans rfl, ((HB.out.cell (World.block_lt_of_cell? w _ hw129_0)).trans hw129_0), ((HB.out.cell (World.block_lt_of_cell? w _ hw129_1)).trans hw129_1), ((HB.out.cell (World.block_lt_of_cell? w _ hw129_2)).trans hw129_2)⟩ (fun hHeld => ?_); refine with_tabW root_Right.tab4 root_Right.bits4 (fun HT_ HW_ => ?_)
                        generalize w23.drew = w24 at BK126 HB HR129_2 hx129_0 hx129_1 hx129_2 hHeld ⊢
                        refine take_ (i := 0) (N := some 12) (v := ?_) (a' := ?_) #[true, false, false, false, false, false, false, false, false, false, false, false, false, false, false, false, false, false, false, false, false, false, false] rfl rfl (take_ofW HT_.out HW_.out (by kernel_rfl)) (fun _ _ _ h => h) (Or.inl ⟨by rfl, ?_⟩) hHeld ?_ ?_
                        rotate_left
                        · rintro w' ⟨s0, s1, s2, s3, s4, s5⟩
                          go_simp
                          with_reducible rfl
                        rotate_left
                        · simp only [Act.put, List.setIfInBounds_toArray, List.set_cons_zero, List.set_cons_succ, i64_w, i32_w]
                          rfl
                        refine one_ (i := 1) (N := some 13) #[true, true, false, false, false, false, false, false, false, false, false, false, false, false, false, false, false, false, false, false, false, false, false] rfl rfl (one_of HT_.out (by kernel_rfl)) (by decide) (fun K hK => ?_)
                        refine goes_ Try.func40 (by kernel_rfl) rfl #[.agg #[.int .i64 ((rd_T33 l0 x7_1).f0), .int .i64 ((rd_T33 l0 x7_1).f1), .slice A125_2 ((rd_T33 l0 x7_1).f2).length c125_2]] (by rfl) rfl rfl (by (try simp only [List.map_toArray, List.map_cons, List.map_nil]); first | done | rfl | (simp only [List.length_drop, List.length_take]; rfl)) ?_
                        with_reducible refine (root_isSpot.calls ((rd_T33 l0 x7_1).f0) ((rd_T33 l0 x7_1).f1) _ _ ((rd_T33 l0 x7_1).f2) true _ ?side1 ?side2 A5.out).mono ?_
                        (case side1 => repeat (first | exact (Kd.C_below HR125_2.out HB.out) | (with_reducible refine Kd.C_alloc ?_ _) | (with_reducible refine Kd.C_drewN ?_ _) | (with_reducible refine Kd.C_drew ?_)))
                        (case side2 => exact HC125_2.out)
                        rintro e w25 ⟨rfl, hb⟩
                        refine ⟨_, rfl, ?_⟩
                        have n0_ := Aside0.mk (blk_below (g := gb126) (o := .cells #[.int .i64 ((rd_T33 l0 x7_1).f0), .int .i64 ((rd_T33 l0 x7_1).f1), .slice A125_2 ((rd_T33 l0 x7_1).f2).length c125_2] 33 (0, 0)) (by (with_reducible repeat (first | refine blk_drewN ?_ _ | refine blk_drew ?_ | refine blk_alloc ?_ _)); exact BK126.out) hb)
                        have n1_ := Aside0.mk (below_step (by repeat (first | (with_reducible first | exact HB.out | apply below_alloc | apply pw_below_drewN | apply below_drew1 | refine below_set ?_ GE126.out) | exact HB.out)) hb)
                        clear BK126
                        clear HB
                        have BK126 := n0_
                        have HB := n1_
                        clear n0_ n1_
                        (try clear hb)
                        (try clear hb2)
                        (try clear hk)
                        (try clear hi)
                        refine hK.out _ _ ⟨(blk_cell BK126.out 0).trans rfl, (blk_cell BK126.out 1).trans rfl, (blk_cell BK126.out 2).trans rfl, ((HB.out.cell (World.block_lt_of_cell? w _ hw129_0)).trans hw129_0), ((HB.out.cell (World.block_lt_of_cell? w _ hw129_1)).trans hw129_1), ((HB.out.cell (World.block_lt_of_cell? w _ hw129_2)).trans hw129_2)⟩ (fun hHeld => ?_)
                        clear hK K
                        refine norm_ (a' := ?_) ?_ ?_
                        rotate_left
                        · show Act.put _ (some 13) _ = _
                          simp only [Act.put, List.setIfInBounds_toArray, List.set_cons_zero, List.set_cons_succ, i64_w, i32_w]
                          rfl
                        refine pure_ (i := 2) (N := some 14) (v := ?_) (a' := ?_) #[true, true, true, false, false, false, false, false, false, false, false, false, false, false, false, false, false, false, false, false, false, false, false] rfl rfl (any_of HT_.out (by kernel_rfl)) (fun _ _ _ h => h) (Or.inl ⟨by rfl, ?_⟩) ?_ ?_
                        rotate_left
                        · intro w'
                          go_simp
                          with_reducible rfl
                        rotate_left
                        · simp only [Act.put, List.setIfInBounds_toArray, List.set_cons_zero, List.set_cons_succ, i64_w, i32_w]
                          rfl
                        refine pure_ (i := 3) (N := some 15) (v := ?_) (a' := ?_) #[true, true, true, true, false, false, false, false, false, false, false, false, false, false, false, false, false, false, false, false, false, false, false] rfl rfl (any_of HT_.out (by kernel_rfl)) (fun _ _ _ h => h) (Or.inl ⟨by rfl, ?_⟩) ?_ ?_
                        rotate_left
                        · intro w'
                          go_simp
                          with_reducible rfl
                        rotate_left
                        · simp only [Act.put, List.setIfInBounds_toArray, List.set_cons_zero, List.set_cons_succ, i64_w, i32_w]
                          rfl
                        refine take_ (i := 4) (N := some 16) (v := ?_) (a' := ?_) #[true, true, true, true, true, false, false, false, false, false, false, false, false, false, false, false, false, false, false, false, false, false, false] rfl rfl (take_ofW HT_.out HW_.out (by kernel_rfl)) (fun _ _ _ h => h) (Or.inl ⟨by rfl, ?_⟩) hHeld ?_ ?_
                        rotate_left
                        · rintro w' ⟨s0, s1, s2, s3, s4, s5⟩
                          go_simp
                          with_reducible rfl
                        rotate_left
                        · simp only [Act.put, List.setIfInBounds_toArray, List.set_cons_zero, List.set_cons_succ, i64_w, i32_w]
                          rfl
                        refine one_ (i := 5) (N := some 17) #[true, true, true, true, true, true, false, false, false, false, false, false, false, false, false, false, false, false, false, false, false, false, false] rfl rfl (one_of HT_.out (by kernel_rfl)) (by decide) (fun K hK => ?_)
                        refine goes_ Try.func41 (by kernel_rfl) rfl #[.agg #[.int .i64 ((rd_T33 l0 x7_1).f0), .int .i64 ((rd_T33 l0 x7_1).f1), .slice A125_2 ((rd_T33 l0 x7_1).f2).length c125_2]] (by rfl) rfl rfl (by (try simp only [List.map_toArray, List.map_cons, List.map_nil]); first | done | rfl | (simp only [List.length_drop, List.length_take]; rfl)) ?_
                        with_reducible refine (root_isEmpty.calls ((rd_T33 l0 x7_1).f0) ((rd_T33 l0 x7_1).f1) _ _ ((rd_T33 l0 x7_1).f2) false _ ?side1 ?side2 A7.out).mono ?_
                        (case side1 => repeat (first | exact (Kd.C_below HR125_2.out HB.out) | (with_reducible refine Kd.C_alloc ?_ _) | (with_reducible refine Kd.C_drewN ?_ _) | (with_reducible refine Kd.C_drew ?_)))
                        (case side2 => exact HC125_2.out)
                        rintro e w26 ⟨rfl, hb⟩
                        refine ⟨_, rfl, ?_⟩
                        have n0_ := Aside0.mk (blk_below (g := gb126) (o := .cells #[.int .i64 ((rd_T33 l0 x7_1).f0), .int .i64 ((rd_T33 l0 x7_1).f1), .slice A125_2 ((rd_T33 l0 x7_1).f2).length c125_2] 33 (0, 0)) (by (with_reducible repeat (first | refine blk_drewN ?_ _ | refine blk_drew ?_ | refine blk_alloc ?_ _)); exact BK126.out) hb)
                        have n1_ := Aside0.mk (below_step (by repeat (first | (with_reducible first | exact HB.out | apply below_alloc | apply pw_below_drewN | apply below_drew1 | refine below_set ?_ GE126.out) | exact HB.out)) hb)
                        clear BK126
                        clear HB
                        have BK126 := n0_
                        have HB := n1_
                        clear n0_ n1_
                        (try clear hb)
                        (try clear hb2)
                        (try clear hk)
                        (try clear hi)
                        refine hK.out _ _ ⟨(blk_cell BK126.out 0).trans rfl, (blk_cell BK126.out 1).trans rfl, (blk_cell BK126.out 2).trans rfl, ((HB.out.cell (World.block_lt_of_cell? w _ hw129_0)).trans hw129_0), ((HB.out.cell (World.block_lt_of_cell? w _ hw129_1)).trans hw129_1), ((HB.out.cell (World.block_lt_of_cell? w _ hw129_2)).trans hw129_2)⟩ (fun hHeld => ?_)
                        clear hK K
                        refine norm_ (a' := ?_) ?_ ?_
                        rotate_left
                        · show Act.put _ (some 17) _ = _
                          simp only [Act.put, List.setIfInBounds_toArray, List.set_cons_zero, List.set_cons_succ, i64_w, i32_w]
                          rfl
                        refine pure_ (i := 6) (N := some 18) (v := ?_) (a' := ?_) #[true, true, true, true, true, true, true, false, false, false, false, false, false, false, false, false, false, false, false, false, false, false, false] rfl rfl (any_of HT_.out (by kernel_rfl)) (fun _ _ _ h => h) (Or.inl ⟨by rfl, ?_⟩) ?_ ?_
                        rotate_left
                        · intro w'
                          go_simp
                          with_reducible rfl
                        rotate_left
                        · simp only [Act.put, List.setIfInBounds_toArray, List.set_cons_zero, List.set_cons_succ, i64_w, i32_w]
                          rfl
                        refine pure_ (i := 7) (N := some 19) (v := ?_) (a' := ?_) #[true, true, true, true, true, true, true, true, false, false, false, false, false, false, false, false, false, false, false, false, false, false, false] rfl rfl (any_of HT_.out (by kernel_rfl)) (fun _ _ _ h => h) (Or.inl ⟨by rfl, ?_⟩) ?_ ?_
                        rotate_left
                        · intro w'
                          go_simp
                          with_reducible rfl
                        rotate_left
                        · simp only [Act.put, List.setIfInBounds_toArray, List.set_cons_zero, List.set_cons_succ, i64_w, i32_w]
                          rfl
                        refine pure_ (i := 8) (N := some 20) (v := ?_) (a' := ?_) #[true, true, true, true, true, true, true, true, true, false, false, false, false, false, false, false, false, false, false, false, false, false, false] rfl rfl (any_of HT_.out (by kernel_rfl)) (fun _ _ _ h => h) (Or.inl ⟨by rfl, ?_⟩) ?_ ?_
                        rotate_left
                        · intro w'
                          go_simp
                          with_reducible rfl
                        rotate_left
                        · simp only [Act.put, List.setIfInBounds_toArray, List.set_cons_zero, List.set_cons_succ, i64_w, i32_w]
                          rfl
                        refine pure_ (i := 9) (N := some 21) (v := ?_) (a' := ?_) #[true, true, true, true, true, true, true, true, true, true, false, false, false, false, false, false, false, false, false, false, false, false, false] rfl rfl (any_of HT_.out (by kernel_rfl)) (fun _ _ _ h => h) (Or.inl ⟨by rfl, ?_⟩) ?_ ?_
                        rotate_left
                        · intro w'
                          go_simp
                          with_reducible rfl
                        rotate_left
                        · simp only [Act.put, List.setIfInBounds_toArray, List.set_cons_zero, List.set_cons_succ, i64_w, i32_w]
                          rfl
                        refine pure_ (i := 10) (N := some 22) (v := ?_) (a' := ?_) #[true, true, true, true, true, true, true, true, true, true, true, false, false, false, false, false, false, false, false, false, false, false, false] rfl rfl (any_of HT_.out (by kernel_rfl)) (fun _ _ _ h => h) (Or.inl ⟨by rfl, ?_⟩) ?_ ?_
                        rotate_left
                        · intro w'
                          go_simp
                          with_reducible rfl
                        rotate_left
                        · simp only [Act.put, List.setIfInBounds_toArray, List.set_cons_zero, List.set_cons_succ, i64_w, i32_w]
                          rfl
                        refine pure_ (i := 11) (N := some 23) (v := ?_) (a' := ?_) #[true, true, true, true, true, true, true, true, true, true, true, true, false, false, false, false, false, false, false, false, false, false, false] rfl rfl (any_of HT_.out (by kernel_rfl)) (fun _ _ _ h => h) (Or.inl ⟨by rfl, ?_⟩) ?_ ?_
                        rotate_left
                        · intro w'
                          go_simp
                          with_reducible rfl
                        rotate_left
                        · simp only [Act.put, List.setIfInBounds_toArray, List.set_cons_zero, List.set_cons_succ, i64_w, i32_w]
                          rfl
                        refine pure_ (i := 12) (N := some 24) (v := ?_) (a' := ?_) #[true, true, true, true, true, true, true, true, true, true, true, true, true, false, false, false, false, false, false, false, false, false, false] rfl rfl (any_of HT_.out (by kernel_rfl)) (fun _ _ _ h => h) (Or.inl ⟨by rfl, ?_⟩) ?_ ?_
                        rotate_left
                        · intro w'
                          go_simp
                          with_reducible rfl
                        rotate_left
                        · simp only [Act.put, List.setIfInBounds_toArray, List.set_cons_zero, List.set_cons_succ, i64_w, i32_w]
                          rfl
                        refine pure_ (i := 13) (N := some 25) (v := ?_) (a' := ?_) #[true, true, true, true, true, true, true, true, true, true, true, true, true, true, false, false, false, false, false, false, false, false, false] rfl rfl (any_of HT_.out (by kernel_rfl)) (fun _ _ _ h => h) (Or.inl ⟨by rfl, ?_⟩) ?_ ?_
                        rotate_left
                        · intro w'
                          go_simp
                          with_reducible rfl
                        rotate_left
                        · simp only [Act.put, List.setIfInBounds_toArray, List.set_cons_zero, List.set_cons_succ, i64_w, i32_w]
                          rfl
                        refine pure_ (i := 14) (N := some 26) (v := ?_) (a' := ?_) #[true, true, true, true, true, true, true, true, true, true, true, true, true, true, true, false, false, false, false, false, false, false, false] rfl rfl (any_of HT_.out (by kernel_rfl)) (fun _ _ _ h => h) (Or.inl ⟨by rfl, ?_⟩) ?_ ?_
                        rotate_left
                        · intro w'
                          go_simp
                          with_reducible rfl
                        rotate_left
                        · simp only [Act.put, List.setIfInBounds_toArray, List.set_cons_zero, List.set_cons_succ, i64_w, i32_w]
                          rfl
                        refine pure_ (i := 15) (N := some 27) (v := ?_) (a' := ?_) #[true, true, true, true, true, true, true, true, true, true, true, true, true, true, true, true, false, false, false, false, false, false, false] rfl rfl (any_of HT_.out (by kernel_rfl)) (fun _ _ _ h => h) (Or.inl ⟨by rfl, ?_⟩) ?_ ?_
                        rotate_left
                        · intro w'
                          go_simp
                          with_reducible rfl
                        rotate_left
                        · simp only [Act.put, List.setIfInBounds_toArray, List.set_cons_zero, List.set_cons_succ, i64_w, i32_w]
                          rfl
                        refine pure_ (i := 17) (N := some 29) (v := ?_) (a' := ?_) #[true, true, true, true, true, true, true, true, true, true, true, true, true, true, true, true, false, true, false, false, false, false, false] rfl rfl (any_of HT_.out (by kernel_rfl)) (fun _ _ _ h => h) (Or.inl ⟨by rfl, ?_⟩) ?_ ?_
                        rotate_left
                        · intro w'
                          go_simp
                          with_reducible rfl
                        rotate_left
                        · simp only [Act.put, List.setIfInBounds_toArray, List.set_cons_zero, List.set_cons_succ, i64_w, i32_w]
                          rfl
                        refine take_ (i := 16) (N := some 28) (v := ?_) (a' := ?_) #[true, true, true, true, true, true, true, true, true, true, true, true, true, true, true, true, true, true, false, false, false, false, false] rfl rfl (take_ofW HT_.out HW_.out (by kernel_rfl)) (fun _ _ _ h => h) (Or.inl ⟨by rfl, ?_⟩) hHeld ?_ ?_
                        rotate_left
                        · rintro w' ⟨s0, s1, s2, s3, s4, s5⟩
                          go_simp
                          with_reducible rfl
                        rotate_left
                        · simp only [Act.put, List.setIfInBounds_toArray, List.set_cons_zero, List.set_cons_succ, i64_w, i32_w]
                          rfl
                        refine take_ (i := 18) (N := some 30) (v := ?_) (a' := ?_) #[true, true, true, true, true, true, true, true, true, true, true, true, true, true, true, true, true, true, true, false, false, false, false] rfl rfl (take_ofW HT_.out HW_.out (by kernel_rfl)) (fun _ _ _ h => h) (Or.inl ⟨by rfl, ?_⟩) hHeld ?_ ?_
                        rotate_left
                        · rintro w' ⟨s0, s1, s2, s3, s4, s5⟩
                          go_simp
                          with_reducible rfl
                        rotate_left
                        · simp only [Act.put, List.setIfInBounds_toArray, List.set_cons_zero, List.set_cons_succ, i64_w, i32_w]
                          rfl
                        refine one_ (i := 19) (N := some 31) #[true, true, true, true, true, true, true, true, true, true, true, true, true, true, true, true, true, true, true, true, false, false, false] rfl rfl (one_of HT_.out (by kernel_rfl)) (by decide) (fun K hK => ?_)
                        refine goes_ Try.func42 (by kernel_rfl) rfl #[.int .i64 ((rd_T33 l0 (ji16)).f0), .int .i64 ((rd_T33 l0 x7_1).f0)] (by rfl) rfl rfl (by (try simp only [List.map_toArray, List.map_cons, List.map_nil]); first | done | (simp only [hji16]; rfl) | rfl | (simp only [List.length_drop, List.length_take]; rfl)) ?_
                        with_reducible refine (root_order.calls ((rd_T33 l0 (ji16)).f0) ((rd_T33 l0 x7_1).f0) t130 _ A19.out).mono ?_
                        rintro e w' ⟨rfl, ⟨nd, rfl⟩⟩
                        refine ⟨_, rfl, ?_⟩
                        refine hK.out _ _ ⟨(blk_cell BK126.out 0).trans rfl, (blk_cell BK126.out 1).trans rfl, (blk_cell BK126.out 2).trans rfl, ((HB.out.cell (World.block_lt_of_cell? w _ hw129_0)).trans hw129_0), ((HB.out.cell (World.block_lt_of_cell? w _ hw129_1)).trans hw129_1), ((HB.out.cell (World.block_lt_of_cell? w _ hw129_2)).trans hw129_2)⟩ (fun hHeld => ?_)
                        clear hK K
                        refine norm_ (a' := ?_) ?_ ?_
                        rotate_left
                        · show Act.put _ (some 31) _ = _
                          simp only [Act.put, List.setIfInBounds_toArray, List.set_cons_zero, List.set_cons_succ, i64_w, i32_w]
                          rfl
                        refine pure_ (i := 20) (N := some 32) (v := ?_) (a' := ?_) #[true, true, true, true, true, true, true, true, true, true, true, true, true, true, true, true, true, true, true, true, true, false, false] rfl rfl (any_of HT_.out (by kernel_rfl)) (fun _ _ _ h => h) (Or.inl ⟨by rfl, ?_⟩) ?_ ?_
                        rotate_left
                        · intro w'
                          go_simp
                          with_reducible rfl
                        rotate_left
                        · simp only [Act.put, List.setIfInBounds_toArray, List.set_cons_zero, List.set_cons_succ, i64_w, i32_w]
                          rfl
                        refine pure_ (i := 21) (N := some 33) (v := ?_) (a' := ?_) #[true, true, true, true, true, true, true, true, true, true, true, true, true, true, true, true, true, true, true, true, true, true, false] rfl rfl (any_of HT_.out (by kernel_rfl)) (fun _ _ _ h => h) (Or.inl ⟨by rfl, ?_⟩) ?_ ?_
                        rotate_left
                        · intro w'
                          go_simp
                          with_reducible rfl
                        rotate_left
                        · simp only [Act.put, List.setIfInBounds_toArray, List.set_cons_zero, List.set_cons_succ, i64_w, i32_w]
                          rfl
                        refine pure_ (i := 22) (N := some 34) (v := ?_) (a' := ?_) #[true, true, true, true, true, true, true, true, true, true, true, true, true, true, true, true, true, true, true, true, true, true, true] rfl rfl (any_of HT_.out (by kernel_rfl)) (fun _ _ _ h => h) (Or.inl ⟨by rfl, ?_⟩) ?_ ?_
                        rotate_left
                        · intro w'
                          go_simp
                          with_reducible rfl
                        rotate_left
                        · simp only [Act.put, List.setIfInBounds_toArray, List.set_cons_zero, List.set_cons_succ, i64_w, i32_w]
                          rfl
                        refine done_ (done_of HT_.out (by kernel_rfl)) ?_
                        try go_wp2
                        go_ret
                        exact ⟨by first | rfl | (simp [errW_none, errW_some] <;> rfl) | (simp only [← hji16]; first | rfl | (simp [errW_none, errW_some] <;> rfl)) | (simp [*, errW_none, errW_some] <;> rfl), by repeat (first | (with_reducible first | exact HB.out | apply below_alloc | apply pw_below_drewN | apply below_drew1 | refine below_set ?_ GE126.out) | exact HB.out)⟩
                      · rw [if_neg c20] at H
                        have c20b0 : decide (0 ≤ t130) = false := decide_eq_false c20
                        clear c20
                        have H' := Aside0.mk H
                        clear H
                        have p125 : 0 ≤ (x7_1 : Int) := of_decide_eq_true (by first | (with_reducible assumption) | assumption)
                        have q125 : x7_1 < (l0.length : Int) := of_decide_eq_true (by first | (with_reducible assumption) | assumption)
                        obtain ⟨ad125, A125_2, c125_2, e125, hx125_0, hx125_1, hx125_2, hl125_2, hi125_2⟩ := at_T33 HR0.out x7_1 p125 q125
                        cases e125
                        replace hx125_0 := (HB.out.cell (World.block_lt_of_cell? w _ hx125_0)).trans hx125_0
                        replace hx125_1 := (HB.out.cell (World.block_lt_of_cell? w _ hx125_1)).trans hx125_1
                        replace hx125_2 := (HB.out.cell (World.block_lt_of_cell? w _ hx125_2)).trans hx125_2
                        have HR125_2 := Aside0.mk hi125_2
                        have HC125_2 := Aside0.mk hl125_2
                        clear hi125_2 hl125_2
                        replace p125 := eq_true p125
                        replace q125 := eq_true q125
                        try go_wp2_with (first | ((with_reducible refine gate_dst (N := 4) rfl ?_); refine box_event ?hg (N := 4) ?hd (cs := #[.int .i64 0, .int .i64 0, .slice none 0 0]) (t := 33) ?hr ?_; (case hd => rfl); (case hg => rfl); (case hr => first | (go_simp; done) | (go_simp; rfl)); intro gb126 hg w27 hbox hb; have n0_ := Aside0.mk (below_step (by repeat (first | (with_reducible first | exact HB.out | apply below_alloc | apply pw_below_drewN | apply below_drew1) | exact HB.out)) hb); have n1_ := Aside0.mk (hbox); have n2_ := Aside0.mk ((by rw [hg]; exact (below_size (by repeat (first | (with_reducible first | exact HB.out | apply below_alloc | apply pw_below_drewN | apply below_drew1) | exact HB.out))) : w.heap.size ≤ gb126)); have n3_ := Aside0.mk ((by rw [hg]; exact (below_size (by repeat (first | (with_reducible first | exact HB.out | apply below_alloc | apply pw_below_drewN | apply below_drew1) | exact HB.out))) : w.heap.size ≤ gb126)); clear HB; have HB := n0_; have BK126 := n1_; have GW126 := n2_; have GE126 := n3_; clear n0_ n1_ n2_ n3_; clear hb hbox hg; have hcz28_0 : w27.cell? ⟨gb126, 0, none⟩ = some (.int .i64 0) := (blk_cell BK126.out 0).trans rfl; have hcz28_1 : w27.cell? ⟨gb126, 1, none⟩ = some (.int .i64 0) := (blk_cell BK126.out 1).trans rfl; have hcz28_2 : w27.cell? ⟨gb126, 2, none⟩ = some (.slice none 0 0) := (blk_cell BK126.out 2).trans rfl; have hfz28_0 := blk_frozen BK126.out 0; have hfz28_1 := blk_frozen BK126.out 1; have hfz28_2 := blk_frozen BK126.out 2))
                        have n0_ : Aside0 ((((w27.setCell ⟨gb126, 0, none⟩ (.int .i64 ((rd_T33 l0 x7_1).f0))).setCell ⟨gb126, 1, none⟩ (.int .i64 ((rd_T33 l0 x7_1).f1))).setCell ⟨gb126, 2, none⟩ (.slice A125_2 ((rd_T33 l0 x7_1).f2).length c125_2)).heap[gb126]? = some (.cells #[.int .i64 ((rd_T33 l0 x7_1).f0), .int .i64 ((rd_T33 l0 x7_1).f1), .slice A125_2 ((rd_T33 l0 x7_1).f2).length c125_2] 33 (0, 0))) := ⟨by (with_reducible repeat (first | refine blk_drewN ?_ _ | refine blk_drew ?_ | refine blk_alloc ?_ _)); refine blk_put (cs := #[.int .i64 ((rd_T33 l0 x7_1).f0), .int .i64 ((rd_T33 l0 x7_1).f1), .slice none 0 0]) ?_ 2 _ rfl; (with_reducible repeat (first | refine blk_drewN ?_ _ | refine blk_drew ?_ | refine blk_alloc ?_ _)); refine blk_put (cs := #[.int .i64 ((rd_T33 l0 x7_1).f0), .int .i64 0, .slice none 0 0]) ?_ 1 _ rfl; (with_reducible repeat (first | refine blk_drewN ?_ _ | refine blk_drew ?_ | refine blk_alloc ?_ _)); refine blk_put (cs := #[.int .i64 0, .int .i64 0, .slice none 0 0]) ?_ 0 _ rfl; (with_reducible repeat (first | refine blk_drewN ?_ _ | refine blk_drew ?_ | refine blk_alloc ?_ _)); exact BK126.out⟩
                        have n1_ : Aside0 (Below w.heap.size w (((w27.setCell ⟨gb126, 0, none⟩ (.int .i64 ((rd_T33 l0 x7_1).f0))).setCell ⟨gb126, 1, none⟩ (.int .i64 ((rd_T33 l0 x7_1).f1))).setCell ⟨gb126, 2, none⟩ (.slice A125_2 ((rd_T33 l0 x7_1).f2).length c125_2))) := ⟨by repeat (first | (with_reducible first | exact HB.out | apply below_alloc | apply pw_below_drewN | apply below_drew1 | refine below_set ?_ GE126.out) | exact HB.out)⟩
                        (try clear BK126)
                        (try clear HB)
                        generalize (((w27.setCell ⟨gb126, 0, none⟩ (.int .i64 ((rd_T33 l0 x7_1).f0))).setCell ⟨gb126, 1, none⟩ (.int .i64 ((rd_T33 l0 x7_1).f1))).setCell ⟨gb126, 2, none⟩ (.slice A125_2 ((rd_T33 l0 x7_1).f2).length c125_2)) = w29 at n0_ n1_ ⊢
                        have BK126 := n0_
                        have HB := n1_
                        clear n0_ n1_
                        have n0_ := Aside0.mk (blk_drew BK126.out)
                        have n1_ := Aside0.mk (below_drew1 HB.out)
                        clear BK126
                        clear HB
                        have BK126 := n0_
                        have HB := n1_
                        clear n0_ n1_
                        have p129 : 0 ≤ ((ji16) : Int) := of_decide_eq_true (by first | (with_reducible assumption) | assumption)
                        have q129 : (ji16) < (l0.length : Int) := of_decide_eq_true (by first | (with_reducible assumption) | assumption)
                        obtain ⟨ad129, A129_2, c129_2, e129, hx129_0, hx129_1, hx129_2, hl129_2, hi129_2⟩ := at_T33 HR0.out (ji16) p129 q129
                        have hw129_2 := hx129_2
                        have hw129_1 := hx129_1
                        have hw129_0 := hx129_0
                        obtain rfl : ad125 = ad129 := (by injection e129)
                        replace hx129_0 := (HB.out.cell (World.block_lt_of_cell? w _ hx129_0)).trans hx129_0
                        replace hx129_1 := (HB.out.cell (World.block_lt_of_cell? w _ hx129_1)).trans hx129_1
                        replace hx129_2 := (HB.out.cell (World.block_lt_of_cell? w _ hx129_2)).trans hx129_2
                        have HR129_2 := Aside0.mk hi129_2
                        have HC129_2 := Aside0.mk hl129_2
                        clear hi129_2 hl129_2
                        replace p129 := eq_true p129
                        replace q129 := eq_true q129
                        refine start_ (n := 23) (S := fun w' => w'.cell? ⟨gb126, 0, none⟩ = some (.int .i64 ((rd_T33 l0 x7_1).f0)) ∧ w'.cell? ⟨gb126, 1, none⟩ = some (.int .i64 ((rd_T33 l0 x7_1).f1)) ∧ w'.cell? ⟨gb126, 2, none⟩ = some (.slice A125_2 ((rd_T33 l0 x7_1).f2).length c125_2) ∧ w'.cell? (ad125.add (((ji16)).toNat * 3)) = some (.int .i64 ((rd_T33 l0 (ji16)).f0)) ∧ w'.cell? ⟨(ad125.add (((ji16)).toNat * 3)).block, (ad125.add (((ji16)).toNat * 3)).off + 1, none⟩ = some (.int .i64 ((rd_T33 l0 (ji16)).f1)) ∧ w'.cell? ⟨(ad125.add (((ji16)).toNat * 3)).block, (ad125.add (((ji16)).toNat * 3)).off + 2, none⟩ = some (.slice A129_2 ((rd_T33 l0 (ji16)).f2).length c129_2)) (ds := []) #[false, false, false, false, false, false, false, false, false, false, false, false, false, false, false, false, false, false, false, false, false, false, false] (by kernel_rfl) rfl rfl ⟨(blk_cell BK126.out 0).trans rfl, (blk_cell BK126.out 1).trans rfl, (blk_cell BK126.out 2).trans rfl, ((HB.out.cell (World.block_lt_of_cell? w _ hw129_0)).trans hw129_0), ((HB.out.cell (World.block_lt_of_cell? w _ hw129_1)).trans hw129_1), ((HB.out.cell (World.block_lt_of_cell? w _ hw129_2)).trans hw129_2)⟩ (fun hHeld => ?_); refine with_tabW root_Right.tab4 root_Right.bits4 (fun HT_ HW_ => ?_)
                        generalize w29.drew = w30 at BK126 HB HR129_2 hx129_0 hx129_1 hx129_2 hHeld ⊢
                        refine take_ (i := 0) (N := some 12) (v := ?_) (a' := ?_) #[true, false, false, false, false, false, false, false, false, false, false, false, false, false, false, false, false, false, false, false, false, false, false] rfl rfl (take_ofW HT_.out HW_.out (by kernel_rfl)) (fun _ _ _ h => h) (Or.inl ⟨by rfl, ?_⟩) hHeld ?_ ?_
                        rotate_left
                        · rintro w' ⟨s0, s1, s2, s3, s4, s5⟩
                          go_simp
                          with_reducible rfl
                        rotate_left
                        · simp only [Act.put, List.setIfInBounds_toArray, List.set_cons_zero, List.set_cons_succ, i64_w, i32_w]
                          rfl
                        refine one_ (i := 1) (N := some 13) #[true, true, false, false, false, false, false, false, false, false, false, false, false, false, false, false, false, false, false, false, false, false, false] rfl rfl (one_of HT_.out (by kernel_rfl)) (by decide) (fun K hK => ?_)
                        refine goes_ Try.func40 (by kernel_rfl) rfl #[.agg #[.int .i64 ((rd_T33 l0 x7_1).f0), .int .i64 ((rd_T33 l0 x7_1).f1), .slice A125_2 ((rd_T33 l0 x7_1).f2).length c125_2]] (by rfl) rfl rfl (by (try simp only [List.map_toArray, List.map_cons, List.map_nil]); first | done | rfl | (simp only [List.length_drop, List.length_take]; rfl)) ?_
                        with_reducible refine (root_isSpot.calls ((rd_T33 l0 x7_1).f0) ((rd_T33 l0 x7_1).f1) _ _ ((rd_T33 l0 x7_1).f2) true _ ?side1 ?side2 A5.out).mono ?_
                        (case side1 => repeat (first | exact (Kd.C_below HR125_2.out HB.out) | (with_reducible refine Kd.C_alloc ?_ _) | (with_reducible refine Kd.C_drewN ?_ _) | (with_reducible refine Kd.C_drew ?_)))
                        (case side2 => exact HC125_2.out)
                        rintro e w31 ⟨rfl, hb⟩
                        refine ⟨_, rfl, ?_⟩
                        have n0_ := Aside0.mk (blk_below (g := gb126) (o := .cells #[.int .i64 ((rd_T33 l0 x7_1).f0), .int .i64 ((rd_T33 l0 x7_1).f1), .slice A125_2 ((rd_T33 l0 x7_1).f2).length c125_2] 33 (0, 0)) (by (with_reducible repeat (first | refine blk_drewN ?_ _ | refine blk_drew ?_ | refine blk_alloc ?_ _)); exact BK126.out) hb)
                        have n1_ := Aside0.mk (below_step (by repeat (first | (with_reducible first | exact HB.out | apply below_alloc | apply pw_below_drewN | apply below_drew1 | refine below_set ?_ GE126.out) | exact HB.out)) hb)
                        clear BK126
                        clear HB
                        have BK126 := n0_
                        have HB := n1_
                        clear n0_ n1_
                        (try clear hb)
                        (try clear hb2)
                        (try clear hk)
                        (try clear hi)
                        refine hK.out _ _ ⟨(blk_cell BK126.out 0).trans rfl, (blk_cell BK126.out 1).trans rfl, (blk_cell BK126.out 2).trans rfl, ((HB.out.cell (World.block_lt_of_cell? w _ hw129_0)).trans hw129_0), ((HB.out.cell (World.block_lt_of_cell? w _ hw129_1)).trans hw129_1), ((HB.out.cell (World.block_lt_of_cell? w _ hw129_2)).trans hw129_2)⟩ (fun hHeld => ?_)
                        clear hK K
                        refine norm_ (a' := ?_) ?_ ?_
                        rotate_left
                        · show Act.put _ (some 13) _ = _
                          simp only [Act.put, List.setIfInBounds_toArray, List.set_cons_zero, List.set_cons_succ, i64_w, i32_w]
                          rfl
                        refine pure_ (i := 2) (N := some 14) (v := ?_) (a' := ?_) #[true, true, true, false, false, false, false, false, false, false, false, false, false, false, false, false, false, false, false, false, false, false, false] rfl rfl (any_of HT_.out (by kernel_rfl)) (fun _ _ _ h => h) (Or.inl ⟨by rfl, ?_⟩) ?_ ?_
                        rotate_left
                        · intro w'
                          go_simp
                          with_reducible rfl
                        rotate_left
                        · simp only [Act.put, List.setIfInBounds_toArray, List.set_cons_zero, List.set_cons_succ, i64_w, i32_w]
                          rfl
                        refine pure_ (i := 3) (N := some 15) (v := ?_) (a' := ?_) #[true, true, true, true, false, false, false, false, false, false, false, false, false, false, false, false, false, false, false, false, false, false, false] rfl rfl (any_of HT_.out (by kernel_rfl)) (fun _ _ _ h => h) (Or.inl ⟨by rfl, ?_⟩) ?_ ?_
                        rotate_left
                        · intro w'
                          go_simp
                          with_reducible rfl
                        rotate_left
                        · simp only [Act.put, List.setIfInBounds_toArray, List.set_cons_zero, List.set_cons_succ, i64_w, i32_w]
                          rfl
                        refine take_ (i := 4) (N := some 16) (v := ?_) (a' := ?_) #[true, true, true, true, true, false, false, false, false, false, false, false, false, false, false, false, false, false, false, false, false, false, false] rfl rfl (take_ofW HT_.out HW_.out (by kernel_rfl)) (fun _ _ _ h => h) (Or.inl ⟨by rfl, ?_⟩) hHeld ?_ ?_
                        rotate_left
                        · rintro w' ⟨s0, s1, s2, s3, s4, s5⟩
                          go_simp
                          with_reducible rfl
                        rotate_left
                        · simp only [Act.put, List.setIfInBounds_toArray, List.set_cons_zero, List.set_cons_succ, i64_w, i32_w]
                          rfl
                        refine one_ (i := 5) (N := some 17) #[true, true, true, true, true, true, false, false, false, false, false, false, false, false, false, false, false, false, false, false, false, false, false] rfl rfl (one_of HT_.out (by kernel_rfl)) (by decide) (fun K hK => ?_)
                        refine goes_ Try.func41 (by kernel_rfl) rfl #[.agg #[.int .i64 ((rd_T33 l0 x7_1).f0), .int .i64 ((rd_T33 l0 x7_1).f1), .slice A125_2 ((rd_T33 l0 x7_1).f2).length c125_2]] (by rfl) rfl rfl (by (try simp only [List.map_toArray, List.map_cons, List.map_nil]); first | done | rfl | (simp only [List.length_drop, List.length_take]; rfl)) ?_
                        with_reducible refine (root_isEmpty.calls ((rd_T33 l0 x7_1).f0) ((rd_T33 l0 x7_1).f1) _ _ ((rd_T33 l0 x7_1).f2) false _ ?side1 ?side2 A7.out).mono ?_
                        (case side1 => repeat (first | exact (Kd.C_below HR125_2.out HB.out) | (with_reducible refine Kd.C_alloc ?_ _) | (with_reducible refine Kd.C_drewN ?_ _) | (with_reducible refine Kd.C_drew ?_)))
                        (case side2 => exact HC125_2.out)
                        rintro e w32 ⟨rfl, hb⟩
                        refine ⟨_, rfl, ?_⟩
                        have n0_ := Aside0.mk (blk_below (g := gb126) (o := .cells #[.int .i64 ((rd_T33 l0 x7_1).f0), .int .i64 ((rd_T33 l0 x7_1).f1), .slice A125_2 ((rd_T33 l0 x7_1).f2).length c125_2] 33 (0, 0)) (by (with_reducible repeat (first | refine blk_drewN ?_ _ | refine blk_drew ?_ | refine blk_alloc ?_ _)); exact BK126.out) hb)
                        have n1_ := Aside0.mk (below_step (by repeat (first | (with_reducible first | exact HB.out | apply below_alloc | apply pw_below_drewN | apply below_drew1 | refine below_set ?_ GE126.out) | exact HB.out)) hb)
                        clear BK126
                        clear HB
                        have BK126 := n0_
                        have HB := n1_
                        clear n0_ n1_
                        (try clear hb)
                        (try clear hb2)
                        (try clear hk)
                        (try clear hi)
                        refine hK.out _ _ ⟨(blk_cell BK126.out 0).trans rfl, (blk_cell BK126.out 1).trans rfl, (blk_cell BK126.out 2).trans rfl, ((HB.out.cell (World.block_lt_of_cell? w _ hw129_0)).trans hw129_0), ((HB.out.cell (World.block_lt_of_cell? w _ hw129_1)).trans hw129_1), ((HB.out.cell (World.block_lt_of_cell? w _ hw129_2)).trans hw129_2)⟩ (fun hHeld => ?_)
                        clear hK K
                        refine norm_ (a' := ?_) ?_ ?_
                        rotate_left
                        · show Act.put _ (some 17) _ = _
                          simp only [Act.put, List.setIfInBounds_toArray, List.set_cons_zero, List.set_cons_succ, i64_w, i32_w]
                          rfl
                        refine pure_ (i := 6) (N := some 18) (v := ?_) (a' := ?_) #[true, true, true, true, true, true, true, false, false, false, false, false, false, false, false, false, false, false, false, false, false, false, false] rfl rfl (any_of HT_.out (by kernel_rfl)) (fun _ _ _ h => h) (Or.inl ⟨by rfl, ?_⟩) ?_ ?_
                        rotate_left
                        · intro w'
                          go_simp
                          with_reducible rfl
                        rotate_left
                        · simp only [Act.put, List.setIfInBounds_toArray, List.set_cons_zero, List.set_cons_succ, i64_w, i32_w]
                          rfl
                        refine pure_ (i := 7) (N := some 19) (v := ?_) (a' := ?_) #[true, true, true, true, true, true, true, true, false, false, false, false, false, false, false, false, false, false, false, false, false, false, false] rfl rfl (any_of HT_.out (by kernel_rfl)) (fun _ _ _ h => h) (Or.inl ⟨by rfl, ?_⟩) ?_ ?_
                        rotate_left
                        · intro w'
                          go_simp
                          with_reducible rfl
                        rotate_left
                        · simp only [Act.put, List.setIfInBounds_toArray, List.set_cons_zero, List.set_cons_succ, i64_w, i32_w]
                          rfl
                        refine pure_ (i := 8) (N := some 20) (v := ?_) (a' := ?_) #[true, true, true, true, true, true, true, true, true, false, false, false, false, false, false, false, false, false, false, false, false, false, false] rfl rfl (any_of HT_.out (by kernel_rfl)) (fun _ _ _ h => h) (Or.inl ⟨by rfl, ?_⟩) ?_ ?_
                        rotate_left
                        · intro w'
                          go_simp
                          with_reducible rfl
                        rotate_left
                        · simp only [Act.put, List.setIfInBounds_toArray, List.set_cons_zero, List.set_cons_succ, i64_w, i32_w]
                          rfl
                        refine pure_ (i := 9) (N := some 21) (v := ?_) (a' := ?_) #[true, true, true, true, true, true, true, true, true, true, false, false, false, false, false, false, false, false, false, false, false, false, false] rfl rfl (any_of HT_.out (by kernel_rfl)) (fun _ _ _ h => h) (Or.inl ⟨by rfl, ?_⟩) ?_ ?_
                        rotate_left
                        · intro w'
                          go_simp
                          with_reducible rfl
                        rotate_left
                        · simp only [Act.put, List.setIfInBounds_toArray, List.set_cons_zero, List.set_cons_succ, i64_w, i32_w]
                          rfl
                        refine pure_ (i := 10) (N := some 22) (v := ?_) (a' := ?_) #[true, true, true, true, true, true, true, true, true, true, true, false, false, false, false, false, false, false, false, false, false, false, false] rfl rfl (any_of HT_.out (by kernel_rfl)) (fun _ _ _ h => h) (Or.inl ⟨by rfl, ?_⟩) ?_ ?_
                        rotate_left
                        · intro w'
                          go_simp
                          with_reducible rfl
                        rotate_left
                        · simp only [Act.put, List.setIfInBounds_toArray, List.set_cons_zero, List.set_cons_succ, i64_w, i32_w]
                          rfl
                        refine pure_ (i := 11) (N := some 23) (v := ?_) (a' := ?_) #[true, true, true, true, true, true, true, true, true, true, true, true, false, false, false, false, false, false, false, false, false, false, false] rfl rfl (any_of HT_.out (by kernel_rfl)) (fun _ _ _ h => h) (Or.inl ⟨by rfl, ?_⟩) ?_ ?_
                        rotate_left
                        · intro w'
                          go_simp
                          with_reducible rfl
                        rotate_left
                        · simp only [Act.put, List.setIfInBounds_toArray, List.set_cons_zero, List.set_cons_succ, i64_w, i32_w]
                          rfl
                        refine pure_ (i := 12) (N := some 24) (v := ?_) (a' := ?_) #[true, true, true, true, true, true, true, true, true, true, true, true, true, false, false, false, false, false, false, false, false, false, false] rfl rfl (any_of HT_.out (by kernel_rfl)) (fun _ _ _ h => h) (Or.inl ⟨by rfl, ?_⟩) ?_ ?_
                        rotate_left
                        · intro w'
                          go_simp
                          with_reducible rfl
                        rotate_left
                        · simp only [Act.put, List.setIfInBounds_toArray, List.set_cons_zero, List.set_cons_succ, i64_w, i32_w]
                          rfl
                        refine pure_ (i := 13) (N := some 25) (v := ?_) (a' := ?_) #[true, true, true, true, true, true, true, true, true, true, true, true, true, true, false, false, false, false, false, false, false, false, false] rfl rfl (any_of HT_.out (by kernel_rfl)) (fun _ _ _ h => h) (Or.inl ⟨by rfl, ?_⟩) ?_ ?_
                        rotate_left
                        · intro w'
                          go_simp
                          with_reducible rfl
                        rotate_left
                        · simp only [Act.put, List.setIfInBounds_toArray, List.set_cons_zero, List.set_cons_succ, i64_w, i32_w]
                          rfl
                        refine pure_ (i := 14) (N := some 26) (v := ?_) (a' := ?_) #[true, true, true, true, true, true, true, true, true, true, true, true, true, true, true, false, false, false, false, false, false, false, false] rfl rfl (any_of HT_.out (by kernel_rfl)) (fun _ _ _ h => h) (Or.inl ⟨by rfl, ?_⟩) ?_ ?_
                        rotate_left
                        · intro w'
                          go_simp
                          with_reducible rfl
                        rotate_left
                        · simp only [Act.put, List.setIfInBounds_toArray, List.set_cons_zero, List.set_cons_succ, i64_w, i32_w]
                          rfl
                        refine pure_ (i := 15) (N := some 27) (v := ?_) (a' := ?_) #[true, true, true, true, true, true, true, true, true, true, true, true, true, true, true, true, false, false, false, false, false, false, false] rfl rfl (any_of HT_.out (by kernel_rfl)) (fun _ _ _ h => h) (Or.inl ⟨by rfl, ?_⟩) ?_ ?_
                        rotate_left
                        · intro w'
                          go_simp
                          with_reducible rfl
                        rotate_left
                        · simp only [Act.put, List.setIfInBounds_toArray, List.set_cons_zero, List.set_cons_succ, i64_w, i32_w]
                          rfl
                        refine pure_ (i := 17) (N := some 29) (v := ?_) (a' := ?_) #[true, true, true, true, true, true, true, true, true, true, true, true, true, true, true, true, false, true, false, false, false, false, false] rfl rfl (any_of HT_.out (by kernel_rfl)) (fun _ _ _ h => h) (Or.inl ⟨by rfl, ?_⟩) ?_ ?_
                        rotate_left
                        · intro w'
                          go_simp
                          with_reducible rfl
                        rotate_left
                        · simp only [Act.put, List.setIfInBounds_toArray, List.set_cons_zero, List.set_cons_succ, i64_w, i32_w]
                          rfl
                        refine take_ (i := 16) (N := some 28) (v := ?_) (a' := ?_) #[true, true, true, true, true, true, true, true, true, true, true, true, true, true, true, true, true, true, false, false, false, false, false] rfl rfl (take_ofW HT_.out HW_.out (by kernel_rfl)) (fun _ _ _ h => h) (Or.inl ⟨by rfl, ?_⟩) hHeld ?_ ?_
                        rotate_left
                        · rintro w' ⟨s0, s1, s2, s3, s4, s5⟩
                          go_simp
                          with_reducible rfl
                        rotate_left
                        · simp only [Act.put, List.setIfInBounds_toArray, List.set_cons_zero, List.set_cons_succ, i64_w, i32_w]
                          rfl
                        refine take_ (i := 18) (N := some 30) (v := ?_) (a' := ?_) #[true, true, true, true, true, true, true, true, true, true, true, true, true, true, true, true, true, true, true, false, false, false, false] rfl rfl (take_ofW HT_.out HW_.out (by kernel_rfl)) (fun _ _ _ h => h) (Or.inl ⟨by rfl, ?_⟩) hHeld ?_ ?_
                        rotate_left
                        · rintro w' ⟨s0, s1, s2, s3, s4, s5⟩
                          go_simp
                          with_reducible rfl
                        rotate_left
                        · simp only [Act.put, List.setIfInBounds_toArray, List.set_cons_zero, List.set_cons_succ, i64_w, i32_w]
                          rfl
                        refine one_ (i := 19) (N := some 31) #[true, true, true, true, true, true, true, true, true, true, true, true, true, true, true, true, true, true, true, true, false, false, false] rfl rfl (one_of HT_.out (by kernel_rfl)) (by decide) (fun K hK => ?_)
                        refine goes_ Try.func42 (by kernel_rfl) rfl #[.int .i64 ((rd_T33 l0 (ji16)).f0), .int .i64 ((rd_T33 l0 x7_1).f0)] (by rfl) rfl rfl (by (try simp only [List.map_toArray, List.map_cons, List.map_nil]); first | done | (simp only [hji16]; rfl) | rfl | (simp only [List.length_drop, List.length_take]; rfl)) ?_
                        with_reducible refine (root_order.calls ((rd_T33 l0 (ji16)).f0) ((rd_T33 l0 x7_1).f0) t130 _ A19.out).mono ?_
                        rintro e w' ⟨rfl, ⟨nd, rfl⟩⟩
                        refine ⟨_, rfl, ?_⟩
                        refine hK.out _ _ ⟨(blk_cell BK126.out 0).trans rfl, (blk_cell BK126.out 1).trans rfl, (blk_cell BK126.out 2).trans rfl, ((HB.out.cell (World.block_lt_of_cell? w _ hw129_0)).trans hw129_0), ((HB.out.cell (World.block_lt_of_cell? w _ hw129_1)).trans hw129_1), ((HB.out.cell (World.block_lt_of_cell? w _ hw129_2)).trans hw129_2)⟩ (fun hHeld => ?_)
                        clear hK K
                        refine norm_ (a' := ?_) ?_ ?_
                        rotate_left
                        · show Act.put _ (some 31) _ = _
                          simp only [Act.put, List.setIfInBounds_toArray, List.set_cons_zero, List.set_cons_succ, i64_w, i32_w]
                          rfl
                        refine pure_ (i := 20) (N := some 32) (v := ?_) (a' := ?_) #[true, true, true, true, true, true, true, true, true, true, true, true, true, true, true, true, true, true, true, true, true, false, false] rfl rfl (any_of HT_.out (by kernel_rfl)) (fun _ _ _ h => h) (Or.inl ⟨by rfl, ?_⟩) ?_ ?_
                        rotate_left
                        · intro w'
                          go_simp
                          with_reducible rfl
                        rotate_left
                        · simp only [Act.put, List.setIfInBounds_toArray, List.set_cons_zero, List.set_cons_succ, i64_w, i32_w]
                          rfl
                        refine pure_ (i := 21) (N := some 33) (v := ?_) (a' := ?_) #[true, true, true, true, true, true, true, true, true, true, true, true, true, true, true, true, true, true, true, true, true, true, false] rfl rfl (any_of HT_.out (by kernel_rfl)) (fun _ _ _ h => h) (Or.inl ⟨by rfl, ?_⟩) ?_ ?_
                        rotate_left
                        · intro w'
                          go_simp
                          with_reducible rfl
                        rotate_left
                        · simp only [Act.put, List.setIfInBounds_toArray, List.set_cons_zero, List.set_cons_succ, i64_w, i32_w]
                          rfl
                        refine pure_ (i := 22) (N := some 34) (v := ?_) (a' := ?_) #[true, true, true, true, true, true, true, true, true, true, true, true, true, true, true, true, true, true, true, true, true, true, true] rfl rfl (any_of HT_.out (by kernel_rfl)) (fun _ _ _ h => h) (Or.inl ⟨by rfl, ?_⟩) ?_ ?_
                        rotate_left
                        · intro w'
                          go_simp
                          with_reducible rfl
                        rotate_left
                        · simp only [Act.put, List.setIfInBounds_toArray, List.set_cons_zero, List.set_cons_succ, i64_w, i32_w]
                          rfl
                        refine done_ (done_of HT_.out (by kernel_rfl)) ?_
                        try go_wp2
                        go_roundg k1
                        case measure => have := HK1.out; omega
                        case rel => exact ⟨(wrap64 (x7_1 + 1)), (by first | rfl | (simp; done) | (simp [*]; done)), H', ⟨by have := HK1.out; omega⟩, ⟨by repeat (first | (with_reducible first | exact HB.out | apply below_alloc | apply pw_below_drewN | apply below_drew1 | refine below_set ?_ GE126.out) | exact HB.out)⟩⟩
                    · rw [if_neg c18] at H
                      exact absurd H (by simp)
                  · rw [if_neg c17] at H
                    exact absurd H (by simp)
                · rw [if_neg c15] at H
                  have c15b0 : decide (0 < x7_1) = false := decide_eq_false c15
                  clear c15
                  have H' := Aside0.mk H
                  clear H
                  have p125 : 0 ≤ (x7_1 : Int) := of_decide_eq_true (by first | (with_reducible assumption) | assumption)
                  have q125 : x7_1 < (l0.length : Int) := of_decide_eq_true (by first | (with_reducible assumption) | assumption)
                  obtain ⟨ad125, A125_2, c125_2, e125, hx125_0, hx125_1, hx125_2, hl125_2, hi125_2⟩ := at_T33 HR0.out x7_1 p125 q125
                  cases e125
                  replace hx125_0 := (HB.out.cell (World.block_lt_of_cell? w _ hx125_0)).trans hx125_0
                  replace hx125_1 := (HB.out.cell (World.block_lt_of_cell? w _ hx125_1)).trans hx125_1
                  replace hx125_2 := (HB.out.cell (World.block_lt_of_cell? w _ hx125_2)).trans hx125_2
                  have HR125_2 := Aside0.mk hi125_2
                  have HC125_2 := Aside0.mk hl125_2
                  clear hi125_2 hl125_2
                  replace p125 := eq_true p125
                  replace q125 := eq_true q125
                  try go_wp2_with (first | ((with_reducible refine gate_dst (N := 4) rfl ?_); refine box_event ?hg (N := 4) ?hd (cs := #[.int .i64 0, .int .i64 0, .slice none 0 0]) (t := 33) ?hr ?_; (case hd => rfl); (case hg => rfl); (case hr => first | (go_simp; done) | (go_simp; rfl)); intro gb126 hg w33 hbox hb; have n0_ := Aside0.mk (below_step (by repeat (first | (with_reducible first | exact HB.out | apply below_alloc | apply pw_below_drewN | apply below_drew1) | exact HB.out)) hb); have n1_ := Aside0.mk (hbox); have n2_ := Aside0.mk ((by rw [hg]; exact (below_size (by repeat (first | (with_reducible first | exact HB.out | apply below_alloc | apply pw_below_drewN | apply below_drew1) | exact HB.out))) : w.heap.size ≤ gb126)); have n3_ := Aside0.mk ((by rw [hg]; exact (below_size (by repeat (first | (with_reducible first | exact HB.out | apply below_alloc | apply pw_below_drewN | apply below_drew1) | exact HB.out))) : w.heap.size ≤ gb126)); clear HB; have HB := n0_; have BK126 := n1_; have GW126 := n2_; have GE126 := n3_; clear n0_ n1_ n2_ n3_; clear hb hbox hg; have hcz34_0 : w33.cell? ⟨gb126, 0, none⟩ = some (.int .i64 0) := (blk_cell BK126.out 0).trans rfl; have hcz34_1 : w33.cell? ⟨gb126, 1, none⟩ = some (.int .i64 0) := (blk_cell BK126.out 1).trans rfl; have hcz34_2 : w33.cell? ⟨gb126, 2, none⟩ = some (.slice none 0 0) := (blk_cell BK126.out 2).trans rfl; have hfz34_0 := blk_frozen BK126.out 0; have hfz34_1 := blk_frozen BK126.out 1; have hfz34_2 := blk_frozen BK126.out 2))
                  have n0_ : Aside0 ((((w33.setCell ⟨gb126, 0, none⟩ (.int .i64 ((rd_T33 l0 x7_1).f0))).setCell ⟨gb126, 1, none⟩ (.int .i64 ((rd_T33 l0 x7_1).f1))).setCell ⟨gb126, 2, none⟩ (.slice A125_2 ((rd_T33 l0 x7_1).f2).length c125_2)).heap[gb126]? = some (.cells #[.int .i64 ((rd_T33 l0 x7_1).f0), .int .i64 ((rd_T33 l0 x7_1).f1), .slice A125_2 ((rd_T33 l0 x7_1).f2).length c125_2] 33 (0, 0))) := ⟨by (with_reducible repeat (first | refine blk_drewN ?_ _ | refine blk_drew ?_ | refine blk_alloc ?_ _)); refine blk_put (cs := #[.int .i64 ((rd_T33 l0 x7_1).f0), .int .i64 ((rd_T33 l0 x7_1).f1), .slice none 0 0]) ?_ 2 _ rfl; (with_reducible repeat (first | refine blk_drewN ?_ _ | refine blk_drew ?_ | refine blk_alloc ?_ _)); refine blk_put (cs := #[.int .i64 ((rd_T33 l0 x7_1).f0), .int .i64 0, .slice none 0 0]) ?_ 1 _ rfl; (with_reducible repeat (first | refine blk_drewN ?_ _ | refine blk_drew ?_ | refine blk_alloc ?_ _)); refine blk_put (cs := #[.int .i64 0, .int .i64 0, .slice none 0 0]) ?_ 0 _ rfl; (with_reducible repeat (first | refine blk_drewN ?_ _ | refine blk_drew ?_ | refine blk_alloc ?_ _)); exact BK126.out⟩
                  have n1_ : Aside0 (Below w.heap.size w (((w33.setCell ⟨gb126, 0, none⟩ (.int .i64 ((rd_T33 l0 x7_1).f0))).setCell ⟨gb126, 1, none⟩ (.int .i64 ((rd_T33 l0 x7_1).f1))).setCell ⟨gb126, 2, none⟩ (.slice A125_2 ((rd_T33 l0 x7_1).f2).length c125_2))) := ⟨by repeat (first | (with_reducible first | exact HB.out | apply below_alloc | apply pw_below_drewN | apply below_drew1 | refine below_set ?_ GE126.out) | exact HB.out)⟩
                  (try clear BK126)
                  (try clear HB)
                  generalize (((w33.setCell ⟨gb126, 0, none⟩ (.int .i64 ((rd_T33 l0 x7_1).f0))).setCell ⟨gb126, 1, none⟩ (.int .i64 ((rd_T33 l0 x7_1).f1))).setCell ⟨gb126, 2, none⟩ (.slice A125_2 ((rd_T33 l0 x7_1).f2).length c125_2)) = w35 at n0_ n1_ ⊢
                  have BK126 := n0_
                  have HB := n1_
                  clear n0_ n1_
                  have n0_ := Aside0.mk (blk_drew BK126.out)
                  have n1_ := Aside0.mk (below_drew1 HB.out)
                  clear BK126
                  clear HB
                  have BK126 := n0_
                  have HB := n1_
                  clear n0_ n1_
                  refine start_ (n := 23) (S := fun w' => w'.cell? ⟨gb126, 0, none⟩ = some (.int .i64 ((rd_T33 l0 x7_1).f0)) ∧ w'.cell? ⟨gb126, 1, none⟩ = some (.int .i64 ((rd_T33 l0 x7_1).f1)) ∧ w'.cell? ⟨gb126, 2, none⟩ = some (.slice A125_2 ((rd_T33 l0 x7_1).f2).length c125_2)) (ds := []) #[false, false, false, false, false, false, false, false, false, false, false, false, false, false, false, false, false, false, false, false, false, false, false] (by kernel_rfl) rfl rfl ⟨(blk_cell BK126.out 0).trans rfl, (blk_cell BK126.out 1).trans rfl, (blk_cell BK126.out 2).trans rfl⟩ (fun hHeld => ?_); refine with_tabW root_Right.tab4 root_Right.bits4 (fun HT_ HW_ => ?_)
                  generalize w35.drew = w36 at BK126 HB hHeld ⊢
                  refine take_ (i := 0) (N := some 12) (v := ?_) (a' := ?_) #[true, false, false, false, false, false, false, false, false, false, false, false, false, false, false, false, false, false, false, false, false, false, false] rfl rfl (take_ofW HT_.out HW_.out (by kernel_rfl)) (fun _ _ _ h => h) (Or.inl ⟨by rfl, ?_⟩) hHeld ?_ ?_
                  rotate_left
                  · rintro w' ⟨s0, s1, s2⟩
                    go_simp
                    with_reducible rfl
                  rotate_left
                  · simp only [Act.put, List.setIfInBounds_toArray, List.set_cons_zero, List.set_cons_succ, i64_w, i32_w]
                    rfl
                  refine one_ (i := 1) (N := some 13) #[true, true, false, false, false, false, false, false, false, false, false, false, false, false, false, false, false, false, false, false, false, false, false] rfl rfl (one_of HT_.out (by kernel_rfl)) (by decide) (fun K hK => ?_)
                  refine goes_ Try.func40 (by kernel_rfl) rfl #[.agg #[.int .i64 ((rd_T33 l0 x7_1).f0), .int .i64 ((rd_T33 l0 x7_1).f1), .slice A125_2 ((rd_T33 l0 x7_1).f2).length c125_2]] (by rfl) rfl rfl (by (try simp only [List.map_toArray, List.map_cons, List.map_nil]); first | done | rfl | (simp only [List.length_drop, List.length_take]; rfl)) ?_
                  with_reducible refine (root_isSpot.calls ((rd_T33 l0 x7_1).f0) ((rd_T33 l0 x7_1).f1) _ _ ((rd_T33 l0 x7_1).f2) true _ ?side1 ?side2 A5.out).mono ?_
                  (case side1 => repeat (first | exact (Kd.C_below HR125_2.out HB.out) | (with_reducible refine Kd.C_alloc ?_ _) | (with_reducible refine Kd.C_drewN ?_ _) | (with_reducible refine Kd.C_drew ?_)))
                  (case side2 => exact HC125_2.out)
                  rintro e w37 ⟨rfl, hb⟩
                  refine ⟨_, rfl, ?_⟩
                  have n0_ := Aside0.mk (blk_below (g := gb126) (o := .cells #[.int .i64 ((rd_T33 l0 x7_1).f0), .int .i64 ((rd_T33 l0 x7_1).f1), .slice A125_2 ((rd_T33 l0 x7_1).f2).length c125_2] 33 (0, 0)) (by (with_reducible repeat (first | refine blk_drewN ?_ _ | refine blk_drew ?_ | refine blk_alloc ?_ _)); exact BK126.out) hb)
                  have n1_ := Aside0.mk (below_step (by repeat (first | (with_reducible first | exact HB.out | apply below_alloc | apply pw_below_drewN | apply below_drew1 | refine below_set ?_ GE126.out) | exact HB.out)) hb)
                  clear BK126
                  clear HB
                  have BK126 := n0_
                  have HB := n1_
                  clear n0_ n1_
                  (try clear hb)
                  (try clear hb2)
                  (try clear hk)
                  (try clear hi)
                  refine hK.out _ _ ⟨(blk_cell BK126.out 0).trans rfl, (blk_cell BK126.out 1).trans rfl, (blk_cell BK126.out 2).trans rfl⟩ (fun hHeld => ?_)
                  clear hK K
                  refine norm_ (a' := ?_) ?_ ?_
                  rotate_left
                  · show Act.put _ (some 13) _ = _
                    simp only [Act.put, List.setIfInBounds_toArray, List.set_cons_zero, List.set_cons_succ, i64_w, i32_w]
                    rfl
                  refine pure_ (i := 2) (N := some 14) (v := ?_) (a' := ?_) #[true, true, true, false, false, false, false, false, false, false, false, false, false, false, false, false, false, false, false, false, false, false, false] rfl rfl (any_of HT_.out (by kernel_rfl)) (fun _ _ _ h => h) (Or.inl ⟨by rfl, ?_⟩) ?_ ?_
                  rotate_left
                  · intro w'
                    go_simp
                    with_reducible rfl
                  rotate_left
                  · simp only [Act.put, List.setIfInBounds_toArray, List.set_cons_zero, List.set_cons_succ, i64_w, i32_w]
                    rfl
                  refine pure_ (i := 3) (N := some 15) (v := ?_) (a' := ?_) #[true, true, true, true, false, false, false, false, false, false, false, false, false, false, false, false, false, false, false, false, false, false, false] rfl rfl (any_of HT_.out (by kernel_rfl)) (fun _ _ _ h => h) (Or.inl ⟨by rfl, ?_⟩) ?_ ?_
                  rotate_left
                  · intro w'
                    go_simp
                    with_reducible rfl
                  rotate_left
                  · simp only [Act.put, List.setIfInBounds_toArray, List.set_cons_zero, List.set_cons_succ, i64_w, i32_w]
                    rfl
                  refine take_ (i := 4) (N := some 16) (v := ?_) (a' := ?_) #[true, true, true, true, true, false, false, false, false, false, false, false, false, false, false, false, false, false, false, false, false, false, false] rfl rfl (take_ofW HT_.out HW_.out (by kernel_rfl)) (fun _ _ _ h => h) (Or.inl ⟨by rfl, ?_⟩) hHeld ?_ ?_
                  rotate_left
                  · rintro w' ⟨s0, s1, s2⟩
                    go_simp
                    with_reducible rfl
                  rotate_left
                  · simp only [Act.put, List.setIfInBounds_toArray, List.set_cons_zero, List.set_cons_succ, i64_w, i32_w]
                    rfl
                  refine one_ (i := 5) (N := some 17) #[true, true, true, true, true, true, false, false, false, false, false, false, false, false, false, false, false, false, false, false, false, false, false] rfl rfl (one_of HT_.out (by kernel_rfl)) (by decide) (fun K hK => ?_)
                  refine goes_ Try.func41 (by kernel_rfl) rfl #[.agg #[.int .i64 ((rd_T33 l0 x7_1).f0), .int .i64 ((rd_T33 l0 x7_1).f1), .slice A125_2 ((rd_T33 l0 x7_1).f2).length c125_2]] (by rfl) rfl rfl (by (try simp only [List.map_toArray, List.map_cons, List.map_nil]); first | done | rfl | (simp only [List.length_drop, List.length_take]; rfl)) ?_
                  with_reducible refine (root_isEmpty.calls ((rd_T33 l0 x7_1).f0) ((rd_T33 l0 x7_1).f1) _ _ ((rd_T33 l0 x7_1).f2) false _ ?side1 ?side2 A7.out).mono ?_
                  (case side1 => repeat (first | exact (Kd.C_below HR125_2.out HB.out) | (with_reducible refine Kd.C_alloc ?_ _) | (with_reducible refine Kd.C_drewN ?_ _) | (with_reducible refine Kd.C_drew ?_)))
                  (case side2 => exact HC125_2.out)
                  rintro e w38 ⟨rfl, hb⟩
                  refine ⟨_, rfl, ?_⟩
                  have n0_ := Aside0.mk (blk_below (g := gb126) (o := .cells #[.int .i64 ((rd_T33 l0 x7_1).f0), .int .i64 ((rd_T33 l0 x7_1).f1), .slice A125_2 ((rd_T33 l0 x7_1).f2).length c125_2] 33 (0, 0)) (by (with_reducible repeat (first | refine blk_drewN ?_ _ | refine blk_drew ?_ | refine blk_alloc ?_ _)); exact BK126.out) hb)
                  have n1_ := Aside0.mk (below_step (by repeat (first | (with_reducible first | exact HB.out | apply below_alloc | apply pw_below_drewN | apply below_drew1 | refine below_set ?_ GE126.out) | exact HB.out)) hb)
                  clear BK126
                  clear HB
                  have BK126 := n0_
                  have HB := n1_
                  clear n0_ n1_
                  (try clear hb)
                  (try clear hb2)
                  (try clear hk)
                  (try clear hi)
                  refine hK.out _ _ ⟨(blk_cell BK126.out 0).trans rfl, (blk_cell BK126.out 1).trans rfl, (blk_cell BK126.out 2).trans rfl⟩ (fun hHeld => ?_)
                  clear hK K
                  refine norm_ (a' := ?_) ?_ ?_
                  rotate_left
                  · show Act.put _ (some 17) _ = _
                    simp only [Act.put, List.setIfInBounds_toArray, List.set_cons_zero, List.set_cons_succ, i64_w, i32_w]
                    rfl
                  refine pure_ (i := 6) (N := some 18) (v := ?_) (a' := ?_) #[true, true, true, true, true, true, true, false, false, false, false, false, false, false, false, false, false, false, false, false, false, false, false] rfl rfl (any_of HT_.out (by kernel_rfl)) (fun _ _ _ h => h) (Or.inl ⟨by rfl, ?_⟩) ?_ ?_
                  rotate_left
                  · intro w'
                    go_simp
                    with_reducible rfl
                  rotate_left
                  · simp only [Act.put, List.setIfInBounds_toArray, List.set_cons_zero, List.set_cons_succ, i64_w, i32_w]
                    rfl
                  refine pure_ (i := 7) (N := some 19) (v := ?_) (a' := ?_) #[true, true, true, true, true, true, true, true, false, false, false, false, false, false, false, false, false, false, false, false, false, false, false] rfl rfl (any_of HT_.out (by kernel_rfl)) (fun _ _ _ h => h) (Or.inl ⟨by rfl, ?_⟩) ?_ ?_
                  rotate_left
                  · intro w'
                    go_simp
                    with_reducible rfl
                  rotate_left
                  · simp only [Act.put, List.setIfInBounds_toArray, List.set_cons_zero, List.set_cons_succ, i64_w, i32_w]
                    rfl
                  refine pure_ (i := 8) (N := some 20) (v := ?_) (a' := ?_) #[true, true, true, true, true, true, true, true, true, false, false, false, false, false, false, false, false, false, false, false, false, false, false] rfl rfl (any_of HT_.out (by kernel_rfl)) (fun _ _ _ h => h) (Or.inl ⟨by rfl, ?_⟩) ?_ ?_
                  rotate_left
                  · intro w'
                    go_simp
                    with_reducible rfl
                  rotate_left
                  · simp only [Act.put, List.setIfInBounds_toArray, List.set_cons_zero, List.set_cons_succ, i64_w, i32_w]
                    rfl
                  refine pure_ (i := 9) (N := some 21) (v := ?_) (a' := ?_) #[true, true, true, true, true, true, true, true, true, true, false, false, false, false, false, false, false, false, false, false, false, false, false] rfl rfl (any_of HT_.out (by kernel_rfl)) (fun _ _ _ h => h) (Or.inl ⟨by rfl, ?_⟩) ?_ ?_
                  rotate_left
                  · intro w'
                    go_simp
                    with_reducible rfl
                  rotate_left
                  · simp only [Act.put, List.setIfInBounds_toArray, List.set_cons_zero, List.set_cons_succ, i64_w, i32_w]
                    rfl
                  refine pure_ (i := 10) (N := some 22) (v := ?_) (a' := ?_) #[true, true, true, true, true, true, true, true, true, true, true, false, false, false, false, false, false, false, false, false, false, false, false] rfl rfl (any_of HT_.out (by kernel_rfl)) (fun _ _ _ h => h) (Or.inl ⟨by rfl, ?_⟩) ?_ ?_
                  rotate_left
                  · intro w'
                    go_simp
                    with_reducible rfl
                  rotate_left
                  · simp only [Act.put, List.setIfInBounds_toArray, List.set_cons_zero, List.set_cons_succ, i64_w, i32_w]
                    rfl
                  refine pure_ (i := 11) (N := some 23) (v := undef) (a' := ?_) #[true, true, true, true, true, true, true, true, true, true, true, true, false, false, false, false, false, false, false, false, false, false, false] rfl rfl (any_of HT_.out (by kernel_rfl)) (fun _ _ _ h => h) (Or.inr ⟨by rfl, rfl⟩) ?_ ?_
                  rotate_left
                  · simp only [Act.put, List.setIfInBounds_toArray, List.set_cons_zero, List.set_cons_succ, i64_w, i32_w]
                    rfl
                  refine pure_ (i := 12) (N := some 24) (v := undef) (a' := ?_) #[true, true, true, true, true, true, true, true, true, true, true, true, true, false, false, false, false, false, false, false, false, false, false] rfl rfl (any_of HT_.out (by kernel_rfl)) (fun _ _ _ h => h) (Or.inr ⟨by rfl, rfl⟩) ?_ ?_
                  rotate_left
                  · simp only [Act.put, List.setIfInBounds_toArray, List.set_cons_zero, List.set_cons_succ, i64_w, i32_w]
                    rfl
                  refine pure_ (i := 13) (N := some 25) (v := undef) (a' := ?_) #[true, true, true, true, true, true, true, true, true, true, true, true, true, true, false, false, false, false, false, false, false, false, false] rfl rfl (any_of HT_.out (by kernel_rfl)) (fun _ _ _ h => h) (Or.inr ⟨by rfl, rfl⟩) ?_ ?_
                  rotate_left
                  · simp only [Act.put, List.setIfInBounds_toArray, List.set_cons_zero, List.set_cons_succ, i64_w, i32_w]
                    rfl
                  refine pure_ (i := 14) (N := some 26) (v := undef) (a' := ?_) #[true, true, true, true, true, true, true, true, true, true, true, true, true, true, true, false, false, false, false, false, false, false, false] rfl rfl (any_of HT_.out (by kernel_rfl)) (fun _ _ _ h => h) (Or.inr ⟨by rfl, rfl⟩) ?_ ?_
                  rotate_left
                  · simp only [Act.put, List.setIfInBounds_toArray, List.set_cons_zero, List.set_cons_succ, i64_w, i32_w]
                    rfl
                  refine pure_ (i := 15) (N := some 27) (v := undef) (a' := ?_) #[true, true, true, true, true, true, true, true, true, true, true, true, true, true, true, true, false, false, false, false, false, false, false] rfl rfl (any_of HT_.out (by kernel_rfl)) (fun _ _ _ h => h) (Or.inr ⟨by rfl, rfl⟩) ?_ ?_
                  rotate_left
                  · simp only [Act.put, List.setIfInBounds_toArray, List.set_cons_zero, List.set_cons_succ, i64_w, i32_w]
                    rfl
                  refine pure_ (i := 16) (N := some 28) (v := undef) (a' := ?_) #[true, true, true, true, true, true, true, true, true, true, true, true, true, true, true, true, true, false, false, false, false, false, false] rfl rfl (any_of HT_.out (by kernel_rfl)) (fun _ _ _ h => h) (Or.inr ⟨by rfl, rfl⟩) ?_ ?_
                  rotate_left
                  · simp only [Act.put, List.setIfInBounds_toArray, List.set_cons_zero, List.set_cons_succ, i64_w, i32_w]
                    rfl
                  refine pure_ (i := 17) (N := some 29) (v := undef) (a' := ?_) #[true, true, true, true, true, true, true, true, true, true, true, true, true, true, true, true, true, true, false, false, false, false, false] rfl rfl (any_of HT_.out (by kernel_rfl)) (fun _ _ _ h => h) (Or.inr ⟨by rfl, rfl⟩) ?_ ?_
                  rotate_left
                  · simp only [Act.put, List.setIfInBounds_toArray, List.set_cons_zero, List.set_cons_succ, i64_w, i32_w]
                    rfl
                  refine pure_ (i := 18) (N := some 30) (v := undef) (a' := ?_) #[true, true, true, true, true, true, true, true, true, true, true, true, true, true, true, true, true, true, true, false, false, false, false] rfl rfl (any_of HT_.out (by kernel_rfl)) (fun _ _ _ h => h) (Or.inr ⟨by rfl, rfl⟩) ?_ ?_
                  rotate_left
                  · simp only [Act.put, List.setIfInBounds_toArray, List.set_cons_zero, List.set_cons_succ, i64_w, i32_w]
                    rfl
                  refine pure_ (i := 19) (N := some 31) (v := undef) (a' := ?_) #[true, true, true, true, true, true, true, true, true, true, true, true, true, true, true, true, true, true, true, true, false, false, false] rfl rfl (any_of HT_.out (by kernel_rfl)) (fun _ _ _ h => h) (Or.inr ⟨by rfl, rfl⟩) ?_ ?_
                  rotate_left
                  · simp only [Act.put, List.setIfInBounds_toArray, List.set_cons_zero, List.set_cons_succ, i64_w, i32_w]
                    rfl
                  refine pure_ (i := 20) (N := some 32) (v := undef) (a' := ?_) #[true, true, true, true, true, true, true, true, true, true, true, true, true, true, true, true, true, true, true, true, true, false, false] rfl rfl (any_of HT_.out (by kernel_rfl)) (fun _ _ _ h => h) (Or.inr ⟨by rfl, rfl⟩) ?_ ?_
                  rotate_left
                  · simp only [Act.put, List.setIfInBounds_toArray, List.set_cons_zero, List.set_cons_succ, i64_w, i32_w]
                    rfl
                  refine pure_ (i := 21) (N := some 33) (v := ?_) (a' := ?_) #[true, true, true, true, true, true, true, true, true, true, true, true, true, true, true, true, true, true, true, true, true, true, false] rfl rfl (any_of HT_.out (by kernel_rfl)) (fun _ _ _ h => h) (Or.inl ⟨by rfl, ?_⟩) ?_ ?_
                  rotate_left
                  · intro w'
                    go_simp
                    with_reducible rfl
                  rotate_left
                  · simp only [Act.put, List.setIfInBounds_toArray, List.set_cons_zero, List.set_cons_succ, i64_w, i32_w]
                    rfl
                  refine pure_ (i := 22) (N := some 34) (v := ?_) (a' := ?_) #[true, true, true, true, true, true, true, true, true, true, true, true, true, true, true, true, true, true, true, true, true, true, true] rfl rfl (any_of HT_.out (by kernel_rfl)) (fun _ _ _ h => h) (Or.inl ⟨by rfl, ?_⟩) ?_ ?_
                  rotate_left
                  · intro w'
                    go_simp
                    with_reducible rfl
                  rotate_left
                  · simp only [Act.put, List.setIfInBounds_toArray, List.set_cons_zero, List.set_cons_succ, i64_w, i32_w]
                    rfl
                  refine done_ (done_of HT_.out (by kernel_rfl)) ?_
                  try go_wp2
                  go_roundg k1
                  case measure => have := HK1.out; omega
                  case rel => exact ⟨(wrap64 (x7_1 + 1)), (by first | rfl | (simp; done) | (simp [*]; done)), H', ⟨by have := HK1.out; omega⟩, ⟨by repeat (first | (with_reducible first | exact HB.out | apply below_alloc | apply pw_below_drewN | apply below_drew1 | refine below_set ?_ GE126.out) | exact HB.out)⟩⟩
            · replace c6 := Bool.eq_false_iff.mpr c6
              subst c6
              have H1 : (some false) = some r := by rw [if_neg (show ¬ (false = true) by decide)] at H; exact H
              clear H
              have H := H1
              clear H1
              obtain rfl := Option.some.inj H
              have p125 : 0 ≤ (x7_1 : Int) := of_decide_eq_true (by first | (with_reducible assumption) | assumption)
              have q125 : x7_1 < (l0.length : Int) := of_decide_eq_true (by first | (with_reducible assumption) | assumption)
              obtain ⟨ad125, A125_2, c125_2, e125, hx125_0, hx125_1, hx125_2, hl125_2, hi125_2⟩ := at_T33 HR0.out x7_1 p125 q125
              cases e125
              replace hx125_0 := (HB.out.cell (World.block_lt_of_cell? w _ hx125_0)).trans hx125_0
              replace hx125_1 := (HB.out.cell (World.block_lt_of_cell? w _ hx125_1)).trans hx125_1
              replace hx125_2 := (HB.out.cell (World.block_lt_of_cell? w _ hx125_2)).trans hx125_2
              have HR125_2 := Aside0.mk hi125_2
              have HC125_2 := Aside0.mk hl125_2
              clear hi125_2 hl125_2
              replace p125 := eq_true p125
              replace q125 := eq_true q125
              try go_wp2_with (first | ((with_reducible refine gate_dst (N := 4) rfl ?_); refine box_event ?hg (N := 4) ?hd (cs := #[.int .i64 0, .int .i64 0, .slice none 0 0]) (t := 33) ?hr ?_; (case hd => rfl); (case hg => rfl); (case hr => first | (go_simp; done) | (go_simp; rfl)); intro gb126 hg w39 hbox hb; have n0_ := Aside0.mk (below_step (by repeat (first | (with_reducible first | exact HB.out | apply below_alloc | apply pw_below_drewN | apply below_drew1) | exact HB.out)) hb); have n1_ := Aside0.mk (hbox); have n2_ := Aside0.mk ((by rw [hg]; exact (below_size (by repeat (first | (with_reducible first | exact HB.out | apply below_alloc | apply pw_below_drewN | apply below_drew1) | exact HB.out))) : w.heap.size ≤ gb126)); have n3_ := Aside0.mk ((by rw [hg]; exact (below_size (by repeat (first | (with_reducible first | exact HB.out | apply below_alloc | apply pw_below_drewN | apply below_drew1) | exact HB.out))) : w.heap.size ≤ gb126)); clear HB; have HB := n0_; have BK126 := n1_; have GW126 := n2_; have GE126 := n3_; clear n0_ n1_ n2_ n3_; clear hb hbox hg; have hcz40_0 : w39.cell? ⟨gb126, 0, none⟩ = some (.int .i64 0) := (blk_cell BK126.out 0).trans rfl; have hcz40_1 : w39.cell? ⟨gb126, 1, none⟩ = some (.int .i64 0) := (blk_cell BK126.out 1).trans rfl; have hcz40_2 : w39.cell? ⟨gb126, 2, none⟩ = some (.slice none 0 0) := (blk_cell BK126.out 2).trans rfl; have hfz40_0 := blk_frozen BK126.out 0; have hfz40_1 := blk_frozen BK126.out 1; have hfz40_2 := blk_frozen BK126.out 2))
              have n0_ : Aside0 ((((w39.setCell ⟨gb126, 0, none⟩ (.int .i64 ((rd_T33 l0 x7_1).f0))).setCell ⟨gb126, 1, none⟩ (.int .i64 ((rd_T33 l0 x7_1).f1))).setCell ⟨gb126, 2, none⟩ (.slice A125_2 ((rd_T33 l0 x7_1).f2).length c125_2)).heap[gb126]? = some (.cells #[.int .i64 ((rd_T33 l0 x7_1).f0), .int .i64 ((rd_T33 l0 x7_1).f1), .slice A125_2 ((rd_T33 l0 x7_1).f2).length c125_2] 33 (0, 0))) := ⟨by (with_reducible repeat (first | refine blk_drewN ?_ _ | refine blk_drew ?_ | refine blk_alloc ?_ _)); refine blk_put (cs := #[.int .i64 ((rd_T33 l0 x7_1).f0), .int .i64 ((rd_T33 l0 x7_1).f1), .slice none 0 0]) ?_ 2 _ rfl; (with_reducible repeat (first | refine blk_drewN ?_ _ | refine blk_drew ?_ | refine blk_alloc ?_ _)); refine blk_put (cs := #[.int .i64 ((rd_T33 l0 x7_1).f0), .int .i64 0, .slice none 0 0]) ?_ 1 _ rfl; (with_reducible repeat (first | refine blk_drewN ?_ _ | refine blk_drew ?_ | refine blk_alloc ?_ _)); refine blk_put (cs := #[.int .i64 0, .int .i64 0, .slice none 0 0]) ?_ 0 _ rfl; (with_reducible repeat (first | refine blk_drewN ?_ _ | refine blk_drew ?_ | refine blk_alloc ?_ _)); exact BK126.out⟩
              have n1_ : Aside0 (Below w.heap.size w (((w39.setCell ⟨gb126, 0, none⟩ (.int .i64 ((rd_T33 l0 x7_1).f0))).setCell ⟨gb126, 1, none⟩ (.int .i64 ((rd_T33 l0 x7_1).f1))).setCell ⟨gb126, 2, none⟩ (.slice A125_2 ((rd_T33 l0 x7_1).f2).length c125_2))) := ⟨by repeat (first | (with_reducible first | exact HB.out | apply below_alloc | apply pw_below_drewN | apply below_drew1 | refine below_set ?_ GE126.out) | exact HB.out)⟩
              (try clear BK126)
              (try clear HB)
              generalize (((w39.setCell ⟨gb126, 0, none⟩ (.int .i64 ((rd_T33 l0 x7_1).f0))).setCell ⟨gb126, 1, none⟩ (.int .i64 ((rd_T33 l0 x7_1).f1))).setCell ⟨gb126, 2, none⟩ (.slice A125_2 ((rd_T33 l0 x7_1).f2).length c125_2)) = w41 at n0_ n1_ ⊢
              have BK126 := n0_
              have HB := n1_
              clear n0_ n1_
              have n0_ := Aside0.mk (blk_drew BK126.out)
              have n1_ := Aside0.mk (below_drew1 HB.out)
              clear BK126
              clear HB
              have BK126 := n0_
              have HB := n1_
              clear n0_ n1_
              refine start_ (n := 23) (S := fun w' => w'.cell? ⟨gb126, 0, none⟩ = some (.int .i64 ((rd_T33 l0 x7_1).f0)) ∧ w'.cell? ⟨gb126, 1, none⟩ = some (.int .i64 ((rd_T33 l0 x7_1).f1)) ∧ w'.cell? ⟨gb126, 2, none⟩ = some (.slice A125_2 ((rd_T33 l0 x7_1).f2).length c125_2)) (ds := []) #[false, false, false, false, false, false, false, false, false, false, false, false, false, false, false, false, false, false, false, false, false, false, false] (by kernel_rfl) rfl rfl ⟨(blk_cell BK126.out 0).trans rfl, (blk_cell BK126.out 1).trans rfl, (blk_cell BK126.out 2).trans rfl⟩ (fun hHeld => ?_); refine with_tabW root_Right.tab4 root_Right.bits4 (fun HT_ HW_ => ?_)
              generalize w41.drew = w42 at BK126 HB hHeld ⊢
              refine take_ (i := 0) (N := some 12) (v := ?_) (a' := ?_) #[true, false, false, false, false, false, false, false, false, false, false, false, false, false, false, false, false, false, false, false, false, false, false] rfl rfl (take_ofW HT_.out HW_.out (by kernel_rfl)) (fun _ _ _ h => h) (Or.inl ⟨by rfl, ?_⟩) hHeld ?_ ?_
              rotate_left
              · rintro w' ⟨s0, s1, s2⟩
                go_simp
                with_reducible rfl
              rotate_left
              · simp only [Act.put, List.setIfInBounds_toArray, List.set_cons_zero, List.set_cons_succ, i64_w, i32_w]
                rfl
              refine one_ (i := 1) (N := some 13) #[true, true, false, false, false, false, false, false, false, false, false, false, false, false, false, false, false, false, false, false, false, false, false] rfl rfl (one_of HT_.out (by kernel_rfl)) (by decide) (fun K hK => ?_)
              refine goes_ Try.func40 (by kernel_rfl) rfl #[.agg #[.int .i64 ((rd_T33 l0 x7_1).f0), .int .i64 ((rd_T33 l0 x7_1).f1), .slice A125_2 ((rd_T33 l0 x7_1).f2).length c125_2]] (by rfl) rfl rfl (by (try simp only [List.map_toArray, List.map_cons, List.map_nil]); first | done | rfl | (simp only [List.length_drop, List.length_take]; rfl)) ?_
              with_reducible refine (root_isSpot.calls ((rd_T33 l0 x7_1).f0) ((rd_T33 l0 x7_1).f1) _ _ ((rd_T33 l0 x7_1).f2) false _ ?side1 ?side2 A5.out).mono ?_
              (case side1 => repeat (first | exact (Kd.C_below HR125_2.out HB.out) | (with_reducible refine Kd.C_alloc ?_ _) | (with_reducible refine Kd.C_drewN ?_ _) | (with_reducible refine Kd.C_drew ?_)))
              (case side2 => exact HC125_2.out)
              rintro e w43 ⟨rfl, hb⟩
              refine ⟨_, rfl, ?_⟩
              have n0_ := Aside0.mk (blk_below (g := gb126) (o := .cells #[.int .i64 ((rd_T33 l0 x7_1).f0), .int .i64 ((rd_T33 l0 x7_1).f1), .slice A125_2 ((rd_T33 l0 x7_1).f2).length c125_2] 33 (0, 0)) (by (with_reducible repeat (first | refine blk_drewN ?_ _ | refine blk_drew ?_ | refine blk_alloc ?_ _)); exact BK126.out) hb)
              have n1_ := Aside0.mk (below_step (by repeat (first | (with_reducible first | exact HB.out | apply below_alloc | apply pw_below_drewN | apply below_drew1 | refine below_set ?_ GE126.out) | exact HB.out)) hb)
              clear BK126
              clear HB
              have BK126 := n0_
              have HB := n1_
              clear n0_ n1_
              (try clear hb)
              (try clear hb2)
              (try clear hk)
              (try clear hi)
              refine hK.out _ _ ⟨(blk_cell BK126.out 0).trans rfl, (blk_cell BK126.out 1).trans rfl, (blk_cell BK126.out 2).trans rfl⟩ (fun hHeld => ?_)
              clear hK K
              refine norm_ (a' := ?_) ?_ ?_
              rotate_left
              · show Act.put _ (some 13) _ = _
                simp only [Act.put, List.setIfInBounds_toArray, List.set_cons_zero, List.set_cons_succ, i64_w, i32_w]
                rfl
              refine pure_ (i := 2) (N := some 14) (v := ?_) (a' := ?_) #[true, true, true, false, false, false, false, false, false, false, false, false, false, false, false, false, false, false, false, false, false, false, false] rfl rfl (any_of HT_.out (by kernel_rfl)) (fun _ _ _ h => h) (Or.inl ⟨by rfl, ?_⟩) ?_ ?_
              rotate_left
              · intro w'
                go_simp
                with_reducible rfl
              rotate_left
              · simp only [Act.put, List.setIfInBounds_toArray, List.set_cons_zero, List.set_cons_succ, i64_w, i32_w]
                rfl
              refine pure_ (i := 3) (N := some 15) (v := ?_) (a' := ?_) #[true, true, true, true, false, false, false, false, false, false, false, false, false, false, false, false, false, false, false, false, false, false, false] rfl rfl (any_of HT_.out (by kernel_rfl)) (fun _ _ _ h => h) (Or.inl ⟨by rfl, ?_⟩) ?_ ?_
              rotate_left
              · intro w'
                go_simp
                with_reducible rfl
              rotate_left
              · simp only [Act.put, List.setIfInBounds_toArray, List.set_cons_zero, List.set_cons_succ, i64_w, i32_w]
                rfl
              refine pure_ (i := 4) (N := some 16) (v := undef) (a' := ?_) #[true, true, true, true, true, false, false, false, false, false, false, false, false, false, false, false, false, false, false, false, false, false, false] rfl rfl (any_of HT_.out (by kernel_rfl)) (fun _ _ _ h => h) (Or.inr ⟨by rfl, rfl⟩) ?_ ?_
              rotate_left
              · simp only [Act.put, List.setIfInBounds_toArray, List.set_cons_zero, List.set_cons_succ, i64_w, i32_w]
                rfl
              refine pure_ (i := 5) (N := some 17) (v := undef) (a' := ?_) #[true, true, true, true, true, true, false, false, false, false, false, false, false, false, false, false, false, false, false, false, false, false, false] rfl rfl (any_of HT_.out (by kernel_rfl)) (fun _ _ _ h => h) (Or.inr ⟨by rfl, rfl⟩) ?_ ?_
              rotate_left
              · simp only [Act.put, List.setIfInBounds_toArray, List.set_cons_zero, List.set_cons_succ, i64_w, i32_w]
                rfl
              refine pure_ (i := 6) (N := some 18) (v := ?_) (a' := ?_) #[true, true, true, true, true, true, true, false, false, false, false, false, false, false, false, false, false, false, false, false, false, false, false] rfl rfl (any_of HT_.out (by kernel_rfl)) (fun _ _ _ h => h) (Or.inl ⟨by rfl, ?_⟩) ?_ ?_
              rotate_left
              · intro w'
                go_simp
                with_reducible rfl
              rotate_left
              · simp only [Act.put, List.setIfInBounds_toArray, List.set_cons_zero, List.set_cons_succ, i64_w, i32_w]
                rfl
              refine pure_ (i := 7) (N := some 19) (v := ?_) (a' := ?_) #[true, true, true, true, true, true, true, true, false, false, false, false, false, false, false, false, false, false, false, false, false, false, false] rfl rfl (any_of HT_.out (by kernel_rfl)) (fun _ _ _ h => h) (Or.inl ⟨by rfl, ?_⟩) ?_ ?_
              rotate_left
              · intro w'
                go_simp
                with_reducible rfl
              rotate_left
              · simp only [Act.put, List.setIfInBounds_toArray, List.set_cons_zero, List.set_cons_succ, i64_w, i32_w]
                rfl
              refine pure_ (i := 8) (N := some 20) (v := undef) (a' := ?_) #[true, true, true, true, true, true, true, true, true, false, false, false, false, false, false, false, false, false, false, false, false, false, false] rfl rfl (any_of HT_.out (by kernel_rfl)) (fun _ _ _ h => h) (Or.inr ⟨by rfl, rfl⟩) ?_ ?_
              rotate_left
              · simp only [Act.put, List.setIfInBounds_toArray, List.set_cons_zero, List.set_cons_succ, i64_w, i32_w]
                rfl
              refine pure_ (i := 9) (N := some 21) (v := undef) (a' := ?_) #[true, true, true, true, true, true, true, true, true, true, false, false, false, false, false, false, false, false, false, false, false, false, false] rfl rfl (any_of HT_.out (by kernel_rfl)) (fun _ _ _ h => h) (Or.inr ⟨by rfl, rfl⟩) ?_ ?_
              rotate_left
              · simp only [Act.put, List.setIfInBounds_toArray, List.set_cons_zero, List.set_cons_succ, i64_w, i32_w]
                rfl
              refine pure_ (i := 10) (N := some 22) (v := undef) (a' := ?_) #[true, true, true, true, true, true, true, true, true, true, true, false, false, false, false, false, false, false, false, false, false, false, false] rfl rfl (any_of HT_.out (by kernel_rfl)) (fun _ _ _ h => h) (Or.inr ⟨by rfl, rfl⟩) ?_ ?_
              rotate_left
              · simp only [Act.put, List.setIfInBounds_toArray, List.set_cons_zero, List.set_cons_succ, i64_w, i32_w]
                rfl
              refine pure_ (i := 11) (N := some 23) (v := undef) (a' := ?_) #[true, true, true, true, true, true, true, true, true, true, true, true, false, false, false, false, false, false, false, false, false, false, false] rfl rfl (any_of HT_.out (by kernel_rfl)) (fun _ _ _ h => h) (Or.inr ⟨by rfl, rfl⟩) ?_ ?_
              rotate_left
              · simp only [Act.put, List.setIfInBounds_toArray, List.set_cons_zero, List.set_cons_succ, i64_w, i32_w]
                rfl
              refine pure_ (i := 12) (N := some 24) (v := undef) (a' := ?_) #[true, true, true, true, true, true, true, true, true, true, true, true, true, false, false, false, false, false, false, false, false, false, false] rfl rfl (any_of HT_.out (by kernel_rfl)) (fun _ _ _ h => h) (Or.inr ⟨by rfl, rfl⟩) ?_ ?_
              rotate_left
              · simp only [Act.put, List.setIfInBounds_toArray, List.set_cons_zero, List.set_cons_succ, i64_w, i32_w]
                rfl
              refine pure_ (i := 13) (N := some 25) (v := undef) (a' := ?_) #[true, true, true, true, true, true, true, true, true, true, true, true, true, true, false, false, false, false, false, false, false, false, false] rfl rfl (any_of HT_.out (by kernel_rfl)) (fun _ _ _ h => h) (Or.inr ⟨by rfl, rfl⟩) ?_ ?_
              rotate_left
              · simp only [Act.put, List.setIfInBounds_toArray, List.set_cons_zero, List.set_cons_succ, i64_w, i32_w]
                rfl
              refine pure_ (i := 14) (N := some 26) (v := undef) (a' := ?_) #[true, true, true, true, true, true, true, true, true, true, true, true, true, true, true, false, false, false, false, false, false, false, false] rfl rfl (any_of HT_.out (by kernel_rfl)) (fun _ _ _ h => h) (Or.inr ⟨by rfl, rfl⟩) ?_ ?_
              rotate_left
              · simp only [Act.put, List.setIfInBounds_toArray, List.set_cons_zero, List.set_cons_succ, i64_w, i32_w]
                rfl
              refine pure_ (i := 15) (N := some 27) (v := undef) (a' := ?_) #[true, true, true, true, true, true, true, true, true, true, true, true, true, true, true, true, false, false, false, false, false, false, false] rfl rfl (any_of HT_.out (by kernel_rfl)) (fun _ _ _ h => h) (Or.inr ⟨by rfl, rfl⟩) ?_ ?_
              rotate_left
              · simp only [Act.put, List.setIfInBounds_toArray, List.set_cons_zero, List.set_cons_succ, i64_w, i32_w]
                rfl
              refine pure_ (i := 16) (N := some 28) (v := undef) (a' := ?_) #[true, true, true, true, true, true, true, true, true, true, true, true, true, true, true, true, true, false, false, false, false, false, false] rfl rfl (any_of HT_.out (by kernel_rfl)) (fun _ _ _ h => h) (Or.inr ⟨by rfl, rfl⟩) ?_ ?_
              rotate_left
              · simp only [Act.put, List.setIfInBounds_toArray, List.set_cons_zero, List.set_cons_succ, i64_w, i32_w]
                rfl
              refine pure_ (i := 17) (N := some 29) (v := undef) (a' := ?_) #[true, true, true, true, true, true, true, true, true, true, true, true, true, true, true, true, true, true, false, false, false, false, false] rfl rfl (any_of HT_.out (by kernel_rfl)) (fun _ _ _ h => h) (Or.inr ⟨by rfl, rfl⟩) ?_ ?_
              rotate_left
              · simp only [Act.put, List.setIfInBounds_toArray, List.set_cons_zero, List.set_cons_succ, i64_w, i32_w]
                rfl
              refine pure_ (i := 18) (N := some 30) (v := undef) (a' := ?_) #[true, true, true, true, true, true, true, true, true, true, true, true, true, true, true, true, true, true, true, false, false, false, false] rfl rfl (any_of HT_.out (by kernel_rfl)) (fun _ _ _ h => h) (Or.inr ⟨by rfl, rfl⟩) ?_ ?_
              rotate_left
              · simp only [Act.put, List.setIfInBounds_toArray, List.set_cons_zero, List.set_cons_succ, i64_w, i32_w]
                rfl
              refine pure_ (i := 19) (N := some 31) (v := undef) (a' := ?_) #[true, true, true, true, true, true, true, true, true, true, true, true, true, true, true, true, true, true, true, true, false, false, false] rfl rfl (any_of HT_.out (by kernel_rfl)) (fun _ _ _ h => h) (Or.inr ⟨by rfl, rfl⟩) ?_ ?_
              rotate_left
              · simp only [Act.put, List.setIfInBounds_toArray, List.set_cons_zero, List.set_cons_succ, i64_w, i32_w]
                rfl
              refine pure_ (i := 20) (N := some 32) (v := undef) (a' := ?_) #[true, true, true, true, true, true, true, true, true, true, true, true, true, true, true, true, true, true, true, true, true, false, false] rfl rfl (any_of HT_.out (by kernel_rfl)) (fun _ _ _ h => h) (Or.inr ⟨by rfl, rfl⟩) ?_ ?_
              rotate_left
              · simp only [Act.put, List.setIfInBounds_toArray, List.set_cons_zero, List.set_cons_succ, i64_w, i32_w]
                rfl
              refine pure_ (i := 21) (N := some 33) (v := undef) (a' := ?_) #[true, true, true, true, true, true, true, true, true, true, true, true, true, true, true, true, true, true, true, true, true, true, false] rfl rfl (any_of HT_.out (by kernel_rfl)) (fun _ _ _ h => h) (Or.inr ⟨by rfl, rfl⟩) ?_ ?_
              rotate_left
              · simp only [Act.put, List.setIfInBounds_toArray, List.set_cons_zero, List.set_cons_succ, i64_w, i32_w]
                rfl
              refine pure_ (i := 22) (N := some 34) (v := ?_) (a' := ?_) #[true, true, true, true, true, true, true, true, true, true, true, true, true, true, true, true, true, true, true, true, true, true, true] rfl rfl (any_of HT_.out (by kernel_rfl)) (fun _ _ _ h => h) (Or.inl ⟨by rfl, ?_⟩) ?_ ?_
              rotate_left
              · intro w'
                go_simp
                with_reducible rfl
              rotate_left
              · simp only [Act.put, List.setIfInBounds_toArray, List.set_cons_zero, List.set_cons_succ, i64_w, i32_w]
                rfl
              refine done_ (done_of HT_.out (by kernel_rfl)) ?_
              try go_wp2
              go_ret
              exact ⟨by first | rfl | (simp [errW_none, errW_some] <;> rfl) | (simp [*, errW_none, errW_some] <;> rfl), by repeat (first | (with_reducible first | exact HB.out | apply below_alloc | apply pw_below_drewN | apply below_drew1 | refine below_set ?_ GE126.out) | exact HB.out)⟩
          · rw [if_neg c4] at H
            exact absurd H (by simp)
        · rw [if_neg c3] at H
          exact absurd H (by simp)
      · rw [if_neg c2] at H
        have c2b0 : decide (x7_1 < (l0.length : Int)) = false := decide_eq_false c2
        clear c2
        obtain rfl := Option.some.inj H
        go_wp2
        go_ret
        exact ⟨by first | rfl | (simp [errW_none, errW_some] <;> rfl) | (simp [*, errW_none, errW_some] <;> rfl), by repeat (first | (with_reducible first | exact HB.out | apply below_alloc | apply pw_below_drewN | apply below_drew1) | exact HB.out)⟩

end Go.Proofs.Ytnjnjajgpkmfhaa.PX

/-
  The contract of root.Get, in the form that the printed texts lean on.
-/
namespace Go.Proofs.Ytnjnjajgpkmfhaa.PX
open Go.RowKit Go.Proofs.YtnjnjajgpkmfhaaW.PrintWords Go.Proofs.YtnjnjajgpkmfhaaW.PrintLast Go.Proofs.YtnjnjajgpkmfhaaW.PrintMore
def isAddrB (a : Int) : Bool := decide (0 ≤ a ∧ a ≤ 4294967295)
theorem isAddr_f (a : Int) : root_isAddr.f a = some (isAddrB a) := by
  unfold root_isAddr.f isAddrB
  by_cases h0 : 0 ≤ a <;> by_cases h1 : a ≤ 4294967295 <;> simp [h0, h1]
theorem get1_any (Bb : Nat) (a : Int) (x : Rw) (w : World) (h : Blk w Bb 3 #[.int .i64 a]) :
    Calls Try.prog 48 #[.agg #[.int .i64 x.s.f0, .int .i64 x.s.f1, x.v], .pointer (some ⟨Bb, 0, none⟩)] w fun e w' => e = .returned (.bool (x.s.f0 == a)) ∧ Below w.heap.size w w' := by
  have hlt := h.lt
  have hc := (h.alloc (.cells #[.int .i64 x.s.f0, .int .i64 x.s.f1, x.v] 33)).at1
  have HB0 := Lib.hid ((Below.refl w.heap.size w).alloc (Nat.le_refl _) (.cells #[.int .i64 x.s.f0, .int .i64 x.s.f1, x.v] 33))
  clear h
  obtain ⟨s, Av, cv⟩ := x
  simp only [Rw.v] at HB0 hc ⊢
  go_enter Try.func48, Try.ntmps48
  go_wp2_with fail
  go_ret
  exact ⟨rfl, HB0.out⟩
/-- Whose address is a. -/
def atF (Bb : Nat) (a : Int) : PredF where
  K := 48
  caps := #[.pointer (some ⟨Bb, 0, none⟩)]
  I := fun w => Blk w Bb 3 #[.int .i64 a]
  p := fun x => x == a
  enter := fun x w => by simp [go_sem]
  keep := fun h hb => h.below hb h.lt
  run := fun {w} x h => get1_any Bb a x w h
theorem idx_find {R : List Rw} {a : Int} {s : S33} (h : (spots R).find? (fun s => s.f0 == a) = some s) : ∃ (i : Nat) (x : Rw), R[i]? = some x ∧ x.s = s ∧ idxI (fun y => y == a) R = i := by
  rw [spots, List.find?_map] at h
  cases hx : R.find? ((fun s : S33 => s.f0 == a) ∘ fun x => x.s) with
  | none => rw [hx] at h; cases h
  | some x =>
    rw [hx] at h
    have hs := Option.some.inj h
    obtain ⟨hp, l1, l2, hR, hno⟩ := List.find?_eq_some_iff_append.1 hx
    refine ⟨l1.length, x, by rw [hR]; simp, hs, idx_at (p := fun y => y == a) (i := l1.length) (x := x) (fun j y hj hy => ?_) (by rw [hR]; simp) hp⟩
    rw [hR, List.getElem?_append_left hj] at hy
    have := hno y (List.mem_of_getElem? hy)
    simpa using this
def getR (l : List S33) (a : Int) : Option (Int × Int × List Int × Int) :=
  match l.find? (fun s => s.f0 == a) with
  | some s => some (s.f0, s.f1, s.f2, 0)
  | none => none
def root_Get.f (l0 : List S33) (a1 : Int) : Option (Int × Int × List Int × Int) :=
  if l0.length ≤ 1000 then
    (root_Right.f 2000 l0).bind fun r => if r = false ∨ isAddrB a1 = false then some (0, 0, [], 1) else
      (root_tree.f l0 (rootI a1)).bind fun t => (treap_Find.f t.1 t.2 a1).bind fun f => if f.2 = 0 then getR l0 a1 else some (a1, 0, [], 0)
  else none
def GetP (P : Nat → Prop) (r1 r2 : Int) (r3 : List Int) (r4 : Int) (w : World) (e : Ending) (w' : World) : Prop := ∃ v2_ : Value, e = .returned (.tuple #[.agg #[.int .i64 r1, .int .i64 r2, v2_], .int .i64 r4]) ∧ Kd.V (Kd.int .i64) 3 w' w.heap.size P v2_ r3 ∧ Below w.heap.size w w'
set_option maxRecDepth 100000 in
set_option maxHeartbeats 4000000 in
theorem root_Get.calls (P0_ : Nat → Prop) (A0 : Option Addr) (c0 : Nat) (l0 : List S33) (a1 : Int) (r1 r2 : Int) (r3 : List Int) (r4 : Int) (w : World) (hs0 : Kd.V k33 33 w w.heap.size (fun k_ => P0_ k_) (.slice A0 l0.length c0) l0) (h : root_Get.f l0 a1 = some (r1, r2, r3, r4)) :
    Calls Try.prog 16 #[.slice A0 l0.length c0, .int .i64 a1] w fun e w' => ∃ v2_ : Value, e = .returned (.tuple #[.agg #[.int .i64 r1, .int .i64 r2, v2_], .int .i64 r4]) ∧ Kd.V (Kd.int .i64) 3 w' w.heap.size (fun k_ => (P0_ k_ ∨ w.heap.size ≤ k_)) v2_ r3 ∧ Below w.heap.size w w' := by
  show Calls _ _ _ _ (GetP (fun k_ => (P0_ k_ ∨ w.heap.size ≤ k_)) r1 r2 r3 r4 w)
  unfold root_Get.f at h
  split at h
  case isFalse => cases h
  rename_i hn
  obtain ⟨rb, hrb, h⟩ := Option.bind_eq_some_iff.1 h
  have HV := Lib.hid (Kd.V_bound hs0)
  obtain ⟨_, hnc, hF⟩ := Kd.V_at hs0
  have HC := Lib.hid (Kd.F_now hF)
  have HN := Lib.hid hnc
  obtain ⟨e3, her⟩ := root_f a1
  have HER := Lib.hid her
  have HRB := Lib.hid hrb
  -- the box of the address, and the result's
  obtain ⟨w1, hw1⟩ : ∃ w1, (w.alloc (.cells #[.int .i64 a1] 3)).alloc (.cells #[.int .i64 0, .int .i64 0, .slice none 0 0] 33) = w1 := ⟨_, rfl⟩
  have b1 := (Blk.new w 3 #[.int .i64 a1]).alloc (.cells #[.int .i64 0, .int .i64 0, .slice none 0 0] 33)
  have b2 := Blk.new (w.alloc (.cells #[.int .i64 a1] 3)) 33 #[.int .i64 0, .int .i64 0, .slice none 0 0]
  have b3 := ((Below.refl w.heap.size w).alloc (Nat.le_refl _) (.cells #[.int .i64 a1] 3)).alloc (by simp) (.cells #[.int .i64 0, .int .i64 0, .slice none 0 0] 33)
  obtain ⟨Ab, hAb⟩ : ∃ Ab, w.heap.size = Ab := ⟨_, rfl⟩
  rw [World.size_alloc, hAb] at b2
  rw [hAb] at b1
  rw [hw1] at b1 b2 b3
  have HW1 := Lib.hid hw1
  have HB1 := Lib.hid b1
  have HB2 := Lib.hid b2
  have HB3 := Lib.hid b3
  clear hs0 hF hnc her hrb hw1 b1 b2 b3
  by_cases hbad : rb = false ∨ isAddrB a1 = false
  · rw [if_pos hbad] at h
    have hq := Option.some.inj h
    obtain ⟨rfl, rfl, rfl, rfl⟩ : r1 = 0 ∧ r2 = 0 ∧ r3 = [] ∧ r4 = 1 := ⟨(congrArg (·.1) hq).symm, (congrArg (·.2.1) hq).symm, (congrArg (·.2.2.1) hq).symm, (congrArg (·.2.2.2) hq).symm⟩
    clear h hq
    go_enter Try.func16, Try.ntmps16
    go_wp2_with fail
    rw [HW1.out]
    refine (root_Right.calls 2000 A0 c0 l0 rb w1 (Kd.C_below HC.out HB3.out) HN.out HRB.out).mono ?_
    rintro e w2 ⟨rfl, hb2⟩
    have hz2 := HB2.out.below hb2 HB2.out.lt
    have c1 := (HB1.out.below hb2 HB1.out.lt).at1
    have HBB2 := Lib.hid (bthen HB3.out hb2)
    clear hb2
    cases rb with
    | false =>
      obtain ⟨z0, z1, z2⟩ := hz2.at3
      have f0 := hz2.frozen 0
      have f1 := hz2.frozen 1
      have f2 := hz2.frozen 2
      have HZ := Lib.hid (((hz2.set_ 0 (.int .i64 0)).set_ 1 (.int .i64 0)).set_ 2 (.slice none 0 0))
      clear hz2 hbad
      go_wp2_with fail
      refine bodyPost_ret (results_spot2 (p := 4) (u := 5) (by kernel_rfl) _ _ _ _ _ _ rfl HZ.out) rfl ?_
      have hA : w.heap.size ≤ Ab + 1 := by omega
      exact ⟨_, rfl, Kd.V_nil _ _ _ _ _, ((HBB2.out.setCell (p := ⟨Ab + 1, 0, none⟩) hA _).setCell (p := ⟨Ab + 1, 1, none⟩) hA _).setCell (p := ⟨Ab + 1, 2, none⟩) hA _⟩
    | true =>
      have hia : isAddrB a1 = false := by
        rcases hbad with hx | hx
        · cases hx
        · exact hx
      have HI := Lib.hid (isAddr_f a1)
      rw [hia] at HI
      have HZ2 := Lib.hid hz2
      clear hz2 hbad hia
      go_wp2_with fail
      refine (root_isAddr.calls a1 _ _ HI.out).mono ?_
      rintro e w3 ⟨rfl, hd⟩
      have hz3 := HZ2.out.below hd.below HZ2.out.lt
      have HBB3 := Lib.hid (bthen HBB2.out hd.below)
      obtain ⟨z0, z1, z2⟩ := hz3.at3
      have f0 := hz3.frozen 0
      have f1 := hz3.frozen 1
      have f2 := hz3.frozen 2
      have HZ := Lib.hid (((hz3.set_ 0 (.int .i64 0)).set_ 1 (.int .i64 0)).set_ 2 (.slice none 0 0))
      clear hz3 hd
      go_wp2_with fail
      refine bodyPost_ret (results_spot2 (p := 4) (u := 5) (by kernel_rfl) _ _ _ _ _ _ rfl HZ.out) rfl ?_
      have hA : w.heap.size ≤ Ab + 1 := by omega
      exact ⟨_, rfl, Kd.V_nil _ _ _ _ _, ((HBB3.out.setCell (p := ⟨Ab + 1, 0, none⟩) hA _).setCell (p := ⟨Ab + 1, 1, none⟩) hA _).setCell (p := ⟨Ab + 1, 2, none⟩) hA _⟩
  · rw [if_neg hbad] at h
    obtain ⟨t, ht, h⟩ := Option.bind_eq_some_iff.1 h
    obtain ⟨f, hf, h⟩ := Option.bind_eq_some_iff.1 h
    obtain ⟨t1, t2⟩ := t
    obtain ⟨f1, f2⟩ := f
    simp only at hf h
    have hrt : rb = true := by
      cases rb
      · exact absurd (.inl rfl) hbad
      · rfl
    have hia : isAddrB a1 = true := by
      cases hx : isAddrB a1
      · exact absurd (.inr hx) hbad
      · rfl
    subst hrt
    have HI := Lib.hid (isAddr_f a1)
    rw [hia] at HI
    have HT := Lib.hid ht
    have HF := Lib.hid hf
    have HH := Lib.hid h
    clear hbad hia ht hf h
    go_enter Try.func16, Try.ntmps16
    go_wp2_with fail
    rw [HW1.out]
    refine (root_Right.calls 2000 A0 c0 l0 true w1 (Kd.C_below HC.out HB3.out) HN.out HRB.out).mono ?_
    rintro e w2 ⟨rfl, hb2⟩
    have c1 := (HB1.out.below hb2 HB1.out.lt).at1
    have HB12 := Lib.hid (HB1.out.below hb2 HB1.out.lt)
    have HB22 := Lib.hid (HB2.out.below hb2 HB2.out.lt)
    have HBB2 := Lib.hid (bthen HB3.out hb2)
    clear hb2
    go_wp2_with fail
    refine (root_isAddr.calls a1 _ _ HI.out).mono ?_
    rintro e w3 ⟨rfl, hd⟩
    have c2 := (HB12.out.below hd.below HB12.out.lt).at1
    have HB13 := Lib.hid (HB12.out.below hd.below HB12.out.lt)
    have HB23 := Lib.hid (HB22.out.below hd.below HB22.out.lt)
    have HBB3 := Lib.hid (bthen HBB2.out hd.below)
    clear hd c1
    go_wp2_with fail
    refine (root_Root.calls a1 _ _ _ HER.out).mono ?_
    rintro e w4 ⟨rfl, hd⟩
    have c3 := (HB13.out.below hd.below HB13.out.lt).at1
    have HB14 := Lib.hid (HB13.out.below hd.below HB13.out.lt)
    have HB24 := Lib.hid (HB23.out.below hd.below HB23.out.lt)
    have HBB4 := Lib.hid (bthen HBB3.out hd.below)
    clear hd c2
    go_wp2_with fail
    have hD0 : Below w4.heap.size w4 w4.drew := (Below.refl _ _).drew
    have HCK : Hid (∀ w', Below w4.heap.size w4 w' → w'.cell? ⟨Ab, 0, none⟩ = some (.int .i64 a1)) := fun w' hb => (HB14.out.below hb HB14.out.lt).at1
    go_region_held3 (fun w' => Below w4.heap.size w4 w' ∧ w'.cell? ⟨Ab, 0, none⟩ = some (.int .i64 a1)) (first | exact ⟨hD0, c3⟩ | exact ⟨hBF, HCK.out _ hBF⟩ | exact ⟨hBT, HCK.out _ hBT⟩)
      (first
        | (go_at_call 44; refine (root_tree.calls A0 c0 l0 (rootI a1) t1 t2 _ (Kd.C_below (Kd.C_below HC.out HBB4.out) ((‹Below w4.heap.size w4 _›).mono (Nat.le_refl _))) HN.out HT.out).mono ?_; rintro e w5 ⟨v5, rfl, hR5, hb5⟩; have hBT := bthen ‹Below w4.heap.size w4 _› hb5; obtain ⟨A5, c5, rfl⟩ := Kd.R_slice hR5; have hQ5 := Kd.R_reads' hR5; clear hR5 hb5)
        | (go_at_call 46; refine (treap_Find.calls t1 A5 c5 t2 a1 f1 f2 _ hQ5.2.2 hQ5.2.1 HF.out).mono ?_; rintro e w6 ⟨rfl, hb6⟩; have hBF := bthen hBT hb6; clear hb6))
    have c6 := HCK.out _ hBF
    have HBB6 := Lib.hid (bthen HBB4.out hBF)
    have HB16 := Lib.hid (HB14.out.below hBF HB14.out.lt)
    have hz6 := HB24.out.below hBF HB24.out.lt
    have HH2 := HH.out
    have hA : w.heap.size ≤ Ab + 1 := by omega
    clear hBF hBT hQ5 hD0 c3
    by_cases hf2 : f2 = 0
    · subst hf2
      rw [if_pos rfl] at HH2
      have hgf : ∃ s, l0.find? (fun s => s.f0 == a1) = some s ∧ r1 = s.f0 ∧ r2 = s.f1 ∧ r3 = s.f2 ∧ r4 = 0 := by
        unfold getR at HH2
        cases hx : l0.find? (fun s => s.f0 == a1) with
        | none => rw [hx] at HH2; cases HH2
        | some s =>
          rw [hx] at HH2
          have hq := Option.some.inj HH2
          exact ⟨s, rfl, (congrArg (·.1) hq).symm, (congrArg (·.2.1) hq).symm, (congrArg (·.2.2.1) hq).symm, (congrArg (·.2.2.2) hq).symm⟩
      obtain ⟨s, hfi, rfl, rfl, rfl, rfl⟩ := hgf
      have HZ6 := Lib.hid hz6
      obtain ⟨R, hR, _, _, hrd, hrep⟩ := raws_of_V (Kd.V_below HV.out HBB6.out)
      rw [← hR] at hfi
      obtain ⟨i, x, hxi, rfl, hidx⟩ := idx_find hfi
      have hrl := raw_len hrd
      have hil : i < l0.length := by have := (List.getElem?_eq_some_iff.1 hxi).1; omega
      have HRD := Lib.hid hrd
      have HREP := Lib.hid hrep
      have HXI := Lib.hid hxi
      have HIX := Lib.hid hidx
      clear HH2 hz6 hrd hrep hxi hidx hfi hR
      go_wp2_with fail
      refine (index_any (atF Ab a1) A0 l0.length c0 R hn w6 (HRD.out) HB16.out).mono ?_
      rintro e w7 ⟨rfl, hb7⟩
      rw [show (atF Ab a1).p = (fun y => y == a1) from rfl, HIX.out]
      obtain ⟨ad, x', hA0, _, hx', q0, q1, q2⟩ := raw_at ((HRD.out.below hb7).more hb7.size) hil
      rw [HXI.out] at hx'
      obtain rfl := Option.some.inj hx'
      subst hA0
      have hz7 := HZ6.out.below hb7 HZ6.out.lt
      have HBB7 := Lib.hid (bthen HBB6.out hb7)
      obtain ⟨z0, z1, z2⟩ := hz7.at3
      have f0 := hz7.frozen 0
      have f1 := hz7.frozen 1
      have f2 := hz7.frozen 2
      have HZ := Lib.hid (((hz7.set_ 0 (.int .i64 x.s.f0)).set_ 1 (.int .i64 x.s.f1)).set_ 2 (.slice x.A x.s.f2.length x.c))
      have hV := Kd.V_below (HREP.out x (List.mem_of_getElem? HXI.out)) hb7
      have HVV := Lib.hid hV
      simp only [Rw.v] at q2
      clear hz7 hb7 hV hx'
      go_wp2_with fail
      refine bodyPost_ret (results_spot2 (p := 4) (u := 5) (by kernel_rfl) _ _ _ _ _ _ rfl HZ.out) rfl ?_
      have hne : ∀ k, (P0_ k ∧ k < w.heap.size) → k ≠ Ab + 1 := fun k hk e => by have := hk.2; omega
      have hVF := Kd.V_far (p := ⟨Ab + 1, 2, none⟩) (Kd.V_far (p := ⟨Ab + 1, 1, none⟩) (Kd.V_far (p := ⟨Ab + 1, 0, none⟩) HVV.out hne (.int .i64 x.s.f0)) hne (.int .i64 x.s.f1)) hne (.slice x.A x.s.f2.length x.c)
      refine ⟨_, rfl, Kd.V_map (Kd.V_mono hVF (fun k hk => .inl hk.1)) (fun _ hf => hf), ((HBB7.out.setCell (p := ⟨Ab + 1, 0, none⟩) hA _).setCell (p := ⟨Ab + 1, 1, none⟩) hA _).setCell (p := ⟨Ab + 1, 2, none⟩) hA _⟩
    · rw [if_neg hf2] at HH2
      have hq := Option.some.inj HH2
      obtain ⟨rfl, rfl, rfl, rfl⟩ : r1 = a1 ∧ r2 = 0 ∧ r3 = [] ∧ r4 = 0 := ⟨(congrArg (·.1) hq).symm, (congrArg (·.2.1) hq).symm, (congrArg (·.2.2.1) hq).symm, (congrArg (·.2.2.2) hq).symm⟩
      have d2 : (f2 != 0) = true := by simp [hf2]
      obtain ⟨z0, z1, z2⟩ := hz6.at3
      have g0 := hz6.frozen 0
      have g1 := hz6.frozen 1
      have g2 := hz6.frozen 2
      have HZ := Lib.hid (((hz6.set_ 0 (.int .i64 r1)).set_ 1 (.int .i64 0)).set_ 2 (.slice none 0 0))
      clear hz6 HH2 hq hf2
      go_wp2_with fail
      refine bodyPost_ret (results_spot2 (p := 4) (u := 5) (by kernel_rfl) _ _ _ _ _ _ rfl HZ.out) rfl ?_
      exact ⟨_, rfl, Kd.V_nil _ _ _ _ _, ((HBB6.out.setCell (p := ⟨Ab + 1, 0, none⟩) hA _).setCell (p := ⟨Ab + 1, 1, none⟩) hA _).setCell (p := ⟨Ab + 1, 2, none⟩) hA _⟩
end Go.Proofs.Ytnjnjajgpkmfhaa.PX

/-
  The contract of root.Set, in the form that the printed texts lean on.
-/
namespace Go.Proofs.Ytnjnjajgpkmfhaa.PX
open Go.RowKit Go.Proofs.YtnjnjajgpkmfhaaW.PrintWords Go.Proofs.YtnjnjajgpkmfhaaW.PrintLast Go.Proofs.YtnjnjajgpkmfhaaW.PrintMore
theorem order_f (a b : Int) : ∃ r, root_order.f a b = some r := by
  obtain ⟨e1, h1⟩ := root_f a
  obtain ⟨e2, h2⟩ := root_f b
  unfold root_order.f
  rw [h1, h2]
  simp only [Option.bind_some]
  split <;> exact ⟨_, rfl⟩
def orderI (a b : Int) : Int := (root_order.f a b).getD 0
theorem order_is (a b : Int) : root_order.f a b = some (orderI a b) := by
  obtain ⟨r, h⟩ := order_f a b
  rw [orderI, h]
  rfl
theorem set1_any (Sb : Nat) (s : Rw) (x : Rw) (w : World) (h : Blk w Sb 33 #[.int .i64 s.s.f0, .int .i64 s.s.f1, s.v]) :
    Calls Try.prog 51 #[.agg #[.int .i64 x.s.f0, .int .i64 x.s.f1, x.v], .pointer (some ⟨Sb, 0, none⟩)] w fun e w' => e = .returned (.bool (x.s.f0 == s.s.f0)) ∧ Below w.heap.size w w' := by
  have hlt := h.lt
  have hc := (h.alloc (.cells #[.int .i64 x.s.f0, .int .i64 x.s.f1, x.v] 33)).at3.1
  have HB0 := Lib.hid ((Below.refl w.heap.size w).alloc (Nat.le_refl _) (.cells #[.int .i64 x.s.f0, .int .i64 x.s.f1, x.v] 33))
  clear h
  obtain ⟨xs, Ax, cx⟩ := x
  simp only [Rw.v] at HB0 hc ⊢
  go_enter Try.func51, Try.ntmps51
  go_wp2_with fail
  go_ret
  exact ⟨rfl, HB0.out⟩
theorem set2_any (Sb : Nat) (s : Rw) (x : Rw) (w : World) (h : Blk w Sb 33 #[.int .i64 s.s.f0, .int .i64 s.s.f1, s.v]) :
    Calls Try.prog 52 #[.agg #[.int .i64 x.s.f0, .int .i64 x.s.f1, x.v], .pointer (some ⟨Sb, 0, none⟩)] w fun e w' => e = .returned (.bool (decide (orderI x.s.f0 s.s.f0 > 0))) ∧ Below w.heap.size w w' := by
  have hlt := h.lt
  have hc := (h.alloc (.cells #[.int .i64 x.s.f0, .int .i64 x.s.f1, x.v] 33)).at3.1
  have HB0 := Lib.hid ((Below.refl w.heap.size w).alloc (Nat.le_refl _) (.cells #[.int .i64 x.s.f0, .int .i64 x.s.f1, x.v] 33))
  have HO := Lib.hid (order_is x.s.f0 s.s.f0)
  clear h
  obtain ⟨xs, Ax, cx⟩ := x
  simp only [Rw.v] at HB0 hc HO ⊢
  obtain ⟨r, hr⟩ : ∃ r, orderI xs.f0 s.s.f0 = r := ⟨_, rfl⟩
  rw [hr] at HO ⊢
  clear hr
  go_enter Try.func52, Try.ntmps52
  go_wp2_with fail
  refine (root_order.calls _ _ r _ HO.out).mono ?_
  rintro e w2 ⟨rfl, hd⟩
  have HB2 := Lib.hid (bthen HB0.out hd.below)
  clear hd
  go_wp2_with fail
  go_ret
  exact ⟨rfl, HB2.out⟩
def sameF (Sb : Nat) (s : Rw) : PredF where
  K := 51
  caps := #[.pointer (some ⟨Sb, 0, none⟩)]
  I := fun w => Blk w Sb 33 #[.int .i64 s.s.f0, .int .i64 s.s.f1, s.v]
  p := fun x => x == s.s.f0
  enter := fun x w => by simp [go_sem]
  keep := fun h hb => h.below hb h.lt
  run := fun {w} x h => set1_any Sb s x w h
def overF (Sb : Nat) (s : Rw) : PredF where
  K := 52
  caps := #[.pointer (some ⟨Sb, 0, none⟩)]
  I := fun w => Blk w Sb 33 #[.int .i64 s.s.f0, .int .i64 s.s.f1, s.v]
  p := fun x => decide (orderI x s.s.f0 > 0)
  enter := fun x w => by simp [go_sem]
  keep := fun h hb => h.below hb h.lt
  run := fun {w} x h => set2_any Sb s x w h
def DelO (B : Nat) (p : Int → Bool) (R : List Rw) (w : World) (e : Ending) (w' : World) : Prop := ∃ v, e = .returned v ∧ w'.ownsRow B 33 3 v (stay p R).length ((stay p R).flatMap Rw.cells) ∧ Below B w w' ∧ ∀ k, k < B → w'.heap[k]? = w.heap[k]?
set_option maxRecDepth 100000 in
set_option maxHeartbeats 4000000 in
theorem del_zero (C : PredF) (A : Option Addr) (c : Nat) (w : World) (hI : C.I w) :
    Calls Try.prog 49 #[.slice A 0 c, .func (.func C.K) #[] C.caps] w fun e w' => e = .returned (.slice A 0 c) ∧ Below w.heap.size w w' := by
  have HI := Lib.hid hI
  clear hI
  go_enter Try.func49, Try.ntmps49
  go_wp2_with fail
  refine (index_any C A 0 c [] (by omega) _ ⟨rfl, fun h => absurd h (by omega)⟩ HI.out).mono ?_
  rintro e w1 ⟨rfl, hb1⟩
  have HB1 := Lib.hid hb1
  clear hb1
  rw [show idxI C.p [] = -1 from rfl]
  go_wp2_with fail
  go_ret
  exact ⟨rfl, HB1.out⟩
theorem del_own (C : PredF) (B n : Nat) (v : Value) (R : List Rw) (hn : n ≤ 1000) (w : World) (hown : w.ownsRow B 33 3 v n (R.flatMap Rw.cells)) (hBw : B ≤ w.heap.size) (hI : C.I w) (hkeep : ∀ {a b : World} {g : Nat}, B ≤ g → C.I a → Below g a b → g < a.heap.size → C.I b) :
    Calls Try.prog 49 #[v, .func (.func C.K) #[] C.caps] w (DelO B C.p R w) := by
  rcases Nat.eq_zero_or_pos n with h0 | h0
  · subst h0
    have hR : R = [] := by
      have := hown.1
      rw [flat_len Rw.cells 3 cells3] at this
      exact List.eq_nil_of_length_eq_zero (by omega)
    subst hR
    have hv : ∃ A c, v = .slice A 0 c := by
      obtain ⟨_, h | ⟨g, c, cur, rfl, _⟩⟩ := hown
      · exact ⟨_, _, h.1⟩
      · exact ⟨_, _, rfl⟩
    obtain ⟨A, c, rfl⟩ := hv
    refine (del_zero C A c w hI).mono ?_
    rintro e w' ⟨rfl, hb⟩
    exact ⟨_, rfl, own_move hown (fun k hk => hb.block k (own_lt hown k hk)), hb.mono hBw, fun k hk => hb.block k (by omega)⟩
  · obtain ⟨g, c, rfl, hBg, hrow⟩ := rowS_of_own hown h0
    refine (del_any C g n c R hn w hrow hI (fun h1 h2 h3 => hkeep hBg h1 h2 h3)).mono ?_
    rintro e w' ⟨rfl, hr, hb⟩
    exact ⟨_, rfl, hr.own hBg, hb.mono hBg, fun k hk => hb.block k (by omega)⟩
theorem own_V {w : World} {B base n : Nat} {ok : Nat → Prop} {v : Value} {R : List Rw} (h : w.ownsRow B 33 3 v n (R.flatMap Rw.cells)) (hok : ∀ k, B ≤ k → ok k) (hr : Rep w ok R) (hn : n ≤ 1001) : Kd.V k33 33 w base ok v (spots R) := by
  have h' := h
  obtain ⟨A, c, rfl, hnc, _, hrd⟩ := own_reads3 h
  refine V_of_raws hrd (fun ad hA => ?_) hr hnc (by omega)
  rcases h'.2 with ⟨hv, _⟩ | ⟨g, cap, cur, hv, hBg, _⟩
  · injection hv with hv _ _
    rw [hA] at hv
    cases hv
  · injection hv with hv _ _
    rw [hA] at hv
    obtain rfl := Option.some.inj hv
    exact hok g hBg
def offS (l : List S33) (a : Int) : List S33 := l.filter (fun s => !(s.f0 == a))
def putS (l : List S33) (s : S33) : List S33 := l.take (l.findIdx (fun x => decide (orderI x.f0 s.f0 > 0))) ++ s :: l.drop (l.findIdx (fun x => decide (orderI x.f0 s.f0 > 0)))
def root_Set.f (l0 : List S33) (a1_0 : Int) (a1_1 : Int) (l1_2 : List Int) : Option (List S33 × Int) :=
  if l0.length ≤ 1000 then
    (root_Right.f 2000 l0).bind fun r => if r = false then some ([], 1) else
      (root_isSpot.f a1_0 a1_1 l1_2).bind fun sp => if sp = false then some ([], 1) else
        (root_isEmpty.f a1_0 a1_1 l1_2).bind fun em => if em = true then some (offS l0 a1_0, 0) else
          if (offS l0 a1_0).length = 64 then some ([], 5) else some (putS (offS l0 a1_0) ⟨a1_0, a1_1, l1_2⟩, 0)
  else none
def SetP (P : Nat → Prop) (r1 : List S33) (r2 : Int) (w : World) (e : Ending) (w' : World) : Prop := ∃ v0_ : Value, e = .returned (.tuple #[v0_, .int .i64 r2]) ∧ Kd.V k33 33 w' w.heap.size P v0_ r1 ∧ Below w.heap.size w w'
theorem spots_stay (R : List Rw) (a : Int) : spots (stay (fun x => x == a) R) = offS (spots R) a := by
  rw [spots, stay, offS, spots, List.filter_map]
  rfl
theorem spots_put (L : List Rw) (x : Rw) : spots (put1 L (L.findIdx (fun y => decide (orderI y.s.f0 x.s.f0 > 0))) x) = putS (spots L) x.s := by
  have e : (spots L).findIdx (fun y => decide (orderI y.f0 x.s.f0 > 0)) = L.findIdx (fun y => decide (orderI y.s.f0 x.s.f0 > 0)) := by
    rw [spots, List.findIdx_map]
    rfl
  rw [putS, e]
  simp [spots, put1, List.map_take, List.map_drop]
theorem len_offS (l : List S33) (a : Int) : (offS l a).length ≤ l.length := List.length_filter_le _ _
set_option maxRecDepth 100000 in
set_option maxHeartbeats 8000000 in
theorem root_Set.calls (P0_ : Nat → Prop) (A0 : Option Addr) (c0 : Nat) (l0 : List S33) (a1_0 : Int) (a1_1 : Int) (P1_2_ : Nat → Prop) (A1_2 : Option Addr) (c1_2 : Nat) (l1_2 : List Int) (r1 : List S33) (r2 : Int) (w : World)
    (hs0 : Kd.V k33 33 w w.heap.size (fun k_ => P0_ k_) (.slice A0 l0.length c0) l0) (hs1_2 : Kd.V (Kd.int .i64) 3 w w.heap.size (fun k_ => P1_2_ k_) (.slice A1_2 l1_2.length c1_2) l1_2) (h : root_Set.f l0 a1_0 a1_1 l1_2 = some (r1, r2)) :
    Calls Try.prog 17 #[.slice A0 l0.length c0, .agg #[.int .i64 a1_0, .int .i64 a1_1, .slice A1_2 l1_2.length c1_2]] w fun e w' => ∃ v0_ : Value, e = .returned (.tuple #[v0_, .int .i64 r2]) ∧ Kd.V k33 33 w' w.heap.size (fun k_ => ((P0_ k_ ∨ P1_2_ k_) ∨ w.heap.size ≤ k_)) v0_ r1 ∧ Below w.heap.size w w' := by
  show Calls _ _ _ _ (SetP (fun k_ => ((P0_ k_ ∨ P1_2_ k_) ∨ w.heap.size ≤ k_)) r1 r2 w)
  unfold root_Set.f at h
  split at h
  case isFalse => cases h
  rename_i hn
  obtain ⟨rb, hrb, h⟩ := Option.bind_eq_some_iff.1 h
  obtain ⟨_, hnc, hF⟩ := Kd.V_at hs0
  obtain ⟨_, hlc, hFl⟩ := Kd.V_at hs1_2
  have HC := Lib.hid (Kd.F_now hF)
  have HN := Lib.hid hnc
  have HCL := Lib.hid (Kd.F_now hFl)
  have HLC := Lib.hid hlc
  have HRB := Lib.hid hrb
  obtain ⟨R, hR, _, _, hrd, hrep⟩ := raws_of_V (Kd.V_mono hs0 (ok' := fun k_ => ((P0_ k_ ∨ P1_2_ k_) ∨ w.heap.size ≤ k_)) (fun _ hk => .inl (.inl hk)))
  have HRR := Lib.hid hR
  have HRD := Lib.hid hrd
  have HREP := Lib.hid hrep
  have HVX := Lib.hid (Kd.V_mono hs1_2 (ok' := fun k_ => ((P0_ k_ ∨ P1_2_ k_) ∨ w.heap.size ≤ k_)) (fun _ hk => .inl (.inr hk)))
  obtain ⟨x, hx⟩ : ∃ x : Rw, x = ⟨⟨a1_0, a1_1, l1_2⟩, A1_2, c1_2⟩ := ⟨_, rfl⟩
  have HX := Lib.hid hx
  obtain ⟨Sb, hSb⟩ : ∃ Sb, w.heap.size = Sb := ⟨_, rfl⟩
  have hbx := Blk.new w 33 #[.int .i64 a1_0, .int .i64 a1_1, .slice A1_2 l1_2.length c1_2]
  have hb1 := (Below.refl w.heap.size w).alloc (Nat.le_refl _) (.cells #[.int .i64 a1_0, .int .i64 a1_1, .slice A1_2 l1_2.length c1_2] 33)
  obtain ⟨w1, hw1⟩ : ∃ w1, w.alloc (.cells #[.int .i64 a1_0, .int .i64 a1_1, .slice A1_2 l1_2.length c1_2] 33) = w1 := ⟨_, rfl⟩
  rw [hw1] at hbx hb1
  rw [hSb] at hbx
  have HBX := Lib.hid hbx
  have HB1 := Lib.hid hb1
  have HW1 := Lib.hid hw1
  clear hs0 hs1_2 hnc hlc hF hFl hrb hR hrd hrep hx hbx hb1 hw1
  go_enter Try.func17, Try.ntmps17
  go_wp2_with fail
  rw [HW1.out]
  refine (root_Right.calls 2000 A0 c0 l0 rb w1 (Kd.C_below HC.out HB1.out) HN.out HRB.out).mono ?_
  rintro e w2 ⟨rfl, hb2⟩
  have HB2 := Lib.hid (bthen HB1.out hb2)
  have HBX2 := Lib.hid (HBX.out.below hb2 HBX.out.lt)
  clear hb2
  cases rb with
  | false =>
    rw [if_pos rfl] at h
    have hq := Option.some.inj h
    obtain ⟨rfl, rfl⟩ : r1 = [] ∧ r2 = 1 := ⟨(congrArg (·.1) hq).symm, (congrArg (·.2) hq).symm⟩
    clear h hq
    go_wp2_with fail
    go_ret2
    exact ⟨_, rfl, Kd.V_nil _ _ _ _ _, HB2.out⟩
  | true =>
    rw [if_neg (by simp)] at h
    obtain ⟨sb, hsb, h⟩ := Option.bind_eq_some_iff.1 h
    have HSB := Lib.hid hsb
    obtain ⟨q0, q1, q2⟩ := HBX2.out.at3
    clear hsb
    go_wp2_with fail
    refine (root_isSpot.calls a1_0 a1_1 A1_2 c1_2 l1_2 sb w2 (Kd.C_below HCL.out HB2.out) HLC.out HSB.out).mono ?_
    rintro e w3 ⟨rfl, hb3⟩
    have HB3 := Lib.hid (bthen HB2.out hb3)
    have HBX3 := Lib.hid (HBX2.out.below hb3 HBX2.out.lt)
    clear hb3 q0 q1 q2
    cases sb with
    | false =>
      rw [if_pos rfl] at h
      have hq := Option.some.inj h
      obtain ⟨rfl, rfl⟩ : r1 = [] ∧ r2 = 1 := ⟨(congrArg (·.1) hq).symm, (congrArg (·.2) hq).symm⟩
      clear h hq
      go_wp2_with fail
      go_ret2
      exact ⟨_, rfl, Kd.V_nil _ _ _ _ _, HB3.out⟩
    | true =>
      rw [if_neg (by simp)] at h
      obtain ⟨em, hem, h⟩ := Option.bind_eq_some_iff.1 h
      have HEM := Lib.hid hem
      have HH := Lib.hid h
      clear hem h
      go_wp2_with fail
      refine (clone_any A0 l0.length c0 R hn w3 ((HRD.out.below HB3.out).more HB3.out.size)).mono ?_
      rintro e w4 ⟨v4, rfl, hown4, hb4⟩
      have HB4 := Lib.hid (bthen HB3.out hb4)
      have HBX4 := Lib.hid (HBX3.out.below hb4 HBX3.out.lt)
      have HO4 := Lib.hid hown4
      have hS3 : Sb < w3.heap.size := HBX3.out.lt
      have hs34 := hb4.size
      have hsl4 : ∃ A c, v4 = .slice A l0.length c := by
        obtain ⟨A, c, hv, _⟩ := own_reads3 hown4
        exact ⟨A, c, hv⟩
      obtain ⟨A4, c4, rfl⟩ := hsl4
      clear hown4 hb4
      have hIX : Blk w4 Sb 33 #[.int .i64 x.s.f0, .int .i64 x.s.f1, x.v] := by rw [HX.out]; exact HBX4.out
      have HDEL := Lib.hid (del_own (sameF Sb x) w3.heap.size l0.length (.slice A4 l0.length c4) R hn w4 HO4.out hs34 hIX (fun {a b g} hg h1 h2 h3 => (h2.block Sb (by omega)).trans h1))
      clear hIX
      go_wp2_with fail
      refine HDEL.out.mono ?_
      rintro e w5 ⟨v5, rfl, hown5, hb5, hk5⟩
      have hpx : (sameF Sb x).p = fun y => y == a1_0 := by rw [HX.out]; rfl
      rw [hpx] at hown5
      have hs35 : w3.heap.size ≤ w5.heap.size := Nat.le_trans hs34 hb5.size
      have HB5 := Lib.hid (HB4.out.trans (hb5.mono HB3.out.size))
      have HBX5 : Hid (Blk w5 Sb 33 #[.int .i64 a1_0, .int .i64 a1_1, .slice A1_2 l1_2.length c1_2]) := (hk5 Sb hS3).trans HBX4.out
      obtain ⟨L, hL⟩ : ∃ L, stay (fun y => y == a1_0) R = L := ⟨_, rfl⟩
      rw [hL] at hown5
      have HLS : Hid (spots L = offS l0 a1_0) := by unfold Hid; rw [← hL, spots_stay, HRR.out]
      have HLR : Hid (∀ y ∈ L, y ∈ R) := fun y hy => by rw [← hL] at hy; exact (List.mem_filter.1 hy).1
      obtain ⟨nL, hnL⟩ : ∃ nL, L.length = nL := ⟨_, rfl⟩
      rw [hnL] at hown5
      have hnL0 : nL ≤ l0.length := by
        rw [← hnL, ← hL]
        refine Nat.le_trans (List.length_filter_le _ _) ?_
        rw [← HRR.out]
        simp [spots]
      have hnL1 : nL ≤ 1000 := by omega
      have HOL : Hid ((offS l0 a1_0).length = nL) := by unfold Hid; rw [← HLS.out, ← hnL]; simp [spots]
      have HNL := Lib.hid hnL
      obtain ⟨A5, c5, rfl, hc5, _, _⟩ := own_reads3 hown5
      have HO5 := Lib.hid hown5
      have HREPL : Hid (∀ W, Below w.heap.size w W → Rep W (fun k_ => ((P0_ k_ ∨ P1_2_ k_) ∨ w.heap.size ≤ k_)) L) := fun W hW y hy => (HREP.out.below hW) y (HLR.out y hy)
      have hw3w : w.heap.size ≤ w3.heap.size := HB3.out.size
      have HOK : Hid (∀ k, w3.heap.size ≤ k → ((P0_ k ∨ P1_2_ k) ∨ w.heap.size ≤ k)) := fun k hk => .inr (by omega)
      obtain ⟨q0, q1, q2⟩ := HBX5.out.at3
      clear hown5 hb5 hk5 hpx hL hnL hc5 hs34
      go_wp2_with fail
      refine (root_isEmpty.calls a1_0 a1_1 A1_2 c1_2 l1_2 em w5 (Kd.C_below HCL.out HB5.out) HLC.out HEM.out).mono ?_
      rintro e w6 ⟨rfl, hb6⟩
      have HB6 := Lib.hid (bthen HB5.out hb6)
      have HBX6 := Lib.hid (HBX5.out.below hb6 HBX5.out.lt)
      have HO6 := Lib.hid (own_move HO5.out (fun k hk => hb6.block k (own_lt HO5.out k hk)))
      have hs6 := hb6.size
      have HH2 := HH.out
      clear hb6 q0 q1 q2
      cases em with
      | true =>
        rw [if_pos rfl] at HH2
        have hq := Option.some.inj HH2
        obtain ⟨hr1, rfl⟩ : r1 = offS l0 a1_0 ∧ r2 = 0 := ⟨(congrArg (·.1) hq).symm, (congrArg (·.2) hq).symm⟩
        have HR1 := Lib.hid hr1
        clear HH2 hq hr1
        go_wp2_with fail
        go_ret2
        refine ⟨_, rfl, ?_, HB6.out⟩
        rw [HR1.out, ← HLS.out]
        exact own_V HO6.out HOK.out (HREPL.out _ HB6.out) (by omega)
      | false =>
        rw [if_neg (by simp), HOL.out] at HH2
        by_cases h64 : nL = 64
        · rw [if_pos h64] at HH2
          have hq := Option.some.inj HH2
          obtain ⟨rfl, rfl⟩ : r1 = [] ∧ r2 = 5 := ⟨(congrArg (·.1) hq).symm, (congrArg (·.2) hq).symm⟩
          have d0 : ((nL : Int) == 64) = true := by rw [h64]; rfl
          clear HH2 hq h64
          go_wp2_with fail
          go_ret2
          exact ⟨_, rfl, Kd.V_nil _ _ _ _ _, HB6.out⟩
        · rw [if_neg h64] at HH2
          have hq := Option.some.inj HH2
          obtain ⟨hr1, rfl⟩ : r1 = putS (offS l0 a1_0) ⟨a1_0, a1_1, l1_2⟩ ∧ r2 = 0 := ⟨(congrArg (·.1) hq).symm, (congrArg (·.2) hq).symm⟩
          have HR1 := Lib.hid hr1
          have d0 : ((nL : Int) == 64) = false := by simp; omega
          clear HH2 hq h64 hr1
          have hIX : Blk w6 Sb 33 #[.int .i64 x.s.f0, .int .i64 x.s.f1, x.v] := by rw [HX.out]; exact HBX6.out
          have hrd6 : Reads w6 w6.heap.size 3 A5 nL (L.flatMap Rw.cells) := Reads.of_own HO6.out
          have HIDX := Lib.hid (index_any (overF Sb x) A5 nL c5 L hnL1 w6 hrd6 hIX)
          clear hIX hrd6
          go_wp2_with fail
          refine HIDX.out.mono ?_
          rintro e w7 ⟨rfl, hb7⟩
          have HB7 := Lib.hid (bthen HB6.out hb7)
          have HBX7 := Lib.hid (HBX6.out.below hb7 HBX6.out.lt)
          have HO7 := Lib.hid (own_move HO6.out (fun k hk => hb7.block k (own_lt HO6.out k hk)))
          have hs7 := hb7.size
          obtain ⟨k, hk⟩ : ∃ k, L.findIdx (fun y => decide (orderI y.s.f0 x.s.f0 > 0)) = k := ⟨_, rfl⟩
          have hkl : k ≤ nL := by rw [← hk, ← HNL.out]; exact List.findIdx_le_length
          have hidx : idxI (overF Sb x).p L = if k < nL then (k : Int) else -1 := by
            show (if L.findIdx (fun y => decide (orderI y.s.f0 x.s.f0 > 0)) < L.length then ((L.findIdx (fun y => decide (orderI y.s.f0 x.s.f0 > 0)) : Nat) : Int) else -1) = _
            rw [hk, HNL.out]
          have HPUT : Hid (spots (put1 L k x) = r1) := by
            unfold Hid
            rw [HR1.out, ← HLS.out, ← hk, spots_put, HX.out]
          obtain ⟨g8, hg8⟩ : ∃ g8, w7.heap.size = g8 := ⟨_, rfl⟩
          have hb8 := Blk.new w7 33 #[.int .i64 a1_0, .int .i64 a1_1, .slice A1_2 l1_2.length c1_2]
          rw [hg8] at hb8
          have HBL8 : Hid (Blk (w7.alloc (.cells #[.int .i64 a1_0, .int .i64 a1_1, .slice A1_2 l1_2.length c1_2] 33)) g8 33 #[.int .i64 x.s.f0, .int .i64 x.s.f1, x.v]) := by unfold Hid; rw [HX.out]; exact hb8
          have HB8 := Lib.hid (HB7.out.alloc HB7.out.size (.cells #[.int .i64 a1_0, .int .i64 a1_1, .slice A1_2 l1_2.length c1_2] 33))
          have hne8 : (Value.slice A5 nL c5).ownBlock ≠ some g8 := fun e => by have := own_lt HO7.out g8 e; omega
          have HO8 := Lib.hid (own_move HO7.out (fun k hk => Below.heap_alloc w7 (.cells #[.int .i64 a1_0, .int .i64 a1_1, .slice A1_2 l1_2.length c1_2] 33) k (own_lt HO7.out k hk)))
          have HINS := Lib.hid (ins_any w3.heap.size nL k (.slice A5 nL c5) L x g8 hnL1 hkl _ HO8.out (by simp; omega) HBL8.out hne8)
          obtain ⟨q0, q1, q2⟩ := HBX7.out.at3
          rw [hidx]
          clear hb7 hidx hb8 hne8
          by_cases hlt : k < nL
          case' pos =>
            rw [if_pos hlt]
            have d1 : decide ((k : Int) < 0) = false := decide_eq_false (by omega)
          case' neg =>
            rw [if_neg hlt]
            obtain rfl : k = nL := by omega
          all_goals
            go_wp2_with fail
            refine HINS.out.mono ?_
            rintro e w9 ⟨v9, rfl, hown9, hb9⟩
            have HB9 := Lib.hid (HB8.out.trans (hb9.mono hw3w))
            have HO9 := Lib.hid hown9
            clear hown9 hb9
            go_wp2_with fail
            go_ret2
            refine ⟨_, rfl, ?_, HB9.out⟩
            rw [← HPUT.out]
            refine own_V HO9.out HOK.out (fun y hy => ?_) (by omega)
            rw [put1] at hy
            rcases List.mem_append.1 hy with hy | hy
            · exact HREPL.out _ HB9.out y (List.mem_of_mem_take hy)
            · rcases List.mem_cons.1 hy with rfl | hy
              · rw [HX.out]
                exact Kd.V_map (Kd.V_below HVX.out HB9.out) (fun _ hf => hf)
              · exact HREPL.out _ HB9.out y (List.mem_of_mem_drop hy)
end Go.Proofs.Ytnjnjajgpkmfhaa.PX

namespace Go.Proofs.Ytnjnjajgpkmfhaa.PX
open Go.RowKit Go.Proofs.YtnjnjajgpkmfhaaW.PrintWords Go.Proofs.YtnjnjajgpkmfhaaW.PrintLast Go.Proofs.YtnjnjajgpkmfhaaW.PrintMore
attribute [local go_sem] max2_int min2_int max_two min_two max_three min_three max_four min_four   -- for this text's walks alone
set_option linter.unusedVariables false
set_option linter.unusedSimpArgs false

/-! ### deadboltlaw09_few: function 10 -/
def deadboltlaw09_few.l0 : Nat → List (S33) → List (S33) → Int → Int → Option ((List (S33)))
  | 0, _, _, _, _ => none
  | k + 1, x3, x10, x11, x12 => if x12 < x11 then (if 0 ≤ x12 then (if x12 < (x10.length : Int) then ((deadboltlaw09_cut.f ((rd_T33 x10 x12).f0) ((rd_T33 x10 x12).f1) ((rd_T33 x10 x12).f2)).bind fun bt108 => (if x3.length < 3518437208883 then (deadboltlaw09_few.l0 k (x3 ++ [(⟨bt108.1, bt108.2.1, bt108.2.2⟩ : S33)]) x10 x11 (wrap64 (x12 + 1))) else (none))) else (none)) else (none)) else (some x3)
def deadboltlaw09_few.f (k : Nat) (l0 : List (S33)) : Option ((List (S33))) := if 0 ≤ (mn (l0.length : Int) 70) then (if (mn (l0.length : Int) 70) ≤ (l0.length : Int) then ((some (l0.take ((mn (l0.length : Int) 70) : Int).toNat : List (S33))).bind fun y101 => (deadboltlaw09_few.l0 k ([] : List (S33)) y101 (y101.length : Int) 0)) else (none)) else (none)
theorem deadboltlaw09_few.mono_l : ∀ k, (∀ y0 y1 y2 y3, LeO (deadboltlaw09_few.l0 k y0 y1 y2 y3) (deadboltlaw09_few.l0 (k + 1) y0 y1 y2 y3))
  | 0 => fun _ _ _ _ r h => by simp [deadboltlaw09_few.l0] at h
  | k + 1 => by
    have ih0 := deadboltlaw09_few.mono_l k
    · intro y0 y1 y2 y3
      unfold deadboltlaw09_few.l0
      repeat' first
      | (with_reducible exact ih0 _ _ _ _)
      | (with_reducible exact LeO.refl _)
      | (with_reducible exact LeO.none _)
      | (with_reducible refine LeO.ite ?_ ?_)
      | (with_reducible refine LeO.bind ?_ (fun _ => ?_))
      | exact ih0 _ _ _ _
      | exact LeO.none _
      | refine LeO.ite ?_ ?_
      | refine LeO.bind ?_ (fun _ => ?_)
theorem deadboltlaw09_few.mono : ∀ a0 k, LeO (deadboltlaw09_few.f k a0) (deadboltlaw09_few.f (k + 1) a0) := by
  intro a0 k
  have ih0 := deadboltlaw09_few.mono_l k
  unfold deadboltlaw09_few.f
  repeat' first
      | (with_reducible exact ih0 _ _ _ _)
      | (with_reducible exact LeO.refl _)
      | (with_reducible exact LeO.none _)
      | (with_reducible refine LeO.ite ?_ ?_)
      | (with_reducible refine LeO.bind ?_ (fun _ => ?_))
      | exact ih0 _ _ _ _
      | exact LeO.none _
      | refine LeO.ite ?_ ?_
      | refine LeO.bind ?_ (fun _ => ?_)
set_option maxHeartbeats 8000000 in
set_option maxRecDepth 100000 in
theorem deadboltlaw09_few.calls (k : Nat) (P0_ : Nat → Prop) (A0 : Option Addr) (c0 : Nat) (l0 : List (S33)) (r : List (S33)) (w : World) (hs0 : Kd.V k33 33 w w.heap.size (fun k_ => P0_ k_) (.slice A0 l0.length c0) l0) (h : deadboltlaw09_few.f k l0 = some r) :
    Calls Try.prog 10 #[.slice A0 l0.length c0] w fun e w' => ∃ v0_ : Value, e = .returned (v0_) ∧ Kd.N k33 33 w' w.heap.size (fun k_ => (P0_ k_ ∨ w.heap.size ≤ k_)) v0_ r ∧ Below w.heap.size w w' := by
  have hu33 := Try.underlying33
  have HO0 := Aside0.mk (show Kd.V k33 33 w w.heap.size (fun k_ => (P0_ k_ ∨ w.heap.size ≤ k_)) (.slice A0 l0.length c0) l0 from Kd.V_mono hs0 (fun k_ hk => .inl hk))
  have HB := Aside0.mk (Below.refl w.heap.size w)
  have H : (if 0 ≤ (mn (l0.length : Int) 70) then (if (mn (l0.length : Int) 70) ≤ (l0.length : Int) then ((some (l0.take ((mn (l0.length : Int) 70) : Int).toNat : List (S33))).bind fun y101 => (deadboltlaw09_few.l0 k ([] : List (S33)) y101 (y101.length : Int) 0)) else (none)) else (none)) = some r := h
  clear h
  obtain ⟨ji2, hji2⟩ : ∃ j_ : Int, (mn (l0.length : Int) 70) = j_ := ⟨_, rfl⟩
  replace H : (if 0 ≤ (ji2) then (if (ji2) ≤ (l0.length : Int) then ((some (l0.take ((ji2) : Int).toNat : List (S33))).bind fun y101 => (deadboltlaw09_few.l0 k ([] : List (S33)) y101 (y101.length : Int) 0)) else (none)) else (none)) = some r := by first | (rw [hji2] at H; exact H) | (simp only [hji2] at H ⊢; exact H)
  (try (have hji2h : ji2 ≤ 70 := by (rw [← hji2]; unfold mn; (repeat' split) <;> omega)))
  (try (have hji2g : ji2 ≤ 64 := by omega))
  (try (have hji2l : 0 ≤ ji2 := by (rw [← hji2]; unfold mn; (repeat' split) <;> omega)))
  (try (have hji2m : 0 ≤ ji2 := by omega))
  have hji2_ : (if 70 < (l0.length : Int) then 70 else (l0.length : Int)) = ji2 := hji2
  by_cases c3 : 0 ≤ (ji2)
  · rw [if_pos c3] at H
    have c3b0 := eq_true c3
    have c3b1 : decide (0 ≤ (ji2)) = true := decide_eq_true c3
    clear c3
    by_cases c4 : (ji2) ≤ (l0.length : Int)
    · rw [if_pos c4] at H
      have c4b0 := eq_true c4
      have c4b1 : decide ((ji2) ≤ (l0.length : Int)) = true := decide_eq_true c4
      clear c4
      obtain ⟨y101, hy101⟩ : ∃ y_ : List (S33), y_ = (l0.take ((ji2) : Int).toNat) := ⟨_, rfl⟩
      replace H : (deadboltlaw09_few.l0 k ([] : List (S33)) y101 (y101.length : Int) 0) = some r := by first | (rw [hy101]; with_reducible exact H) | (have H2_ := (Option.bind_some _ _).symm.trans H; rw [hy101]; with_reducible exact H2_) | (have H2_ := (Option.bind_some _ _).symm.trans H; with_reducible exact H2_) | with_reducible exact H | (rw [hy101]; exact H) | exact H
      have Ny101 := Aside0.mk hy101
      clear hy101
      have H' := Aside0.mk H
      clear H
      have q5 : ((ji2) : Int) ≤ ((l0.length : Int) : Int) := of_decide_eq_true (by first | (with_reducible assumption) | assumption)
      obtain ⟨i05, hi05, _, hsz5, _⟩ := info_parts info33
      have hroom5 : l0.length ≤ c0 := (Kd.V_reads' HO0.out).2.1
      have hC5 : Kd.F k33 _ _ A0 l0.length l0 := (Kd.V_at (base := w.heap.size) HO0.out).2.2
      have hcut5 := cut_to (P := Try.prog) 22 33 .i64 Try.underlying22 hi05 A0 l0.length c0 (ji2) (of_decide_eq_true (by first | (with_reducible assumption) | assumption)) q5 hroom5
      have hr5 := Kd.F_take (m := ((ji2) : Int).toNat) hC5 (by omega)
      have hy5 : y101.length = ((ji2) : Int).toNat := (by rw [Ny101.out, List.length_take]; omega)
      rw [← Ny101.out] at hr5
      rw [← hy5] at hcut5
      have HO105 := Aside0.mk (show Kd.V k33 33 _ w.heap.size _ (.slice A0 y101.length c0) y101 from Kd.V_mk (by omega) hr5)
      have HC105 := Aside0.mk (show y101.length ≤ c0 from by omega)
      clear hr5 hC5 hroom5 hi05 hsz5
      have KY5 := Aside0.mk hy5
      clear hy5
      replace q5 := eq_true q5
      go_enter Try.func10, Try.ntmps10
      go_wp2
      go_loopg [3, 12] k (fun kq v3 v12 w' => ∃ (x3_1 : List (S33)) (x12_1 : Int), v12 = .int .i64 x12_1 ∧ Aside0 (deadboltlaw09_few.l0 kq x3_1 y101 (y101.length : Int) x12_1 = some r) ∧ Aside0 (kq ≤ k) ∧ Aside0 (Kd.N k33 33 w' w.heap.size (fun k_ => (P0_ k_ ∨ w.heap.size ≤ k_)) v3 x3_1) ∧ Aside0 (Kd.V k33 33 w' w.heap.size (fun k_ => (P0_ k_ ∨ w.heap.size ≤ k_) ∧ some k_ ≠ (v3 : Value).ownBlock) (.slice A0 y101.length c0) y101) ∧ Aside0 (Below w.heap.size w w'))
      case atStart => exact ⟨(([] : List (S33))), (0), (by first | rfl | (simp; done) | (simp [*]; done)), H', ⟨Nat.le_refl _⟩, ⟨by first | exact Kd.S_nil _ _ _ _ _ | exact Kd.N_nil _ _ _ _ _ | exact Kd.V_nil _ _ _ _ _ | exact Kd.Q_nil _ _ _ _ _ | exact Kd.R_nil _ _ _ _ _⟩, ⟨by (with_reducible repeat (first | apply Kd.V_alloc | apply Kd.V_drewN | apply Kd.V_drew)); exact Kd.V_mono HO105.out (fun _ hk => ⟨hk, (by simp [Value.ownBlock])⟩)⟩, ⟨by repeat (first | (with_reducible first | exact HB.out | apply below_alloc | apply pw_below_drewN | apply below_drew1) | exact HB.out)⟩⟩
      case round =>
        clear H'
        try clear c1
        try clear p2
        try clear c3
        try clear c3b0
        try clear c3b1
        try clear c4
        try clear c4b0
        try clear c4b1
        try clear q5
        try clear q5
        obtain ⟨x3_1, x12_1, rfl, HA, HK1, HO_3, HO_10, HB⟩ := hrel
        cases gk with
        | zero => exact absurd HA.out (by simp [deadboltlaw09_few.l0])
        | succ k1 =>
          have H := HA.out
          clear HA
          simp only [deadboltlaw09_few.l0] at H
          by_cases c6 : x12_1 < (y101.length : Int)
          · rw [if_pos c6] at H
            have c6b0 : decide (x12_1 < (y101.length : Int)) = true := decide_eq_true c6
            clear c6
            by_cases c7 : 0 ≤ x12_1
            · rw [if_pos c7] at H
              have c7b0 : decide (0 ≤ x12_1) = true := decide_eq_true c7
              clear c7
              by_cases c8 : x12_1 < (y101.length : Int)
              · rw [if_pos c8] at H
                have c8b0 : decide (x12_1 < (y101.length : Int)) = true := decide_eq_true c8
                clear c8
                replace H := Option.bind_eq_some_iff.mp H
                obtain ⟨⟨t108, t109, t110⟩, A90, H⟩ := H
                replace H : (if x3_1.length < 3518437208883 then (deadboltlaw09_few.l0 k1 (x3_1 ++ [(⟨t108, t109, t110⟩ : S33)]) y101 (y101.length : Int) (wrap64 (x12_1 + 1))) else (none)) = some r := H
                have A9 := Aside0.mk A90
                clear A90
                by_cases c10 : x3_1.length < 3518437208883
                · rw [if_pos c10] at H
                  have LMc10 := Aside0.mk c10
                  clear c10
                  obtain ⟨y113, hy113⟩ : ∃ y_ : List (S33), y_ = (x3_1 ++ [(⟨t108, t109, t110⟩ : S33)]) := ⟨_, rfl⟩
                  replace H : (deadboltlaw09_few.l0 k1 y113 y101 (y101.length : Int) (wrap64 (x12_1 + 1))) = some r := by first | (rw [hy113]; with_reducible exact H) | (have H2_ := (Option.bind_some _ _).symm.trans H; rw [hy113]; with_reducible exact H2_) | (have H2_ := (Option.bind_some _ _).symm.trans H; with_reducible exact H2_) | with_reducible exact H | (rw [hy113]; exact H) | exact H
                  have Ny113 := Aside0.mk hy113
                  clear hy113
                  have H' := Aside0.mk H
                  clear H
                  have p106 : 0 ≤ (x12_1 : Int) := of_decide_eq_true (by first | (with_reducible assumption) | assumption)
                  have q106 : x12_1 < (y101.length : Int) := of_decide_eq_true (by first | (with_reducible assumption) | assumption)
                  obtain ⟨ad106, A106_2, c106_2, e106, hx106_0, hx106_1, hx106_2, hl106_2, hi106_2⟩ := at_T33 (Kd.V_reads' HO_10.out).2.2 x12_1 p106 q106
                  cases e106
                  obtain ⟨ce106, hce106, hMe106, hcc106⟩ := Kd.V_get HO_10.out z33 x12_1 p106 (by first | exact q106 | exact of_decide_eq_true (by first | (with_reducible assumption) | assumption) | (have e_ := (Kd.V_reads' HO_10.out).1; omega))
                  obtain ⟨ua106_2, uc106_2, rfl, ul106_2, ge106_2⟩ := k33_openF hMe106
                  have hv106_2 := hcc106 2 _ rfl
                  rw [add_field _ _ 2 (by omega)] at hv106_2
                  replace hv106_2 := Option.some.inj (hv106_2.symm.trans hx106_2)
                  injection hv106_2 with hva_ hvn_ hvc_
                  rw [hva_] at ge106_2
                  rw [hvc_] at ul106_2
                  have HL106_2 := Aside0.mk (show Kd.V (Kd.int .i64) 3 _ w.heap.size _ _ ((rd_T33 y101 x12_1).f2) from Kd.V_mk ul106_2 ge106_2)
                  clear hva_ hvn_ hvc_ ge106_2 ul106_2
                  clear hcc106 hce106
                  have HR106_2 := Aside0.mk hi106_2
                  have HC106_2 := Aside0.mk hl106_2
                  clear hi106_2 hl106_2
                  replace p106 := eq_true p106
                  replace q106 := eq_true q106
                  go_wp2_with (first | ((with_reducible refine gate_dst (N := 5) rfl ?_); refine box_event ?hg (N := 5) ?hd (cs := #[.int .i64 0, .int .i64 0, .slice none 0 0]) (t := 33) ?hr ?_; (case hd => rfl); (case hg => rfl); (case hr => first | (go_simp; done) | (go_simp; rfl)); intro gb107 hg w11 hbox hb; have n0_ := Aside0.mk (Kd.N_below (Kd.N_elderB (by (with_reducible repeat (first | apply Kd.N_alloc | apply Kd.N_drewN | apply Kd.N_drew)); exact HO_3.out) gb107 (Nat.le_of_eq hg.symm)) hb); have n1_ := Aside0.mk (Kd.V_below (Kd.V_elderB (by (with_reducible repeat (first | apply Kd.V_alloc | apply Kd.V_drewN | apply Kd.V_drew)); exact HO_10.out) gb107 (Nat.le_of_eq hg.symm)) hb); have n2_ := Aside0.mk (Kd.V_below (Kd.V_elderB (by (with_reducible repeat (first | apply Kd.V_alloc | apply Kd.V_drewN | apply Kd.V_drew)); exact HL106_2.out) gb107 (Nat.le_of_eq hg.symm)) hb); (first | have n3_ := Aside0.mk (Kd.C_below (by repeat (first | (with_reducible exact HR106_2.out) | (with_reducible refine Kd.C_alloc ?_ _) | (with_reducible refine Kd.C_drewN ?_ _) | (with_reducible refine Kd.C_drew ?_) | exact HR106_2.out)) hb) | have n3_ := Aside0.mk True.intro); have n4_ := Aside0.mk (below_step (by repeat (first | (with_reducible first | exact HB.out | apply below_alloc | apply pw_below_drewN | apply below_drew1) | exact HB.out)) hb); have n5_ := Aside0.mk (hbox); have n6_ := Aside0.mk ((by rw [hg]; exact (below_size (by repeat (first | (with_reducible first | exact HB.out | apply below_alloc | apply pw_below_drewN | apply below_drew1) | exact HB.out))) : w.heap.size ≤ gb107)); have n7_ := Aside0.mk ((by rw [hg]; exact (below_size (by repeat (first | (with_reducible first | exact HB.out | apply below_alloc | apply pw_below_drewN | apply below_drew1) | exact HB.out))) : w.heap.size ≤ gb107)); clear HO_3; clear HO_10; clear HL106_2; clear HR106_2; clear HB; have HO_3 := n0_; have HO_10 := n1_; have HL106_2 := n2_; have HR106_2 := n3_; have HB := n4_; have BK107 := n5_; have GW107 := n6_; have GE107 := n7_; clear n0_ n1_ n2_ n3_ n4_ n5_ n6_ n7_; clear hb hbox hg; have hcz12_0 : w11.cell? ⟨gb107, 0, none⟩ = some (.int .i64 0) := (blk_cell BK107.out 0).trans rfl; have hcz12_1 : w11.cell? ⟨gb107, 1, none⟩ = some (.int .i64 0) := (blk_cell BK107.out 1).trans rfl; have hcz12_2 : w11.cell? ⟨gb107, 2, none⟩ = some (.slice none 0 0) := (blk_cell BK107.out 2).trans rfl; have hfz12_0 := blk_frozen BK107.out 0; have hfz12_1 := blk_frozen BK107.out 1; have hfz12_2 := blk_frozen BK107.out 2) | ((with_reducible refine gate_store (t := 33) (p := 5) rfl ?_); refine store_event (t := 33) (p := 5) (v := ?vo_w13) (w1 := (((w11.setCell ⟨gb107, 0, none⟩ (.int .i64 ((rd_T33 y101 x12_1).f0))).setCell ⟨gb107, 1, none⟩ (.int .i64 ((rd_T33 y101 x12_1).f1))).setCell ⟨gb107, 2, none⟩ (.slice A106_2 ((rd_T33 y101 x12_1).f2).length c106_2))) ?hg ?ho ?hn ?hr ?_; (case ho => rfl); (case hg => rfl); (case hn => rfl); (case hr => first | (go_simp; done) | (go_simp; rfl)); intro w13 hw; have n0_ : Aside0 (Kd.N k33 33 w13 w.heap.size (fun k_ => (P0_ k_ ∨ w.heap.size ≤ k_) ∧ k_ ≠ gb107) u3 x3_1) := ⟨(by rw [hw]; exact (by (with_reducible repeat (first | apply Kd.N_alloc | apply Kd.N_drewN | apply Kd.N_drew)); exact Kd.N_mono (Kd.N_far (p := ⟨gb107, 2, none⟩) (Kd.N_far (p := ⟨gb107, 1, none⟩) (Kd.N_far (p := ⟨gb107, 0, none⟩) (Kd.N_mono HO_3.out (fun k_ hk => (⟨hk, hk.2⟩ : _ ∧ k_ ≠ gb107))) (fun _ hk => hk.2) (.int .i64 ((rd_T33 y101 x12_1).f0))) (fun _ hk => hk.2) (.int .i64 ((rd_T33 y101 x12_1).f1))) (fun _ hk => hk.2) (.slice A106_2 ((rd_T33 y101 x12_1).f2).length c106_2)) (fun _ hk => ⟨hk.1.1, hk.1.2⟩)))⟩; have n1_ : Aside0 (Kd.V k33 33 w13 w.heap.size (fun k_ => (P0_ k_ ∨ w.heap.size ≤ k_) ∧ some k_ ≠ (u3 : Value).ownBlock ∧ k_ ≠ gb107) (.slice (some ad106) y101.length c0) y101) := ⟨(by rw [hw]; exact (by (with_reducible repeat (first | apply Kd.V_alloc | apply Kd.V_drewN | apply Kd.V_drew)); exact Kd.V_mono (Kd.V_far (p := ⟨gb107, 2, none⟩) (Kd.V_far (p := ⟨gb107, 1, none⟩) (Kd.V_far (p := ⟨gb107, 0, none⟩) (Kd.V_mono HO_10.out (fun k_ hk => (⟨hk, hk.2⟩ : _ ∧ k_ ≠ gb107))) (fun _ hk => hk.2) (.int .i64 ((rd_T33 y101 x12_1).f0))) (fun _ hk => hk.2) (.int .i64 ((rd_T33 y101 x12_1).f1))) (fun _ hk => hk.2) (.slice A106_2 ((rd_T33 y101 x12_1).f2).length c106_2)) (fun _ hk => ⟨hk.1.1.1, ⟨hk.1.1.2, hk.1.2⟩⟩)))⟩; have n2_ : Aside0 (Kd.V (Kd.int .i64) 3 w13 w.heap.size (fun k_ => (P0_ k_ ∨ w.heap.size ≤ k_) ∧ some k_ ≠ (u3 : Value).ownBlock ∧ k_ ≠ gb107) (.slice A106_2 ((rd_T33 y101 x12_1).f2).length c106_2) ((rd_T33 y101 x12_1).f2)) := ⟨(by rw [hw]; exact (by (with_reducible repeat (first | apply Kd.V_alloc | apply Kd.V_drewN | apply Kd.V_drew)); exact Kd.V_mono (Kd.V_far (p := ⟨gb107, 2, none⟩) (Kd.V_far (p := ⟨gb107, 1, none⟩) (Kd.V_far (p := ⟨gb107, 0, none⟩) (Kd.V_mono HL106_2.out (fun k_ hk => (⟨hk, hk.2⟩ : _ ∧ k_ ≠ gb107))) (fun _ hk => hk.2) (.int .i64 ((rd_T33 y101 x12_1).f0))) (fun _ hk => hk.2) (.int .i64 ((rd_T33 y101 x12_1).f1))) (fun _ hk => hk.2) (.slice A106_2 ((rd_T33 y101 x12_1).f2).length c106_2)) (fun _ hk => ⟨hk.1.1.1, ⟨hk.1.1.2, hk.1.2⟩⟩)))⟩; have n3_ : Aside0 (w13.heap[gb107]? = some (.cells #[.int .i64 ((rd_T33 y101 x12_1).f0), .int .i64 ((rd_T33 y101 x12_1).f1), .slice A106_2 ((rd_T33 y101 x12_1).f2).length c106_2] 33 (0, 0))) := ⟨(by rw [hw]; exact (by (with_reducible repeat (first | refine blk_drewN ?_ _ | refine blk_drew ?_ | refine blk_alloc ?_ _)); refine blk_put (cs := #[.int .i64 ((rd_T33 y101 x12_1).f0), .int .i64 ((rd_T33 y101 x12_1).f1), .slice none 0 0]) ?_ 2 _ rfl; (with_reducible repeat (first | refine blk_drewN ?_ _ | refine blk_drew ?_ | refine blk_alloc ?_ _)); refine blk_put (cs := #[.int .i64 ((rd_T33 y101 x12_1).f0), .int .i64 0, .slice none 0 0]) ?_ 1 _ rfl; (with_reducible repeat (first | refine blk_drewN ?_ _ | refine blk_drew ?_ | refine blk_alloc ?_ _)); refine blk_put (cs := #[.int .i64 0, .int .i64 0, .slice none 0 0]) ?_ 0 _ rfl; (with_reducible repeat (first | refine blk_drewN ?_ _ | refine blk_drew ?_ | refine blk_alloc ?_ _)); exact BK107.out))⟩; have n4_ : Aside0 (Below w.heap.size w w13) := ⟨(by rw [hw]; exact (by repeat (first | (with_reducible first | exact HB.out | apply below_alloc | apply pw_below_drewN | apply below_drew1 | refine below_set ?_ GE107.out) | exact HB.out)))⟩; clear hw; clear HO_3; clear HO_10; clear HL106_2; clear BK107; clear HB; have HO_3 := n0_; have HO_10 := n1_; have HL106_2 := n2_; have BK107 := n3_; have HB := n4_; clear n0_ n1_ n2_ n3_ n4_; have hcz14_0 : w13.cell? ⟨gb107, 0, none⟩ = some (.int .i64 ((rd_T33 y101 x12_1).f0)) := (blk_cell BK107.out 0).trans rfl; have hcz14_1 : w13.cell? ⟨gb107, 1, none⟩ = some (.int .i64 ((rd_T33 y101 x12_1).f1)) := (blk_cell BK107.out 1).trans rfl; have hcz14_2 : w13.cell? ⟨gb107, 2, none⟩ = some (.slice A106_2 ((rd_T33 y101 x12_1).f2).length c106_2) := (blk_cell BK107.out 2).trans rfl; have hfz14_0 := blk_frozen BK107.out 0; have hfz14_1 := blk_frozen BK107.out 1; have hfz14_2 := blk_frozen BK107.out 2) | ((with_reducible refine gate_callee (f := 15) rfl ?_); refine goesL_ (some 18) rfl rfl Try.func15 (by kernel_rfl) rfl #[.agg #[.int .i64 ((rd_T33 y101 x12_1).f0), .int .i64 ((rd_T33 y101 x12_1).f1), .slice A106_2 ((rd_T33 y101 x12_1).f2).length c106_2]] rfl (by (try simp only [List.map_toArray, List.map_cons, List.map_nil]); first | done | rfl | (simp only [List.length_drop, List.length_take]; rfl)) ?_; (with_reducible refine (deadboltlaw09_cut.calls ((rd_T33 y101 x12_1).f0) ((rd_T33 y101 x12_1).f1) (fun k_ => ((P0_ k_ ∨ w.heap.size ≤ k_) ∧ (some k_ ≠ (u3 : Value).ownBlock ∧ k_ ≠ gb107))) _ _ ((rd_T33 y101 x12_1).f2) t108 t109 t110 _ ?side1 A9.out).mono ?_); (case side1 => exact HL106_2.out); rintro e w15 ⟨v111, rfl, ho0, hb⟩; refine ⟨_, rfl, ?_⟩; have n0_ := Aside0.mk (Kd.N_below (by (with_reducible repeat (first | apply Kd.N_alloc | apply Kd.N_drewN | apply Kd.N_drew)); exact HO_3.out) hb); have n1_ := Aside0.mk (Kd.V_below (by (with_reducible repeat (first | apply Kd.V_alloc | apply Kd.V_drewN | apply Kd.V_drew)); exact HO_10.out) hb); have n2_ := Aside0.mk (Kd.V_below (by (with_reducible repeat (first | apply Kd.V_alloc | apply Kd.V_drewN | apply Kd.V_drew)); exact HL106_2.out) hb); have n3_ := Aside0.mk (Kd.V_lower (Kd.V_mono (ok' := fun k_ => (P0_ k_ ∨ w.heap.size ≤ k_) ∧ some k_ ≠ (u3 : Value).ownBlock ∧ k_ ≠ gb107) ho0 (fun k_ hk_ => ⟨Or.elim hk_ (fun hs_ => hs_.1) (fun hn_ => (.inr (Nat.le_trans (below_size (by repeat (first | (with_reducible first | exact HB.out | apply below_alloc | apply pw_below_drewN | apply below_drew1 | refine below_set ?_ GE107.out) | exact HB.out))) hn_))), Or.elim hk_ (fun hs_ => hs_.2.1) (fun hn_ => (Kd.fresh' (Kd.N_lt (by (with_reducible repeat (first | apply Kd.N_alloc | apply Kd.N_drewN | apply Kd.N_drew)); exact HO_3.out)) k_ hn_)), Or.elim hk_ (fun hs_ => hs_.2.2) (fun hn_ => (Kd.freshB (g := gb107) (o := .cells #[.int .i64 ((rd_T33 y101 x12_1).f0), .int .i64 ((rd_T33 y101 x12_1).f1), .slice A106_2 ((rd_T33 y101 x12_1).f2).length c106_2] 33 (0, 0)) (by (with_reducible repeat (first | refine blk_drewN ?_ _ | refine blk_drew ?_ | refine blk_alloc ?_ _)); exact BK107.out) k_ hn_))⟩)) (below_size (by repeat (first | (with_reducible first | exact HB.out | apply below_alloc | apply pw_below_drewN | apply below_drew1 | refine below_set ?_ GE107.out) | exact HB.out)))); (first | have n4_ := Aside0.mk (Kd.C_below (by repeat (first | (with_reducible exact HR106_2.out) | (with_reducible refine Kd.C_alloc ?_ _) | (with_reducible refine Kd.C_drewN ?_ _) | (with_reducible refine Kd.C_drew ?_) | exact HR106_2.out)) hb) | have n4_ := Aside0.mk True.intro); have n5_ := Aside0.mk (blk_below (g := gb107) (o := .cells #[.int .i64 ((rd_T33 y101 x12_1).f0), .int .i64 ((rd_T33 y101 x12_1).f1), .slice A106_2 ((rd_T33 y101 x12_1).f2).length c106_2] 33 (0, 0)) (by (with_reducible repeat (first | refine blk_drewN ?_ _ | refine blk_drew ?_ | refine blk_alloc ?_ _)); exact BK107.out) hb); have n6_ := Aside0.mk (below_step (by repeat (first | (with_reducible first | exact HB.out | apply below_alloc | apply pw_below_drewN | apply below_drew1 | refine below_set ?_ GE107.out) | exact HB.out)) hb); clear HO_3; clear HO_10; clear HL106_2; clear HR106_2; clear BK107; clear HB; have HO_3 := n0_; have HO_10 := n1_; have HL106_2 := n2_; have HO112 := n3_; have HR106_2 := n4_; have BK107 := n5_; have HB := n6_; clear n0_ n1_ n2_ n3_ n4_ n5_ n6_; (try clear hb); (try clear hb2); (try clear hk); (try clear hi); (try clear ho0); obtain ⟨Ao17, co17, eo17⟩ := Kd.V_slice HO112.out; subst eo17) | ((with_reducible refine gate_builtin (b := .append) (xs := #[.tmp 16, .tmp 19]) rfl ?_); at_builtin; refine Kd.N_append k33 (w0 := w) w.heap.size rfl (.tmp 16) (.tmp 19) 22 33 (.agg #[(.int .i64 0), (.int .i64 0), (.slice none 0 0)]) 40 rfl Try.underlying22 info33 rfl (by decide) (by omega) u3 x3_1 (⟨t108, t109, t110⟩ : S33) [.int .i64 t108, .int .i64 t109, .slice Ao17 t110.length co17] (fun k_ => (P0_ k_ ∨ w.heap.size ≤ k_) ∧ k_ ≠ gb107) (fun k_ => ((fun k_ => (P0_ k_ ∨ w.heap.size ≤ k_) ∧ k_ ≠ gb107)) k_ ∧ some k_ ≠ (u3 : Value).ownBlock) rfl rfl ?aP (fun _ hk => hk) ?aF ?aO ?aB ?aS ?aL ?_; (case aP => first | exact (k33_mkF _ _ (⟨t108, t109, t110⟩ : S33) (Kd.V_reads' (Kd.V_mono (ok' := (fun k_ => ((fun k_ => (P0_ k_ ∨ w.heap.size ≤ k_) ∧ k_ ≠ gb107)) k_ ∧ some k_ ≠ (u3 : Value).ownBlock)) (HO112.out) (fun k_ hk => ⟨⟨hk.1, hk.2.2⟩, hk.2.1⟩))).2.1 (Kd.V_F (Kd.V_mono (ok' := (fun k_ => ((fun k_ => (P0_ k_ ∨ w.heap.size ≤ k_) ∧ k_ ≠ gb107)) k_ ∧ some k_ ≠ (u3 : Value).ownBlock)) (HO112.out) (fun k_ hk => ⟨⟨hk.1, hk.2.2⟩, hk.2.1⟩)))) | exact (k33_mkF _ _ (⟨t108, t109, t110⟩ : S33) (Kd.V_reads' (Kd.V_mono (ok' := (fun k_ => ((fun k_ => (P0_ k_ ∨ w.heap.size ≤ k_) ∧ k_ ≠ gb107)) k_ ∧ some k_ ≠ (u3 : Value).ownBlock)) (HO112.out) (fun k_ hk => ⟨⟨hk.1, hk.2.2⟩, hk.2.1⟩))).2.1 (Kd.V_F (Kd.V_mono (ok' := (fun k_ => ((fun k_ => (P0_ k_ ∨ w.heap.size ≤ k_) ∧ k_ ≠ gb107)) k_ ∧ some k_ ≠ (u3 : Value).ownBlock)) (Kd.V_drewN HO112.out _) (fun k_ hk => ⟨⟨hk.1, hk.2.2⟩, hk.2.1⟩))))); (case aB => exact (by repeat (first | (with_reducible first | exact HB.out | apply below_alloc | apply pw_below_drewN | apply below_drew1 | refine below_set ?_ GE107.out) | exact HB.out))); (case aF => exact (fun k_ hk => ⟨(.inr (Nat.le_trans (below_size (by repeat (first | (with_reducible first | exact HB.out | apply below_alloc | apply pw_below_drewN | apply below_drew1 | refine below_set ?_ GE107.out) | exact HB.out))) hk)), Kd.freshB (g := gb107) (o := .cells #[.int .i64 ((rd_T33 y101 x12_1).f0), .int .i64 ((rd_T33 y101 x12_1).f1), .slice A106_2 ((rd_T33 y101 x12_1).f2).length c106_2] 33 (0, 0)) (by (with_reducible repeat (first | refine blk_drewN ?_ _ | refine blk_drew ?_ | refine blk_alloc ?_ _)); exact BK107.out) k_ hk⟩)); (case aO => exact (by (with_reducible repeat (first | apply Kd.N_alloc | apply Kd.N_drewN | apply Kd.N_drew)); exact HO_3.out)); (case aS => exact (below_size (by repeat (first | (with_reducible first | exact HB.out | apply below_alloc | apply pw_below_drewN | apply below_drew1 | refine below_set ?_ GE107.out) | exact HB.out)))); (case aL => have := LMc10.out; omega); intro v114 w16 ho hb hg hat; rw [← Ny113.out] at ho; have n0_ := Aside0.mk (Kd.V_afterv (ok := (fun k_ => (P0_ k_ ∨ w.heap.size ≤ k_) ∧ k_ ≠ gb107)) (by (with_reducible repeat (first | apply Kd.V_alloc | apply Kd.V_drewN | apply Kd.V_drew)); exact Kd.V_mono HO_10.out (fun _ hk => ⟨⟨hk.1, hk.2.2⟩, hk.2.1⟩)) hg hat); have n1_ := Aside0.mk (Kd.V_afterv (ok := (fun k_ => (P0_ k_ ∨ w.heap.size ≤ k_) ∧ k_ ≠ gb107)) (by (with_reducible repeat (first | apply Kd.V_alloc | apply Kd.V_drewN | apply Kd.V_drew)); exact Kd.V_mono HL106_2.out (fun _ hk => ⟨⟨hk.1, hk.2.2⟩, hk.2.1⟩)) hg hat); have n2_ := Aside0.mk (blk_grown (g := gb107) (o := .cells #[.int .i64 ((rd_T33 y101 x12_1).f0), .int .i64 ((rd_T33 y101 x12_1).f1), .slice A106_2 ((rd_T33 y101 x12_1).f2).length c106_2] 33 (0, 0)) (by (with_reducible repeat (first | refine blk_drewN ?_ _ | refine blk_drew ?_ | refine blk_alloc ?_ _)); exact BK107.out) hg (Kd.N_away HO_3.out (fun _ hk => hk.2))); have n3_ := Aside0.mk (Kd.V_afterv (ok := (fun k_ => (P0_ k_ ∨ w.heap.size ≤ k_) ∧ k_ ≠ gb107)) (by (with_reducible repeat (first | apply Kd.V_alloc | apply Kd.V_drewN | apply Kd.V_drew)); exact Kd.V_mono HO112.out (fun _ hk => ⟨⟨hk.1, hk.2.2⟩, hk.2.1⟩)) hg hat); have n4_ := Aside0.mk (hb); have n5_ := Aside0.mk (ho); clear HO_10; clear HL106_2; clear BK107; clear HO112; clear HB; clear HO_3; have HO_10 := n0_; have HL106_2 := n1_; have BK107 := n2_; have HO112 := n3_; have HB := n4_; have HO115 := n5_; clear n0_ n1_ n2_ n3_ n4_ n5_; clear ho hb hg hat))
                  go_roundg k1
                  case measure => have := HK1.out; omega
                  case rel => exact ⟨(y113), (wrap64 (x12_1 + 1)), (by first | rfl | (simp; done) | (simp [*]; done)), H', ⟨by have := HK1.out; omega⟩, ⟨by (with_reducible repeat (first | apply Kd.N_alloc | apply Kd.N_drewN | apply Kd.N_drew)); exact Kd.N_mono HO115.out (fun _ hk => hk.1)⟩, ⟨by (with_reducible repeat (first | apply Kd.V_alloc | apply Kd.V_drewN | apply Kd.V_drew)); exact Kd.V_mono HO_10.out (fun _ hk => ⟨hk.1.1, hk.2⟩)⟩, ⟨by repeat (first | (with_reducible first | exact HB.out | apply below_alloc | apply pw_below_drewN | apply below_drew1 | refine below_set ?_ GE107.out) | exact HB.out)⟩⟩
                · rw [if_neg c10] at H
                  exact absurd H (by simp)
              · rw [if_neg c8] at H
                exact absurd H (by simp)
            · rw [if_neg c7] at H
              exact absurd H (by simp)
          · rw [if_neg c6] at H
            have c6b0 : decide (x12_1 < (y101.length : Int)) = false := decide_eq_false c6
            clear c6
            obtain rfl := Option.some.inj H
            go_wp2
            go_ret
            exact ⟨_, by first | rfl | (simp [errW_none, errW_some] <;> rfl) | (simp only [← hji2]; first | rfl | (simp [errW_none, errW_some] <;> rfl)) | (simp [*, errW_none, errW_some] <;> rfl), by (with_reducible repeat (first | apply Kd.N_alloc | apply Kd.N_drewN | apply Kd.N_drew)); exact HO_3.out, by repeat (first | (with_reducible first | exact HB.out | apply below_alloc | apply pw_below_drewN | apply below_drew1) | exact HB.out)⟩
    · rw [if_neg c4] at H
      exact absurd H (by simp)
  · rw [if_neg c3] at H
    exact absurd H (by simp)

end Go.Proofs.Ytnjnjajgpkmfhaa.PX

namespace Go.Proofs.Ytnjnjajgpkmfhaa.PX
open Go.RowKit Go.Proofs.YtnjnjajgpkmfhaaW.PrintWords Go.Proofs.YtnjnjajgpkmfhaaW.PrintLast Go.Proofs.YtnjnjajgpkmfhaaW.PrintMore
attribute [local go_sem] max2_int min2_int max_two min_two max_three min_three max_four min_four   -- for this text's walks alone
set_option linter.unusedVariables false
set_option linter.unusedSimpArgs false

/-! ### root_Under: function 12 -/
def root_Under.j0 : Nat → List (S33) → Int → Bool → Option (List Int × Int)
  | 0, _, _, _ => none
  | k + 1, x0, x1, x16 => if x16 = true then (some (([] : List Int), 1)) else ((root_tree.f x0 x1).bind fun bt132 => ((treap_Keys.f bt132.1 bt132.2).bind fun bt136 => (some (bt136.1, bt136.2))))
def root_Under.f (k : Nat) (l0 : List (S33)) (a1 : Int) : Option (List Int × Int) := (root_Right.f k l0).bind fun t131 => (if t131 = true then (if a1 < 0 then (root_Under.j0 k l0 a1 true) else (root_Under.j0 k l0 a1 (decide (a1 ≥ 251)))) else (root_Under.j0 k l0 a1 true))
theorem root_Under.mono_l : ∀ k, (∀ y0 y1 y2, LeO (root_Under.j0 k y0 y1 y2) (root_Under.j0 (k + 1) y0 y1 y2))
  | 0 => fun _ _ _ r h => by simp [root_Under.j0] at h
  | k + 1 => by
    have ih0 := root_Under.mono_l k
    · intro y0 y1 y2
      unfold root_Under.j0
      repeat' first
      | (with_reducible exact ih0 _ _ _)
      | (with_reducible exact root_Right.mono _ _)
      | (with_reducible exact LeO.refl _)
      | (with_reducible exact LeO.none _)
      | (with_reducible refine LeO.ite ?_ ?_)
      | (with_reducible refine LeO.bind ?_ (fun _ => ?_))
      | exact ih0 _ _ _
      | exact root_Right.mono _ _
      | exact LeO.none _
      | refine LeO.ite ?_ ?_
      | refine LeO.bind ?_ (fun _ => ?_)
theorem root_Under.mono : ∀ a0 a1 k, LeO (root_Under.f k a0 a1) (root_Under.f (k + 1) a0 a1) := by
  intro a0 a1 k
  have ih0 := root_Under.mono_l k
  unfold root_Under.f
  repeat' first
      | (with_reducible exact ih0 _ _ _)
      | (with_reducible exact root_Right.mono _ _)
      | (with_reducible exact LeO.refl _)
      | (with_reducible exact LeO.none _)
      | (with_reducible refine LeO.ite ?_ ?_)
      | (with_reducible refine LeO.bind ?_ (fun _ => ?_))
      | exact ih0 _ _ _
      | exact root_Right.mono _ _
      | exact LeO.none _
      | refine LeO.ite ?_ ?_
      | refine LeO.bind ?_ (fun _ => ?_)
set_option maxHeartbeats 8000000 in
set_option maxRecDepth 100000 in
theorem root_Under.calls (k : Nat) (A0 : Option Addr) (c0 : Nat) (l0 : List (S33)) (a1 : Int) (r1 : List Int) (r2 : Int) (w : World) (hr0 : Kd.C k33 w A0 l0.length l0) (hc0 : l0.length ≤ c0) (h : root_Under.f k l0 a1 = some (r1, r2)) :
    Calls Try.prog 12 #[.slice A0 l0.length c0, .int .i64 a1] w fun e w' => ∃ v0_ : Value, e = .returned (.tuple #[v0_, .int .i64 r2]) ∧ Kd.R (Kd.int .i64) 3 w' w.heap.size (fun _ => True) v0_ r1 ∧ Below w.heap.size w w' := by
  have HR0 := Aside0.mk hr0
  have HC0 := Aside0.mk hc0
  clear hr0 hc0
  have HB := Aside0.mk (Below.refl w.heap.size w)
  have H : ((root_Right.f k l0).bind fun t131 => (if t131 = true then (if a1 < 0 then (root_Under.j0 k l0 a1 true) else (root_Under.j0 k l0 a1 (decide (a1 ≥ 251)))) else (root_Under.j0 k l0 a1 true))) = some (r1, r2) := h
  clear h
  have HC3 := Aside0.mk H
  clear H
  go_enter Try.func12, Try.ntmps12
  go_upto_region 1 with (fail)
  go_cut [16] (fun v16 wc => ∃ (kq : Nat) (x16_2 : Bool), v16 = .bool x16_2 ∧ Aside0 (root_Under.j0 kq l0 a1 x16_2 = some (r1, r2)) ∧ Aside0 (kq ≤ k) ∧ Aside0 (Below w.heap.size w wc))
  case first =>
    have H := HC3.out
    clear HC3
    replace H := Option.bind_eq_some_iff.mp H
    obtain ⟨t131, A40, H⟩ := H
    replace H : (if t131 = true then (if a1 < 0 then (root_Under.j0 k l0 a1 true) else (root_Under.j0 k l0 a1 (decide (a1 ≥ 251)))) else (root_Under.j0 k l0 a1 true)) = some (r1, r2) := H
    have A4 := Aside0.mk A40
    clear A40
    by_cases c5 : t131 = true
    · subst c5
      have H1 : (if a1 < 0 then (root_Under.j0 k l0 a1 true) else (root_Under.j0 k l0 a1 (decide (a1 ≥ 251)))) = some (r1, r2) := by rw [if_pos rfl] at H; exact H
      clear H
      have H := H1
      clear H1
      by_cases c6 : a1 < 0
      · rw [if_pos c6] at H
        have c6b0 : decide (a1 < 0) = true := decide_eq_true c6
        clear c6
        (first | rw [c6b0] | (simp only [i64_w, i32_w]; rw [c6b0]) | skip)
        have H' := Aside0.mk H
        clear H
        go_wp2_with (first | ((with_reducible refine gate_callee (f := 11) rfl ?_); refine goesL_ (some 7) rfl rfl Try.func11 (by kernel_rfl) rfl #[.slice A0 l0.length c0] rfl (by (try simp only [List.map_toArray, List.map_cons, List.map_nil]); first | done | rfl | (simp only [List.length_drop, List.length_take]; rfl)) ?_; (with_reducible refine (root_Right.calls k _ _ l0 true _ ?side1 ?side2 A4.out).mono ?_); (case side1 => repeat (first | exact (Kd.C_below HR0.out HB.out) | (with_reducible refine Kd.C_alloc ?_ _) | (with_reducible refine Kd.C_drewN ?_ _) | (with_reducible refine Kd.C_drew ?_))); (case side2 => exact HC0.out); rintro e w7 ⟨rfl, hb⟩; refine ⟨_, rfl, ?_⟩; have n0_ := Aside0.mk (below_step (by repeat (first | (with_reducible first | exact HB.out | apply below_alloc | apply pw_below_drewN | apply below_drew1) | exact HB.out)) hb); clear HB; have HB := n0_; clear n0_; (try clear hb); (try clear hb2); (try clear hk); (try clear hi)))
        go_meet
        case rel => exact ⟨_, (true), (by first | rfl | (simp; done) | (simp [*]; done)), H', ⟨by first | omega | exact Nat.le_refl _⟩, ⟨by repeat (first | (with_reducible first | exact HB.out | apply below_alloc | apply pw_below_drewN | apply below_drew1) | exact HB.out)⟩⟩
      · rw [if_neg c6] at H
        have c6b0 : decide (a1 < 0) = false := decide_eq_false c6
        clear c6
        (first | rw [c6b0] | (simp only [i64_w, i32_w]; rw [c6b0]) | skip)
        have H' := Aside0.mk H
        clear H
        go_wp2_with (first | ((with_reducible refine gate_callee (f := 11) rfl ?_); refine goesL_ (some 7) rfl rfl Try.func11 (by kernel_rfl) rfl #[.slice A0 l0.length c0] rfl (by (try simp only [List.map_toArray, List.map_cons, List.map_nil]); first | done | rfl | (simp only [List.length_drop, List.length_take]; rfl)) ?_; (with_reducible refine (root_Right.calls k _ _ l0 true _ ?side1 ?side2 A4.out).mono ?_); (case side1 => repeat (first | exact (Kd.C_below HR0.out HB.out) | (with_reducible refine Kd.C_alloc ?_ _) | (with_reducible refine Kd.C_drewN ?_ _) | (with_reducible refine Kd.C_drew ?_))); (case side2 => exact HC0.out); rintro e w8 ⟨rfl, hb⟩; refine ⟨_, rfl, ?_⟩; have n0_ := Aside0.mk (below_step (by repeat (first | (with_reducible first | exact HB.out | apply below_alloc | apply pw_below_drewN | apply below_drew1) | exact HB.out)) hb); clear HB; have HB := n0_; clear n0_; (try clear hb); (try clear hb2); (try clear hk); (try clear hi)))
        go_meet
        case rel => exact ⟨_, (decide (a1 ≥ 251)), (by first | rfl | (simp; done) | (simp [*]; done)), H', ⟨by first | omega | exact Nat.le_refl _⟩, ⟨by repeat (first | (with_reducible first | exact HB.out | apply below_alloc | apply pw_below_drewN | apply below_drew1) | exact HB.out)⟩⟩
    · replace c5 := Bool.eq_false_iff.mpr c5
      subst c5
      have H1 : (root_Under.j0 k l0 a1 true) = some (r1, r2) := by rw [if_neg (show ¬ (false = true) by decide)] at H; exact H
      clear H
      have H := H1
      clear H1
      have H' := Aside0.mk H
      clear H
      go_wp2_with (first | ((with_reducible refine gate_callee (f := 11) rfl ?_); refine goesL_ (some 7) rfl rfl Try.func11 (by kernel_rfl) rfl #[.slice A0 l0.length c0] rfl (by (try simp only [List.map_toArray, List.map_cons, List.map_nil]); first | done | rfl | (simp only [List.length_drop, List.length_take]; rfl)) ?_; (with_reducible refine (root_Right.calls k _ _ l0 false _ ?side1 ?side2 A4.out).mono ?_); (case side1 => repeat (first | exact (Kd.C_below HR0.out HB.out) | (with_reducible refine Kd.C_alloc ?_ _) | (with_reducible refine Kd.C_drewN ?_ _) | (with_reducible refine Kd.C_drew ?_))); (case side2 => exact HC0.out); rintro e w9 ⟨rfl, hb⟩; refine ⟨_, rfl, ?_⟩; have n0_ := Aside0.mk (below_step (by repeat (first | (with_reducible first | exact HB.out | apply below_alloc | apply pw_below_drewN | apply below_drew1) | exact HB.out)) hb); clear HB; have HB := n0_; clear n0_; (try clear hb); (try clear hb2); (try clear hk); (try clear hi)))
      go_meet
      case rel => exact ⟨_, (true), (by first | rfl | (simp; done) | (simp [*]; done)), H', ⟨by first | omega | exact Nat.le_refl _⟩, ⟨by repeat (first | (with_reducible first | exact HB.out | apply below_alloc | apply pw_below_drewN | apply below_drew1) | exact HB.out)⟩⟩
  case rest =>
    clear HC3
    try clear c1
    try clear p2
    try clear c5
    try clear c6
    try clear c6b0
    obtain ⟨kq, x16_2, rfl, HA, HJ2, HB⟩ := hcut
    cases kq with
    | zero => exact absurd HA.out (by simp [root_Under.j0])
    | succ kj2 =>
      have H := HA.out
      clear HA
      simp only [root_Under.j0] at H
      by_cases c10 : x16_2 = true
      · subst c10
        have H1 : (some (([] : List Int), 1)) = some (r1, r2) := by rw [if_pos rfl] at H; exact H
        clear H
        have H := H1
        clear H1
        simp only [Option.some.injEq, Prod.mk.injEq] at H
        obtain ⟨rfl, rfl⟩ := H
        go_wp2
        go_ret2
        exact ⟨_, by first | rfl | (simp [errW_none, errW_some] <;> rfl) | (simp [*, errW_none, errW_some] <;> rfl), by first | exact Kd.R_nil _ _ _ _ _ | exact Kd.N_nil _ _ _ _ _ | exact Kd.V_nil _ _ _ _ _ | exact Kd.Q_nil _ _ _ _ _ | exact Kd.S_nil _ _ _ _ _, by repeat (first | (with_reducible first | exact HB.out | apply below_alloc | apply pw_below_drewN | apply below_drew1) | exact HB.out)⟩
      · replace c10 := Bool.eq_false_iff.mpr c10
        subst c10
        have H1 : ((root_tree.f l0 a1).bind fun bt132 => ((treap_Keys.f bt132.1 bt132.2).bind fun bt136 => (some (bt136.1, bt136.2)))) = some (r1, r2) := by rw [if_neg (show ¬ (false = true) by decide)] at H; exact H
        clear H
        have H := H1
        clear H1
        replace H := Option.bind_eq_some_iff.mp H
        obtain ⟨⟨t132, t133⟩, A110, H⟩ := H
        replace H : ((treap_Keys.f t132 t133).bind fun bt136 => (some (bt136.1, bt136.2))) = some (r1, r2) := H
        have A11 := Aside0.mk A110
        clear A110
        replace H := Option.bind_eq_some_iff.mp H
        obtain ⟨⟨t136, t139⟩, A120, H⟩ := H
        replace H : (some (t136, t139)) = some (r1, r2) := H
        have A12 := Aside0.mk A120
        clear A120
        simp only [Option.some.injEq, Prod.mk.injEq] at H
        obtain ⟨rfl, rfl⟩ := H
        go_wp2_with (first | ((with_reducible refine gate_callee (f := 44) rfl ?_); refine goesL_ (some 19) rfl rfl Try.func44 (by kernel_rfl) rfl #[.slice A0 l0.length c0, .int .i64 a1] rfl (by (try simp only [List.map_toArray, List.map_cons, List.map_nil]); first | done | rfl | (simp only [List.length_drop, List.length_take]; rfl)) ?_; (with_reducible refine (root_tree.calls _ _ l0 a1 t132 t133 _ ?side1 ?side2 A11.out).mono ?_); (case side1 => repeat (first | exact (Kd.C_below HR0.out HB.out) | (with_reducible refine Kd.C_alloc ?_ _) | (with_reducible refine Kd.C_drewN ?_ _) | (with_reducible refine Kd.C_drew ?_))); (case side2 => exact HC0.out); rintro e w13 ⟨v134, rfl, ho0, hb⟩; refine ⟨_, rfl, ?_⟩; have n0_ := Aside0.mk (Kd.R_lower ho0 (below_size (by repeat (first | (with_reducible first | exact HB.out | apply below_alloc | apply pw_below_drewN | apply below_drew1) | exact HB.out)))); have n1_ := Aside0.mk (below_step (by repeat (first | (with_reducible first | exact HB.out | apply below_alloc | apply pw_below_drewN | apply below_drew1) | exact HB.out)) hb); clear HB; have HO135 := n0_; have HB := n1_; clear n0_ n1_; (try clear hb); (try clear hb2); (try clear hk); (try clear hi); (try clear ho0); obtain ⟨Ao14, co14, eo14⟩ := Kd.R_slice HO135.out; subst eo14) | ((with_reducible refine gate_callee (f := 43) rfl ?_); refine goesL_ (some 20) rfl rfl Try.func43 (by kernel_rfl) rfl #[.agg #[.int .i64 t132, .slice Ao14 t133.length co14]] rfl (by (try simp only [List.map_toArray, List.map_cons, List.map_nil]); first | done | rfl | (simp only [List.length_drop, List.length_take]; rfl)) ?_; (with_reducible refine (treap_Keys.calls t132 _ _ t133 t136 t139 _ ?side1 ?side2 A12.out).mono ?_); (case side1 => repeat (first | exact (Kd.R_reads' HO135.out).2.2 | (with_reducible refine Kd.C_alloc ?_ _) | (with_reducible refine Kd.C_drewN ?_ _) | (with_reducible refine Kd.C_drew ?_))); (case side2 => exact (Kd.R_reads' HO135.out).2.1); rintro e w15 ⟨v137, rfl, ho0, hb⟩; refine ⟨_, rfl, ?_⟩; have n0_ := Aside0.mk (Kd.R_below (by (with_reducible repeat (first | apply Kd.R_alloc | apply Kd.R_drewN | apply Kd.R_drew)); exact HO135.out) hb); have n1_ := Aside0.mk (Kd.R_lower ho0 (below_size (by repeat (first | (with_reducible first | exact HB.out | apply below_alloc | apply pw_below_drewN | apply below_drew1) | exact HB.out)))); have n2_ := Aside0.mk (below_step (by repeat (first | (with_reducible first | exact HB.out | apply below_alloc | apply pw_below_drewN | apply below_drew1) | exact HB.out)) hb); clear HO135; clear HB; have HO135 := n0_; have HO138 := n1_; have HB := n2_; clear n0_ n1_ n2_; (try clear hb); (try clear hb2); (try clear hk); (try clear hi); (try clear ho0)))
        go_ret2
        exact ⟨_, by first | rfl | (simp [errW_none, errW_some] <;> rfl) | (simp [*, errW_none, errW_some] <;> rfl), by (with_reducible repeat (first | apply Kd.R_alloc | apply Kd.R_drewN | apply Kd.R_drew)); exact HO138.out, by repeat (first | (with_reducible first | exact HB.out | apply below_alloc | apply pw_below_drewN | apply below_drew1) | exact HB.out)⟩

end Go.Proofs.Ytnjnjajgpkmfhaa.PX

namespace Go.Proofs.Ytnjnjajgpkmfhaa.PX
open Go.RowKit Go.Proofs.YtnjnjajgpkmfhaaW.PrintWords Go.Proofs.YtnjnjajgpkmfhaaW.PrintLast Go.Proofs.YtnjnjajgpkmfhaaW.PrintMore
attribute [local go_sem] max2_int min2_int max_two min_two max_three min_three max_four min_four   -- for this text's walks alone
set_option linter.unusedVariables false
set_option linter.unusedSimpArgs false

/-! ### deadboltlaw09_alive: function 13 -/
def deadboltlaw09_alive.f  : Option (Bool) := (root_Set.f ([] : List (S33)) 2008 3 ([] : List Int)).bind fun bt140 => ((root_Root.f 2008).bind fun bt144 => (if bt140.2 = 0 then (if bt144.2 = 0 then (if (bt140.1.length : Int) = 1 then (if 0 < (bt140.1.length : Int) then (if ((rd_T33 bt140.1 0).f1) = 3 then (some (bt144.1 == 0)) else (some false)) else (none)) else (some false)) else (some false)) else (some false)))
set_option maxHeartbeats 8000000 in
set_option maxRecDepth 100000 in
theorem deadboltlaw09_alive.calls  (r : Bool) (w : World) (h : deadboltlaw09_alive.f  = some r) :
    Calls Try.prog 13 #[] w fun e w' => e = .returned (.bool r) ∧ Below w.heap.size w w' := by
  have hu33 := Try.underlying33
  have HB := Aside0.mk (Below.refl w.heap.size w)
  have H : ((root_Set.f ([] : List (S33)) 2008 3 ([] : List Int)).bind fun bt140 => ((root_Root.f 2008).bind fun bt144 => (if bt140.2 = 0 then (if bt144.2 = 0 then (if (bt140.1.length : Int) = 1 then (if 0 < (bt140.1.length : Int) then (if ((rd_T33 bt140.1 0).f1) = 3 then (some (bt144.1 == 0)) else (some false)) else (none)) else (some false)) else (some false)) else (some false)))) = some r := h
  clear h
  replace H := Option.bind_eq_some_iff.mp H
  obtain ⟨⟨t140, t143⟩, A10, H⟩ := H
  replace H : ((root_Root.f 2008).bind fun bt144 => (if t143 = 0 then (if bt144.2 = 0 then (if (t140.length : Int) = 1 then (if 0 < (t140.length : Int) then (if ((rd_T33 t140 0).f1) = 3 then (some (bt144.1 == 0)) else (some false)) else (none)) else (some false)) else (some false)) else (some false))) = some r := H
  have A1 := Aside0.mk A10
  clear A10
  replace H := Option.bind_eq_some_iff.mp H
  obtain ⟨⟨t144, t145⟩, A20, H⟩ := H
  replace H : (if t143 = 0 then (if t145 = 0 then (if (t140.length : Int) = 1 then (if 0 < (t140.length : Int) then (if ((rd_T33 t140 0).f1) = 3 then (some (t144 == 0)) else (some false)) else (none)) else (some false)) else (some false)) else (some false)) = some r := H
  have A2 := Aside0.mk A20
  clear A20
  by_cases c3 : t143 = 0
  · rw [if_pos c3] at H
    have c3b0 : (t143 == 0) = true := beq_iff_eq.mpr c3
    have c3b1 : (t143 != 0) = false := bne_eq_false_iff_eq.mpr c3
    clear c3
    by_cases c4 : t145 = 0
    · rw [if_pos c4] at H
      have c4b0 : (t145 == 0) = true := beq_iff_eq.mpr c4
      have c4b1 : (t145 != 0) = false := bne_eq_false_iff_eq.mpr c4
      clear c4
      by_cases c5 : (t140.length : Int) = 1
      · rw [if_pos c5] at H
        have c5b0 : ((t140.length : Int) == 1) = true := beq_iff_eq.mpr c5
        have c5b1 : ((t140.length : Int) != 1) = false := bne_eq_false_iff_eq.mpr c5
        clear c5
        by_cases c6 : 0 < (t140.length : Int)
        · rw [if_pos c6] at H
          have c6b0 : decide (0 < (t140.length : Int)) = true := decide_eq_true c6
          have c6b1 : decide (0 < t140.length) = true := decide_eq_true (by omega)
          clear c6
          by_cases c7 : ((rd_T33 t140 0).f1) = 3
          · rw [if_pos c7] at H
            have c7b0 : (((rd_T33 t140 0).f1) == 3) = true := beq_iff_eq.mpr c7
            have c7b1 : (((rd_T33 t140 0).f1) != 3) = false := bne_eq_false_iff_eq.mpr c7
            clear c7
            obtain rfl := Option.some.inj H
            go_enter Try.func13, Try.ntmps13
            go_wp2_with (first | ((with_reducible refine gate_callee (f := 17) rfl ?_); refine goesL_ (some 7) rfl rfl Try.func17 (by kernel_rfl) rfl #[.slice none 0 0, .agg #[.int .i64 2008, .int .i64 3, .slice none 0 0]] rfl (by (try simp only [List.map_toArray, List.map_cons, List.map_nil]); first | done | rfl | (simp only [List.length_drop, List.length_take]; rfl)) ?_; (refine (root_Set.calls (fun k_ => False) _ _ ([] : List (S33)) 2008 3 (fun k_ => False) _ _ ([] : List Int) t140 t143 _ ?side1 ?side2 A1.out).mono ?_); (case side1 => exact Kd.V_nil _ _ _ _ _); (case side2 => exact Kd.V_nil _ _ _ _ _); rintro e w8 ⟨v141, rfl, ho0, hb⟩; refine ⟨_, rfl, ?_⟩; have n0_ := Aside0.mk (Kd.V_lower (Kd.V_mono (ok' := fun k_ => True) ho0 (fun k_ hk_ => trivial)) (below_size (by repeat (first | (with_reducible first | exact HB.out | apply below_alloc | apply pw_below_drewN | apply below_drew1) | exact HB.out)))); have n1_ := Aside0.mk (below_step (by repeat (first | (with_reducible first | exact HB.out | apply below_alloc | apply pw_below_drewN | apply below_drew1) | exact HB.out)) hb); clear HB; have HO142 := n0_; have HB := n1_; clear n0_ n1_; (try clear hb); (try clear hb2); (try clear hk); (try clear hi); (try clear ho0)) | ((with_reducible refine gate_callee (f := 14) rfl ?_); refine goesL_ (some 11) rfl rfl Try.func14 (by kernel_rfl) rfl #[.int .i64 2008] rfl (by (try simp only [List.map_toArray, List.map_cons, List.map_nil]); first | done | rfl | (simp only [List.length_drop, List.length_take]; rfl)) ?_; (with_reducible refine (root_Root.calls 2008 t144 t145 _ A2.out).mono ?_); rintro e w' ⟨rfl, ⟨nd, rfl⟩⟩; refine ⟨_, rfl, ?_⟩; obtain ⟨Ao9, co9, eo9⟩ := Kd.V_slice HO142.out; subst eo9; have p146 : 0 ≤ (0 : Int) := (by omega); have q146 : 0 < (t140.length : Int) := of_decide_eq_true (by first | (with_reducible assumption) | assumption); obtain ⟨ad146, A146_2, c146_2, e146, hx146_0, hx146_1, hx146_2, hl146_2, hi146_2⟩ := at_T33 (Kd.V_reads' HO142.out).2.2 0 p146 q146; cases e146; obtain ⟨ce146, hce146, hMe146, hcc146⟩ := Kd.V_get HO142.out z33 0 p146 (by first | exact q146 | exact of_decide_eq_true (by first | (with_reducible assumption) | assumption) | (have e_ := (Kd.V_reads' HO142.out).1; omega)); obtain ⟨ua146_2, uc146_2, rfl, ul146_2, ge146_2⟩ := k33_openF hMe146; have hv146_2 := hcc146 2 _ rfl; rw [add_field _ _ 2 (by omega)] at hv146_2; replace hv146_2 := Option.some.inj (hv146_2.symm.trans hx146_2); injection hv146_2 with hva_ hvn_ hvc_; rw [hva_] at ge146_2; rw [hvc_] at ul146_2; have HL146_2 := Aside0.mk (show Kd.V (Kd.int .i64) 3 _ w.heap.size _ _ ((rd_T33 t140 0).f2) from Kd.V_mk ul146_2 ge146_2); clear hva_ hvn_ hvc_ ge146_2 ul146_2; clear hcc146 hce146; have qi146 : (0 < t140.length) = True := eq_true (by omega); (try rw [show ((0 : Int)).toNat = 0 from rfl] at hx146_0); (try rw [show 0 * 3 = 0 from rfl] at hx146_0); (try rw [Addr.add_zero'] at hx146_0); (try rw [show ((0 : Int)).toNat = 0 from rfl] at hx146_1); (try rw [show 0 * 3 = 0 from rfl] at hx146_1); (try rw [Addr.add_zero'] at hx146_1); (try rw [show ((0 : Int)).toNat = 0 from rfl] at hx146_2); (try rw [show 0 * 3 = 0 from rfl] at hx146_2); (try rw [Addr.add_zero'] at hx146_2); have HR146_2 := Aside0.mk hi146_2; have HC146_2 := Aside0.mk hl146_2; clear hi146_2 hl146_2; replace p146 := eq_true p146; replace q146 := eq_true q146))
            go_ret
            exact ⟨by first | rfl | (simp [errW_none, errW_some] <;> rfl) | (simp [*, errW_none, errW_some] <;> rfl), by repeat (first | (with_reducible first | exact HB.out | apply below_alloc | apply pw_below_drewN | apply below_drew1) | exact HB.out)⟩
          · rw [if_neg c7] at H
            have c7b0 : (((rd_T33 t140 0).f1) == 3) = false := beq_eq_false_iff_ne.mpr c7
            have c7b1 : (((rd_T33 t140 0).f1) != 3) = true := bne_iff_ne.mpr c7
            obtain rfl := Option.some.inj H
            go_enter Try.func13, Try.ntmps13
            go_wp2_with (first | ((with_reducible refine gate_callee (f := 17) rfl ?_); refine goesL_ (some 7) rfl rfl Try.func17 (by kernel_rfl) rfl #[.slice none 0 0, .agg #[.int .i64 2008, .int .i64 3, .slice none 0 0]] rfl (by (try simp only [List.map_toArray, List.map_cons, List.map_nil]); first | done | rfl | (simp only [List.length_drop, List.length_take]; rfl)) ?_; (refine (root_Set.calls (fun k_ => False) _ _ ([] : List (S33)) 2008 3 (fun k_ => False) _ _ ([] : List Int) t140 t143 _ ?side1 ?side2 A1.out).mono ?_); (case side1 => exact Kd.V_nil _ _ _ _ _); (case side2 => exact Kd.V_nil _ _ _ _ _); rintro e w10 ⟨v141, rfl, ho0, hb⟩; refine ⟨_, rfl, ?_⟩; have n0_ := Aside0.mk (Kd.V_lower (Kd.V_mono (ok' := fun k_ => True) ho0 (fun k_ hk_ => trivial)) (below_size (by repeat (first | (with_reducible first | exact HB.out | apply below_alloc | apply pw_below_drewN | apply below_drew1) | exact HB.out)))); have n1_ := Aside0.mk (below_step (by repeat (first | (with_reducible first | exact HB.out | apply below_alloc | apply pw_below_drewN | apply below_drew1) | exact HB.out)) hb); clear HB; have HO142 := n0_; have HB := n1_; clear n0_ n1_; (try clear hb); (try clear hb2); (try clear hk); (try clear hi); (try clear ho0)) | ((with_reducible refine gate_callee (f := 14) rfl ?_); refine goesL_ (some 11) rfl rfl Try.func14 (by kernel_rfl) rfl #[.int .i64 2008] rfl (by (try simp only [List.map_toArray, List.map_cons, List.map_nil]); first | done | rfl | (simp only [List.length_drop, List.length_take]; rfl)) ?_; (with_reducible refine (root_Root.calls 2008 t144 t145 _ A2.out).mono ?_); rintro e w' ⟨rfl, ⟨nd, rfl⟩⟩; refine ⟨_, rfl, ?_⟩; obtain ⟨Ao11, co11, eo11⟩ := Kd.V_slice HO142.out; subst eo11; have p146 : 0 ≤ (0 : Int) := (by omega); have q146 : 0 < (t140.length : Int) := of_decide_eq_true (by first | (with_reducible assumption) | assumption); obtain ⟨ad146, A146_2, c146_2, e146, hx146_0, hx146_1, hx146_2, hl146_2, hi146_2⟩ := at_T33 (Kd.V_reads' HO142.out).2.2 0 p146 q146; cases e146; obtain ⟨ce146, hce146, hMe146, hcc146⟩ := Kd.V_get HO142.out z33 0 p146 (by first | exact q146 | exact of_decide_eq_true (by first | (with_reducible assumption) | assumption) | (have e_ := (Kd.V_reads' HO142.out).1; omega)); obtain ⟨ua146_2, uc146_2, rfl, ul146_2, ge146_2⟩ := k33_openF hMe146; have hv146_2 := hcc146 2 _ rfl; rw [add_field _ _ 2 (by omega)] at hv146_2; replace hv146_2 := Option.some.inj (hv146_2.symm.trans hx146_2); injection hv146_2 with hva_ hvn_ hvc_; rw [hva_] at ge146_2; rw [hvc_] at ul146_2; have HL146_2 := Aside0.mk (show Kd.V (Kd.int .i64) 3 _ w.heap.size _ _ ((rd_T33 t140 0).f2) from Kd.V_mk ul146_2 ge146_2); clear hva_ hvn_ hvc_ ge146_2 ul146_2; clear hcc146 hce146; have qi146 : (0 < t140.length) = True := eq_true (by omega); (try rw [show ((0 : Int)).toNat = 0 from rfl] at hx146_0); (try rw [show 0 * 3 = 0 from rfl] at hx146_0); (try rw [Addr.add_zero'] at hx146_0); (try rw [show ((0 : Int)).toNat = 0 from rfl] at hx146_1); (try rw [show 0 * 3 = 0 from rfl] at hx146_1); (try rw [Addr.add_zero'] at hx146_1); (try rw [show ((0 : Int)).toNat = 0 from rfl] at hx146_2); (try rw [show 0 * 3 = 0 from rfl] at hx146_2); (try rw [Addr.add_zero'] at hx146_2); have HR146_2 := Aside0.mk hi146_2; have HC146_2 := Aside0.mk hl146_2; clear hi146_2 hl146_2; replace p146 := eq_true p146; replace q146 := eq_true q146))
            go_ret
            exact ⟨by first | rfl | (simp [errW_none, errW_some] <;> rfl) | (simp [*, errW_none, errW_some] <;> rfl), by repeat (first | (with_reducible first | exact HB.out | apply below_alloc | apply pw_below_drewN | apply below_drew1) | exact HB.out)⟩
        · rw [if_neg c6] at H
          exact absurd H (by simp)
      · rw [if_neg c5] at H
        have c5b0 : ((t140.length : Int) == 1) = false := beq_eq_false_iff_ne.mpr c5
        have c5b1 : ((t140.length : Int) != 1) = true := bne_iff_ne.mpr c5
        obtain rfl := Option.some.inj H
        go_enter Try.func13, Try.ntmps13
        go_wp2_with (first | ((with_reducible refine gate_callee (f := 17) rfl ?_); refine goesL_ (some 7) rfl rfl Try.func17 (by kernel_rfl) rfl #[.slice none 0 0, .agg #[.int .i64 2008, .int .i64 3, .slice none 0 0]] rfl (by (try simp only [List.map_toArray, List.map_cons, List.map_nil]); first | done | rfl | (simp only [List.length_drop, List.length_take]; rfl)) ?_; (refine (root_Set.calls (fun k_ => False) _ _ ([] : List (S33)) 2008 3 (fun k_ => False) _ _ ([] : List Int) t140 t143 _ ?side1 ?side2 A1.out).mono ?_); (case side1 => exact Kd.V_nil _ _ _ _ _); (case side2 => exact Kd.V_nil _ _ _ _ _); rintro e w12 ⟨v141, rfl, ho0, hb⟩; refine ⟨_, rfl, ?_⟩; have n0_ := Aside0.mk (Kd.V_lower (Kd.V_mono (ok' := fun k_ => True) ho0 (fun k_ hk_ => trivial)) (below_size (by repeat (first | (with_reducible first | exact HB.out | apply below_alloc | apply pw_below_drewN | apply below_drew1) | exact HB.out)))); have n1_ := Aside0.mk (below_step (by repeat (first | (with_reducible first | exact HB.out | apply below_alloc | apply pw_below_drewN | apply below_drew1) | exact HB.out)) hb); clear HB; have HO142 := n0_; have HB := n1_; clear n0_ n1_; (try clear hb); (try clear hb2); (try clear hk); (try clear hi); (try clear ho0)) | ((with_reducible refine gate_callee (f := 14) rfl ?_); refine goesL_ (some 11) rfl rfl Try.func14 (by kernel_rfl) rfl #[.int .i64 2008] rfl (by (try simp only [List.map_toArray, List.map_cons, List.map_nil]); first | done | rfl | (simp only [List.length_drop, List.length_take]; rfl)) ?_; (with_reducible refine (root_Root.calls 2008 t144 t145 _ A2.out).mono ?_); rintro e w' ⟨rfl, ⟨nd, rfl⟩⟩; refine ⟨_, rfl, ?_⟩; obtain ⟨Ao13, co13, eo13⟩ := Kd.V_slice HO142.out; subst eo13))
        go_ret
        exact ⟨by first | rfl | (simp [errW_none, errW_some] <;> rfl) | (simp [*, errW_none, errW_some] <;> rfl), by repeat (first | (with_reducible first | exact HB.out | apply below_alloc | apply pw_below_drewN | apply below_drew1) | exact HB.out)⟩
    · rw [if_neg c4] at H
      have c4b0 : (t145 == 0) = false := beq_eq_false_iff_ne.mpr c4
      have c4b1 : (t145 != 0) = true := bne_iff_ne.mpr c4
      obtain rfl := Option.some.inj H
      go_enter Try.func13, Try.ntmps13
      go_wp2_with (first | ((with_reducible refine gate_callee (f := 17) rfl ?_); refine goesL_ (some 7) rfl rfl Try.func17 (by kernel_rfl) rfl #[.slice none 0 0, .agg #[.int .i64 2008, .int .i64 3, .slice none 0 0]] rfl (by (try simp only [List.map_toArray, List.map_cons, List.map_nil]); first | done | rfl | (simp only [List.length_drop, List.length_take]; rfl)) ?_; (refine (root_Set.calls (fun k_ => False) _ _ ([] : List (S33)) 2008 3 (fun k_ => False) _ _ ([] : List Int) t140 t143 _ ?side1 ?side2 A1.out).mono ?_); (case side1 => exact Kd.V_nil _ _ _ _ _); (case side2 => exact Kd.V_nil _ _ _ _ _); rintro e w14 ⟨v141, rfl, ho0, hb⟩; refine ⟨_, rfl, ?_⟩; have n0_ := Aside0.mk (Kd.V_lower (Kd.V_mono (ok' := fun k_ => True) ho0 (fun k_ hk_ => trivial)) (below_size (by repeat (first | (with_reducible first | exact HB.out | apply below_alloc | apply pw_below_drewN | apply below_drew1) | exact HB.out)))); have n1_ := Aside0.mk (below_step (by repeat (first | (with_reducible first | exact HB.out | apply below_alloc | apply pw_below_drewN | apply below_drew1) | exact HB.out)) hb); clear HB; have HO142 := n0_; have HB := n1_; clear n0_ n1_; (try clear hb); (try clear hb2); (try clear hk); (try clear hi); (try clear ho0)) | ((with_reducible refine gate_callee (f := 14) rfl ?_); refine goesL_ (some 11) rfl rfl Try.func14 (by kernel_rfl) rfl #[.int .i64 2008] rfl (by (try simp only [List.map_toArray, List.map_cons, List.map_nil]); first | done | rfl | (simp only [List.length_drop, List.length_take]; rfl)) ?_; (with_reducible refine (root_Root.calls 2008 t144 t145 _ A2.out).mono ?_); rintro e w' ⟨rfl, ⟨nd, rfl⟩⟩; refine ⟨_, rfl, ?_⟩))
      go_ret
      exact ⟨by first | rfl | (simp [errW_none, errW_some] <;> rfl) | (simp [*, errW_none, errW_some] <;> rfl), by repeat (first | (with_reducible first | exact HB.out | apply below_alloc | apply pw_below_drewN | apply below_drew1) | exact HB.out)⟩
  · rw [if_neg c3] at H
    have c3b0 : (t143 == 0) = false := beq_eq_false_iff_ne.mpr c3
    have c3b1 : (t143 != 0) = true := bne_iff_ne.mpr c3
    obtain rfl := Option.some.inj H
    go_enter Try.func13, Try.ntmps13
    go_wp2_with (first | ((with_reducible refine gate_callee (f := 17) rfl ?_); refine goesL_ (some 7) rfl rfl Try.func17 (by kernel_rfl) rfl #[.slice none 0 0, .agg #[.int .i64 2008, .int .i64 3, .slice none 0 0]] rfl (by (try simp only [List.map_toArray, List.map_cons, List.map_nil]); first | done | rfl | (simp only [List.length_drop, List.length_take]; rfl)) ?_; (refine (root_Set.calls (fun k_ => False) _ _ ([] : List (S33)) 2008 3 (fun k_ => False) _ _ ([] : List Int) t140 t143 _ ?side1 ?side2 A1.out).mono ?_); (case side1 => exact Kd.V_nil _ _ _ _ _); (case side2 => exact Kd.V_nil _ _ _ _ _); rintro e w15 ⟨v141, rfl, ho0, hb⟩; refine ⟨_, rfl, ?_⟩; have n0_ := Aside0.mk (Kd.V_lower (Kd.V_mono (ok' := fun k_ => True) ho0 (fun k_ hk_ => trivial)) (below_size (by repeat (first | (with_reducible first | exact HB.out | apply below_alloc | apply pw_below_drewN | apply below_drew1) | exact HB.out)))); have n1_ := Aside0.mk (below_step (by repeat (first | (with_reducible first | exact HB.out | apply below_alloc | apply pw_below_drewN | apply below_drew1) | exact HB.out)) hb); clear HB; have HO142 := n0_; have HB := n1_; clear n0_ n1_; (try clear hb); (try clear hb2); (try clear hk); (try clear hi); (try clear ho0)) | ((with_reducible refine gate_callee (f := 14) rfl ?_); refine goesL_ (some 11) rfl rfl Try.func14 (by kernel_rfl) rfl #[.int .i64 2008] rfl (by (try simp only [List.map_toArray, List.map_cons, List.map_nil]); first | done | rfl | (simp only [List.length_drop, List.length_take]; rfl)) ?_; (with_reducible refine (root_Root.calls 2008 t144 t145 _ A2.out).mono ?_); rintro e w' ⟨rfl, ⟨nd, rfl⟩⟩; refine ⟨_, rfl, ?_⟩))
    go_ret
    exact ⟨by first | rfl | (simp [errW_none, errW_some] <;> rfl) | (simp [*, errW_none, errW_some] <;> rfl), by repeat (first | (with_reducible first | exact HB.out | apply below_alloc | apply pw_below_drewN | apply below_drew1) | exact HB.out)⟩

end Go.Proofs.Ytnjnjajgpkmfhaa.PX

/-
  The plain side of layer 9: what a table is, told of the printed functions; the addresses under a root.
-/
namespace Go.Proofs.Ytnjnjajgpkmfhaa.PX
open Go.RowKit Go.Proofs.YtnjnjajgpkmfhaaW.PrintWords Go.Proofs.YtnjnjajgpkmfhaaW.PrintLast Go.Proofs.YtnjnjajgpkmfhaaW.PrintMore
abbrev Sp := S33
theorem wrap_id {x : Int} (h1 : -9223372036854775808 ≤ x) (h2 : x ≤ 9223372036854775807) : wrap64 x = x := by unfold wrap64; omega
theorem rd_sp {l : List Sp} {i : Nat} {x : Sp} (h : l[i]? = some x) : rd_T33 l (i : Int) = x := by
  unfold rd_T33
  rw [Int.toNat_natCast, List.getD_eq_getElem?_getD, h]
  rfl
def cut70 (s : Sp) : Sp := ⟨s.f0, s.f1, s.f2.take 70⟩
def fewF (l : List Sp) : List Sp := (l.take 70).map cut70
theorem few_l0 (l : List Sp) (hl : l.length ≤ 1000) : ∀ (d i : Nat) (k : Nat) (out : List Sp), i + d = l.length → d < k → out.length ≤ 1000 + i → deadboltlaw09_few.l0 k out l (l.length : Int) (i : Int) = some (out ++ (l.drop i).map cut70) := by
  intro d
  induction d with
  | zero =>
    intro i k out h1 h2 h3
    obtain ⟨k, rfl⟩ : ∃ q, k = q + 1 := ⟨k - 1, by omega⟩
    rw [deadboltlaw09_few.l0, if_neg (by omega), List.drop_eq_nil_of_le (by omega)]
    simp
  | succ d ih =>
    intro i k out h1 h2 h3
    obtain ⟨k, rfl⟩ : ∃ q, k = q + 1 := ⟨k - 1, by omega⟩
    have hx : l[i]? = some l[i] := List.getElem?_eq_getElem (by omega)
    rw [deadboltlaw09_few.l0, if_pos (by omega), if_pos (by omega), if_pos (by omega), rd_sp hx]
    unfold deadboltlaw09_cut.f
    simp only [Option.bind_some]
    rw [if_pos (by omega), wrap_id (by omega) (by omega), show (i : Int) + 1 = ((i + 1 : Nat) : Int) by omega, ih (i + 1) k _ (by omega) (by omega) (by simp; omega)]
    rw [List.drop_eq_getElem_cons (show i < l.length by omega), List.map_cons, List.append_assoc]
    rfl
theorem few_f (l : List Sp) (k : Nat) (hk : 80 ≤ k) : deadboltlaw09_few.f k l = some (fewF l) := by
  unfold deadboltlaw09_few.f
  have hm : mn (l.length : Int) 70 = ((min l.length 70 : Nat) : Int) := by unfold mn; split <;> omega
  rw [hm, if_pos (by omega), if_pos (by omega), Int.toNat_natCast]
  simp only [Option.bind_some]
  have hl : (l.take (min l.length 70)).length ≤ 70 := by simp; omega
  have e : l.take (min l.length 70) = l.take 70 := by rw [Nat.min_comm, ← List.take_eq_take_min]
  rw [e] at hl ⊢
  have := few_l0 (l.take 70) (by omega) (l.take 70).length 0 k [] (by omega) (by omega) (by simp)
  rw [List.drop_zero, List.nil_append] at this
  exact this
/-- May a spot be. -/
def SpotP (s : Sp) : Prop := (0 ≤ s.f0 ∧ s.f0 ≤ 4294967295) ∧ (0 ≤ s.f1 ∧ s.f1 ≤ 2147483647) ∧ lineB s.f2 = true ∧ (s.f1 = 0 ∨ s.f2 = [])
theorem spot_f (s : Sp) (hl : s.f2.length ≤ 1000) : ∃ b, root_isSpot.f s.f0 s.f1 s.f2 = some b ∧ (b = true ↔ SpotP s) := by
  unfold root_isSpot.f
  rw [isAddr_f]
  simp only [Option.bind_some]
  unfold line_Right.f
  rw [if_pos hl]
  simp only [Option.bind_some]
  by_cases h0 : isAddrB s.f0 = true
  · have h0' : 0 ≤ s.f0 ∧ s.f0 ≤ 4294967295 := by simpa [isAddrB] using h0
    rw [if_pos h0]
    by_cases h1 : s.f1 ≥ 0
    · rw [if_pos h1]
      by_cases h2 : s.f1 ≤ 2147483647
      · rw [if_pos h2]
        by_cases h3 : lineB s.f2 = true
        · rw [if_pos h3]
          by_cases h4 : s.f1 = 0
          · rw [if_pos h4]
            exact ⟨true, rfl, by simp [SpotP, h0', h3, h4]⟩
          · rw [if_neg h4]
            refine ⟨_, rfl, ?_⟩
            have h1' : 0 ≤ s.f1 := h1
            simp only [SpotP, h0', h1', h2, h3, h4, true_and, and_true, false_or]
            cases s.f2 <;> simp; omega
        · rw [if_neg h3]
          exact ⟨false, rfl, by simp [SpotP, h3]⟩
      · rw [if_neg h2]
        exact ⟨false, rfl, by simp [SpotP, h2]⟩
    · rw [if_neg h1]
      exact ⟨false, rfl, by simp only [SpotP]; constructor <;> intro h <;> first | (cases h; done) | omega⟩
  · rw [if_neg h0]
    refine ⟨false, rfl, ?_⟩
    simp only [isAddrB, decide_eq_true_eq] at h0
    constructor
    · intro h; cases h
    · intro h; exact absurd h.1 h0
def EmptyP (s : Sp) : Prop := s.f1 = 0 ∧ s.f2 = []
theorem empty_f (s : Sp) : ∃ b, root_isEmpty.f s.f0 s.f1 s.f2 = some b ∧ (b = true ↔ EmptyP s) := by
  unfold root_isEmpty.f EmptyP
  by_cases h : s.f1 = 0
  · rw [if_pos h]
    refine ⟨_, rfl, ?_⟩
    cases s.f2 <;> simp [h]; omega
  · rw [if_neg h]
    exact ⟨false, rfl, by simp [h]⟩
/-- Which of two addresses comes first. -/
def LessP (a b : Int) : Prop := rootI a < rootI b ∨ rootI a = rootI b ∧ a < b
theorem rootI_bd (a : Int) : 0 ≤ rootI a ∧ rootI a < 251 := by
  unfold rootI
  split
  · rename_i h
    rw [Int.tmod_eq_emod_of_nonneg (by omega)]
    omega
  · omega
theorem order_less {a b : Int} (ha : 0 ≤ a ∧ a ≤ 4294967295) (hb : 0 ≤ b ∧ b ≤ 4294967295) : (orderI a b < 0 ↔ LessP a b) ∧ (orderI a b > 0 ↔ LessP b a) := by
  obtain ⟨e1, h1⟩ := root_f a
  obtain ⟨e2, h2⟩ := root_f b
  have p1 := rootI_bd a
  have p2 := rootI_bd b
  unfold orderI root_order.f LessP
  rw [h1, h2]
  simp only [Option.bind_some]
  split
  · rename_i h
    simp only [Option.getD_some]
    rw [wrap_id (by omega) (by omega)]
    omega
  · rename_i h
    simp only [Option.getD_some]
    rw [wrap_id (by omega) (by omega)]
    omega
/-- A table that may be. -/
structure Tab (l : List Sp) : Prop where
  spot : ∀ s ∈ l, SpotP s ∧ ¬ EmptyP s
  up : (l.map (·.f0)).Pairwise LessP
  few : l.length ≤ 64
theorem less_trans {a b c : Int} (h : LessP a b) (k : LessP b c) : LessP a c := by unfold LessP at *; omega
theorem right_l0 (l : List Sp) (hl : l.length ≤ 1000) (h2 : ∀ s ∈ l, s.f2.length ≤ 1000) : ∀ (d i : Nat) (k : Nat), i + d = l.length → d < k → (∀ j s, j < i → l[j]? = some s → SpotP s ∧ ¬ EmptyP s) → ((l.take i).map (·.f0)).Pairwise LessP →
    ∃ b, root_Right.l0 k l l (l.length : Int) (i : Int) = some b ∧ (b = true ↔ Tab l) := by
  intro d
  induction d with
  | zero =>
    intro i k h1 hk hs hp
    obtain ⟨k, rfl⟩ : ∃ q, k = q + 1 := ⟨k - 1, by omega⟩
    rw [root_Right.l0, if_neg (by omega)]
    refine ⟨_, rfl, ?_⟩
    rw [List.take_of_length_le (by omega)] at hp
    have hs' : ∀ s ∈ l, SpotP s ∧ ¬ EmptyP s := fun s h => by
      obtain ⟨j, hj, rfl⟩ := List.mem_iff_getElem.1 h
      exact hs j _ (by omega) (List.getElem?_eq_getElem hj)
    constructor
    · intro h
      exact ⟨hs', hp, by have := of_decide_eq_true h; omega⟩
    · intro h
      exact decide_eq_true (by have := h.few; omega)
  | succ d ih =>
    intro i k h1 hk hs hp
    obtain ⟨k, rfl⟩ : ∃ q, k = q + 1 := ⟨k - 1, by omega⟩
    have hx : l[i]? = some l[i] := List.getElem?_eq_getElem (by omega)
    have hmem : l[i] ∈ l := List.getElem_mem (by omega)
    obtain ⟨sb, e1, e2⟩ := spot_f l[i] (h2 _ hmem)
    obtain ⟨eb, e3, e4⟩ := empty_f l[i]
    rw [root_Right.l0, if_pos (by omega), if_pos (by omega), if_pos (by omega), rd_sp hx, e1]
    simp only [Option.bind_some]
    cases sb with
    | false =>
      refine ⟨false, by simp, ?_⟩
      constructor
      · intro h; cases h
      · intro h
        have := e2.2 (h.spot _ hmem).1
        cases this
    | true =>
      rw [if_pos rfl, e3]
      simp only [Option.bind_some]
      cases eb with
      | true =>
        refine ⟨false, by simp, ?_⟩
        constructor
        · intro h; cases h
        · intro h
          exact absurd (e4.1 rfl) (h.spot _ hmem).2
      | false =>
        rw [if_neg (by simp)]
        have hS := e2.1 rfl
        have hE : ¬ EmptyP l[i] := fun h => by have := e4.2 h; cases this
        have hs2 : ∀ j s, j < i + 1 → l[j]? = some s → SpotP s ∧ ¬ EmptyP s := fun j s hj hjs => by
          rcases Nat.lt_or_eq_of_le (Nat.le_of_lt_succ hj) with h | h
          · exact hs j s h hjs
          · rw [h, hx] at hjs
            obtain rfl := Option.some.inj hjs
            exact ⟨hS, hE⟩
        rcases Nat.eq_zero_or_pos i with h0 | h0
        · subst h0
          rw [if_neg (by simp)]
          rw [wrap_id (by omega) (by omega), show (((0 : Nat) : Int) + 1) = ((0 + 1 : Nat) : Int) by omega]
          refine ih (0 + 1) k (by omega) (by omega) hs2 ?_
          rw [List.take_add_one, hx]
          simp
        · have hy : l[i - 1]? = some l[i - 1] := List.getElem?_eq_getElem (by omega)
          have hyS := (hs (i - 1) _ (by omega) hy).1
          rw [if_pos (by omega), wrap_id (by omega) (by omega), show (i : Int) - 1 = ((i - 1 : Nat) : Int) by omega, if_pos (by omega), if_pos (by omega), rd_sp hy, order_is]
          simp only [Option.bind_some]
          have hord := (order_less hyS.1 hS.1).1
          by_cases hlt : orderI l[i - 1].f0 l[i].f0 ≥ 0
          · rw [if_pos hlt]
            refine ⟨false, rfl, ?_⟩
            constructor
            · intro h; cases h
            · intro h
              have h3 := List.pairwise_iff_getElem.1 h.up (i - 1) i (by simp; omega) (by simp; omega) (by omega)
              simp only [List.getElem_map] at h3
              have := hord.2 h3
              omega
          · rw [if_neg hlt, wrap_id (by omega) (by omega), show (i : Int) + 1 = ((i + 1 : Nat) : Int) by omega]
            refine ih (i + 1) k (by omega) (by omega) hs2 ?_
            have hL := hord.1 (by omega)
            rw [List.take_add_one, hx, List.map_append]
            refine List.pairwise_append.2 ⟨hp, by simp, fun a ha b hb => ?_⟩
            simp at hb
            subst hb
            obtain ⟨j, hj, rfl⟩ := List.mem_iff_getElem.1 ha
            simp only [List.length_map, List.length_take] at hj
            simp only [List.getElem_map, List.getElem_take]
            rcases Nat.lt_or_eq_of_le (show j ≤ i - 1 by omega) with h | h
            · have h3 := List.pairwise_iff_getElem.1 hp j (i - 1) (by simp; omega) (by simp; omega) h
              simp only [List.getElem_map, List.getElem_take] at h3
              exact less_trans h3 hL
            · subst h
              exact hL
theorem right_f (l : List Sp) (hl : l.length ≤ 1000) (h2 : ∀ s ∈ l, s.f2.length ≤ 1000) (k : Nat) (hk : l.length < k) : ∃ b, root_Right.f k l = some b ∧ (b = true ↔ Tab l) :=
  right_l0 l hl h2 l.length 0 k (by omega) hk (fun j s hj => absurd hj (by omega)) (by simp)
end Go.Proofs.Ytnjnjajgpkmfhaa.PX
