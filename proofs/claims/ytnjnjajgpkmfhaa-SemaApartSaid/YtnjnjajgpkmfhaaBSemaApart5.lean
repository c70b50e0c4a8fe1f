/-
  Texts of this claim, one behind the other: PXx31, PXx32, PXx33, PXx34, PSema, PXx35, PXx43, PSemaOrder, CQueued, PXx37, PXx39, PXx40, PXx38, PXx36, PSemaRef, PXx42, PSemaApart, OpensP. All are cut down to the theorems that the claim leans on; those named W.. and PXx.. were written by the kit's print.
-/
import Derived.Test.YtnjnjajgpkmfhaaBSemaApart4
namespace Go.Proofs.Ytnjnjajgpkmfhaa.PX
open Go.RowKit Go.Proofs.YtnjnjajgpkmfhaaW.PrintWords Go.Proofs.YtnjnjajgpkmfhaaW.PrintLast Go.Proofs.YtnjnjajgpkmfhaaW.PrintMore
attribute [local go_sem] max2_int min2_int max_two min_two max_three min_three max_four min_four   -- for this text's walks alone
set_option linter.unusedVariables false
set_option linter.unusedSimpArgs false

/-! ### sema_Acquire: function 30 -/
def sema_Acquire.j0 : Nat → List (S33) → Int → Bool → Bool → Int → Int → List Int → Option ((List (S33)) × Bool × Int)
 | 0, _, _, _, _, _, _, _ => none
 | k + 1, x0, x2, x3, x25, x374000, x374001, x374002 => if x25 = true then (some (([] : List (S33)), false, 1)) else ((slices_Contains_int_int.f k x374002 x2).bind fun t374 => (if t374 = true then (some (([] : List (S33)), false, 7)) else (if x374001 > 0 then ((root_Set.f x0 x374000 (wrap64 (x374001 - 1)) x374002).bind fun bt375 => (if bt375.2 = 0 then (some (bt375.1, decide (x374001 > 0), 0)) else (some (([] : List (S33)), false, bt375.2)))) else ((line_Push.f k x374002 x2 x3).bind fun bt379 => (if bt379.2 = 0 then ((root_Set.f x0 x374000 x374001 bt379.1).bind fun bt383 => (if bt383.2 = 0 then (some (bt383.1, decide (x374001 > 0), 0)) else (some (([] : List (S33)), false, bt383.2)))) else (some (([] : List (S33)), false, bt379.2)))))))
def sema_Acquire.f (k : Nat) (l0 : List (S33)) (a1 : Int) (a2 : Int) (a3 : Bool) : Option ((List (S33)) × Bool × Int) := (root_Get.f l0 a1).bind fun bt367 => (if bt367.2.2.2 = 0 then (sema_Acquire.j0 k l0 a2 a3 (decide (a2 < 0)) bt367.1 bt367.2.1 bt367.2.2.1) else (sema_Acquire.j0 k l0 a2 a3 true bt367.1 bt367.2.1 bt367.2.2.1))
theorem sema_Acquire.mono_l : ∀ k, (∀ y0 y1 y2 y3 y4 y5 y6, LeO (sema_Acquire.j0 k y0 y1 y2 y3 y4 y5 y6) (sema_Acquire.j0 (k + 1) y0 y1 y2 y3 y4 y5 y6))
 | 0 => fun _ _ _ _ _ _ _ r h => by simp [sema_Acquire.j0] at h
 | k + 1 => by
  have ih0 := sema_Acquire.mono_l k
  ·intro y0 y1 y2 y3 y4 y5 y6
   unfold sema_Acquire.j0
   repeat' first
   | (with_reducible exact ih0 _ _ _ _ _ _ _)
   | (with_reducible exact line_Push.mono _ _ _ _)
   | (with_reducible exact slices_Contains_int_int.mono _ _ _)
   | (with_reducible exact LeO.refl _)
   | (with_reducible exact LeO.none _)
   | (with_reducible refine LeO.ite ?_ ?_)
   | (with_reducible refine LeO.bind ?_ (fun _ => ?_))
   | exact ih0 _ _ _ _ _ _ _
   | exact line_Push.mono _ _ _ _
   | exact slices_Contains_int_int.mono _ _ _
   | exact LeO.none _
   | refine LeO.ite ?_ ?_
   | refine LeO.bind ?_ (fun _ => ?_)
theorem sema_Acquire.mono : ∀ a0 a1 a2 a3 k, LeO (sema_Acquire.f k a0 a1 a2 a3) (sema_Acquire.f (k + 1) a0 a1 a2 a3) := by
 intro a0 a1 a2 a3 k
 have ih0 := sema_Acquire.mono_l k
 unfold sema_Acquire.f
 repeat' first
   | (with_reducible exact ih0 _ _ _ _ _ _ _)
   | (with_reducible exact line_Push.mono _ _ _ _)
   | (with_reducible exact slices_Contains_int_int.mono _ _ _)
   | (with_reducible exact LeO.refl _)
   | (with_reducible exact LeO.none _)
   | (with_reducible refine LeO.ite ?_ ?_)
   | (with_reducible refine LeO.bind ?_ (fun _ => ?_))
   | exact ih0 _ _ _ _ _ _ _
   | exact line_Push.mono _ _ _ _
   | exact slices_Contains_int_int.mono _ _ _
   | exact LeO.none _
   | refine LeO.ite ?_ ?_
   | refine LeO.bind ?_ (fun _ => ?_)
set_option maxHeartbeats 8000000 in
set_option maxRecDepth 100000 in
theorem sema_Acquire.calls (k : Nat) (P0_ : Nat → Prop) (A0 : Option Addr) (c0 : Nat) (l0 : List (S33)) (a1 : Int) (a2 : Int) (a3 : Bool) (r1 : List (S33)) (r2 : Bool) (r3 : Int) (w : World) (hs0 : Kd.V k33 33 w w.heap.size (fun k_ => P0_ k_) (.slice A0 l0.length c0) l0) (h : sema_Acquire.f k l0 a1 a2 a3 = some (r1, r2, r3)) :
  Calls Try.prog 30 #[.slice A0 l0.length c0, .int .i64 a1, .int .i64 a2, .bool a3] w fun e w' => ∃ v0_ : Value, e = .returned (.tuple #[v0_, .bool r2, .int .i64 r3]) ∧ Kd.V k33 33 w' w.heap.size (fun k_ => (P0_ k_ ∨ w.heap.size ≤ k_)) v0_ r1 ∧ Below w.heap.size w w' := by
 have hu33 := Try.underlying33
 have HO0 := Aside0.mk (show Kd.V k33 33 w w.heap.size (fun k_ => (P0_ k_ ∨ w.heap.size ≤ k_)) (.slice A0 l0.length c0) l0 from Kd.V_mono hs0 (fun k_ hk => .inl hk))
 have HB := Aside0.mk (Below.refl w.heap.size w)
 have H : ((root_Get.f l0 a1).bind fun bt367 => (if bt367.2.2.2 = 0 then (sema_Acquire.j0 k l0 a2 a3 (decide (a2 < 0)) bt367.1 bt367.2.1 bt367.2.2.1) else (sema_Acquire.j0 k l0 a2 a3 true bt367.1 bt367.2.1 bt367.2.2.1))) = some (r1, r2, r3) := h
 clear h
 replace H := Option.bind_eq_some_iff.mp H
 obtain ⟨⟨t367, t368, t369, t372⟩, A50, H⟩ := H
 replace H : (if t372 = 0 then (sema_Acquire.j0 k l0 a2 a3 (decide (a2 < 0)) t367 t368 t369) else (sema_Acquire.j0 k l0 a2 a3 true t367 t368 t369)) = some (r1, r2, r3) := H
 have A5 := Aside0.mk A50
 clear A50
 have HC6 := Aside0.mk H
 clear H
 go_enter Try.func30, Try.ntmps30
 go_upto_region 2 with (first | ((with_reducible refine gate_callee (f := 16) rfl ?_); refine goesL_ (some 17) rfl rfl Try.func16 (by kernel_rfl) rfl #[.slice A0 l0.length c0, .int .i64 a1] rfl zP ?_; (with_reducible refine (root_Get.calls (fun k_ => (P0_ k_ ∨ w.heap.size ≤ k_)) _ _ l0 a1 t367 t368 t369 t372 _ ?side1 A5.out).mono ?_); (case side1 => exact HO0.out); rintro e w7 ⟨v370, rfl, ho0, hb⟩; refine ⟨_, rfl, ?_⟩; have n0_ := Aside0.mk (Kd.V_below (zV HO0) hb); have n1_ := Aside0.mk (Kd.V_lower (Kd.V_mono (ok' := fun k_ => (P0_ k_ ∨ w.heap.size ≤ k_)) ho0 (fun k_ hk_ => Or.elim hk_ (fun hs_ => hs_) (fun hn_ => (.inr (Nat.le_trans (below_size (zB HB)) hn_))))) (below_size (zB HB))); have n2_ := Aside0.mk (below_step (zB HB) hb); clear HO0; clear HB; have HO0 := n0_; have HO371 := n1_; have HB := n2_; clear n0_ n1_ n2_; (try clear hb); (try clear hb2); (try clear hk); (try clear hi); (try clear ho0)) | ((with_reducible refine gate_dst (N := 11) rfl ?_); refine box_event ?hg (N := 11) ?hd (cs := #[.int .i64 0, .int .i64 0, .slice none 0 0]) (t := 33) ?hr ?_; (case hd => rfl); (case hg => rfl); (case hr => first | (go_simp; done) | (go_simp; rfl)); intro gb373 hg w8 hbox hb; have n0_ := Aside0.mk (Kd.V_below (Kd.V_elderB (zV HO0) gb373 (Nat.le_of_eq hg.symm)) hb); have n1_ := Aside0.mk (Kd.V_below (Kd.V_elderB (zV HO371) gb373 (Nat.le_of_eq hg.symm)) hb); have n2_ := Aside0.mk (below_step (zB HB) hb); have n3_ := Aside0.mk (hbox); have n4_ := Aside0.mk ((by rw [hg]; exact (below_size (zB HB)) : w.heap.size ≤ gb373)); have n5_ := Aside0.mk ((by rw [hg]; exact (below_size (zB HB)) : w.heap.size ≤ gb373)); clear HO0; clear HO371; clear HB; have HO0 := n0_; have HO371 := n1_; have HB := n2_; have BK373 := n3_; have GW373 := n4_; have GE373 := n5_; clear n0_ n1_ n2_ n3_ n4_ n5_; clear hb hbox hg; have hcz9_0 : w8.cell? ⟨gb373, 0, none⟩ = some (.int .i64 0) := (blk_cell BK373.out 0).trans rfl; have hcz9_1 : w8.cell? ⟨gb373, 1, none⟩ = some (.int .i64 0) := (blk_cell BK373.out 1).trans rfl; have hcz9_2 : w8.cell? ⟨gb373, 2, none⟩ = some (.slice none 0 0) := (blk_cell BK373.out 2).trans rfl; have hfz9_0 := blk_frozen BK373.out 0; have hfz9_1 := blk_frozen BK373.out 1; have hfz9_2 := blk_frozen BK373.out 2; obtain ⟨Ao10, co10, eo10⟩ := Kd.V_slice HO371.out; subst eo10))
 (try simp only [Act.put, List.setIfInBounds_toArray, List.set_cons_zero, List.set_cons_succ])
 go_cut [25] (fun v25 wc => ∃ (kq : Nat) (x25_5 : Bool), v25 = .bool x25_5 ∧ Aside0 (sema_Acquire.j0 kq l0 a2 a3 x25_5 t367 t368 t369 = some (r1, r2, r3)) ∧ Aside0 (kq ≤ k) ∧ Aside0 (Kd.V k33 33 wc w.heap.size (fun k_ => (P0_ k_ ∨ w.heap.size ≤ k_) ∧ k_ ≠ gb373) (.slice A0 l0.length c0) l0) ∧ Aside0 (Kd.V (Kd.int .i64) 3 wc w.heap.size (fun k_ => (P0_ k_ ∨ w.heap.size ≤ k_) ∧ k_ ≠ gb373) (.slice Ao10 t369.length co10) t369) ∧ Aside0 (wc.heap[gb373]? = some (.cells #[.int .i64 t367, .int .i64 t368, (.slice Ao10 t369.length co10)] 33 (0, 0))) ∧ Aside0 (Below w.heap.size w wc))
 case first =>
  have H := HC6.out
  clear HC6
  by_cases c11 : t372 = 0
  ·rw [if_pos c11] at H
   have c11b0 : (t372 == 0) = true := beq_iff_eq.mpr c11
   have c11b1 : (t372 != 0) = false := bne_eq_false_iff_eq.mpr c11
   clear c11
   (first | rw [c11b0] | (simp only [i64_w, i32_w]; rw [c11b0]) | skip)
   have H' := Aside0.mk H
   clear H
   go_wp2
   go_meet
   case rel => exact ⟨_, (decide (a2 < 0)), (by first | rfl | (simp; done) | (simp [*]; done)), H', ⟨by first | omega | exact Nat.le_refl _⟩, ⟨by (with_reducible repeat (first | apply Kd.V_alloc | apply Kd.V_drewN | apply Kd.V_drew)); exact Kd.V_mono (Kd.V_far (p := ⟨gb373, 2, none⟩) (Kd.V_far (p := ⟨gb373, 1, none⟩) (Kd.V_far (p := ⟨gb373, 0, none⟩) (Kd.V_mono HO0.out (fun k_ hk => (⟨hk, hk.2⟩ : _ ∧ k_ ≠ gb373))) (fun _ hk => hk.2) (.int .i64 t367)) (fun _ hk => hk.2) (.int .i64 t368)) (fun _ hk => hk.2) (.slice Ao10 t369.length co10)) (fun _ hk => ⟨hk.1.1, hk.1.2⟩)⟩, ⟨by (with_reducible repeat (first | apply Kd.V_alloc | apply Kd.V_drewN | apply Kd.V_drew)); exact Kd.V_mono (Kd.V_far (p := ⟨gb373, 2, none⟩) (Kd.V_far (p := ⟨gb373, 1, none⟩) (Kd.V_far (p := ⟨gb373, 0, none⟩) (Kd.V_mono HO371.out (fun k_ hk => (⟨hk, hk.2⟩ : _ ∧ k_ ≠ gb373))) (fun _ hk => hk.2) (.int .i64 t367)) (fun _ hk => hk.2) (.int .i64 t368)) (fun _ hk => hk.2) (.slice Ao10 t369.length co10)) (fun _ hk => ⟨hk.1.1, hk.1.2⟩)⟩, ⟨by (with_reducible repeat (first | refine blk_drewN ?_ _ | refine blk_drew ?_ | refine blk_alloc ?_ _)); refine blk_put (cs := #[.int .i64 t367, .int .i64 t368, .slice none 0 0]) ?_ 2 _ rfl; (with_reducible repeat (first | refine blk_drewN ?_ _ | refine blk_drew ?_ | refine blk_alloc ?_ _)); refine blk_put (cs := #[.int .i64 t367, .int .i64 0, .slice none 0 0]) ?_ 1 _ rfl; (with_reducible repeat (first | refine blk_drewN ?_ _ | refine blk_drew ?_ | refine blk_alloc ?_ _)); refine blk_put (cs := #[.int .i64 0, .int .i64 0, .slice none 0 0]) ?_ 0 _ rfl; (with_reducible repeat (first | refine blk_drewN ?_ _ | refine blk_drew ?_ | refine blk_alloc ?_ _)); exact BK373.out⟩, ⟨zB1 HB GE373⟩⟩
  ·rw [if_neg c11] at H
   have c11b0 : (t372 == 0) = false := beq_eq_false_iff_ne.mpr c11
   have c11b1 : (t372 != 0) = true := bne_iff_ne.mpr c11
   (first | rw [c11b0] | (simp only [i64_w, i32_w]; rw [c11b0]) | skip)
   have H' := Aside0.mk H
   clear H
   go_wp2
   go_meet
   case rel => exact ⟨_, (true), (by first | rfl | (simp; done) | (simp [*]; done)), H', ⟨by first | omega | exact Nat.le_refl _⟩, ⟨by (with_reducible repeat (first | apply Kd.V_alloc | apply Kd.V_drewN | apply Kd.V_drew)); exact Kd.V_mono (Kd.V_far (p := ⟨gb373, 2, none⟩) (Kd.V_far (p := ⟨gb373, 1, none⟩) (Kd.V_far (p := ⟨gb373, 0, none⟩) (Kd.V_mono HO0.out (fun k_ hk => (⟨hk, hk.2⟩ : _ ∧ k_ ≠ gb373))) (fun _ hk => hk.2) (.int .i64 t367)) (fun _ hk => hk.2) (.int .i64 t368)) (fun _ hk => hk.2) (.slice Ao10 t369.length co10)) (fun _ hk => ⟨hk.1.1, hk.1.2⟩)⟩, ⟨by (with_reducible repeat (first | apply Kd.V_alloc | apply Kd.V_drewN | apply Kd.V_drew)); exact Kd.V_mono (Kd.V_far (p := ⟨gb373, 2, none⟩) (Kd.V_far (p := ⟨gb373, 1, none⟩) (Kd.V_far (p := ⟨gb373, 0, none⟩) (Kd.V_mono HO371.out (fun k_ hk => (⟨hk, hk.2⟩ : _ ∧ k_ ≠ gb373))) (fun _ hk => hk.2) (.int .i64 t367)) (fun _ hk => hk.2) (.int .i64 t368)) (fun _ hk => hk.2) (.slice Ao10 t369.length co10)) (fun _ hk => ⟨hk.1.1, hk.1.2⟩)⟩, ⟨by (with_reducible repeat (first | refine blk_drewN ?_ _ | refine blk_drew ?_ | refine blk_alloc ?_ _)); refine blk_put (cs := #[.int .i64 t367, .int .i64 t368, .slice none 0 0]) ?_ 2 _ rfl; (with_reducible repeat (first | refine blk_drewN ?_ _ | refine blk_drew ?_ | refine blk_alloc ?_ _)); refine blk_put (cs := #[.int .i64 t367, .int .i64 0, .slice none 0 0]) ?_ 1 _ rfl; (with_reducible repeat (first | refine blk_drewN ?_ _ | refine blk_drew ?_ | refine blk_alloc ?_ _)); refine blk_put (cs := #[.int .i64 0, .int .i64 0, .slice none 0 0]) ?_ 0 _ rfl; (with_reducible repeat (first | refine blk_drewN ?_ _ | refine blk_drew ?_ | refine blk_alloc ?_ _)); exact BK373.out⟩, ⟨zB1 HB GE373⟩⟩
 case rest =>
  clear HC6
  try clear c1
  try clear p2
  try clear c3
  try clear c11
  try clear c11b0
  try clear c11b1
  try clear hcz9_0
  try clear hcz9_1
  try clear hcz9_2
  try clear hfz9_0
  try clear hfz9_1
  try clear hfz9_2
  obtain ⟨kq, x25_5, rfl, HA, HJ5, HO_0, HO_374002, BK373, HB⟩ := hcut
  cases kq with
  | zero => exact absurd HA.out (by simp [sema_Acquire.j0])
  | succ kj5 =>
   have H := HA.out
   clear HA
   simp only [sema_Acquire.j0] at H
   by_cases c12 : x25_5 = true
   ·subst c12
    have H1 : (some (([] : List (S33)), false, 1)) = some (r1, r2, r3) := by rw [if_pos rfl] at H; exact H
    clear H
    have H := H1
    clear H1
    simp only [Option.some.injEq, Prod.mk.injEq] at H
    obtain ⟨rfl, rfl, rfl⟩ := H
    go_wp2
    go_ret3
    exact ⟨_, by first | rfl | (simp [errW_none, errW_some] <;> rfl) | (simp [*, errW_none, errW_some] <;> rfl), Kd.V_mono (Kd.S_V (by first | exact Kd.S_nil _ _ _ 0 (fun k_ => w.heap.size ≤ k_) | exact Kd.S_nil _ _ _ _ _ | exact Kd.N_nil _ _ _ _ _ | exact Kd.V_nil _ _ _ _ _ | exact Kd.Q_nil _ _ _ _ _ | exact Kd.R_nil _ _ _ _ _)) (fun k_ hk => by first | exact ⟨(.inr (hk.1)), hk.2⟩ | exact (.inr (hk))), zB1 HB GE373⟩
   ·replace c12 := Bool.eq_false_iff.mpr c12
    subst c12
    have H1 : ((slices_Contains_int_int.f kj5 t369 a2).bind fun t374 => (if t374 = true then (some (([] : List (S33)), false, 7)) else (if t368 > 0 then ((root_Set.f l0 t367 (wrap64 (t368 - 1)) t369).bind fun bt375 => (if bt375.2 = 0 then (some (bt375.1, decide (t368 > 0), 0)) else (some (([] : List (S33)), false, bt375.2)))) else ((line_Push.f kj5 t369 a2 a3).bind fun bt379 => (if bt379.2 = 0 then ((root_Set.f l0 t367 t368 bt379.1).bind fun bt383 => (if bt383.2 = 0 then (some (bt383.1, decide (t368 > 0), 0)) else (some (([] : List (S33)), false, bt383.2)))) else (some (([] : List (S33)), false, bt379.2))))))) = some (r1, r2, r3) := by rw [if_neg (show ¬ (false = true) by decide)] at H; exact H
    clear H
    have H := H1
    clear H1
    replace H := Option.bind_eq_some_iff.mp H
    obtain ⟨t374, A130, H⟩ := H
    replace H : (if t374 = true then (some (([] : List (S33)), false, 7)) else (if t368 > 0 then ((root_Set.f l0 t367 (wrap64 (t368 - 1)) t369).bind fun bt375 => (if bt375.2 = 0 then (some (bt375.1, decide (t368 > 0), 0)) else (some (([] : List (S33)), false, bt375.2)))) else ((line_Push.f kj5 t369 a2 a3).bind fun bt379 => (if bt379.2 = 0 then ((root_Set.f l0 t367 t368 bt379.1).bind fun bt383 => (if bt383.2 = 0 then (some (bt383.1, decide (t368 > 0), 0)) else (some (([] : List (S33)), false, bt383.2)))) else (some (([] : List (S33)), false, bt379.2)))))) = some (r1, r2, r3) := H
    have A13 := Aside0.mk A130
    clear A130
    by_cases c14 : t374 = true
    ·subst c14
     have H1 : (some (([] : List (S33)), false, 7)) = some (r1, r2, r3) := by rw [if_pos rfl] at H; exact H
     clear H
     have H := H1
     clear H1
     simp only [Option.some.injEq, Prod.mk.injEq] at H
     obtain ⟨rfl, rfl, rfl⟩ := H
     have hcz15_0 : wc.cell? ⟨gb373, 0, none⟩ = some (.int .i64 t367) := (blk_cell BK373.out 0).trans rfl
     have hcz15_1 : wc.cell? ⟨gb373, 1, none⟩ = some (.int .i64 t368) := (blk_cell BK373.out 1).trans rfl
     have hcz15_2 : wc.cell? ⟨gb373, 2, none⟩ = some (.slice Ao10 t369.length co10) := (blk_cell BK373.out 2).trans rfl
     have hfz15_0 := blk_frozen BK373.out 0
     have hfz15_1 := blk_frozen BK373.out 1
     have hfz15_2 := blk_frozen BK373.out 2
     go_wp2_with (first | ((with_reducible refine gate_callee (f := 56) rfl ?_); refine goesL_ (some 29) rfl rfl Try.func56 (by kernel_rfl) rfl #[.slice Ao10 t369.length co10, .int .i64 a2] rfl zP ?_; (with_reducible refine (slices_Contains_int_int.calls kj5 _ _ t369 a2 true _ ?side1 ?side2 A13.out).mono ?_); (case side1 => repeat (first | exact (Kd.V_reads' HO_374002.out).2.2 | (with_reducible refine Kd.C_alloc ?_ _) | (with_reducible refine Kd.C_drewN ?_ _) | (with_reducible refine Kd.C_drew ?_))); (case side2 => exact (Kd.V_reads' HO_374002.out).2.1); rintro e w' ⟨rfl, ⟨nd, rfl⟩⟩; refine ⟨_, rfl, ?_⟩))
     go_ret3
     exact ⟨_, by first | rfl | (simp [errW_none, errW_some] <;> rfl) | (simp [*, errW_none, errW_some] <;> rfl), Kd.V_mono (Kd.S_V (by first | exact Kd.S_nil _ _ _ 0 (fun k_ => w.heap.size ≤ k_) | exact Kd.S_nil _ _ _ _ _ | exact Kd.N_nil _ _ _ _ _ | exact Kd.V_nil _ _ _ _ _ | exact Kd.Q_nil _ _ _ _ _ | exact Kd.R_nil _ _ _ _ _)) (fun k_ hk => by first | exact ⟨(.inr (hk.1)), hk.2⟩ | exact (.inr (hk))), zB1 HB GE373⟩
    ·replace c14 := Bool.eq_false_iff.mpr c14
     subst c14
     have H1 : (if t368 > 0 then ((root_Set.f l0 t367 (wrap64 (t368 - 1)) t369).bind fun bt375 => (if bt375.2 = 0 then (some (bt375.1, decide (t368 > 0), 0)) else (some (([] : List (S33)), false, bt375.2)))) else ((line_Push.f kj5 t369 a2 a3).bind fun bt379 => (if bt379.2 = 0 then ((root_Set.f l0 t367 t368 bt379.1).bind fun bt383 => (if bt383.2 = 0 then (some (bt383.1, decide (t368 > 0), 0)) else (some (([] : List (S33)), false, bt383.2)))) else (some (([] : List (S33)), false, bt379.2))))) = some (r1, r2, r3) := by rw [if_neg (show ¬ (false = true) by decide)] at H; exact H
     clear H
     have H := H1
     clear H1
     by_cases c16 : t368 > 0
     ·rw [if_pos c16] at H
      have c16b0 : decide (0 < t368) = true := decide_eq_true c16
      clear c16
      replace H := Option.bind_eq_some_iff.mp H
      obtain ⟨⟨t375, t378⟩, A170, H⟩ := H
      replace H : (if t378 = 0 then (some (t375, decide (t368 > 0), 0)) else (some (([] : List (S33)), false, t378))) = some (r1, r2, r3) := H
      have A17 := Aside0.mk A170
      clear A170
      by_cases c18 : t378 = 0
      ·rw [if_pos c18] at H
       have c18b0 : (t378 == 0) = true := beq_iff_eq.mpr c18
       have c18b1 : (t378 != 0) = false := bne_eq_false_iff_eq.mpr c18
       clear c18
       simp only [Option.some.injEq, Prod.mk.injEq] at H
       obtain ⟨rfl, rfl, rfl⟩ := H
       have hcz19_0 : wc.cell? ⟨gb373, 0, none⟩ = some (.int .i64 t367) := (blk_cell BK373.out 0).trans rfl
       have hcz19_1 : wc.cell? ⟨gb373, 1, none⟩ = some (.int .i64 t368) := (blk_cell BK373.out 1).trans rfl
       have hcz19_2 : wc.cell? ⟨gb373, 2, none⟩ = some (.slice Ao10 t369.length co10) := (blk_cell BK373.out 2).trans rfl
       have hfz19_0 := blk_frozen BK373.out 0
       have hfz19_1 := blk_frozen BK373.out 1
       have hfz19_2 := blk_frozen BK373.out 2
       go_wp2_with (first | ((with_reducible refine gate_callee (f := 56) rfl ?_); refine goesL_ (some 29) rfl rfl Try.func56 (by kernel_rfl) rfl #[.slice Ao10 t369.length co10, .int .i64 a2] rfl zP ?_; (with_reducible refine (slices_Contains_int_int.calls kj5 _ _ t369 a2 false _ ?side1 ?side2 A13.out).mono ?_); (case side1 => repeat (first | exact (Kd.V_reads' HO_374002.out).2.2 | (with_reducible refine Kd.C_alloc ?_ _) | (with_reducible refine Kd.C_drewN ?_ _) | (with_reducible refine Kd.C_drew ?_))); (case side2 => exact (Kd.V_reads' HO_374002.out).2.1); rintro e w' ⟨rfl, ⟨nd, rfl⟩⟩; refine ⟨_, rfl, ?_⟩; (try (rw [drewN_self wc]; generalize hq_ : World.drewN wc _ = wc; have n0_ : Aside0 (Kd.V k33 33 wc w.heap.size (fun k_ => (P0_ k_ ∨ w.heap.size ≤ k_) ∧ k_ ≠ gb373) (.slice A0 l0.length c0) l0) := ⟨by rw [← hq_]; exact (zV HO_0)⟩; have n1_ : Aside0 (Kd.V (Kd.int .i64) 3 wc w.heap.size (fun k_ => (P0_ k_ ∨ w.heap.size ≤ k_) ∧ k_ ≠ gb373) (.slice Ao10 t369.length co10) t369) := ⟨by rw [← hq_]; exact (zV HO_374002)⟩; have n2_ : Aside0 (wc.heap[gb373]? = some (.cells #[.int .i64 t367, .int .i64 t368, .slice Ao10 t369.length co10] 33 (0, 0))) := ⟨by rw [← hq_]; exact (zK BK373)⟩; have n3_ : Aside0 (Below w.heap.size w wc) := ⟨by rw [← hq_]; exact (zB1 HB GE373)⟩; clear HO_0 HO_374002 BK373 HB hq_; have HO_0 := n0_; have HO_374002 := n1_; have BK373 := n2_; have HB := n3_; clear n0_ n1_ n2_ n3_; have hcz19_0 : wc.cell? ⟨gb373, 0, none⟩ = some (.int .i64 t367) := (blk_cell BK373.out 0).trans rfl; have hcz19_1 : wc.cell? ⟨gb373, 1, none⟩ = some (.int .i64 t368) := (blk_cell BK373.out 1).trans rfl; have hcz19_2 : wc.cell? ⟨gb373, 2, none⟩ = some (.slice Ao10 t369.length co10) := (blk_cell BK373.out 2).trans rfl; have hfz19_0 := blk_frozen BK373.out 0; have hfz19_1 := blk_frozen BK373.out 1; have hfz19_2 := blk_frozen BK373.out 2))) | ((with_reducible refine gate_store (t := 3) (p := 37) rfl ?_); refine store_event (t := 3) (p := 37) (v := ?vo_w20) (w1 := (wc.setCell ⟨gb373, 1, none⟩ (.int .i64 (wrap64 (t368 - 1))))) ?hg ?ho ?hn ?hr ?_; (case ho => rfl); (case hg => rfl); (case hn => rfl); (case hr => first | (go_simp; done) | (go_simp; rfl)); intro w20 hw; have n0_ : Aside0 (Kd.V k33 33 w20 w.heap.size (fun k_ => (P0_ k_ ∨ w.heap.size ≤ k_) ∧ k_ ≠ gb373) (.slice A0 l0.length c0) l0) := ⟨(by rw [hw]; exact (by (with_reducible repeat (first | apply Kd.V_alloc | apply Kd.V_drewN | apply Kd.V_drew)); exact Kd.V_mono (Kd.V_far (p := ⟨gb373, 1, none⟩) (Kd.V_mono HO_0.out (fun k_ hk => (⟨hk, hk.2⟩ : _ ∧ k_ ≠ gb373))) (fun _ hk => hk.2) (.int .i64 (wrap64 (t368 - 1)))) (fun _ hk => ⟨hk.1.1, hk.1.2⟩)))⟩; have n1_ : Aside0 (Kd.V (Kd.int .i64) 3 w20 w.heap.size (fun k_ => (P0_ k_ ∨ w.heap.size ≤ k_) ∧ k_ ≠ gb373) (.slice Ao10 t369.length co10) t369) := ⟨(by rw [hw]; exact (by (with_reducible repeat (first | apply Kd.V_alloc | apply Kd.V_drewN | apply Kd.V_drew)); exact Kd.V_mono (Kd.V_far (p := ⟨gb373, 1, none⟩) (Kd.V_mono HO_374002.out (fun k_ hk => (⟨hk, hk.2⟩ : _ ∧ k_ ≠ gb373))) (fun _ hk => hk.2) (.int .i64 (wrap64 (t368 - 1)))) (fun _ hk => ⟨hk.1.1, hk.1.2⟩)))⟩; have n2_ : Aside0 (w20.heap[gb373]? = some (.cells #[.int .i64 t367, .int .i64 (wrap64 (t368 - 1)), .slice Ao10 t369.length co10] 33 (0, 0))) := ⟨(by rw [hw]; exact (by (with_reducible repeat (first | refine blk_drewN ?_ _ | refine blk_drew ?_ | refine blk_alloc ?_ _)); refine blk_put (cs := #[.int .i64 t367, .int .i64 t368, .slice Ao10 t369.length co10]) ?_ 1 _ rfl; (with_reducible repeat (first | refine blk_drewN ?_ _ | refine blk_drew ?_ | refine blk_alloc ?_ _)); exact BK373.out))⟩; have n3_ : Aside0 (Below w.heap.size w w20) := ⟨(by rw [hw]; exact (zB1 HB GE373))⟩; clear hw; clear HO_0; clear HO_374002; clear BK373; clear HB; have HO_0 := n0_; have HO_374002 := n1_; have BK373 := n2_; have HB := n3_; clear n0_ n1_ n2_ n3_; have hcz21_0 : w20.cell? ⟨gb373, 0, none⟩ = some (.int .i64 t367) := (blk_cell BK373.out 0).trans rfl; have hcz21_1 : w20.cell? ⟨gb373, 1, none⟩ = some (.int .i64 (wrap64 (t368 - 1))) := (blk_cell BK373.out 1).trans rfl; have hcz21_2 : w20.cell? ⟨gb373, 2, none⟩ = some (.slice Ao10 t369.length co10) := (blk_cell BK373.out 2).trans rfl; have hfz21_0 := blk_frozen BK373.out 0; have hfz21_1 := blk_frozen BK373.out 1; have hfz21_2 := blk_frozen BK373.out 2) | ((with_reducible refine gate_callee (f := 17) rfl ?_); refine goesL_ (some 53) rfl rfl Try.func17 (by kernel_rfl) rfl #[.slice A0 l0.length c0, .agg #[.int .i64 t367, .int .i64 (wrap64 (t368 - 1)), .slice Ao10 t369.length co10]] rfl zP ?_; (with_reducible refine (root_Set.calls (fun k_ => ((P0_ k_ ∨ w.heap.size ≤ k_) ∧ k_ ≠ gb373)) _ _ l0 t367 (wrap64 (t368 - 1)) (fun k_ => ((P0_ k_ ∨ w.heap.size ≤ k_) ∧ k_ ≠ gb373)) _ _ t369 t375 t378 _ ?side1 ?side2 A17.out).mono ?_); (case side1 => exact HO_0.out); (case side2 => exact HO_374002.out); rintro e w22 ⟨v376, rfl, ho0, hb⟩; refine ⟨_, rfl, ?_⟩; have n0_ := Aside0.mk (Kd.V_below (zV HO_0) hb); have n1_ := Aside0.mk (Kd.V_below (zV HO_374002) hb); have n2_ := Aside0.mk (Kd.V_lower (Kd.V_mono (ok' := fun k_ => (P0_ k_ ∨ w.heap.size ≤ k_) ∧ k_ ≠ gb373) ho0 (fun k_ hk_ => ⟨Or.elim hk_ (fun hs_ => Or.elim hs_ (fun hs_ => hs_.1) (fun hs_ => hs_.1)) (fun hn_ => (.inr (Nat.le_trans (below_size (zB1 HB GE373)) hn_))), Or.elim hk_ (fun hs_ => Or.elim hs_ (fun hs_ => hs_.2) (fun hs_ => hs_.2)) (fun hn_ => (Kd.freshB (g := gb373) (o := .cells #[.int .i64 t367, .int .i64 (wrap64 (t368 - 1)), .slice Ao10 t369.length co10] 33 (0, 0)) (zK BK373) k_ hn_))⟩)) (below_size (zB1 HB GE373))); have n3_ := Aside0.mk (blk_below (g := gb373) (o := .cells #[.int .i64 t367, .int .i64 (wrap64 (t368 - 1)), .slice Ao10 t369.length co10] 33 (0, 0)) (zK BK373) hb); have n4_ := Aside0.mk (below_step (zB1 HB GE373) hb); clear HO_0; clear HO_374002; clear BK373; clear HB; have HO_0 := n0_; have HO_374002 := n1_; have HO377 := n2_; have BK373 := n3_; have HB := n4_; clear n0_ n1_ n2_ n3_ n4_; (try clear hb); (try clear hb2); (try clear hk); (try clear hi); (try clear ho0)))
       go_ret3
       exact ⟨_, by first | rfl | (simp [errW_none, errW_some] <;> rfl) | (simp [*, errW_none, errW_some] <;> rfl), by (with_reducible repeat (first | apply Kd.V_alloc | apply Kd.V_drewN | apply Kd.V_drew)); exact Kd.V_mono HO377.out (fun _ hk => hk.1), zB1 HB GE373⟩
      ·rw [if_neg c18] at H
       have c18b0 : (t378 == 0) = false := beq_eq_false_iff_ne.mpr c18
       have c18b1 : (t378 != 0) = true := bne_iff_ne.mpr c18
       simp only [Option.some.injEq, Prod.mk.injEq] at H
       obtain ⟨rfl, rfl, rfl⟩ := H
       have hcz23_0 : wc.cell? ⟨gb373, 0, none⟩ = some (.int .i64 t367) := (blk_cell BK373.out 0).trans rfl
       have hcz23_1 : wc.cell? ⟨gb373, 1, none⟩ = some (.int .i64 t368) := (blk_cell BK373.out 1).trans rfl
       have hcz23_2 : wc.cell? ⟨gb373, 2, none⟩ = some (.slice Ao10 t369.length co10) := (blk_cell BK373.out 2).trans rfl
       have hfz23_0 := blk_frozen BK373.out 0
       have hfz23_1 := blk_frozen BK373.out 1
       have hfz23_2 := blk_frozen BK373.out 2
       go_wp2_with (first | ((with_reducible refine gate_callee (f := 56) rfl ?_); refine goesL_ (some 29) rfl rfl Try.func56 (by kernel_rfl) rfl #[.slice Ao10 t369.length co10, .int .i64 a2] rfl zP ?_; (with_reducible refine (slices_Contains_int_int.calls kj5 _ _ t369 a2 false _ ?side1 ?side2 A13.out).mono ?_); (case side1 => repeat (first | exact (Kd.V_reads' HO_374002.out).2.2 | (with_reducible refine Kd.C_alloc ?_ _) | (with_reducible refine Kd.C_drewN ?_ _) | (with_reducible refine Kd.C_drew ?_))); (case side2 => exact (Kd.V_reads' HO_374002.out).2.1); rintro e w' ⟨rfl, ⟨nd, rfl⟩⟩; refine ⟨_, rfl, ?_⟩; (try (rw [drewN_self wc]; generalize hq_ : World.drewN wc _ = wc; have n0_ : Aside0 (Kd.V k33 33 wc w.heap.size (fun k_ => (P0_ k_ ∨ w.heap.size ≤ k_) ∧ k_ ≠ gb373) (.slice A0 l0.length c0) l0) := ⟨by rw [← hq_]; exact (zV HO_0)⟩; have n1_ : Aside0 (Kd.V (Kd.int .i64) 3 wc w.heap.size (fun k_ => (P0_ k_ ∨ w.heap.size ≤ k_) ∧ k_ ≠ gb373) (.slice Ao10 t369.length co10) t369) := ⟨by rw [← hq_]; exact (zV HO_374002)⟩; have n2_ : Aside0 (wc.heap[gb373]? = some (.cells #[.int .i64 t367, .int .i64 t368, .slice Ao10 t369.length co10] 33 (0, 0))) := ⟨by rw [← hq_]; exact (zK BK373)⟩; have n3_ : Aside0 (Below w.heap.size w wc) := ⟨by rw [← hq_]; exact (zB1 HB GE373)⟩; clear HO_0 HO_374002 BK373 HB hq_; have HO_0 := n0_; have HO_374002 := n1_; have BK373 := n2_; have HB := n3_; clear n0_ n1_ n2_ n3_; have hcz23_0 : wc.cell? ⟨gb373, 0, none⟩ = some (.int .i64 t367) := (blk_cell BK373.out 0).trans rfl; have hcz23_1 : wc.cell? ⟨gb373, 1, none⟩ = some (.int .i64 t368) := (blk_cell BK373.out 1).trans rfl; have hcz23_2 : wc.cell? ⟨gb373, 2, none⟩ = some (.slice Ao10 t369.length co10) := (blk_cell BK373.out 2).trans rfl; have hfz23_0 := blk_frozen BK373.out 0; have hfz23_1 := blk_frozen BK373.out 1; have hfz23_2 := blk_frozen BK373.out 2))) | ((with_reducible refine gate_store (t := 3) (p := 37) rfl ?_); refine store_event (t := 3) (p := 37) (v := ?vo_w24) (w1 := (wc.setCell ⟨gb373, 1, none⟩ (.int .i64 (wrap64 (t368 - 1))))) ?hg ?ho ?hn ?hr ?_; (case ho => rfl); (case hg => rfl); (case hn => rfl); (case hr => first | (go_simp; done) | (go_simp; rfl)); intro w24 hw; have n0_ : Aside0 (Kd.V k33 33 w24 w.heap.size (fun k_ => (P0_ k_ ∨ w.heap.size ≤ k_) ∧ k_ ≠ gb373) (.slice A0 l0.length c0) l0) := ⟨(by rw [hw]; exact (by (with_reducible repeat (first | apply Kd.V_alloc | apply Kd.V_drewN | apply Kd.V_drew)); exact Kd.V_mono (Kd.V_far (p := ⟨gb373, 1, none⟩) (Kd.V_mono HO_0.out (fun k_ hk => (⟨hk, hk.2⟩ : _ ∧ k_ ≠ gb373))) (fun _ hk => hk.2) (.int .i64 (wrap64 (t368 - 1)))) (fun _ hk => ⟨hk.1.1, hk.1.2⟩)))⟩; have n1_ : Aside0 (Kd.V (Kd.int .i64) 3 w24 w.heap.size (fun k_ => (P0_ k_ ∨ w.heap.size ≤ k_) ∧ k_ ≠ gb373) (.slice Ao10 t369.length co10) t369) := ⟨(by rw [hw]; exact (by (with_reducible repeat (first | apply Kd.V_alloc | apply Kd.V_drewN | apply Kd.V_drew)); exact Kd.V_mono (Kd.V_far (p := ⟨gb373, 1, none⟩) (Kd.V_mono HO_374002.out (fun k_ hk => (⟨hk, hk.2⟩ : _ ∧ k_ ≠ gb373))) (fun _ hk => hk.2) (.int .i64 (wrap64 (t368 - 1)))) (fun _ hk => ⟨hk.1.1, hk.1.2⟩)))⟩; have n2_ : Aside0 (w24.heap[gb373]? = some (.cells #[.int .i64 t367, .int .i64 (wrap64 (t368 - 1)), .slice Ao10 t369.length co10] 33 (0, 0))) := ⟨(by rw [hw]; exact (by (with_reducible repeat (first | refine blk_drewN ?_ _ | refine blk_drew ?_ | refine blk_alloc ?_ _)); refine blk_put (cs := #[.int .i64 t367, .int .i64 t368, .slice Ao10 t369.length co10]) ?_ 1 _ rfl; (with_reducible repeat (first | refine blk_drewN ?_ _ | refine blk_drew ?_ | refine blk_alloc ?_ _)); exact BK373.out))⟩; have n3_ : Aside0 (Below w.heap.size w w24) := ⟨(by rw [hw]; exact (zB1 HB GE373))⟩; clear hw; clear HO_0; clear HO_374002; clear BK373; clear HB; have HO_0 := n0_; have HO_374002 := n1_; have BK373 := n2_; have HB := n3_; clear n0_ n1_ n2_ n3_; have hcz25_0 : w24.cell? ⟨gb373, 0, none⟩ = some (.int .i64 t367) := (blk_cell BK373.out 0).trans rfl; have hcz25_1 : w24.cell? ⟨gb373, 1, none⟩ = some (.int .i64 (wrap64 (t368 - 1))) := (blk_cell BK373.out 1).trans rfl; have hcz25_2 : w24.cell? ⟨gb373, 2, none⟩ = some (.slice Ao10 t369.length co10) := (blk_cell BK373.out 2).trans rfl; have hfz25_0 := blk_frozen BK373.out 0; have hfz25_1 := blk_frozen BK373.out 1; have hfz25_2 := blk_frozen BK373.out 2) | ((with_reducible refine gate_callee (f := 17) rfl ?_); refine goesL_ (some 53) rfl rfl Try.func17 (by kernel_rfl) rfl #[.slice A0 l0.length c0, .agg #[.int .i64 t367, .int .i64 (wrap64 (t368 - 1)), .slice Ao10 t369.length co10]] rfl zP ?_; (with_reducible refine (root_Set.calls (fun k_ => ((P0_ k_ ∨ w.heap.size ≤ k_) ∧ k_ ≠ gb373)) _ _ l0 t367 (wrap64 (t368 - 1)) (fun k_ => ((P0_ k_ ∨ w.heap.size ≤ k_) ∧ k_ ≠ gb373)) _ _ t369 t375 t378 _ ?side1 ?side2 A17.out).mono ?_); (case side1 => exact HO_0.out); (case side2 => exact HO_374002.out); rintro e w26 ⟨v376, rfl, ho0, hb⟩; refine ⟨_, rfl, ?_⟩; have n0_ := Aside0.mk (Kd.V_below (zV HO_0) hb); have n1_ := Aside0.mk (Kd.V_below (zV HO_374002) hb); have n2_ := Aside0.mk (Kd.V_lower (Kd.V_mono (ok' := fun k_ => (P0_ k_ ∨ w.heap.size ≤ k_) ∧ k_ ≠ gb373) ho0 (fun k_ hk_ => ⟨Or.elim hk_ (fun hs_ => Or.elim hs_ (fun hs_ => hs_.1) (fun hs_ => hs_.1)) (fun hn_ => (.inr (Nat.le_trans (below_size (zB1 HB GE373)) hn_))), Or.elim hk_ (fun hs_ => Or.elim hs_ (fun hs_ => hs_.2) (fun hs_ => hs_.2)) (fun hn_ => (Kd.freshB (g := gb373) (o := .cells #[.int .i64 t367, .int .i64 (wrap64 (t368 - 1)), .slice Ao10 t369.length co10] 33 (0, 0)) (zK BK373) k_ hn_))⟩)) (below_size (zB1 HB GE373))); have n3_ := Aside0.mk (blk_below (g := gb373) (o := .cells #[.int .i64 t367, .int .i64 (wrap64 (t368 - 1)), .slice Ao10 t369.length co10] 33 (0, 0)) (zK BK373) hb); have n4_ := Aside0.mk (below_step (zB1 HB GE373) hb); clear HO_0; clear HO_374002; clear BK373; clear HB; have HO_0 := n0_; have HO_374002 := n1_; have HO377 := n2_; have BK373 := n3_; have HB := n4_; clear n0_ n1_ n2_ n3_ n4_; (try clear hb); (try clear hb2); (try clear hk); (try clear hi); (try clear ho0)))
       go_ret3
       exact ⟨_, by first | rfl | (simp [errW_none, errW_some] <;> rfl) | (simp [*, errW_none, errW_some] <;> rfl), Kd.V_mono (Kd.S_V (by first | exact Kd.S_nil _ _ _ 0 (fun k_ => w.heap.size ≤ k_) | exact Kd.S_nil _ _ _ _ _ | exact Kd.N_nil _ _ _ _ _ | exact Kd.V_nil _ _ _ _ _ | exact Kd.Q_nil _ _ _ _ _ | exact Kd.R_nil _ _ _ _ _)) (fun k_ hk => by first | exact ⟨(.inr (hk.1)), hk.2⟩ | exact (.inr (hk))), zB1 HB GE373⟩
     ·rw [if_neg c16] at H
      have c16b0 : decide (0 < t368) = false := decide_eq_false c16
      clear c16
      replace H := Option.bind_eq_some_iff.mp H
      obtain ⟨⟨t379, t382⟩, A270, H⟩ := H
      replace H : (if t382 = 0 then ((root_Set.f l0 t367 t368 t379).bind fun bt383 => (if bt383.2 = 0 then (some (bt383.1, decide (t368 > 0), 0)) else (some (([] : List (S33)), false, bt383.2)))) else (some (([] : List (S33)), false, t382))) = some (r1, r2, r3) := H
      have A27 := Aside0.mk A270
      clear A270
      by_cases c28 : t382 = 0
      ·rw [if_pos c28] at H
       have c28b0 : (t382 == 0) = true := beq_iff_eq.mpr c28
       have c28b1 : (t382 != 0) = false := bne_eq_false_iff_eq.mpr c28
       clear c28
       replace H := Option.bind_eq_some_iff.mp H
       obtain ⟨⟨t383, t386⟩, A290, H⟩ := H
       replace H : (if t386 = 0 then (some (t383, decide (t368 > 0), 0)) else (some (([] : List (S33)), false, t386))) = some (r1, r2, r3) := H
       have A29 := Aside0.mk A290
       clear A290
       by_cases c30 : t386 = 0
       ·rw [if_pos c30] at H
        have c30b0 : (t386 == 0) = true := beq_iff_eq.mpr c30
        have c30b1 : (t386 != 0) = false := bne_eq_false_iff_eq.mpr c30
        clear c30
        simp only [Option.some.injEq, Prod.mk.injEq] at H
        obtain ⟨rfl, rfl, rfl⟩ := H
        have hcz31_0 : wc.cell? ⟨gb373, 0, none⟩ = some (.int .i64 t367) := (blk_cell BK373.out 0).trans rfl
        have hcz31_1 : wc.cell? ⟨gb373, 1, none⟩ = some (.int .i64 t368) := (blk_cell BK373.out 1).trans rfl
        have hcz31_2 : wc.cell? ⟨gb373, 2, none⟩ = some (.slice Ao10 t369.length co10) := (blk_cell BK373.out 2).trans rfl
        have hfz31_0 := blk_frozen BK373.out 0
        have hfz31_1 := blk_frozen BK373.out 1
        have hfz31_2 := blk_frozen BK373.out 2
        go_wp2_with (first | ((with_reducible refine gate_callee (f := 56) rfl ?_); refine goesL_ (some 29) rfl rfl Try.func56 (by kernel_rfl) rfl #[.slice Ao10 t369.length co10, .int .i64 a2] rfl zP ?_; (with_reducible refine (slices_Contains_int_int.calls kj5 _ _ t369 a2 false _ ?side1 ?side2 A13.out).mono ?_); (case side1 => repeat (first | exact (Kd.V_reads' HO_374002.out).2.2 | (with_reducible refine Kd.C_alloc ?_ _) | (with_reducible refine Kd.C_drewN ?_ _) | (with_reducible refine Kd.C_drew ?_))); (case side2 => exact (Kd.V_reads' HO_374002.out).2.1); rintro e w' ⟨rfl, ⟨nd, rfl⟩⟩; refine ⟨_, rfl, ?_⟩; (try (rw [drewN_self wc]; generalize hq_ : World.drewN wc _ = wc; have n0_ : Aside0 (Kd.V k33 33 wc w.heap.size (fun k_ => (P0_ k_ ∨ w.heap.size ≤ k_) ∧ k_ ≠ gb373) (.slice A0 l0.length c0) l0) := ⟨by rw [← hq_]; exact (zV HO_0)⟩; have n1_ : Aside0 (Kd.V (Kd.int .i64) 3 wc w.heap.size (fun k_ => (P0_ k_ ∨ w.heap.size ≤ k_) ∧ k_ ≠ gb373) (.slice Ao10 t369.length co10) t369) := ⟨by rw [← hq_]; exact (zV HO_374002)⟩; have n2_ : Aside0 (wc.heap[gb373]? = some (.cells #[.int .i64 t367, .int .i64 t368, .slice Ao10 t369.length co10] 33 (0, 0))) := ⟨by rw [← hq_]; exact (zK BK373)⟩; have n3_ : Aside0 (Below w.heap.size w wc) := ⟨by rw [← hq_]; exact (zB1 HB GE373)⟩; clear HO_0 HO_374002 BK373 HB hq_; have HO_0 := n0_; have HO_374002 := n1_; have BK373 := n2_; have HB := n3_; clear n0_ n1_ n2_ n3_; have hcz31_0 : wc.cell? ⟨gb373, 0, none⟩ = some (.int .i64 t367) := (blk_cell BK373.out 0).trans rfl; have hcz31_1 : wc.cell? ⟨gb373, 1, none⟩ = some (.int .i64 t368) := (blk_cell BK373.out 1).trans rfl; have hcz31_2 : wc.cell? ⟨gb373, 2, none⟩ = some (.slice Ao10 t369.length co10) := (blk_cell BK373.out 2).trans rfl; have hfz31_0 := blk_frozen BK373.out 0; have hfz31_1 := blk_frozen BK373.out 1; have hfz31_2 := blk_frozen BK373.out 2))) | ((with_reducible refine gate_callee (f := 57) rfl ?_); refine goesL_ (some 43) rfl rfl Try.func57 (by kernel_rfl) rfl #[.slice Ao10 t369.length co10, .int .i64 a2, .bool a3] rfl zP ?_; (with_reducible refine (line_Push.calls kj5 (fun k_ => ((P0_ k_ ∨ w.heap.size ≤ k_) ∧ k_ ≠ gb373)) _ _ t369 a2 a3 t379 t382 _ ?side1 A27.out).mono ?_); (case side1 => exact HO_374002.out); rintro e w32 ⟨v380, rfl, ho0, hb⟩; refine ⟨_, rfl, ?_⟩; have n0_ := Aside0.mk (Kd.V_elder' (zV HO_0) (Kd.R_base ho0) hb); have n1_ := Aside0.mk (Kd.V_elder' (zV HO_374002) (Kd.R_base ho0) hb); have n2_ := Aside0.mk (Kd.R_lower (Kd.R_newM (M := fun k_ => (w.heap.size ≤ k_)) (Kd.R_mono (ok' := fun k_ => True) ho0 (fun _ hk_ => trivial)) (below_size (zB1 HB GE373)) (fun k_ h_ => h_)) (below_size (zB1 HB GE373))); have n3_ := Aside0.mk (blk_below (g := gb373) (o := .cells #[.int .i64 t367, .int .i64 t368, .slice Ao10 t369.length co10] 33 (0, 0)) (zK BK373) hb); have n4_ := Aside0.mk (below_step (zB1 HB GE373) hb); clear HO_0; clear HO_374002; clear BK373; clear HB; have HO_0 := n0_; have HO_374002 := n1_; have HO381 := n2_; have BK373 := n3_; have HB := n4_; clear n0_ n1_ n2_ n3_ n4_; (try clear hb); (try clear hb2); (try clear hk); (try clear hi); (try clear ho0); obtain ⟨Ao33, co33, eo33⟩ := Kd.R_slice HO381.out; subst eo33; have hcz34_0 : w32.cell? ⟨gb373, 0, none⟩ = some (.int .i64 t367) := (blk_cell BK373.out 0).trans rfl; have hcz34_1 : w32.cell? ⟨gb373, 1, none⟩ = some (.int .i64 t368) := (blk_cell BK373.out 1).trans rfl; have hcz34_2 : w32.cell? ⟨gb373, 2, none⟩ = some (.slice Ao10 t369.length co10) := (blk_cell BK373.out 2).trans rfl; have hfz34_0 := blk_frozen BK373.out 0; have hfz34_1 := blk_frozen BK373.out 1; have hfz34_2 := blk_frozen BK373.out 2) | ((with_reducible refine gate_store (t := 25) (p := 46) rfl ?_); refine store_event (t := 25) (p := 46) (v := ?vo_w35) (w1 := (w32.setCell ⟨gb373, 2, none⟩ (.slice Ao33 t379.length co33))) ?hg ?ho ?hn ?hr ?_; (case ho => rfl); (case hg => rfl); (case hn => rfl); (case hr => first | (go_simp; done) | (go_simp; rfl)); intro w35 hw; have n0_ : Aside0 (Kd.V k33 33 w35 w.heap.size (fun k_ => (P0_ k_ ∨ w.heap.size ≤ k_) ∧ some k_ ≠ (.slice Ao33 t379.length co33 : Value).ownBlock ∧ k_ ≠ gb373) (.slice A0 l0.length c0) l0) := ⟨(by rw [hw]; exact (by (with_reducible repeat (first | apply Kd.V_alloc | apply Kd.V_drewN | apply Kd.V_drew)); exact Kd.V_mono (Kd.V_far (p := ⟨gb373, 2, none⟩) (Kd.V_mono HO_0.out (fun k_ hk => (⟨hk, hk.1.2⟩ : _ ∧ k_ ≠ gb373))) (fun _ hk => hk.2) (.slice Ao33 t379.length co33)) (fun _ hk => ⟨hk.1.1.1, ⟨hk.1.2, hk.1.1.2⟩⟩)))⟩; have n1_ : Aside0 (Kd.V (Kd.int .i64) 3 w35 w.heap.size (fun k_ => (P0_ k_ ∨ w.heap.size ≤ k_) ∧ some k_ ≠ (.slice Ao33 t379.length co33 : Value).ownBlock ∧ k_ ≠ gb373) (.slice Ao10 t369.length co10) t369) := ⟨(by rw [hw]; exact (by (with_reducible repeat (first | apply Kd.V_alloc | apply Kd.V_drewN | apply Kd.V_drew)); exact Kd.V_mono (Kd.V_far (p := ⟨gb373, 2, none⟩) (Kd.V_mono HO_374002.out (fun k_ hk => (⟨hk, hk.1.2⟩ : _ ∧ k_ ≠ gb373))) (fun _ hk => hk.2) (.slice Ao33 t379.length co33)) (fun _ hk => ⟨hk.1.1.1, ⟨hk.1.2, hk.1.1.2⟩⟩)))⟩; have n2_ : Aside0 (Kd.R (Kd.int .i64) 3 w35 w.heap.size (fun k_ => (w.heap.size ≤ k_)) (.slice Ao33 t379.length co33) t379) := ⟨(by rw [hw]; exact (by (with_reducible repeat (first | apply Kd.R_alloc | apply Kd.R_drewN | apply Kd.R_drew)); exact Kd.R_mono (Kd.R_far (p := ⟨gb373, 2, none⟩) (Kd.R_types HO381.out BK373.out (by decide)) (fun _ hk => hk.2) (.slice Ao33 t379.length co33)) (fun _ hk => hk.1.1)))⟩; have n3_ : Aside0 (w35.heap[gb373]? = some (.cells #[.int .i64 t367, .int .i64 t368, .slice Ao33 t379.length co33] 33 (0, 0))) := ⟨(by rw [hw]; exact (by (with_reducible repeat (first | refine blk_drewN ?_ _ | refine blk_drew ?_ | refine blk_alloc ?_ _)); refine blk_put (cs := #[.int .i64 t367, .int .i64 t368, .slice Ao10 t369.length co10]) ?_ 2 _ rfl; (with_reducible repeat (first | refine blk_drewN ?_ _ | refine blk_drew ?_ | refine blk_alloc ?_ _)); exact BK373.out))⟩; have n4_ : Aside0 (Below w.heap.size w w35) := ⟨(by rw [hw]; exact (zB1 HB GE373))⟩; clear hw; clear HO_0; clear HO_374002; clear HO381; clear BK373; clear HB; have HO_0 := n0_; have HO_374002 := n1_; have HO381 := n2_; have BK373 := n3_; have HB := n4_; clear n0_ n1_ n2_ n3_ n4_; have hcz36_0 : w35.cell? ⟨gb373, 0, none⟩ = some (.int .i64 t367) := (blk_cell BK373.out 0).trans rfl; have hcz36_1 : w35.cell? ⟨gb373, 1, none⟩ = some (.int .i64 t368) := (blk_cell BK373.out 1).trans rfl; have hcz36_2 : w35.cell? ⟨gb373, 2, none⟩ = some (.slice Ao33 t379.length co33) := (blk_cell BK373.out 2).trans rfl; have hfz36_0 := blk_frozen BK373.out 0; have hfz36_1 := blk_frozen BK373.out 1; have hfz36_2 := blk_frozen BK373.out 2) | ((with_reducible refine gate_callee (f := 17) rfl ?_); refine goesL_ (some 53) rfl rfl Try.func17 (by kernel_rfl) rfl #[.slice A0 l0.length c0, .agg #[.int .i64 t367, .int .i64 t368, .slice Ao33 t379.length co33]] rfl zP ?_; (with_reducible refine (root_Set.calls (fun k_ => ((P0_ k_ ∨ w.heap.size ≤ k_) ∧ (some k_ ≠ (.slice Ao33 t379.length co33 : Value).ownBlock ∧ k_ ≠ gb373))) _ _ l0 t367 t368 (fun k_ => some k_ = (.slice Ao33 t379.length co33 : Value).ownBlock) _ _ t379 t383 t386 _ ?side1 ?side2 A29.out).mono ?_); (case side1 => exact HO_0.out); (case side2 => exact Kd.R_V (Kd.R_tight rfl (Kd.R_types (HO381.out) BK373.out (by decide)))); rintro e w37 ⟨v384, rfl, ho0, hb⟩; refine ⟨_, rfl, ?_⟩; have n0_ := Aside0.mk (Kd.V_below (zV HO_0) hb); have n1_ := Aside0.mk (Kd.V_below (zV HO_374002) hb); have n2_ := Aside0.mk (Kd.R_below (zR HO381) hb); have n3_ := Aside0.mk (Kd.V_lower (Kd.V_mono (ok' := fun k_ => (P0_ k_ ∨ w.heap.size ≤ k_) ∧ k_ ≠ gb373) ho0 (fun k_ hk_ => ⟨Or.elim hk_ (fun hs_ => Or.elim hs_ (fun hs_ => hs_.1) (fun hs_ => (.inr (((Kd.R_types (HO381.out) BK373.out (by decide)).1 k_ hs_.symm).1)))) (fun hn_ => (.inr (Nat.le_trans (below_size (zB1 HB GE373)) hn_))), Or.elim hk_ (fun hs_ => Or.elim hs_ (fun hs_ => hs_.2.2) (fun hs_ => ((Kd.R_types (HO381.out) BK373.out (by decide)).1 k_ hs_.symm).2)) (fun hn_ => (Kd.freshB (g := gb373) (o := .cells #[.int .i64 t367, .int .i64 t368, .slice Ao33 t379.length co33] 33 (0, 0)) (zK BK373) k_ hn_))⟩)) (below_size (zB1 HB GE373))); have n4_ := Aside0.mk (blk_below (g := gb373) (o := .cells #[.int .i64 t367, .int .i64 t368, .slice Ao33 t379.length co33] 33 (0, 0)) (zK BK373) hb); have n5_ := Aside0.mk (below_step (zB1 HB GE373) hb); clear HO_0; clear HO_374002; clear HO381; clear BK373; clear HB; have HO_0 := n0_; have HO_374002 := n1_; have HO381 := n2_; have HO385 := n3_; have BK373 := n4_; have HB := n5_; clear n0_ n1_ n2_ n3_ n4_ n5_; (try clear hb); (try clear hb2); (try clear hk); (try clear hi); (try clear ho0)))
        go_ret3
        exact ⟨_, by first | rfl | (simp [errW_none, errW_some] <;> rfl) | (simp [*, errW_none, errW_some] <;> rfl), by (with_reducible repeat (first | apply Kd.V_alloc | apply Kd.V_drewN | apply Kd.V_drew)); exact Kd.V_mono HO385.out (fun _ hk => hk.1), zB1 HB GE373⟩
       ·rw [if_neg c30] at H
        have c30b0 : (t386 == 0) = false := beq_eq_false_iff_ne.mpr c30
        have c30b1 : (t386 != 0) = true := bne_iff_ne.mpr c30
        simp only [Option.some.injEq, Prod.mk.injEq] at H
        obtain ⟨rfl, rfl, rfl⟩ := H
        have hcz38_0 : wc.cell? ⟨gb373, 0, none⟩ = some (.int .i64 t367) := (blk_cell BK373.out 0).trans rfl
        have hcz38_1 : wc.cell? ⟨gb373, 1, none⟩ = some (.int .i64 t368) := (blk_cell BK373.out 1).trans rfl
        have hcz38_2 : wc.cell? ⟨gb373, 2, none⟩ = some (.slice Ao10 t369.length co10) := (blk_cell BK373.out 2).trans rfl
        have hfz38_0 := blk_frozen BK373.out 0
        have hfz38_1 := blk_frozen BK373.out 1
        have hfz38_2 := blk_frozen BK373.out 2
        go_wp2_with (first | ((with_reducible refine gate_callee (f := 56) rfl ?_); refine goesL_ (some 29) rfl rfl Try.func56 (by kernel_rfl) rfl #[.slice Ao10 t369.length co10, .int .i64 a2] rfl zP ?_; (with_reducible refine (slices_Contains_int_int.calls kj5 _ _ t369 a2 false _ ?side1 ?side2 A13.out).mono ?_); (case side1 => repeat (first | exact (Kd.V_reads' HO_374002.out).2.2 | (with_reducible refine Kd.C_alloc ?_ _) | (with_reducible refine Kd.C_drewN ?_ _) | (with_reducible refine Kd.C_drew ?_))); (case side2 => exact (Kd.V_reads' HO_374002.out).2.1); rintro e w' ⟨rfl, ⟨nd, rfl⟩⟩; refine ⟨_, rfl, ?_⟩; (try (rw [drewN_self wc]; generalize hq_ : World.drewN wc _ = wc; have n0_ : Aside0 (Kd.V k33 33 wc w.heap.size (fun k_ => (P0_ k_ ∨ w.heap.size ≤ k_) ∧ k_ ≠ gb373) (.slice A0 l0.length c0) l0) := ⟨by rw [← hq_]; exact (zV HO_0)⟩; have n1_ : Aside0 (Kd.V (Kd.int .i64) 3 wc w.heap.size (fun k_ => (P0_ k_ ∨ w.heap.size ≤ k_) ∧ k_ ≠ gb373) (.slice Ao10 t369.length co10) t369) := ⟨by rw [← hq_]; exact (zV HO_374002)⟩; have n2_ : Aside0 (wc.heap[gb373]? = some (.cells #[.int .i64 t367, .int .i64 t368, .slice Ao10 t369.length co10] 33 (0, 0))) := ⟨by rw [← hq_]; exact (zK BK373)⟩; have n3_ : Aside0 (Below w.heap.size w wc) := ⟨by rw [← hq_]; exact (zB1 HB GE373)⟩; clear HO_0 HO_374002 BK373 HB hq_; have HO_0 := n0_; have HO_374002 := n1_; have BK373 := n2_; have HB := n3_; clear n0_ n1_ n2_ n3_; have hcz38_0 : wc.cell? ⟨gb373, 0, none⟩ = some (.int .i64 t367) := (blk_cell BK373.out 0).trans rfl; have hcz38_1 : wc.cell? ⟨gb373, 1, none⟩ = some (.int .i64 t368) := (blk_cell BK373.out 1).trans rfl; have hcz38_2 : wc.cell? ⟨gb373, 2, none⟩ = some (.slice Ao10 t369.length co10) := (blk_cell BK373.out 2).trans rfl; have hfz38_0 := blk_frozen BK373.out 0; have hfz38_1 := blk_frozen BK373.out 1; have hfz38_2 := blk_frozen BK373.out 2))) | ((with_reducible refine gate_callee (f := 57) rfl ?_); refine goesL_ (some 43) rfl rfl Try.func57 (by kernel_rfl) rfl #[.slice Ao10 t369.length co10, .int .i64 a2, .bool a3] rfl zP ?_; (with_reducible refine (line_Push.calls kj5 (fun k_ => ((P0_ k_ ∨ w.heap.size ≤ k_) ∧ k_ ≠ gb373)) _ _ t369 a2 a3 t379 t382 _ ?side1 A27.out).mono ?_); (case side1 => exact HO_374002.out); rintro e w39 ⟨v380, rfl, ho0, hb⟩; refine ⟨_, rfl, ?_⟩; have n0_ := Aside0.mk (Kd.V_elder' (zV HO_0) (Kd.R_base ho0) hb); have n1_ := Aside0.mk (Kd.V_elder' (zV HO_374002) (Kd.R_base ho0) hb); have n2_ := Aside0.mk (Kd.R_lower (Kd.R_newM (M := fun k_ => (w.heap.size ≤ k_)) (Kd.R_mono (ok' := fun k_ => True) ho0 (fun _ hk_ => trivial)) (below_size (zB1 HB GE373)) (fun k_ h_ => h_)) (below_size (zB1 HB GE373))); have n3_ := Aside0.mk (blk_below (g := gb373) (o := .cells #[.int .i64 t367, .int .i64 t368, .slice Ao10 t369.length co10] 33 (0, 0)) (zK BK373) hb); have n4_ := Aside0.mk (below_step (zB1 HB GE373) hb); clear HO_0; clear HO_374002; clear BK373; clear HB; have HO_0 := n0_; have HO_374002 := n1_; have HO381 := n2_; have BK373 := n3_; have HB := n4_; clear n0_ n1_ n2_ n3_ n4_; (try clear hb); (try clear hb2); (try clear hk); (try clear hi); (try clear ho0); obtain ⟨Ao40, co40, eo40⟩ := Kd.R_slice HO381.out; subst eo40; have hcz41_0 : w39.cell? ⟨gb373, 0, none⟩ = some (.int .i64 t367) := (blk_cell BK373.out 0).trans rfl; have hcz41_1 : w39.cell? ⟨gb373, 1, none⟩ = some (.int .i64 t368) := (blk_cell BK373.out 1).trans rfl; have hcz41_2 : w39.cell? ⟨gb373, 2, none⟩ = some (.slice Ao10 t369.length co10) := (blk_cell BK373.out 2).trans rfl; have hfz41_0 := blk_frozen BK373.out 0; have hfz41_1 := blk_frozen BK373.out 1; have hfz41_2 := blk_frozen BK373.out 2) | ((with_reducible refine gate_store (t := 25) (p := 46) rfl ?_); refine store_event (t := 25) (p := 46) (v := ?vo_w42) (w1 := (w39.setCell ⟨gb373, 2, none⟩ (.slice Ao40 t379.length co40))) ?hg ?ho ?hn ?hr ?_; (case ho => rfl); (case hg => rfl); (case hn => rfl); (case hr => first | (go_simp; done) | (go_simp; rfl)); intro w42 hw; have n0_ : Aside0 (Kd.V k33 33 w42 w.heap.size (fun k_ => (P0_ k_ ∨ w.heap.size ≤ k_) ∧ some k_ ≠ (.slice Ao40 t379.length co40 : Value).ownBlock ∧ k_ ≠ gb373) (.slice A0 l0.length c0) l0) := ⟨(by rw [hw]; exact (by (with_reducible repeat (first | apply Kd.V_alloc | apply Kd.V_drewN | apply Kd.V_drew)); exact Kd.V_mono (Kd.V_far (p := ⟨gb373, 2, none⟩) (Kd.V_mono HO_0.out (fun k_ hk => (⟨hk, hk.1.2⟩ : _ ∧ k_ ≠ gb373))) (fun _ hk => hk.2) (.slice Ao40 t379.length co40)) (fun _ hk => ⟨hk.1.1.1, ⟨hk.1.2, hk.1.1.2⟩⟩)))⟩; have n1_ : Aside0 (Kd.V (Kd.int .i64) 3 w42 w.heap.size (fun k_ => (P0_ k_ ∨ w.heap.size ≤ k_) ∧ some k_ ≠ (.slice Ao40 t379.length co40 : Value).ownBlock ∧ k_ ≠ gb373) (.slice Ao10 t369.length co10) t369) := ⟨(by rw [hw]; exact (by (with_reducible repeat (first | apply Kd.V_alloc | apply Kd.V_drewN | apply Kd.V_drew)); exact Kd.V_mono (Kd.V_far (p := ⟨gb373, 2, none⟩) (Kd.V_mono HO_374002.out (fun k_ hk => (⟨hk, hk.1.2⟩ : _ ∧ k_ ≠ gb373))) (fun _ hk => hk.2) (.slice Ao40 t379.length co40)) (fun _ hk => ⟨hk.1.1.1, ⟨hk.1.2, hk.1.1.2⟩⟩)))⟩; have n2_ : Aside0 (Kd.R (Kd.int .i64) 3 w42 w.heap.size (fun k_ => (w.heap.size ≤ k_)) (.slice Ao40 t379.length co40) t379) := ⟨(by rw [hw]; exact (by (with_reducible repeat (first | apply Kd.R_alloc | apply Kd.R_drewN | apply Kd.R_drew)); exact Kd.R_mono (Kd.R_far (p := ⟨gb373, 2, none⟩) (Kd.R_types HO381.out BK373.out (by decide)) (fun _ hk => hk.2) (.slice Ao40 t379.length co40)) (fun _ hk => hk.1.1)))⟩; have n3_ : Aside0 (w42.heap[gb373]? = some (.cells #[.int .i64 t367, .int .i64 t368, .slice Ao40 t379.length co40] 33 (0, 0))) := ⟨(by rw [hw]; exact (by (with_reducible repeat (first | refine blk_drewN ?_ _ | refine blk_drew ?_ | refine blk_alloc ?_ _)); refine blk_put (cs := #[.int .i64 t367, .int .i64 t368, .slice Ao10 t369.length co10]) ?_ 2 _ rfl; (with_reducible repeat (first | refine blk_drewN ?_ _ | refine blk_drew ?_ | refine blk_alloc ?_ _)); exact BK373.out))⟩; have n4_ : Aside0 (Below w.heap.size w w42) := ⟨(by rw [hw]; exact (zB1 HB GE373))⟩; clear hw; clear HO_0; clear HO_374002; clear HO381; clear BK373; clear HB; have HO_0 := n0_; have HO_374002 := n1_; have HO381 := n2_; have BK373 := n3_; have HB := n4_; clear n0_ n1_ n2_ n3_ n4_; have hcz43_0 : w42.cell? ⟨gb373, 0, none⟩ = some (.int .i64 t367) := (blk_cell BK373.out 0).trans rfl; have hcz43_1 : w42.cell? ⟨gb373, 1, none⟩ = some (.int .i64 t368) := (blk_cell BK373.out 1).trans rfl; have hcz43_2 : w42.cell? ⟨gb373, 2, none⟩ = some (.slice Ao40 t379.length co40) := (blk_cell BK373.out 2).trans rfl; have hfz43_0 := blk_frozen BK373.out 0; have hfz43_1 := blk_frozen BK373.out 1; have hfz43_2 := blk_frozen BK373.out 2) | ((with_reducible refine gate_callee (f := 17) rfl ?_); refine goesL_ (some 53) rfl rfl Try.func17 (by kernel_rfl) rfl #[.slice A0 l0.length c0, .agg #[.int .i64 t367, .int .i64 t368, .slice Ao40 t379.length co40]] rfl zP ?_; (with_reducible refine (root_Set.calls (fun k_ => ((P0_ k_ ∨ w.heap.size ≤ k_) ∧ (some k_ ≠ (.slice Ao40 t379.length co40 : Value).ownBlock ∧ k_ ≠ gb373))) _ _ l0 t367 t368 (fun k_ => some k_ = (.slice Ao40 t379.length co40 : Value).ownBlock) _ _ t379 t383 t386 _ ?side1 ?side2 A29.out).mono ?_); (case side1 => exact HO_0.out); (case side2 => exact Kd.R_V (Kd.R_tight rfl (Kd.R_types (HO381.out) BK373.out (by decide)))); rintro e w44 ⟨v384, rfl, ho0, hb⟩; refine ⟨_, rfl, ?_⟩; have n0_ := Aside0.mk (Kd.V_below (zV HO_0) hb); have n1_ := Aside0.mk (Kd.V_below (zV HO_374002) hb); have n2_ := Aside0.mk (Kd.R_below (zR HO381) hb); have n3_ := Aside0.mk (Kd.V_lower (Kd.V_mono (ok' := fun k_ => (P0_ k_ ∨ w.heap.size ≤ k_) ∧ k_ ≠ gb373) ho0 (fun k_ hk_ => ⟨Or.elim hk_ (fun hs_ => Or.elim hs_ (fun hs_ => hs_.1) (fun hs_ => (.inr (((Kd.R_types (HO381.out) BK373.out (by decide)).1 k_ hs_.symm).1)))) (fun hn_ => (.inr (Nat.le_trans (below_size (zB1 HB GE373)) hn_))), Or.elim hk_ (fun hs_ => Or.elim hs_ (fun hs_ => hs_.2.2) (fun hs_ => ((Kd.R_types (HO381.out) BK373.out (by decide)).1 k_ hs_.symm).2)) (fun hn_ => (Kd.freshB (g := gb373) (o := .cells #[.int .i64 t367, .int .i64 t368, .slice Ao40 t379.length co40] 33 (0, 0)) (zK BK373) k_ hn_))⟩)) (below_size (zB1 HB GE373))); have n4_ := Aside0.mk (blk_below (g := gb373) (o := .cells #[.int .i64 t367, .int .i64 t368, .slice Ao40 t379.length co40] 33 (0, 0)) (zK BK373) hb); have n5_ := Aside0.mk (below_step (zB1 HB GE373) hb); clear HO_0; clear HO_374002; clear HO381; clear BK373; clear HB; have HO_0 := n0_; have HO_374002 := n1_; have HO381 := n2_; have HO385 := n3_; have BK373 := n4_; have HB := n5_; clear n0_ n1_ n2_ n3_ n4_ n5_; (try clear hb); (try clear hb2); (try clear hk); (try clear hi); (try clear ho0)))
        go_ret3
        exact ⟨_, by first | rfl | (simp [errW_none, errW_some] <;> rfl) | (simp [*, errW_none, errW_some] <;> rfl), Kd.V_mono (Kd.S_V (by first | exact Kd.S_nil _ _ _ 0 (fun k_ => w.heap.size ≤ k_) | exact Kd.S_nil _ _ _ _ _ | exact Kd.N_nil _ _ _ _ _ | exact Kd.V_nil _ _ _ _ _ | exact Kd.Q_nil _ _ _ _ _ | exact Kd.R_nil _ _ _ _ _)) (fun k_ hk => by first | exact ⟨(.inr (hk.1)), hk.2⟩ | exact (.inr (hk))), zB1 HB GE373⟩
      ·rw [if_neg c28] at H
       have c28b0 : (t382 == 0) = false := beq_eq_false_iff_ne.mpr c28
       have c28b1 : (t382 != 0) = true := bne_iff_ne.mpr c28
       simp only [Option.some.injEq, Prod.mk.injEq] at H
       obtain ⟨rfl, rfl, rfl⟩ := H
       have hcz45_0 : wc.cell? ⟨gb373, 0, none⟩ = some (.int .i64 t367) := (blk_cell BK373.out 0).trans rfl
       have hcz45_1 : wc.cell? ⟨gb373, 1, none⟩ = some (.int .i64 t368) := (blk_cell BK373.out 1).trans rfl
       have hcz45_2 : wc.cell? ⟨gb373, 2, none⟩ = some (.slice Ao10 t369.length co10) := (blk_cell BK373.out 2).trans rfl
       have hfz45_0 := blk_frozen BK373.out 0
       have hfz45_1 := blk_frozen BK373.out 1
       have hfz45_2 := blk_frozen BK373.out 2
       go_wp2_with (first | ((with_reducible refine gate_callee (f := 56) rfl ?_); refine goesL_ (some 29) rfl rfl Try.func56 (by kernel_rfl) rfl #[.slice Ao10 t369.length co10, .int .i64 a2] rfl zP ?_; (with_reducible refine (slices_Contains_int_int.calls kj5 _ _ t369 a2 false _ ?side1 ?side2 A13.out).mono ?_); (case side1 => repeat (first | exact (Kd.V_reads' HO_374002.out).2.2 | (with_reducible refine Kd.C_alloc ?_ _) | (with_reducible refine Kd.C_drewN ?_ _) | (with_reducible refine Kd.C_drew ?_))); (case side2 => exact (Kd.V_reads' HO_374002.out).2.1); rintro e w' ⟨rfl, ⟨nd, rfl⟩⟩; refine ⟨_, rfl, ?_⟩; (try (rw [drewN_self wc]; generalize hq_ : World.drewN wc _ = wc; have n0_ : Aside0 (Kd.V k33 33 wc w.heap.size (fun k_ => (P0_ k_ ∨ w.heap.size ≤ k_) ∧ k_ ≠ gb373) (.slice A0 l0.length c0) l0) := ⟨by rw [← hq_]; exact (zV HO_0)⟩; have n1_ : Aside0 (Kd.V (Kd.int .i64) 3 wc w.heap.size (fun k_ => (P0_ k_ ∨ w.heap.size ≤ k_) ∧ k_ ≠ gb373) (.slice Ao10 t369.length co10) t369) := ⟨by rw [← hq_]; exact (zV HO_374002)⟩; have n2_ : Aside0 (wc.heap[gb373]? = some (.cells #[.int .i64 t367, .int .i64 t368, .slice Ao10 t369.length co10] 33 (0, 0))) := ⟨by rw [← hq_]; exact (zK BK373)⟩; have n3_ : Aside0 (Below w.heap.size w wc) := ⟨by rw [← hq_]; exact (zB1 HB GE373)⟩; clear HO_0 HO_374002 BK373 HB hq_; have HO_0 := n0_; have HO_374002 := n1_; have BK373 := n2_; have HB := n3_; clear n0_ n1_ n2_ n3_; have hcz45_0 : wc.cell? ⟨gb373, 0, none⟩ = some (.int .i64 t367) := (blk_cell BK373.out 0).trans rfl; have hcz45_1 : wc.cell? ⟨gb373, 1, none⟩ = some (.int .i64 t368) := (blk_cell BK373.out 1).trans rfl; have hcz45_2 : wc.cell? ⟨gb373, 2, none⟩ = some (.slice Ao10 t369.length co10) := (blk_cell BK373.out 2).trans rfl; have hfz45_0 := blk_frozen BK373.out 0; have hfz45_1 := blk_frozen BK373.out 1; have hfz45_2 := blk_frozen BK373.out 2))) | ((with_reducible refine gate_callee (f := 57) rfl ?_); refine goesL_ (some 43) rfl rfl Try.func57 (by kernel_rfl) rfl #[.slice Ao10 t369.length co10, .int .i64 a2, .bool a3] rfl zP ?_; (with_reducible refine (line_Push.calls kj5 (fun k_ => ((P0_ k_ ∨ w.heap.size ≤ k_) ∧ k_ ≠ gb373)) _ _ t369 a2 a3 t379 t382 _ ?side1 A27.out).mono ?_); (case side1 => exact HO_374002.out); rintro e w46 ⟨v380, rfl, ho0, hb⟩; refine ⟨_, rfl, ?_⟩; have n0_ := Aside0.mk (Kd.V_elder' (zV HO_0) (Kd.R_base ho0) hb); have n1_ := Aside0.mk (Kd.V_elder' (zV HO_374002) (Kd.R_base ho0) hb); have n2_ := Aside0.mk (Kd.R_lower (Kd.R_newM (M := fun k_ => (w.heap.size ≤ k_)) (Kd.R_mono (ok' := fun k_ => True) ho0 (fun _ hk_ => trivial)) (below_size (zB1 HB GE373)) (fun k_ h_ => h_)) (below_size (zB1 HB GE373))); have n3_ := Aside0.mk (blk_below (g := gb373) (o := .cells #[.int .i64 t367, .int .i64 t368, .slice Ao10 t369.length co10] 33 (0, 0)) (zK BK373) hb); have n4_ := Aside0.mk (below_step (zB1 HB GE373) hb); clear HO_0; clear HO_374002; clear BK373; clear HB; have HO_0 := n0_; have HO_374002 := n1_; have HO381 := n2_; have BK373 := n3_; have HB := n4_; clear n0_ n1_ n2_ n3_ n4_; (try clear hb); (try clear hb2); (try clear hk); (try clear hi); (try clear ho0); obtain ⟨Ao47, co47, eo47⟩ := Kd.R_slice HO381.out; subst eo47; have hcz48_0 : w46.cell? ⟨gb373, 0, none⟩ = some (.int .i64 t367) := (blk_cell BK373.out 0).trans rfl; have hcz48_1 : w46.cell? ⟨gb373, 1, none⟩ = some (.int .i64 t368) := (blk_cell BK373.out 1).trans rfl; have hcz48_2 : w46.cell? ⟨gb373, 2, none⟩ = some (.slice Ao10 t369.length co10) := (blk_cell BK373.out 2).trans rfl; have hfz48_0 := blk_frozen BK373.out 0; have hfz48_1 := blk_frozen BK373.out 1; have hfz48_2 := blk_frozen BK373.out 2))
       go_ret3
       exact ⟨_, by first | rfl | (simp [errW_none, errW_some] <;> rfl) | (simp [*, errW_none, errW_some] <;> rfl), Kd.V_mono (Kd.S_V (by first | exact Kd.S_nil _ _ _ 0 (fun k_ => w.heap.size ≤ k_) | exact Kd.S_nil _ _ _ _ _ | exact Kd.N_nil _ _ _ _ _ | exact Kd.V_nil _ _ _ _ _ | exact Kd.Q_nil _ _ _ _ _ | exact Kd.R_nil _ _ _ _ _)) (fun k_ hk => by first | exact ⟨(.inr (hk.1)), hk.2⟩ | exact (.inr (hk))), zB1 HB GE373⟩

end Go.Proofs.Ytnjnjajgpkmfhaa.PX

namespace Go.Proofs.Ytnjnjajgpkmfhaa.PX
open Go.RowKit Go.Proofs.YtnjnjajgpkmfhaaW.PrintWords Go.Proofs.YtnjnjajgpkmfhaaW.PrintLast Go.Proofs.YtnjnjajgpkmfhaaW.PrintMore
attribute [local go_sem] max2_int min2_int max_two min_two max_three min_three max_four min_four   -- for this text's walks alone
set_option linter.unusedVariables false
set_option linter.unusedSimpArgs false

/-! ### sema_Release: function 32 -/
def sema_Release.f (l0 : List (S33)) (a1 : Int) : Option ((List (S33)) × Int × Int) := (root_Get.f l0 a1).bind fun bt387 => (if bt387.2.2.2 = 0 then ((line_Pop.f bt387.2.2.1).bind fun bt394 => (if bt394.2.2 = 0 then ((root_Set.f l0 bt387.1 bt387.2.1 bt394.1).bind fun bt399 => (if bt399.2 = 0 then (some (bt399.1, bt394.2.1, 0)) else (some (([] : List (S33)), 0, bt399.2)))) else (if bt387.2.1 = 2147483647 then (some (([] : List (S33)), 0, 10)) else ((root_Set.f l0 bt387.1 (wrap64 (bt387.2.1 + 1)) bt387.2.2.1).bind fun bt403 => (if bt403.2 = 0 then (some (bt403.1, (-1), 0)) else (some (([] : List (S33)), 0, bt403.2))))))) else (some (([] : List (S33)), 0, 1)))
set_option maxHeartbeats 8000000 in
set_option maxRecDepth 100000 in
theorem sema_Release.calls (P0_ : Nat → Prop) (A0 : Option Addr) (c0 : Nat) (l0 : List (S33)) (a1 : Int) (r1 : List (S33)) (r2 : Int) (r3 : Int) (w : World) (hs0 : Kd.V k33 33 w w.heap.size (fun k_ => P0_ k_) (.slice A0 l0.length c0) l0) (h : sema_Release.f l0 a1 = some (r1, r2, r3)) :
  Calls Try.prog 32 #[.slice A0 l0.length c0, .int .i64 a1] w fun e w' => ∃ v0_ : Value, e = .returned (.tuple #[v0_, .int .i64 r2, .int .i64 r3]) ∧ Kd.V k33 33 w' w.heap.size (fun k_ => (P0_ k_ ∨ w.heap.size ≤ k_)) v0_ r1 ∧ Below w.heap.size w w' := by
 have hu33 := Try.underlying33
 have HO0 := Aside0.mk (show Kd.V k33 33 w w.heap.size (fun k_ => (P0_ k_ ∨ w.heap.size ≤ k_)) (.slice A0 l0.length c0) l0 from Kd.V_mono hs0 (fun k_ hk => .inl hk))
 have HB := Aside0.mk (Below.refl w.heap.size w)
 have H : ((root_Get.f l0 a1).bind fun bt387 => (if bt387.2.2.2 = 0 then ((line_Pop.f bt387.2.2.1).bind fun bt394 => (if bt394.2.2 = 0 then ((root_Set.f l0 bt387.1 bt387.2.1 bt394.1).bind fun bt399 => (if bt399.2 = 0 then (some (bt399.1, bt394.2.1, 0)) else (some (([] : List (S33)), 0, bt399.2)))) else (if bt387.2.1 = 2147483647 then (some (([] : List (S33)), 0, 10)) else ((root_Set.f l0 bt387.1 (wrap64 (bt387.2.1 + 1)) bt387.2.2.1).bind fun bt403 => (if bt403.2 = 0 then (some (bt403.1, (-1), 0)) else (some (([] : List (S33)), 0, bt403.2))))))) else (some (([] : List (S33)), 0, 1)))) = some (r1, r2, r3) := h
 clear h
 replace H := Option.bind_eq_some_iff.mp H
 obtain ⟨⟨t387, t388, t389, t392⟩, A30, H⟩ := H
 replace H : (if t392 = 0 then ((line_Pop.f t389).bind fun bt394 => (if bt394.2.2 = 0 then ((root_Set.f l0 t387 t388 bt394.1).bind fun bt399 => (if bt399.2 = 0 then (some (bt399.1, bt394.2.1, 0)) else (some (([] : List (S33)), 0, bt399.2)))) else (if t388 = 2147483647 then (some (([] : List (S33)), 0, 10)) else ((root_Set.f l0 t387 (wrap64 (t388 + 1)) t389).bind fun bt403 => (if bt403.2 = 0 then (some (bt403.1, (-1), 0)) else (some (([] : List (S33)), 0, bt403.2))))))) else (some (([] : List (S33)), 0, 1))) = some (r1, r2, r3) := H
 have A3 := Aside0.mk A30
 clear A30
 by_cases c4 : t392 = 0
 ·rw [if_pos c4] at H
  have c4b0 : (t392 == 0) = true := beq_iff_eq.mpr c4
  have c4b1 : (t392 != 0) = false := bne_eq_false_iff_eq.mpr c4
  clear c4
  replace H := Option.bind_eq_some_iff.mp H
  obtain ⟨⟨t394, t397, t398⟩, A50, H⟩ := H
  replace H : (if t398 = 0 then ((root_Set.f l0 t387 t388 t394).bind fun bt399 => (if bt399.2 = 0 then (some (bt399.1, t397, 0)) else (some (([] : List (S33)), 0, bt399.2)))) else (if t388 = 2147483647 then (some (([] : List (S33)), 0, 10)) else ((root_Set.f l0 t387 (wrap64 (t388 + 1)) t389).bind fun bt403 => (if bt403.2 = 0 then (some (bt403.1, (-1), 0)) else (some (([] : List (S33)), 0, bt403.2)))))) = some (r1, r2, r3) := H
  have A5 := Aside0.mk A50
  clear A50
  by_cases c6 : t398 = 0
  ·rw [if_pos c6] at H
   have c6b0 : (t398 == 0) = true := beq_iff_eq.mpr c6
   have c6b1 : (t398 != 0) = false := bne_eq_false_iff_eq.mpr c6
   clear c6
   replace H := Option.bind_eq_some_iff.mp H
   obtain ⟨⟨t399, t402⟩, A70, H⟩ := H
   replace H : (if t402 = 0 then (some (t399, t397, 0)) else (some (([] : List (S33)), 0, t402))) = some (r1, r2, r3) := H
   have A7 := Aside0.mk A70
   clear A70
   by_cases c8 : t402 = 0
   ·rw [if_pos c8] at H
    have c8b0 : (t402 == 0) = true := beq_iff_eq.mpr c8
    have c8b1 : (t402 != 0) = false := bne_eq_false_iff_eq.mpr c8
    clear c8
    simp only [Option.some.injEq, Prod.mk.injEq] at H
    obtain ⟨rfl, rfl, rfl⟩ := H
    go_enter Try.func32, Try.ntmps32
    go_wp2_with (first | ((with_reducible refine gate_callee (f := 16) rfl ?_); refine goesL_ (some 16) rfl rfl Try.func16 (by kernel_rfl) rfl #[.slice A0 l0.length c0, .int .i64 a1] rfl zP ?_; (with_reducible refine (root_Get.calls (fun k_ => (P0_ k_ ∨ w.heap.size ≤ k_)) _ _ l0 a1 t387 t388 t389 t392 _ ?side1 A3.out).mono ?_); (case side1 => exact HO0.out); rintro e w9 ⟨v390, rfl, ho0, hb⟩; refine ⟨_, rfl, ?_⟩; have n0_ := Aside0.mk (Kd.V_below (zV HO0) hb); have n1_ := Aside0.mk (Kd.V_lower (Kd.V_mono (ok' := fun k_ => (P0_ k_ ∨ w.heap.size ≤ k_)) ho0 (fun k_ hk_ => Or.elim hk_ (fun hs_ => hs_) (fun hn_ => (.inr (Nat.le_trans (below_size (zB HB)) hn_))))) (below_size (zB HB))); have n2_ := Aside0.mk (below_step (zB HB) hb); clear HO0; clear HB; have HO0 := n0_; have HO391 := n1_; have HB := n2_; clear n0_ n1_ n2_; (try clear hb); (try clear hb2); (try clear hk); (try clear hi); (try clear ho0)) | ((with_reducible refine gate_dst (N := 7) rfl ?_); refine box_event ?hg (N := 7) ?hd (cs := #[.int .i64 0, .int .i64 0, .slice none 0 0]) (t := 33) ?hr ?_; (case hd => rfl); (case hg => rfl); (case hr => first | (go_simp; done) | (go_simp; rfl)); intro gb393 hg w10 hbox hb; have n0_ := Aside0.mk (Kd.V_below (Kd.V_elderB (zV HO0) gb393 (Nat.le_of_eq hg.symm)) hb); have n1_ := Aside0.mk (Kd.V_below (Kd.V_elderB (zV HO391) gb393 (Nat.le_of_eq hg.symm)) hb); have n2_ := Aside0.mk (below_step (zB HB) hb); have n3_ := Aside0.mk (hbox); have n4_ := Aside0.mk ((by rw [hg]; exact (below_size (zB HB)) : w.heap.size ≤ gb393)); have n5_ := Aside0.mk ((by rw [hg]; exact (below_size (zB HB)) : w.heap.size ≤ gb393)); clear HO0; clear HO391; clear HB; have HO0 := n0_; have HO391 := n1_; have HB := n2_; have BK393 := n3_; have GW393 := n4_; have GE393 := n5_; clear n0_ n1_ n2_ n3_ n4_ n5_; clear hb hbox hg; have hcz11_0 : w10.cell? ⟨gb393, 0, none⟩ = some (.int .i64 0) := (blk_cell BK393.out 0).trans rfl; have hcz11_1 : w10.cell? ⟨gb393, 1, none⟩ = some (.int .i64 0) := (blk_cell BK393.out 1).trans rfl; have hcz11_2 : w10.cell? ⟨gb393, 2, none⟩ = some (.slice none 0 0) := (blk_cell BK393.out 2).trans rfl; have hfz11_0 := blk_frozen BK393.out 0; have hfz11_1 := blk_frozen BK393.out 1; have hfz11_2 := blk_frozen BK393.out 2; obtain ⟨Ao12, co12, eo12⟩ := Kd.V_slice HO391.out; subst eo12) | ((with_reducible refine gate_store (t := 33) (p := 7) rfl ?_); refine store_event (t := 33) (p := 7) (v := ?vo_w13) (w1 := (((w10.setCell ⟨gb393, 0, none⟩ (.int .i64 t387)).setCell ⟨gb393, 1, none⟩ (.int .i64 t388)).setCell ⟨gb393, 2, none⟩ (.slice Ao12 t389.length co12))) ?hg ?ho ?hn ?hr ?_; (case ho => rfl); (case hg => rfl); (case hn => rfl); (case hr => first | (go_simp; done) | (go_simp; rfl)); intro w13 hw; have n0_ : Aside0 (Kd.V k33 33 w13 w.heap.size (fun k_ => (P0_ k_ ∨ w.heap.size ≤ k_) ∧ k_ ≠ gb393) (.slice A0 l0.length c0) l0) := ⟨(by rw [hw]; exact (by (with_reducible repeat (first | apply Kd.V_alloc | apply Kd.V_drewN | apply Kd.V_drew)); exact Kd.V_mono (Kd.V_far (p := ⟨gb393, 2, none⟩) (Kd.V_far (p := ⟨gb393, 1, none⟩) (Kd.V_far (p := ⟨gb393, 0, none⟩) (Kd.V_mono HO0.out (fun k_ hk => (⟨hk, hk.2⟩ : _ ∧ k_ ≠ gb393))) (fun _ hk => hk.2) (.int .i64 t387)) (fun _ hk => hk.2) (.int .i64 t388)) (fun _ hk => hk.2) (.slice Ao12 t389.length co12)) (fun _ hk => ⟨hk.1.1, hk.1.2⟩)))⟩; have n1_ : Aside0 (Kd.V (Kd.int .i64) 3 w13 w.heap.size (fun k_ => (P0_ k_ ∨ w.heap.size ≤ k_) ∧ k_ ≠ gb393) (.slice Ao12 t389.length co12) t389) := ⟨(by rw [hw]; exact (by (with_reducible repeat (first | apply Kd.V_alloc | apply Kd.V_drewN | apply Kd.V_drew)); exact Kd.V_mono (Kd.V_far (p := ⟨gb393, 2, none⟩) (Kd.V_far (p := ⟨gb393, 1, none⟩) (Kd.V_far (p := ⟨gb393, 0, none⟩) (Kd.V_mono HO391.out (fun k_ hk => (⟨hk, hk.2⟩ : _ ∧ k_ ≠ gb393))) (fun _ hk => hk.2) (.int .i64 t387)) (fun _ hk => hk.2) (.int .i64 t388)) (fun _ hk => hk.2) (.slice Ao12 t389.length co12)) (fun _ hk => ⟨hk.1.1, hk.1.2⟩)))⟩; have n2_ : Aside0 (w13.heap[gb393]? = some (.cells #[.int .i64 t387, .int .i64 t388, .slice Ao12 t389.length co12] 33 (0, 0))) := ⟨(by rw [hw]; exact (by (with_reducible repeat (first | refine blk_drewN ?_ _ | refine blk_drew ?_ | refine blk_alloc ?_ _)); refine blk_put (cs := #[.int .i64 t387, .int .i64 t388, .slice none 0 0]) ?_ 2 _ rfl; (with_reducible repeat (first | refine blk_drewN ?_ _ | refine blk_drew ?_ | refine blk_alloc ?_ _)); refine blk_put (cs := #[.int .i64 t387, .int .i64 0, .slice none 0 0]) ?_ 1 _ rfl; (with_reducible repeat (first | refine blk_drewN ?_ _ | refine blk_drew ?_ | refine blk_alloc ?_ _)); refine blk_put (cs := #[.int .i64 0, .int .i64 0, .slice none 0 0]) ?_ 0 _ rfl; (with_reducible repeat (first | refine blk_drewN ?_ _ | refine blk_drew ?_ | refine blk_alloc ?_ _)); exact BK393.out))⟩; have n3_ : Aside0 (Below w.heap.size w w13) := ⟨(by rw [hw]; exact (zB1 HB GE393))⟩; clear hw; clear HO0; clear HO391; clear BK393; clear HB; have HO0 := n0_; have HO391 := n1_; have BK393 := n2_; have HB := n3_; clear n0_ n1_ n2_ n3_; have hcz14_0 : w13.cell? ⟨gb393, 0, none⟩ = some (.int .i64 t387) := (blk_cell BK393.out 0).trans rfl; have hcz14_1 : w13.cell? ⟨gb393, 1, none⟩ = some (.int .i64 t388) := (blk_cell BK393.out 1).trans rfl; have hcz14_2 : w13.cell? ⟨gb393, 2, none⟩ = some (.slice Ao12 t389.length co12) := (blk_cell BK393.out 2).trans rfl; have hfz14_0 := blk_frozen BK393.out 0; have hfz14_1 := blk_frozen BK393.out 1; have hfz14_2 := blk_frozen BK393.out 2) | ((with_reducible refine gate_callee (f := 58) rfl ?_); refine goesL_ (some 24) rfl rfl Try.func58 (by kernel_rfl) rfl #[.slice Ao12 t389.length co12] rfl zP ?_; (with_reducible refine (line_Pop.calls (fun k_ => ((P0_ k_ ∨ w.heap.size ≤ k_) ∧ k_ ≠ gb393)) _ _ t389 t394 t397 t398 _ ?side1 A5.out).mono ?_); (case side1 => exact HO391.out); rintro e w15 ⟨v395, rfl, ho0, hb⟩; refine ⟨_, rfl, ?_⟩; have n0_ := Aside0.mk (Kd.V_below (zV HO0) hb); have n1_ := Aside0.mk (Kd.V_below (zV HO391) hb); have n2_ := Aside0.mk (Kd.V_lower (Kd.V_mono (ok' := fun k_ => (P0_ k_ ∨ w.heap.size ≤ k_) ∧ k_ ≠ gb393) ho0 (fun k_ hk_ => ⟨Or.elim hk_ (fun hs_ => hs_.1) (fun hn_ => (.inr (Nat.le_trans (below_size (zB1 HB GE393)) hn_))), Or.elim hk_ (fun hs_ => hs_.2) (fun hn_ => (Kd.freshB (g := gb393) (o := .cells #[.int .i64 t387, .int .i64 t388, .slice Ao12 t389.length co12] 33 (0, 0)) (zK BK393) k_ hn_))⟩)) (below_size (zB1 HB GE393))); have n3_ := Aside0.mk (blk_below (g := gb393) (o := .cells #[.int .i64 t387, .int .i64 t388, .slice Ao12 t389.length co12] 33 (0, 0)) (zK BK393) hb); have n4_ := Aside0.mk (below_step (zB1 HB GE393) hb); clear HO0; clear HO391; clear BK393; clear HB; have HO0 := n0_; have HO391 := n1_; have HO396 := n2_; have BK393 := n3_; have HB := n4_; clear n0_ n1_ n2_ n3_ n4_; (try clear hb); (try clear hb2); (try clear hk); (try clear hi); (try clear ho0); obtain ⟨Ao16, co16, eo16⟩ := Kd.V_slice HO396.out; subst eo16; have hcz17_0 : w15.cell? ⟨gb393, 0, none⟩ = some (.int .i64 t387) := (blk_cell BK393.out 0).trans rfl; have hcz17_1 : w15.cell? ⟨gb393, 1, none⟩ = some (.int .i64 t388) := (blk_cell BK393.out 1).trans rfl; have hcz17_2 : w15.cell? ⟨gb393, 2, none⟩ = some (.slice Ao12 t389.length co12) := (blk_cell BK393.out 2).trans rfl; have hfz17_0 := blk_frozen BK393.out 0; have hfz17_1 := blk_frozen BK393.out 1; have hfz17_2 := blk_frozen BK393.out 2) | ((with_reducible refine gate_store (t := 25) (p := 37) rfl ?_); refine store_event (t := 25) (p := 37) (v := ?vo_w18) (w1 := (w15.setCell ⟨gb393, 2, none⟩ (.slice Ao16 t394.length co16))) ?hg ?ho ?hn ?hr ?_; (case ho => rfl); (case hg => rfl); (case hn => rfl); (case hr => first | (go_simp; done) | (go_simp; rfl)); intro w18 hw; have n0_ : Aside0 (Kd.V k33 33 w18 w.heap.size (fun k_ => (P0_ k_ ∨ w.heap.size ≤ k_) ∧ k_ ≠ gb393) (.slice A0 l0.length c0) l0) := ⟨(by rw [hw]; exact (by (with_reducible repeat (first | apply Kd.V_alloc | apply Kd.V_drewN | apply Kd.V_drew)); exact Kd.V_mono (Kd.V_far (p := ⟨gb393, 2, none⟩) (Kd.V_mono HO0.out (fun k_ hk => (⟨hk, hk.2⟩ : _ ∧ k_ ≠ gb393))) (fun _ hk => hk.2) (.slice Ao16 t394.length co16)) (fun _ hk => ⟨hk.1.1, hk.1.2⟩)))⟩; have n1_ : Aside0 (Kd.V (Kd.int .i64) 3 w18 w.heap.size (fun k_ => (P0_ k_ ∨ w.heap.size ≤ k_) ∧ k_ ≠ gb393) (.slice Ao12 t389.length co12) t389) := ⟨(by rw [hw]; exact (by (with_reducible repeat (first | apply Kd.V_alloc | apply Kd.V_drewN | apply Kd.V_drew)); exact Kd.V_mono (Kd.V_far (p := ⟨gb393, 2, none⟩) (Kd.V_mono HO391.out (fun k_ hk => (⟨hk, hk.2⟩ : _ ∧ k_ ≠ gb393))) (fun _ hk => hk.2) (.slice Ao16 t394.length co16)) (fun _ hk => ⟨hk.1.1, hk.1.2⟩)))⟩; have n2_ : Aside0 (Kd.V (Kd.int .i64) 3 w18 w.heap.size (fun k_ => (P0_ k_ ∨ w.heap.size ≤ k_) ∧ k_ ≠ gb393) (.slice Ao16 t394.length co16) t394) := ⟨(by rw [hw]; exact (by (with_reducible repeat (first | apply Kd.V_alloc | apply Kd.V_drewN | apply Kd.V_drew)); exact Kd.V_mono (Kd.V_far (p := ⟨gb393, 2, none⟩) (Kd.V_mono HO396.out (fun k_ hk => (⟨hk, hk.2⟩ : _ ∧ k_ ≠ gb393))) (fun _ hk => hk.2) (.slice Ao16 t394.length co16)) (fun _ hk => ⟨hk.1.1, hk.1.2⟩)))⟩; have n3_ : Aside0 (w18.heap[gb393]? = some (.cells #[.int .i64 t387, .int .i64 t388, .slice Ao16 t394.length co16] 33 (0, 0))) := ⟨(by rw [hw]; exact (by (with_reducible repeat (first | refine blk_drewN ?_ _ | refine blk_drew ?_ | refine blk_alloc ?_ _)); refine blk_put (cs := #[.int .i64 t387, .int .i64 t388, .slice Ao12 t389.length co12]) ?_ 2 _ rfl; (with_reducible repeat (first | refine blk_drewN ?_ _ | refine blk_drew ?_ | refine blk_alloc ?_ _)); exact BK393.out))⟩; have n4_ : Aside0 (Below w.heap.size w w18) := ⟨(by rw [hw]; exact (zB1 HB GE393))⟩; clear hw; clear HO0; clear HO391; clear HO396; clear BK393; clear HB; have HO0 := n0_; have HO391 := n1_; have HO396 := n2_; have BK393 := n3_; have HB := n4_; clear n0_ n1_ n2_ n3_ n4_; have hcz19_0 : w18.cell? ⟨gb393, 0, none⟩ = some (.int .i64 t387) := (blk_cell BK393.out 0).trans rfl; have hcz19_1 : w18.cell? ⟨gb393, 1, none⟩ = some (.int .i64 t388) := (blk_cell BK393.out 1).trans rfl; have hcz19_2 : w18.cell? ⟨gb393, 2, none⟩ = some (.slice Ao16 t394.length co16) := (blk_cell BK393.out 2).trans rfl; have hfz19_0 := blk_frozen BK393.out 0; have hfz19_1 := blk_frozen BK393.out 1; have hfz19_2 := blk_frozen BK393.out 2) | ((with_reducible refine gate_callee (f := 17) rfl ?_); refine goesL_ (some 45) rfl rfl Try.func17 (by kernel_rfl) rfl #[.slice A0 l0.length c0, .agg #[.int .i64 t387, .int .i64 t388, .slice Ao16 t394.length co16]] rfl zP ?_; (with_reducible refine (root_Set.calls (fun k_ => ((P0_ k_ ∨ w.heap.size ≤ k_) ∧ k_ ≠ gb393)) _ _ l0 t387 t388 (fun k_ => ((P0_ k_ ∨ w.heap.size ≤ k_) ∧ k_ ≠ gb393)) _ _ t394 t399 t402 _ ?side1 ?side2 A7.out).mono ?_); (case side1 => exact HO0.out); (case side2 => exact HO396.out); rintro e w20 ⟨v400, rfl, ho0, hb⟩; refine ⟨_, rfl, ?_⟩; have n0_ := Aside0.mk (Kd.V_below (zV HO0) hb); have n1_ := Aside0.mk (Kd.V_below (zV HO391) hb); have n2_ := Aside0.mk (Kd.V_below (zV HO396) hb); have n3_ := Aside0.mk (Kd.V_lower (Kd.V_mono (ok' := fun k_ => (P0_ k_ ∨ w.heap.size ≤ k_) ∧ k_ ≠ gb393) ho0 (fun k_ hk_ => ⟨Or.elim hk_ (fun hs_ => Or.elim hs_ (fun hs_ => hs_.1) (fun hs_ => hs_.1)) (fun hn_ => (.inr (Nat.le_trans (below_size (zB1 HB GE393)) hn_))), Or.elim hk_ (fun hs_ => Or.elim hs_ (fun hs_ => hs_.2) (fun hs_ => hs_.2)) (fun hn_ => (Kd.freshB (g := gb393) (o := .cells #[.int .i64 t387, .int .i64 t388, .slice Ao16 t394.length co16] 33 (0, 0)) (zK BK393) k_ hn_))⟩)) (below_size (zB1 HB GE393))); have n4_ := Aside0.mk (blk_below (g := gb393) (o := .cells #[.int .i64 t387, .int .i64 t388, .slice Ao16 t394.length co16] 33 (0, 0)) (zK BK393) hb); have n5_ := Aside0.mk (below_step (zB1 HB GE393) hb); clear HO0; clear HO391; clear HO396; clear BK393; clear HB; have HO0 := n0_; have HO391 := n1_; have HO396 := n2_; have HO401 := n3_; have BK393 := n4_; have HB := n5_; clear n0_ n1_ n2_ n3_ n4_ n5_; (try clear hb); (try clear hb2); (try clear hk); (try clear hi); (try clear ho0)))
    go_ret3
    exact ⟨_, by first | rfl | (simp [errW_none, errW_some] <;> rfl) | (simp [*, errW_none, errW_some] <;> rfl), by (with_reducible repeat (first | apply Kd.V_alloc | apply Kd.V_drewN | apply Kd.V_drew)); exact Kd.V_mono HO401.out (fun _ hk => hk.1), zB1 HB GE393⟩
   ·rw [if_neg c8] at H
    have c8b0 : (t402 == 0) = false := beq_eq_false_iff_ne.mpr c8
    have c8b1 : (t402 != 0) = true := bne_iff_ne.mpr c8
    simp only [Option.some.injEq, Prod.mk.injEq] at H
    obtain ⟨rfl, rfl, rfl⟩ := H
    go_enter Try.func32, Try.ntmps32
    go_wp2_with (first | ((with_reducible refine gate_callee (f := 16) rfl ?_); refine goesL_ (some 16) rfl rfl Try.func16 (by kernel_rfl) rfl #[.slice A0 l0.length c0, .int .i64 a1] rfl zP ?_; (with_reducible refine (root_Get.calls (fun k_ => (P0_ k_ ∨ w.heap.size ≤ k_)) _ _ l0 a1 t387 t388 t389 t392 _ ?side1 A3.out).mono ?_); (case side1 => exact HO0.out); rintro e w21 ⟨v390, rfl, ho0, hb⟩; refine ⟨_, rfl, ?_⟩; have n0_ := Aside0.mk (Kd.V_below (zV HO0) hb); have n1_ := Aside0.mk (Kd.V_lower (Kd.V_mono (ok' := fun k_ => (P0_ k_ ∨ w.heap.size ≤ k_)) ho0 (fun k_ hk_ => Or.elim hk_ (fun hs_ => hs_) (fun hn_ => (.inr (Nat.le_trans (below_size (zB HB)) hn_))))) (below_size (zB HB))); have n2_ := Aside0.mk (below_step (zB HB) hb); clear HO0; clear HB; have HO0 := n0_; have HO391 := n1_; have HB := n2_; clear n0_ n1_ n2_; (try clear hb); (try clear hb2); (try clear hk); (try clear hi); (try clear ho0)) | ((with_reducible refine gate_dst (N := 7) rfl ?_); refine box_event ?hg (N := 7) ?hd (cs := #[.int .i64 0, .int .i64 0, .slice none 0 0]) (t := 33) ?hr ?_; (case hd => rfl); (case hg => rfl); (case hr => first | (go_simp; done) | (go_simp; rfl)); intro gb393 hg w22 hbox hb; have n0_ := Aside0.mk (Kd.V_below (Kd.V_elderB (zV HO0) gb393 (Nat.le_of_eq hg.symm)) hb); have n1_ := Aside0.mk (Kd.V_below (Kd.V_elderB (zV HO391) gb393 (Nat.le_of_eq hg.symm)) hb); have n2_ := Aside0.mk (below_step (zB HB) hb); have n3_ := Aside0.mk (hbox); have n4_ := Aside0.mk ((by rw [hg]; exact (below_size (zB HB)) : w.heap.size ≤ gb393)); have n5_ := Aside0.mk ((by rw [hg]; exact (below_size (zB HB)) : w.heap.size ≤ gb393)); clear HO0; clear HO391; clear HB; have HO0 := n0_; have HO391 := n1_; have HB := n2_; have BK393 := n3_; have GW393 := n4_; have GE393 := n5_; clear n0_ n1_ n2_ n3_ n4_ n5_; clear hb hbox hg; have hcz23_0 : w22.cell? ⟨gb393, 0, none⟩ = some (.int .i64 0) := (blk_cell BK393.out 0).trans rfl; have hcz23_1 : w22.cell? ⟨gb393, 1, none⟩ = some (.int .i64 0) := (blk_cell BK393.out 1).trans rfl; have hcz23_2 : w22.cell? ⟨gb393, 2, none⟩ = some (.slice none 0 0) := (blk_cell BK393.out 2).trans rfl; have hfz23_0 := blk_frozen BK393.out 0; have hfz23_1 := blk_frozen BK393.out 1; have hfz23_2 := blk_frozen BK393.out 2; obtain ⟨Ao24, co24, eo24⟩ := Kd.V_slice HO391.out; subst eo24) | ((with_reducible refine gate_store (t := 33) (p := 7) rfl ?_); refine store_event (t := 33) (p := 7) (v := ?vo_w25) (w1 := (((w22.setCell ⟨gb393, 0, none⟩ (.int .i64 t387)).setCell ⟨gb393, 1, none⟩ (.int .i64 t388)).setCell ⟨gb393, 2, none⟩ (.slice Ao24 t389.length co24))) ?hg ?ho ?hn ?hr ?_; (case ho => rfl); (case hg => rfl); (case hn => rfl); (case hr => first | (go_simp; done) | (go_simp; rfl)); intro w25 hw; have n0_ : Aside0 (Kd.V k33 33 w25 w.heap.size (fun k_ => (P0_ k_ ∨ w.heap.size ≤ k_) ∧ k_ ≠ gb393) (.slice A0 l0.length c0) l0) := ⟨(by rw [hw]; exact (by (with_reducible repeat (first | apply Kd.V_alloc | apply Kd.V_drewN | apply Kd.V_drew)); exact Kd.V_mono (Kd.V_far (p := ⟨gb393, 2, none⟩) (Kd.V_far (p := ⟨gb393, 1, none⟩) (Kd.V_far (p := ⟨gb393, 0, none⟩) (Kd.V_mono HO0.out (fun k_ hk => (⟨hk, hk.2⟩ : _ ∧ k_ ≠ gb393))) (fun _ hk => hk.2) (.int .i64 t387)) (fun _ hk => hk.2) (.int .i64 t388)) (fun _ hk => hk.2) (.slice Ao24 t389.length co24)) (fun _ hk => ⟨hk.1.1, hk.1.2⟩)))⟩; have n1_ : Aside0 (Kd.V (Kd.int .i64) 3 w25 w.heap.size (fun k_ => (P0_ k_ ∨ w.heap.size ≤ k_) ∧ k_ ≠ gb393) (.slice Ao24 t389.length co24) t389) := ⟨(by rw [hw]; exact (by (with_reducible repeat (first | apply Kd.V_alloc | apply Kd.V_drewN | apply Kd.V_drew)); exact Kd.V_mono (Kd.V_far (p := ⟨gb393, 2, none⟩) (Kd.V_far (p := ⟨gb393, 1, none⟩) (Kd.V_far (p := ⟨gb393, 0, none⟩) (Kd.V_mono HO391.out (fun k_ hk => (⟨hk, hk.2⟩ : _ ∧ k_ ≠ gb393))) (fun _ hk => hk.2) (.int .i64 t387)) (fun _ hk => hk.2) (.int .i64 t388)) (fun _ hk => hk.2) (.slice Ao24 t389.length co24)) (fun _ hk => ⟨hk.1.1, hk.1.2⟩)))⟩; have n2_ : Aside0 (w25.heap[gb393]? = some (.cells #[.int .i64 t387, .int .i64 t388, .slice Ao24 t389.length co24] 33 (0, 0))) := ⟨(by rw [hw]; exact (by (with_reducible repeat (first | refine blk_drewN ?_ _ | refine blk_drew ?_ | refine blk_alloc ?_ _)); refine blk_put (cs := #[.int .i64 t387, .int .i64 t388, .slice none 0 0]) ?_ 2 _ rfl; (with_reducible repeat (first | refine blk_drewN ?_ _ | refine blk_drew ?_ | refine blk_alloc ?_ _)); refine blk_put (cs := #[.int .i64 t387, .int .i64 0, .slice none 0 0]) ?_ 1 _ rfl; (with_reducible repeat (first | refine blk_drewN ?_ _ | refine blk_drew ?_ | refine blk_alloc ?_ _)); refine blk_put (cs := #[.int .i64 0, .int .i64 0, .slice none 0 0]) ?_ 0 _ rfl; (with_reducible repeat (first | refine blk_drewN ?_ _ | refine blk_drew ?_ | refine blk_alloc ?_ _)); exact BK393.out))⟩; have n3_ : Aside0 (Below w.heap.size w w25) := ⟨(by rw [hw]; exact (zB1 HB GE393))⟩; clear hw; clear HO0; clear HO391; clear BK393; clear HB; have HO0 := n0_; have HO391 := n1_; have BK393 := n2_; have HB := n3_; clear n0_ n1_ n2_ n3_; have hcz26_0 : w25.cell? ⟨gb393, 0, none⟩ = some (.int .i64 t387) := (blk_cell BK393.out 0).trans rfl; have hcz26_1 : w25.cell? ⟨gb393, 1, none⟩ = some (.int .i64 t388) := (blk_cell BK393.out 1).trans rfl; have hcz26_2 : w25.cell? ⟨gb393, 2, none⟩ = some (.slice Ao24 t389.length co24) := (blk_cell BK393.out 2).trans rfl; have hfz26_0 := blk_frozen BK393.out 0; have hfz26_1 := blk_frozen BK393.out 1; have hfz26_2 := blk_frozen BK393.out 2) | ((with_reducible refine gate_callee (f := 58) rfl ?_); refine goesL_ (some 24) rfl rfl Try.func58 (by kernel_rfl) rfl #[.slice Ao24 t389.length co24] rfl zP ?_; (with_reducible refine (line_Pop.calls (fun k_ => ((P0_ k_ ∨ w.heap.size ≤ k_) ∧ k_ ≠ gb393)) _ _ t389 t394 t397 t398 _ ?side1 A5.out).mono ?_); (case side1 => exact HO391.out); rintro e w27 ⟨v395, rfl, ho0, hb⟩; refine ⟨_, rfl, ?_⟩; have n0_ := Aside0.mk (Kd.V_below (zV HO0) hb); have n1_ := Aside0.mk (Kd.V_below (zV HO391) hb); have n2_ := Aside0.mk (Kd.V_lower (Kd.V_mono (ok' := fun k_ => (P0_ k_ ∨ w.heap.size ≤ k_) ∧ k_ ≠ gb393) ho0 (fun k_ hk_ => ⟨Or.elim hk_ (fun hs_ => hs_.1) (fun hn_ => (.inr (Nat.le_trans (below_size (zB1 HB GE393)) hn_))), Or.elim hk_ (fun hs_ => hs_.2) (fun hn_ => (Kd.freshB (g := gb393) (o := .cells #[.int .i64 t387, .int .i64 t388, .slice Ao24 t389.length co24] 33 (0, 0)) (zK BK393) k_ hn_))⟩)) (below_size (zB1 HB GE393))); have n3_ := Aside0.mk (blk_below (g := gb393) (o := .cells #[.int .i64 t387, .int .i64 t388, .slice Ao24 t389.length co24] 33 (0, 0)) (zK BK393) hb); have n4_ := Aside0.mk (below_step (zB1 HB GE393) hb); clear HO0; clear HO391; clear BK393; clear HB; have HO0 := n0_; have HO391 := n1_; have HO396 := n2_; have BK393 := n3_; have HB := n4_; clear n0_ n1_ n2_ n3_ n4_; (try clear hb); (try clear hb2); (try clear hk); (try clear hi); (try clear ho0); obtain ⟨Ao28, co28, eo28⟩ := Kd.V_slice HO396.out; subst eo28; have hcz29_0 : w27.cell? ⟨gb393, 0, none⟩ = some (.int .i64 t387) := (blk_cell BK393.out 0).trans rfl; have hcz29_1 : w27.cell? ⟨gb393, 1, none⟩ = some (.int .i64 t388) := (blk_cell BK393.out 1).trans rfl; have hcz29_2 : w27.cell? ⟨gb393, 2, none⟩ = some (.slice Ao24 t389.length co24) := (blk_cell BK393.out 2).trans rfl; have hfz29_0 := blk_frozen BK393.out 0; have hfz29_1 := blk_frozen BK393.out 1; have hfz29_2 := blk_frozen BK393.out 2) | ((with_reducible refine gate_store (t := 25) (p := 37) rfl ?_); refine store_event (t := 25) (p := 37) (v := ?vo_w30) (w1 := (w27.setCell ⟨gb393, 2, none⟩ (.slice Ao28 t394.length co28))) ?hg ?ho ?hn ?hr ?_; (case ho => rfl); (case hg => rfl); (case hn => rfl); (case hr => first | (go_simp; done) | (go_simp; rfl)); intro w30 hw; have n0_ : Aside0 (Kd.V k33 33 w30 w.heap.size (fun k_ => (P0_ k_ ∨ w.heap.size ≤ k_) ∧ k_ ≠ gb393) (.slice A0 l0.length c0) l0) := ⟨(by rw [hw]; exact (by (with_reducible repeat (first | apply Kd.V_alloc | apply Kd.V_drewN | apply Kd.V_drew)); exact Kd.V_mono (Kd.V_far (p := ⟨gb393, 2, none⟩) (Kd.V_mono HO0.out (fun k_ hk => (⟨hk, hk.2⟩ : _ ∧ k_ ≠ gb393))) (fun _ hk => hk.2) (.slice Ao28 t394.length co28)) (fun _ hk => ⟨hk.1.1, hk.1.2⟩)))⟩; have n1_ : Aside0 (Kd.V (Kd.int .i64) 3 w30 w.heap.size (fun k_ => (P0_ k_ ∨ w.heap.size ≤ k_) ∧ k_ ≠ gb393) (.slice Ao24 t389.length co24) t389) := ⟨(by rw [hw]; exact (by (with_reducible repeat (first | apply Kd.V_alloc | apply Kd.V_drewN | apply Kd.V_drew)); exact Kd.V_mono (Kd.V_far (p := ⟨gb393, 2, none⟩) (Kd.V_mono HO391.out (fun k_ hk => (⟨hk, hk.2⟩ : _ ∧ k_ ≠ gb393))) (fun _ hk => hk.2) (.slice Ao28 t394.length co28)) (fun _ hk => ⟨hk.1.1, hk.1.2⟩)))⟩; have n2_ : Aside0 (Kd.V (Kd.int .i64) 3 w30 w.heap.size (fun k_ => (P0_ k_ ∨ w.heap.size ≤ k_) ∧ k_ ≠ gb393) (.slice Ao28 t394.length co28) t394) := ⟨(by rw [hw]; exact (by (with_reducible repeat (first | apply Kd.V_alloc | apply Kd.V_drewN | apply Kd.V_drew)); exact Kd.V_mono (Kd.V_far (p := ⟨gb393, 2, none⟩) (Kd.V_mono HO396.out (fun k_ hk => (⟨hk, hk.2⟩ : _ ∧ k_ ≠ gb393))) (fun _ hk => hk.2) (.slice Ao28 t394.length co28)) (fun _ hk => ⟨hk.1.1, hk.1.2⟩)))⟩; have n3_ : Aside0 (w30.heap[gb393]? = some (.cells #[.int .i64 t387, .int .i64 t388, .slice Ao28 t394.length co28] 33 (0, 0))) := ⟨(by rw [hw]; exact (by (with_reducible repeat (first | refine blk_drewN ?_ _ | refine blk_drew ?_ | refine blk_alloc ?_ _)); refine blk_put (cs := #[.int .i64 t387, .int .i64 t388, .slice Ao24 t389.length co24]) ?_ 2 _ rfl; (with_reducible repeat (first | refine blk_drewN ?_ _ | refine blk_drew ?_ | refine blk_alloc ?_ _)); exact BK393.out))⟩; have n4_ : Aside0 (Below w.heap.size w w30) := ⟨(by rw [hw]; exact (zB1 HB GE393))⟩; clear hw; clear HO0; clear HO391; clear HO396; clear BK393; clear HB; have HO0 := n0_; have HO391 := n1_; have HO396 := n2_; have BK393 := n3_; have HB := n4_; clear n0_ n1_ n2_ n3_ n4_; have hcz31_0 : w30.cell? ⟨gb393, 0, none⟩ = some (.int .i64 t387) := (blk_cell BK393.out 0).trans rfl; have hcz31_1 : w30.cell? ⟨gb393, 1, none⟩ = some (.int .i64 t388) := (blk_cell BK393.out 1).trans rfl; have hcz31_2 : w30.cell? ⟨gb393, 2, none⟩ = some (.slice Ao28 t394.length co28) := (blk_cell BK393.out 2).trans rfl; have hfz31_0 := blk_frozen BK393.out 0; have hfz31_1 := blk_frozen BK393.out 1; have hfz31_2 := blk_frozen BK393.out 2) | ((with_reducible refine gate_callee (f := 17) rfl ?_); refine goesL_ (some 45) rfl rfl Try.func17 (by kernel_rfl) rfl #[.slice A0 l0.length c0, .agg #[.int .i64 t387, .int .i64 t388, .slice Ao28 t394.length co28]] rfl zP ?_; (with_reducible refine (root_Set.calls (fun k_ => ((P0_ k_ ∨ w.heap.size ≤ k_) ∧ k_ ≠ gb393)) _ _ l0 t387 t388 (fun k_ => ((P0_ k_ ∨ w.heap.size ≤ k_) ∧ k_ ≠ gb393)) _ _ t394 t399 t402 _ ?side1 ?side2 A7.out).mono ?_); (case side1 => exact HO0.out); (case side2 => exact HO396.out); rintro e w32 ⟨v400, rfl, ho0, hb⟩; refine ⟨_, rfl, ?_⟩; have n0_ := Aside0.mk (Kd.V_below (zV HO0) hb); have n1_ := Aside0.mk (Kd.V_below (zV HO391) hb); have n2_ := Aside0.mk (Kd.V_below (zV HO396) hb); have n3_ := Aside0.mk (Kd.V_lower (Kd.V_mono (ok' := fun k_ => (P0_ k_ ∨ w.heap.size ≤ k_) ∧ k_ ≠ gb393) ho0 (fun k_ hk_ => ⟨Or.elim hk_ (fun hs_ => Or.elim hs_ (fun hs_ => hs_.1) (fun hs_ => hs_.1)) (fun hn_ => (.inr (Nat.le_trans (below_size (zB1 HB GE393)) hn_))), Or.elim hk_ (fun hs_ => Or.elim hs_ (fun hs_ => hs_.2) (fun hs_ => hs_.2)) (fun hn_ => (Kd.freshB (g := gb393) (o := .cells #[.int .i64 t387, .int .i64 t388, .slice Ao28 t394.length co28] 33 (0, 0)) (zK BK393) k_ hn_))⟩)) (below_size (zB1 HB GE393))); have n4_ := Aside0.mk (blk_below (g := gb393) (o := .cells #[.int .i64 t387, .int .i64 t388, .slice Ao28 t394.length co28] 33 (0, 0)) (zK BK393) hb); have n5_ := Aside0.mk (below_step (zB1 HB GE393) hb); clear HO0; clear HO391; clear HO396; clear BK393; clear HB; have HO0 := n0_; have HO391 := n1_; have HO396 := n2_; have HO401 := n3_; have BK393 := n4_; have HB := n5_; clear n0_ n1_ n2_ n3_ n4_ n5_; (try clear hb); (try clear hb2); (try clear hk); (try clear hi); (try clear ho0)))
    go_ret3
    exact ⟨_, by first | rfl | (simp [errW_none, errW_some] <;> rfl) | (simp [*, errW_none, errW_some] <;> rfl), Kd.V_mono (Kd.S_V (by first | exact Kd.S_nil _ _ _ 0 (fun k_ => w.heap.size ≤ k_) | exact Kd.S_nil _ _ _ _ _ | exact Kd.N_nil _ _ _ _ _ | exact Kd.V_nil _ _ _ _ _ | exact Kd.Q_nil _ _ _ _ _ | exact Kd.R_nil _ _ _ _ _)) (fun k_ hk => by first | exact ⟨(.inr (hk.1)), hk.2⟩ | exact (.inr (hk))), zB1 HB GE393⟩
  ·rw [if_neg c6] at H
   have c6b0 : (t398 == 0) = false := beq_eq_false_iff_ne.mpr c6
   have c6b1 : (t398 != 0) = true := bne_iff_ne.mpr c6
   by_cases c33 : t388 = 2147483647
   ·rw [if_pos c33] at H
    have c33b0 : (t388 == 2147483647) = true := beq_iff_eq.mpr c33
    have c33b1 : (t388 != 2147483647) = false := bne_eq_false_iff_eq.mpr c33
    clear c33
    simp only [Option.some.injEq, Prod.mk.injEq] at H
    obtain ⟨rfl, rfl, rfl⟩ := H
    go_enter Try.func32, Try.ntmps32
    go_wp2_with (first | ((with_reducible refine gate_callee (f := 16) rfl ?_); refine goesL_ (some 16) rfl rfl Try.func16 (by kernel_rfl) rfl #[.slice A0 l0.length c0, .int .i64 a1] rfl zP ?_; (with_reducible refine (root_Get.calls (fun k_ => (P0_ k_ ∨ w.heap.size ≤ k_)) _ _ l0 a1 t387 t388 t389 t392 _ ?side1 A3.out).mono ?_); (case side1 => exact HO0.out); rintro e w34 ⟨v390, rfl, ho0, hb⟩; refine ⟨_, rfl, ?_⟩; have n0_ := Aside0.mk (Kd.V_below (zV HO0) hb); have n1_ := Aside0.mk (Kd.V_lower (Kd.V_mono (ok' := fun k_ => (P0_ k_ ∨ w.heap.size ≤ k_)) ho0 (fun k_ hk_ => Or.elim hk_ (fun hs_ => hs_) (fun hn_ => (.inr (Nat.le_trans (below_size (zB HB)) hn_))))) (below_size (zB HB))); have n2_ := Aside0.mk (below_step (zB HB) hb); clear HO0; clear HB; have HO0 := n0_; have HO391 := n1_; have HB := n2_; clear n0_ n1_ n2_; (try clear hb); (try clear hb2); (try clear hk); (try clear hi); (try clear ho0)) | ((with_reducible refine gate_dst (N := 7) rfl ?_); refine box_event ?hg (N := 7) ?hd (cs := #[.int .i64 0, .int .i64 0, .slice none 0 0]) (t := 33) ?hr ?_; (case hd => rfl); (case hg => rfl); (case hr => first | (go_simp; done) | (go_simp; rfl)); intro gb393 hg w35 hbox hb; have n0_ := Aside0.mk (Kd.V_below (Kd.V_elderB (zV HO0) gb393 (Nat.le_of_eq hg.symm)) hb); have n1_ := Aside0.mk (Kd.V_below (Kd.V_elderB (zV HO391) gb393 (Nat.le_of_eq hg.symm)) hb); have n2_ := Aside0.mk (below_step (zB HB) hb); have n3_ := Aside0.mk (hbox); have n4_ := Aside0.mk ((by rw [hg]; exact (below_size (zB HB)) : w.heap.size ≤ gb393)); have n5_ := Aside0.mk ((by rw [hg]; exact (below_size (zB HB)) : w.heap.size ≤ gb393)); clear HO0; clear HO391; clear HB; have HO0 := n0_; have HO391 := n1_; have HB := n2_; have BK393 := n3_; have GW393 := n4_; have GE393 := n5_; clear n0_ n1_ n2_ n3_ n4_ n5_; clear hb hbox hg; have hcz36_0 : w35.cell? ⟨gb393, 0, none⟩ = some (.int .i64 0) := (blk_cell BK393.out 0).trans rfl; have hcz36_1 : w35.cell? ⟨gb393, 1, none⟩ = some (.int .i64 0) := (blk_cell BK393.out 1).trans rfl; have hcz36_2 : w35.cell? ⟨gb393, 2, none⟩ = some (.slice none 0 0) := (blk_cell BK393.out 2).trans rfl; have hfz36_0 := blk_frozen BK393.out 0; have hfz36_1 := blk_frozen BK393.out 1; have hfz36_2 := blk_frozen BK393.out 2; obtain ⟨Ao37, co37, eo37⟩ := Kd.V_slice HO391.out; subst eo37) | ((with_reducible refine gate_store (t := 33) (p := 7) rfl ?_); refine store_event (t := 33) (p := 7) (v := ?vo_w38) (w1 := (((w35.setCell ⟨gb393, 0, none⟩ (.int .i64 t387)).setCell ⟨gb393, 1, none⟩ (.int .i64 t388)).setCell ⟨gb393, 2, none⟩ (.slice Ao37 t389.length co37))) ?hg ?ho ?hn ?hr ?_; (case ho => rfl); (case hg => rfl); (case hn => rfl); (case hr => first | (go_simp; done) | (go_simp; rfl)); intro w38 hw; have n0_ : Aside0 (Kd.V k33 33 w38 w.heap.size (fun k_ => (P0_ k_ ∨ w.heap.size ≤ k_) ∧ k_ ≠ gb393) (.slice A0 l0.length c0) l0) := ⟨(by rw [hw]; exact (by (with_reducible repeat (first | apply Kd.V_alloc | apply Kd.V_drewN | apply Kd.V_drew)); exact Kd.V_mono (Kd.V_far (p := ⟨gb393, 2, none⟩) (Kd.V_far (p := ⟨gb393, 1, none⟩) (Kd.V_far (p := ⟨gb393, 0, none⟩) (Kd.V_mono HO0.out (fun k_ hk => (⟨hk, hk.2⟩ : _ ∧ k_ ≠ gb393))) (fun _ hk => hk.2) (.int .i64 t387)) (fun _ hk => hk.2) (.int .i64 t388)) (fun _ hk => hk.2) (.slice Ao37 t389.length co37)) (fun _ hk => ⟨hk.1.1, hk.1.2⟩)))⟩; have n1_ : Aside0 (Kd.V (Kd.int .i64) 3 w38 w.heap.size (fun k_ => (P0_ k_ ∨ w.heap.size ≤ k_) ∧ k_ ≠ gb393) (.slice Ao37 t389.length co37) t389) := ⟨(by rw [hw]; exact (by (with_reducible repeat (first | apply Kd.V_alloc | apply Kd.V_drewN | apply Kd.V_drew)); exact Kd.V_mono (Kd.V_far (p := ⟨gb393, 2, none⟩) (Kd.V_far (p := ⟨gb393, 1, none⟩) (Kd.V_far (p := ⟨gb393, 0, none⟩) (Kd.V_mono HO391.out (fun k_ hk => (⟨hk, hk.2⟩ : _ ∧ k_ ≠ gb393))) (fun _ hk => hk.2) (.int .i64 t387)) (fun _ hk => hk.2) (.int .i64 t388)) (fun _ hk => hk.2) (.slice Ao37 t389.length co37)) (fun _ hk => ⟨hk.1.1, hk.1.2⟩)))⟩; have n2_ : Aside0 (w38.heap[gb393]? = some (.cells #[.int .i64 t387, .int .i64 t388, .slice Ao37 t389.length co37] 33 (0, 0))) := ⟨(by rw [hw]; exact (by (with_reducible repeat (first | refine blk_drewN ?_ _ | refine blk_drew ?_ | refine blk_alloc ?_ _)); refine blk_put (cs := #[.int .i64 t387, .int .i64 t388, .slice none 0 0]) ?_ 2 _ rfl; (with_reducible repeat (first | refine blk_drewN ?_ _ | refine blk_drew ?_ | refine blk_alloc ?_ _)); refine blk_put (cs := #[.int .i64 t387, .int .i64 0, .slice none 0 0]) ?_ 1 _ rfl; (with_reducible repeat (first | refine blk_drewN ?_ _ | refine blk_drew ?_ | refine blk_alloc ?_ _)); refine blk_put (cs := #[.int .i64 0, .int .i64 0, .slice none 0 0]) ?_ 0 _ rfl; (with_reducible repeat (first | refine blk_drewN ?_ _ | refine blk_drew ?_ | refine blk_alloc ?_ _)); exact BK393.out))⟩; have n3_ : Aside0 (Below w.heap.size w w38) := ⟨(by rw [hw]; exact (zB1 HB GE393))⟩; clear hw; clear HO0; clear HO391; clear BK393; clear HB; have HO0 := n0_; have HO391 := n1_; have BK393 := n2_; have HB := n3_; clear n0_ n1_ n2_ n3_; have hcz39_0 : w38.cell? ⟨gb393, 0, none⟩ = some (.int .i64 t387) := (blk_cell BK393.out 0).trans rfl; have hcz39_1 : w38.cell? ⟨gb393, 1, none⟩ = some (.int .i64 t388) := (blk_cell BK393.out 1).trans rfl; have hcz39_2 : w38.cell? ⟨gb393, 2, none⟩ = some (.slice Ao37 t389.length co37) := (blk_cell BK393.out 2).trans rfl; have hfz39_0 := blk_frozen BK393.out 0; have hfz39_1 := blk_frozen BK393.out 1; have hfz39_2 := blk_frozen BK393.out 2) | ((with_reducible refine gate_callee (f := 58) rfl ?_); refine goesL_ (some 24) rfl rfl Try.func58 (by kernel_rfl) rfl #[.slice Ao37 t389.length co37] rfl zP ?_; (with_reducible refine (line_Pop.calls (fun k_ => ((P0_ k_ ∨ w.heap.size ≤ k_) ∧ k_ ≠ gb393)) _ _ t389 t394 t397 t398 _ ?side1 A5.out).mono ?_); (case side1 => exact HO391.out); rintro e w40 ⟨v395, rfl, ho0, hb⟩; refine ⟨_, rfl, ?_⟩; have n0_ := Aside0.mk (Kd.V_below (zV HO0) hb); have n1_ := Aside0.mk (Kd.V_below (zV HO391) hb); have n2_ := Aside0.mk (Kd.V_lower (Kd.V_mono (ok' := fun k_ => (P0_ k_ ∨ w.heap.size ≤ k_) ∧ k_ ≠ gb393) ho0 (fun k_ hk_ => ⟨Or.elim hk_ (fun hs_ => hs_.1) (fun hn_ => (.inr (Nat.le_trans (below_size (zB1 HB GE393)) hn_))), Or.elim hk_ (fun hs_ => hs_.2) (fun hn_ => (Kd.freshB (g := gb393) (o := .cells #[.int .i64 t387, .int .i64 t388, .slice Ao37 t389.length co37] 33 (0, 0)) (zK BK393) k_ hn_))⟩)) (below_size (zB1 HB GE393))); have n3_ := Aside0.mk (blk_below (g := gb393) (o := .cells #[.int .i64 t387, .int .i64 t388, .slice Ao37 t389.length co37] 33 (0, 0)) (zK BK393) hb); have n4_ := Aside0.mk (below_step (zB1 HB GE393) hb); clear HO0; clear HO391; clear BK393; clear HB; have HO0 := n0_; have HO391 := n1_; have HO396 := n2_; have BK393 := n3_; have HB := n4_; clear n0_ n1_ n2_ n3_ n4_; (try clear hb); (try clear hb2); (try clear hk); (try clear hi); (try clear ho0); have hcz41_0 : w40.cell? ⟨gb393, 0, none⟩ = some (.int .i64 t387) := (blk_cell BK393.out 0).trans rfl; have hcz41_1 : w40.cell? ⟨gb393, 1, none⟩ = some (.int .i64 t388) := (blk_cell BK393.out 1).trans rfl; have hcz41_2 : w40.cell? ⟨gb393, 2, none⟩ = some (.slice Ao37 t389.length co37) := (blk_cell BK393.out 2).trans rfl; have hfz41_0 := blk_frozen BK393.out 0; have hfz41_1 := blk_frozen BK393.out 1; have hfz41_2 := blk_frozen BK393.out 2))
    go_ret3
    exact ⟨_, by first | rfl | (simp [errW_none, errW_some] <;> rfl) | (simp [*, errW_none, errW_some] <;> rfl), Kd.V_mono (Kd.S_V (by first | exact Kd.S_nil _ _ _ 0 (fun k_ => w.heap.size ≤ k_) | exact Kd.S_nil _ _ _ _ _ | exact Kd.N_nil _ _ _ _ _ | exact Kd.V_nil _ _ _ _ _ | exact Kd.Q_nil _ _ _ _ _ | exact Kd.R_nil _ _ _ _ _)) (fun k_ hk => by first | exact ⟨(.inr (hk.1)), hk.2⟩ | exact (.inr (hk))), zB1 HB GE393⟩
   ·rw [if_neg c33] at H
    have c33b0 : (t388 == 2147483647) = false := beq_eq_false_iff_ne.mpr c33
    have c33b1 : (t388 != 2147483647) = true := bne_iff_ne.mpr c33
    replace H := Option.bind_eq_some_iff.mp H
    obtain ⟨⟨t403, t406⟩, A420, H⟩ := H
    replace H : (if t406 = 0 then (some (t403, (-1), 0)) else (some (([] : List (S33)), 0, t406))) = some (r1, r2, r3) := H
    have A42 := Aside0.mk A420
    clear A420
    by_cases c43 : t406 = 0
    ·rw [if_pos c43] at H
     have c43b0 : (t406 == 0) = true := beq_iff_eq.mpr c43
     have c43b1 : (t406 != 0) = false := bne_eq_false_iff_eq.mpr c43
     clear c43
     simp only [Option.some.injEq, Prod.mk.injEq] at H
     obtain ⟨rfl, rfl, rfl⟩ := H
     go_enter Try.func32, Try.ntmps32
     go_wp2_with (first | ((with_reducible refine gate_callee (f := 16) rfl ?_); refine goesL_ (some 16) rfl rfl Try.func16 (by kernel_rfl) rfl #[.slice A0 l0.length c0, .int .i64 a1] rfl zP ?_; (with_reducible refine (root_Get.calls (fun k_ => (P0_ k_ ∨ w.heap.size ≤ k_)) _ _ l0 a1 t387 t388 t389 t392 _ ?side1 A3.out).mono ?_); (case side1 => exact HO0.out); rintro e w44 ⟨v390, rfl, ho0, hb⟩; refine ⟨_, rfl, ?_⟩; have n0_ := Aside0.mk (Kd.V_below (zV HO0) hb); have n1_ := Aside0.mk (Kd.V_lower (Kd.V_mono (ok' := fun k_ => (P0_ k_ ∨ w.heap.size ≤ k_)) ho0 (fun k_ hk_ => Or.elim hk_ (fun hs_ => hs_) (fun hn_ => (.inr (Nat.le_trans (below_size (zB HB)) hn_))))) (below_size (zB HB))); have n2_ := Aside0.mk (below_step (zB HB) hb); clear HO0; clear HB; have HO0 := n0_; have HO391 := n1_; have HB := n2_; clear n0_ n1_ n2_; (try clear hb); (try clear hb2); (try clear hk); (try clear hi); (try clear ho0)) | ((with_reducible refine gate_dst (N := 7) rfl ?_); refine box_event ?hg (N := 7) ?hd (cs := #[.int .i64 0, .int .i64 0, .slice none 0 0]) (t := 33) ?hr ?_; (case hd => rfl); (case hg => rfl); (case hr => first | (go_simp; done) | (go_simp; rfl)); intro gb393 hg w45 hbox hb; have n0_ := Aside0.mk (Kd.V_below (Kd.V_elderB (zV HO0) gb393 (Nat.le_of_eq hg.symm)) hb); have n1_ := Aside0.mk (Kd.V_below (Kd.V_elderB (zV HO391) gb393 (Nat.le_of_eq hg.symm)) hb); have n2_ := Aside0.mk (below_step (zB HB) hb); have n3_ := Aside0.mk (hbox); have n4_ := Aside0.mk ((by rw [hg]; exact (below_size (zB HB)) : w.heap.size ≤ gb393)); have n5_ := Aside0.mk ((by rw [hg]; exact (below_size (zB HB)) : w.heap.size ≤ gb393)); clear HO0; clear HO391; clear HB; have HO0 := n0_; have HO391 := n1_; have HB := n2_; have BK393 := n3_; have GW393 := n4_; have GE393 := n5_; clear n0_ n1_ n2_ n3_ n4_ n5_; clear hb hbox hg; have hcz46_0 : w45.cell? ⟨gb393, 0, none⟩ = some (.int .i64 0) := (blk_cell BK393.out 0).trans rfl; have hcz46_1 : w45.cell? ⟨gb393, 1, none⟩ = some (.int .i64 0) := (blk_cell BK393.out 1).trans rfl; have hcz46_2 : w45.cell? ⟨gb393, 2, none⟩ = some (.slice none 0 0) := (blk_cell BK393.out 2).trans rfl; have hfz46_0 := blk_frozen BK393.out 0; have hfz46_1 := blk_frozen BK393.out 1; have hfz46_2 := blk_frozen BK393.out 2; obtain ⟨Ao47, co47, eo47⟩ := Kd.V_slice HO391.out; subst eo47) | ((with_reducible refine gate_store (t := 33) (p := 7) rfl ?_); refine store_event (t := 33) (p := 7) (v := ?vo_w48) (w1 := (((w45.setCell ⟨gb393, 0, none⟩ (.int .i64 t387)).setCell ⟨gb393, 1, none⟩ (.int .i64 t388)).setCell ⟨gb393, 2, none⟩ (.slice Ao47 t389.length co47))) ?hg ?ho ?hn ?hr ?_; (case ho => rfl); (case hg => rfl); (case hn => rfl); (case hr => first | (go_simp; done) | (go_simp; rfl)); intro w48 hw; have n0_ : Aside0 (Kd.V k33 33 w48 w.heap.size (fun k_ => (P0_ k_ ∨ w.heap.size ≤ k_) ∧ k_ ≠ gb393) (.slice A0 l0.length c0) l0) := ⟨(by rw [hw]; exact (by (with_reducible repeat (first | apply Kd.V_alloc | apply Kd.V_drewN | apply Kd.V_drew)); exact Kd.V_mono (Kd.V_far (p := ⟨gb393, 2, none⟩) (Kd.V_far (p := ⟨gb393, 1, none⟩) (Kd.V_far (p := ⟨gb393, 0, none⟩) (Kd.V_mono HO0.out (fun k_ hk => (⟨hk, hk.2⟩ : _ ∧ k_ ≠ gb393))) (fun _ hk => hk.2) (.int .i64 t387)) (fun _ hk => hk.2) (.int .i64 t388)) (fun _ hk => hk.2) (.slice Ao47 t389.length co47)) (fun _ hk => ⟨hk.1.1, hk.1.2⟩)))⟩; have n1_ : Aside0 (Kd.V (Kd.int .i64) 3 w48 w.heap.size (fun k_ => (P0_ k_ ∨ w.heap.size ≤ k_) ∧ k_ ≠ gb393) (.slice Ao47 t389.length co47) t389) := ⟨(by rw [hw]; exact (by (with_reducible repeat (first | apply Kd.V_alloc | apply Kd.V_drewN | apply Kd.V_drew)); exact Kd.V_mono (Kd.V_far (p := ⟨gb393, 2, none⟩) (Kd.V_far (p := ⟨gb393, 1, none⟩) (Kd.V_far (p := ⟨gb393, 0, none⟩) (Kd.V_mono HO391.out (fun k_ hk => (⟨hk, hk.2⟩ : _ ∧ k_ ≠ gb393))) (fun _ hk => hk.2) (.int .i64 t387)) (fun _ hk => hk.2) (.int .i64 t388)) (fun _ hk => hk.2) (.slice Ao47 t389.length co47)) (fun _ hk => ⟨hk.1.1, hk.1.2⟩)))⟩; have n2_ : Aside0 (w48.heap[gb393]? = some (.cells #[.int .i64 t387, .int .i64 t388, .slice Ao47 t389.length co47] 33 (0, 0))) := ⟨(by rw [hw]; exact (by (with_reducible repeat (first | refine blk_drewN ?_ _ | refine blk_drew ?_ | refine blk_alloc ?_ _)); refine blk_put (cs := #[.int .i64 t387, .int .i64 t388, .slice none 0 0]) ?_ 2 _ rfl; (with_reducible repeat (first | refine blk_drewN ?_ _ | refine blk_drew ?_ | refine blk_alloc ?_ _)); refine blk_put (cs := #[.int .i64 t387, .int .i64 0, .slice none 0 0]) ?_ 1 _ rfl; (with_reducible repeat (first | refine blk_drewN ?_ _ | refine blk_drew ?_ | refine blk_alloc ?_ _)); refine blk_put (cs := #[.int .i64 0, .int .i64 0, .slice none 0 0]) ?_ 0 _ rfl; (with_reducible repeat (first | refine blk_drewN ?_ _ | refine blk_drew ?_ | refine blk_alloc ?_ _)); exact BK393.out))⟩; have n3_ : Aside0 (Below w.heap.size w w48) := ⟨(by rw [hw]; exact (zB1 HB GE393))⟩; clear hw; clear HO0; clear HO391; clear BK393; clear HB; have HO0 := n0_; have HO391 := n1_; have BK393 := n2_; have HB := n3_; clear n0_ n1_ n2_ n3_; have hcz49_0 : w48.cell? ⟨gb393, 0, none⟩ = some (.int .i64 t387) := (blk_cell BK393.out 0).trans rfl; have hcz49_1 : w48.cell? ⟨gb393, 1, none⟩ = some (.int .i64 t388) := (blk_cell BK393.out 1).trans rfl; have hcz49_2 : w48.cell? ⟨gb393, 2, none⟩ = some (.slice Ao47 t389.length co47) := (blk_cell BK393.out 2).trans rfl; have hfz49_0 := blk_frozen BK393.out 0; have hfz49_1 := blk_frozen BK393.out 1; have hfz49_2 := blk_frozen BK393.out 2) | ((with_reducible refine gate_callee (f := 58) rfl ?_); refine goesL_ (some 24) rfl rfl Try.func58 (by kernel_rfl) rfl #[.slice Ao47 t389.length co47] rfl zP ?_; (with_reducible refine (line_Pop.calls (fun k_ => ((P0_ k_ ∨ w.heap.size ≤ k_) ∧ k_ ≠ gb393)) _ _ t389 t394 t397 t398 _ ?side1 A5.out).mono ?_); (case side1 => exact HO391.out); rintro e w50 ⟨v395, rfl, ho0, hb⟩; refine ⟨_, rfl, ?_⟩; have n0_ := Aside0.mk (Kd.V_below (zV HO0) hb); have n1_ := Aside0.mk (Kd.V_below (zV HO391) hb); have n2_ := Aside0.mk (Kd.V_lower (Kd.V_mono (ok' := fun k_ => (P0_ k_ ∨ w.heap.size ≤ k_) ∧ k_ ≠ gb393) ho0 (fun k_ hk_ => ⟨Or.elim hk_ (fun hs_ => hs_.1) (fun hn_ => (.inr (Nat.le_trans (below_size (zB1 HB GE393)) hn_))), Or.elim hk_ (fun hs_ => hs_.2) (fun hn_ => (Kd.freshB (g := gb393) (o := .cells #[.int .i64 t387, .int .i64 t388, .slice Ao47 t389.length co47] 33 (0, 0)) (zK BK393) k_ hn_))⟩)) (below_size (zB1 HB GE393))); have n3_ := Aside0.mk (blk_below (g := gb393) (o := .cells #[.int .i64 t387, .int .i64 t388, .slice Ao47 t389.length co47] 33 (0, 0)) (zK BK393) hb); have n4_ := Aside0.mk (below_step (zB1 HB GE393) hb); clear HO0; clear HO391; clear BK393; clear HB; have HO0 := n0_; have HO391 := n1_; have HO396 := n2_; have BK393 := n3_; have HB := n4_; clear n0_ n1_ n2_ n3_ n4_; (try clear hb); (try clear hb2); (try clear hk); (try clear hi); (try clear ho0); have hcz51_0 : w50.cell? ⟨gb393, 0, none⟩ = some (.int .i64 t387) := (blk_cell BK393.out 0).trans rfl; have hcz51_1 : w50.cell? ⟨gb393, 1, none⟩ = some (.int .i64 t388) := (blk_cell BK393.out 1).trans rfl; have hcz51_2 : w50.cell? ⟨gb393, 2, none⟩ = some (.slice Ao47 t389.length co47) := (blk_cell BK393.out 2).trans rfl; have hfz51_0 := blk_frozen BK393.out 0; have hfz51_1 := blk_frozen BK393.out 1; have hfz51_2 := blk_frozen BK393.out 2) | ((with_reducible refine gate_store (t := 3) (p := 31) rfl ?_); refine store_event (t := 3) (p := 31) (v := ?vo_w52) (w1 := (w50.setCell ⟨gb393, 1, none⟩ (.int .i64 (wrap64 (t388 + 1))))) ?hg ?ho ?hn ?hr ?_; (case ho => rfl); (case hg => rfl); (case hn => rfl); (case hr => first | (go_simp; done) | (go_simp; rfl)); intro w52 hw; have n0_ : Aside0 (Kd.V k33 33 w52 w.heap.size (fun k_ => (P0_ k_ ∨ w.heap.size ≤ k_) ∧ k_ ≠ gb393) (.slice A0 l0.length c0) l0) := ⟨(by rw [hw]; exact (by (with_reducible repeat (first | apply Kd.V_alloc | apply Kd.V_drewN | apply Kd.V_drew)); exact Kd.V_mono (Kd.V_far (p := ⟨gb393, 1, none⟩) (Kd.V_mono HO0.out (fun k_ hk => (⟨hk, hk.2⟩ : _ ∧ k_ ≠ gb393))) (fun _ hk => hk.2) (.int .i64 (wrap64 (t388 + 1)))) (fun _ hk => ⟨hk.1.1, hk.1.2⟩)))⟩; have n1_ : Aside0 (Kd.V (Kd.int .i64) 3 w52 w.heap.size (fun k_ => (P0_ k_ ∨ w.heap.size ≤ k_) ∧ k_ ≠ gb393) (.slice Ao47 t389.length co47) t389) := ⟨(by rw [hw]; exact (by (with_reducible repeat (first | apply Kd.V_alloc | apply Kd.V_drewN | apply Kd.V_drew)); exact Kd.V_mono (Kd.V_far (p := ⟨gb393, 1, none⟩) (Kd.V_mono HO391.out (fun k_ hk => (⟨hk, hk.2⟩ : _ ∧ k_ ≠ gb393))) (fun _ hk => hk.2) (.int .i64 (wrap64 (t388 + 1)))) (fun _ hk => ⟨hk.1.1, hk.1.2⟩)))⟩; have n2_ : Aside0 (Kd.V (Kd.int .i64) 3 w52 w.heap.size (fun k_ => (P0_ k_ ∨ w.heap.size ≤ k_) ∧ k_ ≠ gb393) v395 t394) := ⟨(by rw [hw]; exact (by (with_reducible repeat (first | apply Kd.V_alloc | apply Kd.V_drewN | apply Kd.V_drew)); exact Kd.V_mono (Kd.V_far (p := ⟨gb393, 1, none⟩) (Kd.V_mono HO396.out (fun k_ hk => (⟨hk, hk.2⟩ : _ ∧ k_ ≠ gb393))) (fun _ hk => hk.2) (.int .i64 (wrap64 (t388 + 1)))) (fun _ hk => ⟨hk.1.1, hk.1.2⟩)))⟩; have n3_ : Aside0 (w52.heap[gb393]? = some (.cells #[.int .i64 t387, .int .i64 (wrap64 (t388 + 1)), .slice Ao47 t389.length co47] 33 (0, 0))) := ⟨(by rw [hw]; exact (by (with_reducible repeat (first | refine blk_drewN ?_ _ | refine blk_drew ?_ | refine blk_alloc ?_ _)); refine blk_put (cs := #[.int .i64 t387, .int .i64 t388, .slice Ao47 t389.length co47]) ?_ 1 _ rfl; (with_reducible repeat (first | refine blk_drewN ?_ _ | refine blk_drew ?_ | refine blk_alloc ?_ _)); exact BK393.out))⟩; have n4_ : Aside0 (Below w.heap.size w w52) := ⟨(by rw [hw]; exact (zB1 HB GE393))⟩; clear hw; clear HO0; clear HO391; clear HO396; clear BK393; clear HB; have HO0 := n0_; have HO391 := n1_; have HO396 := n2_; have BK393 := n3_; have HB := n4_; clear n0_ n1_ n2_ n3_ n4_; have hcz53_0 : w52.cell? ⟨gb393, 0, none⟩ = some (.int .i64 t387) := (blk_cell BK393.out 0).trans rfl; have hcz53_1 : w52.cell? ⟨gb393, 1, none⟩ = some (.int .i64 (wrap64 (t388 + 1))) := (blk_cell BK393.out 1).trans rfl; have hcz53_2 : w52.cell? ⟨gb393, 2, none⟩ = some (.slice Ao47 t389.length co47) := (blk_cell BK393.out 2).trans rfl; have hfz53_0 := blk_frozen BK393.out 0; have hfz53_1 := blk_frozen BK393.out 1; have hfz53_2 := blk_frozen BK393.out 2) | ((with_reducible refine gate_callee (f := 17) rfl ?_); refine goesL_ (some 45) rfl rfl Try.func17 (by kernel_rfl) rfl #[.slice A0 l0.length c0, .agg #[.int .i64 t387, .int .i64 (wrap64 (t388 + 1)), .slice Ao47 t389.length co47]] rfl zP ?_; (with_reducible refine (root_Set.calls (fun k_ => ((P0_ k_ ∨ w.heap.size ≤ k_) ∧ k_ ≠ gb393)) _ _ l0 t387 (wrap64 (t388 + 1)) (fun k_ => ((P0_ k_ ∨ w.heap.size ≤ k_) ∧ k_ ≠ gb393)) _ _ t389 t403 t406 _ ?side1 ?side2 A42.out).mono ?_); (case side1 => exact HO0.out); (case side2 => exact HO391.out); rintro e w54 ⟨v404, rfl, ho0, hb⟩; refine ⟨_, rfl, ?_⟩; have n0_ := Aside0.mk (Kd.V_below (zV HO0) hb); have n1_ := Aside0.mk (Kd.V_below (zV HO391) hb); have n2_ := Aside0.mk (Kd.V_below (zV HO396) hb); have n3_ := Aside0.mk (Kd.V_lower (Kd.V_mono (ok' := fun k_ => (P0_ k_ ∨ w.heap.size ≤ k_) ∧ k_ ≠ gb393) ho0 (fun k_ hk_ => ⟨Or.elim hk_ (fun hs_ => Or.elim hs_ (fun hs_ => hs_.1) (fun hs_ => hs_.1)) (fun hn_ => (.inr (Nat.le_trans (below_size (zB1 HB GE393)) hn_))), Or.elim hk_ (fun hs_ => Or.elim hs_ (fun hs_ => hs_.2) (fun hs_ => hs_.2)) (fun hn_ => (Kd.freshB (g := gb393) (o := .cells #[.int .i64 t387, .int .i64 (wrap64 (t388 + 1)), .slice Ao47 t389.length co47] 33 (0, 0)) (zK BK393) k_ hn_))⟩)) (below_size (zB1 HB GE393))); have n4_ := Aside0.mk (blk_below (g := gb393) (o := .cells #[.int .i64 t387, .int .i64 (wrap64 (t388 + 1)), .slice Ao47 t389.length co47] 33 (0, 0)) (zK BK393) hb); have n5_ := Aside0.mk (below_step (zB1 HB GE393) hb); clear HO0; clear HO391; clear HO396; clear BK393; clear HB; have HO0 := n0_; have HO391 := n1_; have HO396 := n2_; have HO405 := n3_; have BK393 := n4_; have HB := n5_; clear n0_ n1_ n2_ n3_ n4_ n5_; (try clear hb); (try clear hb2); (try clear hk); (try clear hi); (try clear ho0)))
     go_ret3
     exact ⟨_, by first | rfl | (simp [errW_none, errW_some] <;> rfl) | (simp [*, errW_none, errW_some] <;> rfl), by (with_reducible repeat (first | apply Kd.V_alloc | apply Kd.V_drewN | apply Kd.V_drew)); exact Kd.V_mono HO405.out (fun _ hk => hk.1), zB1 HB GE393⟩
    ·rw [if_neg c43] at H
     have c43b0 : (t406 == 0) = false := beq_eq_false_iff_ne.mpr c43
     have c43b1 : (t406 != 0) = true := bne_iff_ne.mpr c43
     simp only [Option.some.injEq, Prod.mk.injEq] at H
     obtain ⟨rfl, rfl, rfl⟩ := H
     go_enter Try.func32, Try.ntmps32
     go_wp2_with (first | ((with_reducible refine gate_callee (f := 16) rfl ?_); refine goesL_ (some 16) rfl rfl Try.func16 (by kernel_rfl) rfl #[.slice A0 l0.length c0, .int .i64 a1] rfl zP ?_; (with_reducible refine (root_Get.calls (fun k_ => (P0_ k_ ∨ w.heap.size ≤ k_)) _ _ l0 a1 t387 t388 t389 t392 _ ?side1 A3.out).mono ?_); (case side1 => exact HO0.out); rintro e w55 ⟨v390, rfl, ho0, hb⟩; refine ⟨_, rfl, ?_⟩; have n0_ := Aside0.mk (Kd.V_below (zV HO0) hb); have n1_ := Aside0.mk (Kd.V_lower (Kd.V_mono (ok' := fun k_ => (P0_ k_ ∨ w.heap.size ≤ k_)) ho0 (fun k_ hk_ => Or.elim hk_ (fun hs_ => hs_) (fun hn_ => (.inr (Nat.le_trans (below_size (zB HB)) hn_))))) (below_size (zB HB))); have n2_ := Aside0.mk (below_step (zB HB) hb); clear HO0; clear HB; have HO0 := n0_; have HO391 := n1_; have HB := n2_; clear n0_ n1_ n2_; (try clear hb); (try clear hb2); (try clear hk); (try clear hi); (try clear ho0)) | ((with_reducible refine gate_dst (N := 7) rfl ?_); refine box_event ?hg (N := 7) ?hd (cs := #[.int .i64 0, .int .i64 0, .slice none 0 0]) (t := 33) ?hr ?_; (case hd => rfl); (case hg => rfl); (case hr => first | (go_simp; done) | (go_simp; rfl)); intro gb393 hg w56 hbox hb; have n0_ := Aside0.mk (Kd.V_below (Kd.V_elderB (zV HO0) gb393 (Nat.le_of_eq hg.symm)) hb); have n1_ := Aside0.mk (Kd.V_below (Kd.V_elderB (zV HO391) gb393 (Nat.le_of_eq hg.symm)) hb); have n2_ := Aside0.mk (below_step (zB HB) hb); have n3_ := Aside0.mk (hbox); have n4_ := Aside0.mk ((by rw [hg]; exact (below_size (zB HB)) : w.heap.size ≤ gb393)); have n5_ := Aside0.mk ((by rw [hg]; exact (below_size (zB HB)) : w.heap.size ≤ gb393)); clear HO0; clear HO391; clear HB; have HO0 := n0_; have HO391 := n1_; have HB := n2_; have BK393 := n3_; have GW393 := n4_; have GE393 := n5_; clear n0_ n1_ n2_ n3_ n4_ n5_; clear hb hbox hg; have hcz57_0 : w56.cell? ⟨gb393, 0, none⟩ = some (.int .i64 0) := (blk_cell BK393.out 0).trans rfl; have hcz57_1 : w56.cell? ⟨gb393, 1, none⟩ = some (.int .i64 0) := (blk_cell BK393.out 1).trans rfl; have hcz57_2 : w56.cell? ⟨gb393, 2, none⟩ = some (.slice none 0 0) := (blk_cell BK393.out 2).trans rfl; have hfz57_0 := blk_frozen BK393.out 0; have hfz57_1 := blk_frozen BK393.out 1; have hfz57_2 := blk_frozen BK393.out 2; obtain ⟨Ao58, co58, eo58⟩ := Kd.V_slice HO391.out; subst eo58) | ((with_reducible refine gate_store (t := 33) (p := 7) rfl ?_); refine store_event (t := 33) (p := 7) (v := ?vo_w59) (w1 := (((w56.setCell ⟨gb393, 0, none⟩ (.int .i64 t387)).setCell ⟨gb393, 1, none⟩ (.int .i64 t388)).setCell ⟨gb393, 2, none⟩ (.slice Ao58 t389.length co58))) ?hg ?ho ?hn ?hr ?_; (case ho => rfl); (case hg => rfl); (case hn => rfl); (case hr => first | (go_simp; done) | (go_simp; rfl)); intro w59 hw; have n0_ : Aside0 (Kd.V k33 33 w59 w.heap.size (fun k_ => (P0_ k_ ∨ w.heap.size ≤ k_) ∧ k_ ≠ gb393) (.slice A0 l0.length c0) l0) := ⟨(by rw [hw]; exact (by (with_reducible repeat (first | apply Kd.V_alloc | apply Kd.V_drewN | apply Kd.V_drew)); exact Kd.V_mono (Kd.V_far (p := ⟨gb393, 2, none⟩) (Kd.V_far (p := ⟨gb393, 1, none⟩) (Kd.V_far (p := ⟨gb393, 0, none⟩) (Kd.V_mono HO0.out (fun k_ hk => (⟨hk, hk.2⟩ : _ ∧ k_ ≠ gb393))) (fun _ hk => hk.2) (.int .i64 t387)) (fun _ hk => hk.2) (.int .i64 t388)) (fun _ hk => hk.2) (.slice Ao58 t389.length co58)) (fun _ hk => ⟨hk.1.1, hk.1.2⟩)))⟩; have n1_ : Aside0 (Kd.V (Kd.int .i64) 3 w59 w.heap.size (fun k_ => (P0_ k_ ∨ w.heap.size ≤ k_) ∧ k_ ≠ gb393) (.slice Ao58 t389.length co58) t389) := ⟨(by rw [hw]; exact (by (with_reducible repeat (first | apply Kd.V_alloc | apply Kd.V_drewN | apply Kd.V_drew)); exact Kd.V_mono (Kd.V_far (p := ⟨gb393, 2, none⟩) (Kd.V_far (p := ⟨gb393, 1, none⟩) (Kd.V_far (p := ⟨gb393, 0, none⟩) (Kd.V_mono HO391.out (fun k_ hk => (⟨hk, hk.2⟩ : _ ∧ k_ ≠ gb393))) (fun _ hk => hk.2) (.int .i64 t387)) (fun _ hk => hk.2) (.int .i64 t388)) (fun _ hk => hk.2) (.slice Ao58 t389.length co58)) (fun _ hk => ⟨hk.1.1, hk.1.2⟩)))⟩; have n2_ : Aside0 (w59.heap[gb393]? = some (.cells #[.int .i64 t387, .int .i64 t388, .slice Ao58 t389.length co58] 33 (0, 0))) := ⟨(by rw [hw]; exact (by (with_reducible repeat (first | refine blk_drewN ?_ _ | refine blk_drew ?_ | refine blk_alloc ?_ _)); refine blk_put (cs := #[.int .i64 t387, .int .i64 t388, .slice none 0 0]) ?_ 2 _ rfl; (with_reducible repeat (first | refine blk_drewN ?_ _ | refine blk_drew ?_ | refine blk_alloc ?_ _)); refine blk_put (cs := #[.int .i64 t387, .int .i64 0, .slice none 0 0]) ?_ 1 _ rfl; (with_reducible repeat (first | refine blk_drewN ?_ _ | refine blk_drew ?_ | refine blk_alloc ?_ _)); refine blk_put (cs := #[.int .i64 0, .int .i64 0, .slice none 0 0]) ?_ 0 _ rfl; (with_reducible repeat (first | refine blk_drewN ?_ _ | refine blk_drew ?_ | refine blk_alloc ?_ _)); exact BK393.out))⟩; have n3_ : Aside0 (Below w.heap.size w w59) := ⟨(by rw [hw]; exact (zB1 HB GE393))⟩; clear hw; clear HO0; clear HO391; clear BK393; clear HB; have HO0 := n0_; have HO391 := n1_; have BK393 := n2_; have HB := n3_; clear n0_ n1_ n2_ n3_; have hcz60_0 : w59.cell? ⟨gb393, 0, none⟩ = some (.int .i64 t387) := (blk_cell BK393.out 0).trans rfl; have hcz60_1 : w59.cell? ⟨gb393, 1, none⟩ = some (.int .i64 t388) := (blk_cell BK393.out 1).trans rfl; have hcz60_2 : w59.cell? ⟨gb393, 2, none⟩ = some (.slice Ao58 t389.length co58) := (blk_cell BK393.out 2).trans rfl; have hfz60_0 := blk_frozen BK393.out 0; have hfz60_1 := blk_frozen BK393.out 1; have hfz60_2 := blk_frozen BK393.out 2) | ((with_reducible refine gate_callee (f := 58) rfl ?_); refine goesL_ (some 24) rfl rfl Try.func58 (by kernel_rfl) rfl #[.slice Ao58 t389.length co58] rfl zP ?_; (with_reducible refine (line_Pop.calls (fun k_ => ((P0_ k_ ∨ w.heap.size ≤ k_) ∧ k_ ≠ gb393)) _ _ t389 t394 t397 t398 _ ?side1 A5.out).mono ?_); (case side1 => exact HO391.out); rintro e w61 ⟨v395, rfl, ho0, hb⟩; refine ⟨_, rfl, ?_⟩; have n0_ := Aside0.mk (Kd.V_below (zV HO0) hb); have n1_ := Aside0.mk (Kd.V_below (zV HO391) hb); have n2_ := Aside0.mk (Kd.V_lower (Kd.V_mono (ok' := fun k_ => (P0_ k_ ∨ w.heap.size ≤ k_) ∧ k_ ≠ gb393) ho0 (fun k_ hk_ => ⟨Or.elim hk_ (fun hs_ => hs_.1) (fun hn_ => (.inr (Nat.le_trans (below_size (zB1 HB GE393)) hn_))), Or.elim hk_ (fun hs_ => hs_.2) (fun hn_ => (Kd.freshB (g := gb393) (o := .cells #[.int .i64 t387, .int .i64 t388, .slice Ao58 t389.length co58] 33 (0, 0)) (zK BK393) k_ hn_))⟩)) (below_size (zB1 HB GE393))); have n3_ := Aside0.mk (blk_below (g := gb393) (o := .cells #[.int .i64 t387, .int .i64 t388, .slice Ao58 t389.length co58] 33 (0, 0)) (zK BK393) hb); have n4_ := Aside0.mk (below_step (zB1 HB GE393) hb); clear HO0; clear HO391; clear BK393; clear HB; have HO0 := n0_; have HO391 := n1_; have HO396 := n2_; have BK393 := n3_; have HB := n4_; clear n0_ n1_ n2_ n3_ n4_; (try clear hb); (try clear hb2); (try clear hk); (try clear hi); (try clear ho0); have hcz62_0 : w61.cell? ⟨gb393, 0, none⟩ = some (.int .i64 t387) := (blk_cell BK393.out 0).trans rfl; have hcz62_1 : w61.cell? ⟨gb393, 1, none⟩ = some (.int .i64 t388) := (blk_cell BK393.out 1).trans rfl; have hcz62_2 : w61.cell? ⟨gb393, 2, none⟩ = some (.slice Ao58 t389.length co58) := (blk_cell BK393.out 2).trans rfl; have hfz62_0 := blk_frozen BK393.out 0; have hfz62_1 := blk_frozen BK393.out 1; have hfz62_2 := blk_frozen BK393.out 2) | ((with_reducible refine gate_store (t := 3) (p := 31) rfl ?_); refine store_event (t := 3) (p := 31) (v := ?vo_w63) (w1 := (w61.setCell ⟨gb393, 1, none⟩ (.int .i64 (wrap64 (t388 + 1))))) ?hg ?ho ?hn ?hr ?_; (case ho => rfl); (case hg => rfl); (case hn => rfl); (case hr => first | (go_simp; done) | (go_simp; rfl)); intro w63 hw; have n0_ : Aside0 (Kd.V k33 33 w63 w.heap.size (fun k_ => (P0_ k_ ∨ w.heap.size ≤ k_) ∧ k_ ≠ gb393) (.slice A0 l0.length c0) l0) := ⟨(by rw [hw]; exact (by (with_reducible repeat (first | apply Kd.V_alloc | apply Kd.V_drewN | apply Kd.V_drew)); exact Kd.V_mono (Kd.V_far (p := ⟨gb393, 1, none⟩) (Kd.V_mono HO0.out (fun k_ hk => (⟨hk, hk.2⟩ : _ ∧ k_ ≠ gb393))) (fun _ hk => hk.2) (.int .i64 (wrap64 (t388 + 1)))) (fun _ hk => ⟨hk.1.1, hk.1.2⟩)))⟩; have n1_ : Aside0 (Kd.V (Kd.int .i64) 3 w63 w.heap.size (fun k_ => (P0_ k_ ∨ w.heap.size ≤ k_) ∧ k_ ≠ gb393) (.slice Ao58 t389.length co58) t389) := ⟨(by rw [hw]; exact (by (with_reducible repeat (first | apply Kd.V_alloc | apply Kd.V_drewN | apply Kd.V_drew)); exact Kd.V_mono (Kd.V_far (p := ⟨gb393, 1, none⟩) (Kd.V_mono HO391.out (fun k_ hk => (⟨hk, hk.2⟩ : _ ∧ k_ ≠ gb393))) (fun _ hk => hk.2) (.int .i64 (wrap64 (t388 + 1)))) (fun _ hk => ⟨hk.1.1, hk.1.2⟩)))⟩; have n2_ : Aside0 (Kd.V (Kd.int .i64) 3 w63 w.heap.size (fun k_ => (P0_ k_ ∨ w.heap.size ≤ k_) ∧ k_ ≠ gb393) v395 t394) := ⟨(by rw [hw]; exact (by (with_reducible repeat (first | apply Kd.V_alloc | apply Kd.V_drewN | apply Kd.V_drew)); exact Kd.V_mono (Kd.V_far (p := ⟨gb393, 1, none⟩) (Kd.V_mono HO396.out (fun k_ hk => (⟨hk, hk.2⟩ : _ ∧ k_ ≠ gb393))) (fun _ hk => hk.2) (.int .i64 (wrap64 (t388 + 1)))) (fun _ hk => ⟨hk.1.1, hk.1.2⟩)))⟩; have n3_ : Aside0 (w63.heap[gb393]? = some (.cells #[.int .i64 t387, .int .i64 (wrap64 (t388 + 1)), .slice Ao58 t389.length co58] 33 (0, 0))) := ⟨(by rw [hw]; exact (by (with_reducible repeat (first | refine blk_drewN ?_ _ | refine blk_drew ?_ | refine blk_alloc ?_ _)); refine blk_put (cs := #[.int .i64 t387, .int .i64 t388, .slice Ao58 t389.length co58]) ?_ 1 _ rfl; (with_reducible repeat (first | refine blk_drewN ?_ _ | refine blk_drew ?_ | refine blk_alloc ?_ _)); exact BK393.out))⟩; have n4_ : Aside0 (Below w.heap.size w w63) := ⟨(by rw [hw]; exact (zB1 HB GE393))⟩; clear hw; clear HO0; clear HO391; clear HO396; clear BK393; clear HB; have HO0 := n0_; have HO391 := n1_; have HO396 := n2_; have BK393 := n3_; have HB := n4_; clear n0_ n1_ n2_ n3_ n4_; have hcz64_0 : w63.cell? ⟨gb393, 0, none⟩ = some (.int .i64 t387) := (blk_cell BK393.out 0).trans rfl; have hcz64_1 : w63.cell? ⟨gb393, 1, none⟩ = some (.int .i64 (wrap64 (t388 + 1))) := (blk_cell BK393.out 1).trans rfl; have hcz64_2 : w63.cell? ⟨gb393, 2, none⟩ = some (.slice Ao58 t389.length co58) := (blk_cell BK393.out 2).trans rfl; have hfz64_0 := blk_frozen BK393.out 0; have hfz64_1 := blk_frozen BK393.out 1; have hfz64_2 := blk_frozen BK393.out 2) | ((with_reducible refine gate_callee (f := 17) rfl ?_); refine goesL_ (some 45) rfl rfl Try.func17 (by kernel_rfl) rfl #[.slice A0 l0.length c0, .agg #[.int .i64 t387, .int .i64 (wrap64 (t388 + 1)), .slice Ao58 t389.length co58]] rfl zP ?_; (with_reducible refine (root_Set.calls (fun k_ => ((P0_ k_ ∨ w.heap.size ≤ k_) ∧ k_ ≠ gb393)) _ _ l0 t387 (wrap64 (t388 + 1)) (fun k_ => ((P0_ k_ ∨ w.heap.size ≤ k_) ∧ k_ ≠ gb393)) _ _ t389 t403 t406 _ ?side1 ?side2 A42.out).mono ?_); (case side1 => exact HO0.out); (case side2 => exact HO391.out); rintro e w65 ⟨v404, rfl, ho0, hb⟩; refine ⟨_, rfl, ?_⟩; have n0_ := Aside0.mk (Kd.V_below (zV HO0) hb); have n1_ := Aside0.mk (Kd.V_below (zV HO391) hb); have n2_ := Aside0.mk (Kd.V_below (zV HO396) hb); have n3_ := Aside0.mk (Kd.V_lower (Kd.V_mono (ok' := fun k_ => (P0_ k_ ∨ w.heap.size ≤ k_) ∧ k_ ≠ gb393) ho0 (fun k_ hk_ => ⟨Or.elim hk_ (fun hs_ => Or.elim hs_ (fun hs_ => hs_.1) (fun hs_ => hs_.1)) (fun hn_ => (.inr (Nat.le_trans (below_size (zB1 HB GE393)) hn_))), Or.elim hk_ (fun hs_ => Or.elim hs_ (fun hs_ => hs_.2) (fun hs_ => hs_.2)) (fun hn_ => (Kd.freshB (g := gb393) (o := .cells #[.int .i64 t387, .int .i64 (wrap64 (t388 + 1)), .slice Ao58 t389.length co58] 33 (0, 0)) (zK BK393) k_ hn_))⟩)) (below_size (zB1 HB GE393))); have n4_ := Aside0.mk (blk_below (g := gb393) (o := .cells #[.int .i64 t387, .int .i64 (wrap64 (t388 + 1)), .slice Ao58 t389.length co58] 33 (0, 0)) (zK BK393) hb); have n5_ := Aside0.mk (below_step (zB1 HB GE393) hb); clear HO0; clear HO391; clear HO396; clear BK393; clear HB; have HO0 := n0_; have HO391 := n1_; have HO396 := n2_; have HO405 := n3_; have BK393 := n4_; have HB := n5_; clear n0_ n1_ n2_ n3_ n4_ n5_; (try clear hb); (try clear hb2); (try clear hk); (try clear hi); (try clear ho0)))
     go_ret3
     exact ⟨_, by first | rfl | (simp [errW_none, errW_some] <;> rfl) | (simp [*, errW_none, errW_some] <;> rfl), Kd.V_mono (Kd.S_V (by first | exact Kd.S_nil _ _ _ 0 (fun k_ => w.heap.size ≤ k_) | exact Kd.S_nil _ _ _ _ _ | exact Kd.N_nil _ _ _ _ _ | exact Kd.V_nil _ _ _ _ _ | exact Kd.Q_nil _ _ _ _ _ | exact Kd.R_nil _ _ _ _ _)) (fun k_ hk => by first | exact ⟨(.inr (hk.1)), hk.2⟩ | exact (.inr (hk))), zB1 HB GE393⟩
 ·rw [if_neg c4] at H
  have c4b0 : (t392 == 0) = false := beq_eq_false_iff_ne.mpr c4
  have c4b1 : (t392 != 0) = true := bne_iff_ne.mpr c4
  simp only [Option.some.injEq, Prod.mk.injEq] at H
  obtain ⟨rfl, rfl, rfl⟩ := H
  go_enter Try.func32, Try.ntmps32
  go_wp2_with (first | ((with_reducible refine gate_callee (f := 16) rfl ?_); refine goesL_ (some 16) rfl rfl Try.func16 (by kernel_rfl) rfl #[.slice A0 l0.length c0, .int .i64 a1] rfl zP ?_; (with_reducible refine (root_Get.calls (fun k_ => (P0_ k_ ∨ w.heap.size ≤ k_)) _ _ l0 a1 t387 t388 t389 t392 _ ?side1 A3.out).mono ?_); (case side1 => exact HO0.out); rintro e w66 ⟨v390, rfl, ho0, hb⟩; refine ⟨_, rfl, ?_⟩; have n0_ := Aside0.mk (Kd.V_below (zV HO0) hb); have n1_ := Aside0.mk (Kd.V_lower (Kd.V_mono (ok' := fun k_ => (P0_ k_ ∨ w.heap.size ≤ k_)) ho0 (fun k_ hk_ => Or.elim hk_ (fun hs_ => hs_) (fun hn_ => (.inr (Nat.le_trans (below_size (zB HB)) hn_))))) (below_size (zB HB))); have n2_ := Aside0.mk (below_step (zB HB) hb); clear HO0; clear HB; have HO0 := n0_; have HO391 := n1_; have HB := n2_; clear n0_ n1_ n2_; (try clear hb); (try clear hb2); (try clear hk); (try clear hi); (try clear ho0)) | ((with_reducible refine gate_dst (N := 7) rfl ?_); refine box_event ?hg (N := 7) ?hd (cs := #[.int .i64 0, .int .i64 0, .slice none 0 0]) (t := 33) ?hr ?_; (case hd => rfl); (case hg => rfl); (case hr => first | (go_simp; done) | (go_simp; rfl)); intro gb393 hg w67 hbox hb; have n0_ := Aside0.mk (Kd.V_below (Kd.V_elderB (zV HO0) gb393 (Nat.le_of_eq hg.symm)) hb); have n1_ := Aside0.mk (Kd.V_below (Kd.V_elderB (zV HO391) gb393 (Nat.le_of_eq hg.symm)) hb); have n2_ := Aside0.mk (below_step (zB HB) hb); have n3_ := Aside0.mk (hbox); have n4_ := Aside0.mk ((by rw [hg]; exact (below_size (zB HB)) : w.heap.size ≤ gb393)); have n5_ := Aside0.mk ((by rw [hg]; exact (below_size (zB HB)) : w.heap.size ≤ gb393)); clear HO0; clear HO391; clear HB; have HO0 := n0_; have HO391 := n1_; have HB := n2_; have BK393 := n3_; have GW393 := n4_; have GE393 := n5_; clear n0_ n1_ n2_ n3_ n4_ n5_; clear hb hbox hg; have hcz68_0 : w67.cell? ⟨gb393, 0, none⟩ = some (.int .i64 0) := (blk_cell BK393.out 0).trans rfl; have hcz68_1 : w67.cell? ⟨gb393, 1, none⟩ = some (.int .i64 0) := (blk_cell BK393.out 1).trans rfl; have hcz68_2 : w67.cell? ⟨gb393, 2, none⟩ = some (.slice none 0 0) := (blk_cell BK393.out 2).trans rfl; have hfz68_0 := blk_frozen BK393.out 0; have hfz68_1 := blk_frozen BK393.out 1; have hfz68_2 := blk_frozen BK393.out 2; obtain ⟨Ao69, co69, eo69⟩ := Kd.V_slice HO391.out; subst eo69))
  go_ret3
  exact ⟨_, by first | rfl | (simp [errW_none, errW_some] <;> rfl) | (simp [*, errW_none, errW_some] <;> rfl), Kd.V_mono (Kd.S_V (by first | exact Kd.S_nil _ _ _ 0 (fun k_ => w.heap.size ≤ k_) | exact Kd.S_nil _ _ _ _ _ | exact Kd.N_nil _ _ _ _ _ | exact Kd.V_nil _ _ _ _ _ | exact Kd.Q_nil _ _ _ _ _ | exact Kd.R_nil _ _ _ _ _)) (fun k_ hk => by first | exact ⟨(.inr (hk.1)), hk.2⟩ | exact (.inr (hk))), zB1 HB GE393⟩

end Go.Proofs.Ytnjnjajgpkmfhaa.PX

namespace Go.Proofs.Ytnjnjajgpkmfhaa.PX
open Go.RowKit Go.Proofs.YtnjnjajgpkmfhaaW.PrintWords Go.Proofs.YtnjnjajgpkmfhaaW.PrintLast Go.Proofs.YtnjnjajgpkmfhaaW.PrintMore
attribute [local go_sem] max2_int min2_int max_two min_two max_three min_three max_four min_four   -- for this text's walks alone
set_option linter.unusedVariables false
set_option linter.unusedSimpArgs false

/-! ### deadboltlaw10_alive: function 33 -/
def deadboltlaw10_alive.f (k : Nat)  : Option (Bool) := (sema_Acquire.f k ([] : List (S33)) 8 4 false).bind fun bt407 => ((sema_Acquire.f k bt407.1 8 2 true).bind fun bt412 => ((sema_Release.f bt412.1 8).bind fun bt417 => (if bt407.2.2 = 0 then (if bt412.2.2 = 0 then (if bt417.2.2 = 0 then (if bt407.2.1 = true then (some false) else (if bt412.2.1 = true then (some false) else (some (bt417.2.1 == 2)))) else (some false)) else (some false)) else (some false))))
theorem deadboltlaw10_alive.mono : ∀ k, LeO (deadboltlaw10_alive.f k ) (deadboltlaw10_alive.f (k + 1) ) := by
 intro  k
 unfold deadboltlaw10_alive.f
 repeat' first
   | (with_reducible exact sema_Acquire.mono _ _ _ _ _)
   | (with_reducible exact LeO.refl _)
   | (with_reducible exact LeO.none _)
   | (with_reducible refine LeO.ite ?_ ?_)
   | (with_reducible refine LeO.bind ?_ (fun _ => ?_))
   | exact sema_Acquire.mono _ _ _ _ _
   | exact LeO.none _
   | refine LeO.ite ?_ ?_
   | refine LeO.bind ?_ (fun _ => ?_)
set_option maxHeartbeats 8000000 in
set_option maxRecDepth 100000 in
theorem deadboltlaw10_alive.calls (k : Nat)  (r : Bool) (w : World) (h : deadboltlaw10_alive.f k  = some r) :
  Calls Try.prog 33 #[] w fun e w' => e = .returned (.bool r) ∧ Below w.heap.size w w' := by
 have HB := Aside0.mk (Below.refl w.heap.size w)
 have H : ((sema_Acquire.f k ([] : List (S33)) 8 4 false).bind fun bt407 => ((sema_Acquire.f k bt407.1 8 2 true).bind fun bt412 => ((sema_Release.f bt412.1 8).bind fun bt417 => (if bt407.2.2 = 0 then (if bt412.2.2 = 0 then (if bt417.2.2 = 0 then (if bt407.2.1 = true then (some false) else (if bt412.2.1 = true then (some false) else (some (bt417.2.1 == 2)))) else (some false)) else (some false)) else (some false))))) = some r := h
 clear h
 replace H := Option.bind_eq_some_iff.mp H
 obtain ⟨⟨t407, t410, t411⟩, A10, H⟩ := H
 replace H : ((sema_Acquire.f k t407 8 2 true).bind fun bt412 => ((sema_Release.f bt412.1 8).bind fun bt417 => (if t411 = 0 then (if bt412.2.2 = 0 then (if bt417.2.2 = 0 then (if t410 = true then (some false) else (if bt412.2.1 = true then (some false) else (some (bt417.2.1 == 2)))) else (some false)) else (some false)) else (some false)))) = some r := H
 have A1 := Aside0.mk A10
 clear A10
 replace H := Option.bind_eq_some_iff.mp H
 obtain ⟨⟨t412, t415, t416⟩, A20, H⟩ := H
 replace H : ((sema_Release.f t412 8).bind fun bt417 => (if t411 = 0 then (if t416 = 0 then (if bt417.2.2 = 0 then (if t410 = true then (some false) else (if t415 = true then (some false) else (some (bt417.2.1 == 2)))) else (some false)) else (some false)) else (some false))) = some r := H
 have A2 := Aside0.mk A20
 clear A20
 replace H := Option.bind_eq_some_iff.mp H
 obtain ⟨⟨t417, t420, t421⟩, A30, H⟩ := H
 replace H : (if t411 = 0 then (if t416 = 0 then (if t421 = 0 then (if t410 = true then (some false) else (if t415 = true then (some false) else (some (t420 == 2)))) else (some false)) else (some false)) else (some false)) = some r := H
 have A3 := Aside0.mk A30
 clear A30
 by_cases c4 : t411 = 0
 ·rw [if_pos c4] at H
  have c4b0 : (t411 == 0) = true := beq_iff_eq.mpr c4
  have c4b1 : (t411 != 0) = false := bne_eq_false_iff_eq.mpr c4
  clear c4
  by_cases c5 : t416 = 0
  ·rw [if_pos c5] at H
   have c5b0 : (t416 == 0) = true := beq_iff_eq.mpr c5
   have c5b1 : (t416 != 0) = false := bne_eq_false_iff_eq.mpr c5
   clear c5
   by_cases c6 : t421 = 0
   ·rw [if_pos c6] at H
    have c6b0 : (t421 == 0) = true := beq_iff_eq.mpr c6
    have c6b1 : (t421 != 0) = false := bne_eq_false_iff_eq.mpr c6
    clear c6
    by_cases c7 : t410 = true
    ·subst c7
     have H1 : (some false) = some r := by rw [if_pos rfl] at H; exact H
     clear H
     have H := H1
     clear H1
     obtain rfl := Option.some.inj H
     go_enter Try.func33, Try.ntmps33
     go_wp2_with (first | ((with_reducible refine gate_callee (f := 30) rfl ?_); refine goesL_ (some 10) rfl rfl Try.func30 (by kernel_rfl) rfl #[.slice none 0 0, .int .i64 8, .int .i64 4, .bool false] rfl zP ?_; (refine (sema_Acquire.calls k (fun k_ => False) _ _ ([] : List (S33)) 8 4 false t407 true t411 _ ?side1 A1.out).mono ?_); (case side1 => exact Kd.V_nil _ _ _ _ _); rintro e w8 ⟨v408, rfl, ho0, hb⟩; refine ⟨_, rfl, ?_⟩; have n0_ := Aside0.mk (Kd.V_lower (Kd.V_mono (ok' := fun k_ => True) ho0 (fun k_ hk_ => trivial)) (below_size (zB HB))); have n1_ := Aside0.mk (below_step (zB HB) hb); clear HB; have HO409 := n0_; have HB := n1_; clear n0_ n1_; (try clear hb); (try clear hb2); (try clear hk); (try clear hi); (try clear ho0); obtain ⟨Ao9, co9, eo9⟩ := Kd.V_slice HO409.out; subst eo9) | ((with_reducible refine gate_callee (f := 30) rfl ?_); refine goesL_ (some 16) rfl rfl Try.func30 (by kernel_rfl) rfl #[.slice Ao9 t407.length co9, .int .i64 8, .int .i64 2, .bool true] rfl zP ?_; (with_reducible refine (sema_Acquire.calls k (fun k_ => True) _ _ t407 8 2 true t412 t415 t416 _ ?side1 A2.out).mono ?_); (case side1 => exact HO409.out); rintro e w10 ⟨v413, rfl, ho0, hb⟩; refine ⟨_, rfl, ?_⟩; have n0_ := Aside0.mk (Kd.V_below (zV HO409) hb); have n1_ := Aside0.mk (Kd.V_lower (Kd.V_mono (ok' := fun k_ => True) ho0 (fun k_ hk_ => trivial)) (below_size (zB HB))); have n2_ := Aside0.mk (below_step (zB HB) hb); clear HO409; clear HB; have HO409 := n0_; have HO414 := n1_; have HB := n2_; clear n0_ n1_ n2_; (try clear hb); (try clear hb2); (try clear hk); (try clear hi); (try clear ho0); obtain ⟨Ao11, co11, eo11⟩ := Kd.V_slice HO414.out; subst eo11) | ((with_reducible refine gate_callee (f := 32) rfl ?_); refine goesL_ (some 22) rfl rfl Try.func32 (by kernel_rfl) rfl #[.slice Ao11 t412.length co11, .int .i64 8] rfl zP ?_; (with_reducible refine (sema_Release.calls (fun k_ => True) _ _ t412 8 t417 t420 t421 _ ?side1 A3.out).mono ?_); (case side1 => exact HO414.out); rintro e w12 ⟨v418, rfl, ho0, hb⟩; refine ⟨_, rfl, ?_⟩; have n0_ := Aside0.mk (Kd.V_below (zV HO409) hb); have n1_ := Aside0.mk (Kd.V_below (zV HO414) hb); have n2_ := Aside0.mk (Kd.V_lower (Kd.V_mono (ok' := fun k_ => True) ho0 (fun k_ hk_ => trivial)) (below_size (zB HB))); have n3_ := Aside0.mk (below_step (zB HB) hb); clear HO409; clear HO414; clear HB; have HO409 := n0_; have HO414 := n1_; have HO419 := n2_; have HB := n3_; clear n0_ n1_ n2_ n3_; (try clear hb); (try clear hb2); (try clear hk); (try clear hi); (try clear ho0)))
     go_ret
     exact ⟨by first | rfl | (simp [errW_none, errW_some] <;> rfl) | (simp [*, errW_none, errW_some] <;> rfl), zB HB⟩
    ·replace c7 := Bool.eq_false_iff.mpr c7
     subst c7
     have H1 : (if t415 = true then (some false) else (some (t420 == 2))) = some r := by rw [if_neg (show ¬ (false = true) by decide)] at H; exact H
     clear H
     have H := H1
     clear H1
     by_cases c13 : t415 = true
     ·subst c13
      have H1 : (some false) = some r := by rw [if_pos rfl] at H; exact H
      clear H
      have H := H1
      clear H1
      obtain rfl := Option.some.inj H
      go_enter Try.func33, Try.ntmps33
      go_wp2_with (first | ((with_reducible refine gate_callee (f := 30) rfl ?_); refine goesL_ (some 10) rfl rfl Try.func30 (by kernel_rfl) rfl #[.slice none 0 0, .int .i64 8, .int .i64 4, .bool false] rfl zP ?_; (refine (sema_Acquire.calls k (fun k_ => False) _ _ ([] : List (S33)) 8 4 false t407 false t411 _ ?side1 A1.out).mono ?_); (case side1 => exact Kd.V_nil _ _ _ _ _); rintro e w14 ⟨v408, rfl, ho0, hb⟩; refine ⟨_, rfl, ?_⟩; have n0_ := Aside0.mk (Kd.V_lower (Kd.V_mono (ok' := fun k_ => True) ho0 (fun k_ hk_ => trivial)) (below_size (zB HB))); have n1_ := Aside0.mk (below_step (zB HB) hb); clear HB; have HO409 := n0_; have HB := n1_; clear n0_ n1_; (try clear hb); (try clear hb2); (try clear hk); (try clear hi); (try clear ho0); obtain ⟨Ao15, co15, eo15⟩ := Kd.V_slice HO409.out; subst eo15) | ((with_reducible refine gate_callee (f := 30) rfl ?_); refine goesL_ (some 16) rfl rfl Try.func30 (by kernel_rfl) rfl #[.slice Ao15 t407.length co15, .int .i64 8, .int .i64 2, .bool true] rfl zP ?_; (with_reducible refine (sema_Acquire.calls k (fun k_ => True) _ _ t407 8 2 true t412 true t416 _ ?side1 A2.out).mono ?_); (case side1 => exact HO409.out); rintro e w16 ⟨v413, rfl, ho0, hb⟩; refine ⟨_, rfl, ?_⟩; have n0_ := Aside0.mk (Kd.V_below (zV HO409) hb); have n1_ := Aside0.mk (Kd.V_lower (Kd.V_mono (ok' := fun k_ => True) ho0 (fun k_ hk_ => trivial)) (below_size (zB HB))); have n2_ := Aside0.mk (below_step (zB HB) hb); clear HO409; clear HB; have HO409 := n0_; have HO414 := n1_; have HB := n2_; clear n0_ n1_ n2_; (try clear hb); (try clear hb2); (try clear hk); (try clear hi); (try clear ho0); obtain ⟨Ao17, co17, eo17⟩ := Kd.V_slice HO414.out; subst eo17) | ((with_reducible refine gate_callee (f := 32) rfl ?_); refine goesL_ (some 22) rfl rfl Try.func32 (by kernel_rfl) rfl #[.slice Ao17 t412.length co17, .int .i64 8] rfl zP ?_; (with_reducible refine (sema_Release.calls (fun k_ => True) _ _ t412 8 t417 t420 t421 _ ?side1 A3.out).mono ?_); (case side1 => exact HO414.out); rintro e w18 ⟨v418, rfl, ho0, hb⟩; refine ⟨_, rfl, ?_⟩; have n0_ := Aside0.mk (Kd.V_below (zV HO409) hb); have n1_ := Aside0.mk (Kd.V_below (zV HO414) hb); have n2_ := Aside0.mk (Kd.V_lower (Kd.V_mono (ok' := fun k_ => True) ho0 (fun k_ hk_ => trivial)) (below_size (zB HB))); have n3_ := Aside0.mk (below_step (zB HB) hb); clear HO409; clear HO414; clear HB; have HO409 := n0_; have HO414 := n1_; have HO419 := n2_; have HB := n3_; clear n0_ n1_ n2_ n3_; (try clear hb); (try clear hb2); (try clear hk); (try clear hi); (try clear ho0)))
      go_ret
      exact ⟨by first | rfl | (simp [errW_none, errW_some] <;> rfl) | (simp [*, errW_none, errW_some] <;> rfl), zB HB⟩
     ·replace c13 := Bool.eq_false_iff.mpr c13
      subst c13
      have H1 : (some (t420 == 2)) = some r := by rw [if_neg (show ¬ (false = true) by decide)] at H; exact H
      clear H
      have H := H1
      clear H1
      obtain rfl := Option.some.inj H
      go_enter Try.func33, Try.ntmps33
      go_wp2_with (first | ((with_reducible refine gate_callee (f := 30) rfl ?_); refine goesL_ (some 10) rfl rfl Try.func30 (by kernel_rfl) rfl #[.slice none 0 0, .int .i64 8, .int .i64 4, .bool false] rfl zP ?_; (refine (sema_Acquire.calls k (fun k_ => False) _ _ ([] : List (S33)) 8 4 false t407 false t411 _ ?side1 A1.out).mono ?_); (case side1 => exact Kd.V_nil _ _ _ _ _); rintro e w19 ⟨v408, rfl, ho0, hb⟩; refine ⟨_, rfl, ?_⟩; have n0_ := Aside0.mk (Kd.V_lower (Kd.V_mono (ok' := fun k_ => True) ho0 (fun k_ hk_ => trivial)) (below_size (zB HB))); have n1_ := Aside0.mk (below_step (zB HB) hb); clear HB; have HO409 := n0_; have HB := n1_; clear n0_ n1_; (try clear hb); (try clear hb2); (try clear hk); (try clear hi); (try clear ho0); obtain ⟨Ao20, co20, eo20⟩ := Kd.V_slice HO409.out; subst eo20) | ((with_reducible refine gate_callee (f := 30) rfl ?_); refine goesL_ (some 16) rfl rfl Try.func30 (by kernel_rfl) rfl #[.slice Ao20 t407.length co20, .int .i64 8, .int .i64 2, .bool true] rfl zP ?_; (with_reducible refine (sema_Acquire.calls k (fun k_ => True) _ _ t407 8 2 true t412 false t416 _ ?side1 A2.out).mono ?_); (case side1 => exact HO409.out); rintro e w21 ⟨v413, rfl, ho0, hb⟩; refine ⟨_, rfl, ?_⟩; have n0_ := Aside0.mk (Kd.V_below (zV HO409) hb); have n1_ := Aside0.mk (Kd.V_lower (Kd.V_mono (ok' := fun k_ => True) ho0 (fun k_ hk_ => trivial)) (below_size (zB HB))); have n2_ := Aside0.mk (below_step (zB HB) hb); clear HO409; clear HB; have HO409 := n0_; have HO414 := n1_; have HB := n2_; clear n0_ n1_ n2_; (try clear hb); (try clear hb2); (try clear hk); (try clear hi); (try clear ho0); obtain ⟨Ao22, co22, eo22⟩ := Kd.V_slice HO414.out; subst eo22) | ((with_reducible refine gate_callee (f := 32) rfl ?_); refine goesL_ (some 22) rfl rfl Try.func32 (by kernel_rfl) rfl #[.slice Ao22 t412.length co22, .int .i64 8] rfl zP ?_; (with_reducible refine (sema_Release.calls (fun k_ => True) _ _ t412 8 t417 t420 t421 _ ?side1 A3.out).mono ?_); (case side1 => exact HO414.out); rintro e w23 ⟨v418, rfl, ho0, hb⟩; refine ⟨_, rfl, ?_⟩; have n0_ := Aside0.mk (Kd.V_below (zV HO409) hb); have n1_ := Aside0.mk (Kd.V_below (zV HO414) hb); have n2_ := Aside0.mk (Kd.V_lower (Kd.V_mono (ok' := fun k_ => True) ho0 (fun k_ hk_ => trivial)) (below_size (zB HB))); have n3_ := Aside0.mk (below_step (zB HB) hb); clear HO409; clear HO414; clear HB; have HO409 := n0_; have HO414 := n1_; have HO419 := n2_; have HB := n3_; clear n0_ n1_ n2_ n3_; (try clear hb); (try clear hb2); (try clear hk); (try clear hi); (try clear ho0)))
      go_ret
      exact ⟨by first | rfl | (simp [errW_none, errW_some] <;> rfl) | (simp [*, errW_none, errW_some] <;> rfl), zB HB⟩
   ·rw [if_neg c6] at H
    have c6b0 : (t421 == 0) = false := beq_eq_false_iff_ne.mpr c6
    have c6b1 : (t421 != 0) = true := bne_iff_ne.mpr c6
    obtain rfl := Option.some.inj H
    go_enter Try.func33, Try.ntmps33
    go_wp2_with (first | ((with_reducible refine gate_callee (f := 30) rfl ?_); refine goesL_ (some 10) rfl rfl Try.func30 (by kernel_rfl) rfl #[.slice none 0 0, .int .i64 8, .int .i64 4, .bool false] rfl zP ?_; (refine (sema_Acquire.calls k (fun k_ => False) _ _ ([] : List (S33)) 8 4 false t407 t410 t411 _ ?side1 A1.out).mono ?_); (case side1 => exact Kd.V_nil _ _ _ _ _); rintro e w24 ⟨v408, rfl, ho0, hb⟩; refine ⟨_, rfl, ?_⟩; have n0_ := Aside0.mk (Kd.V_lower (Kd.V_mono (ok' := fun k_ => True) ho0 (fun k_ hk_ => trivial)) (below_size (zB HB))); have n1_ := Aside0.mk (below_step (zB HB) hb); clear HB; have HO409 := n0_; have HB := n1_; clear n0_ n1_; (try clear hb); (try clear hb2); (try clear hk); (try clear hi); (try clear ho0); obtain ⟨Ao25, co25, eo25⟩ := Kd.V_slice HO409.out; subst eo25) | ((with_reducible refine gate_callee (f := 30) rfl ?_); refine goesL_ (some 16) rfl rfl Try.func30 (by kernel_rfl) rfl #[.slice Ao25 t407.length co25, .int .i64 8, .int .i64 2, .bool true] rfl zP ?_; (with_reducible refine (sema_Acquire.calls k (fun k_ => True) _ _ t407 8 2 true t412 t415 t416 _ ?side1 A2.out).mono ?_); (case side1 => exact HO409.out); rintro e w26 ⟨v413, rfl, ho0, hb⟩; refine ⟨_, rfl, ?_⟩; have n0_ := Aside0.mk (Kd.V_below (zV HO409) hb); have n1_ := Aside0.mk (Kd.V_lower (Kd.V_mono (ok' := fun k_ => True) ho0 (fun k_ hk_ => trivial)) (below_size (zB HB))); have n2_ := Aside0.mk (below_step (zB HB) hb); clear HO409; clear HB; have HO409 := n0_; have HO414 := n1_; have HB := n2_; clear n0_ n1_ n2_; (try clear hb); (try clear hb2); (try clear hk); (try clear hi); (try clear ho0); obtain ⟨Ao27, co27, eo27⟩ := Kd.V_slice HO414.out; subst eo27) | ((with_reducible refine gate_callee (f := 32) rfl ?_); refine goesL_ (some 22) rfl rfl Try.func32 (by kernel_rfl) rfl #[.slice Ao27 t412.length co27, .int .i64 8] rfl zP ?_; (with_reducible refine (sema_Release.calls (fun k_ => True) _ _ t412 8 t417 t420 t421 _ ?side1 A3.out).mono ?_); (case side1 => exact HO414.out); rintro e w28 ⟨v418, rfl, ho0, hb⟩; refine ⟨_, rfl, ?_⟩; have n0_ := Aside0.mk (Kd.V_below (zV HO409) hb); have n1_ := Aside0.mk (Kd.V_below (zV HO414) hb); have n2_ := Aside0.mk (Kd.V_lower (Kd.V_mono (ok' := fun k_ => True) ho0 (fun k_ hk_ => trivial)) (below_size (zB HB))); have n3_ := Aside0.mk (below_step (zB HB) hb); clear HO409; clear HO414; clear HB; have HO409 := n0_; have HO414 := n1_; have HO419 := n2_; have HB := n3_; clear n0_ n1_ n2_ n3_; (try clear hb); (try clear hb2); (try clear hk); (try clear hi); (try clear ho0)))
    go_ret
    exact ⟨by first | rfl | (simp [errW_none, errW_some] <;> rfl) | (simp [*, errW_none, errW_some] <;> rfl), zB HB⟩
  ·rw [if_neg c5] at H
   have c5b0 : (t416 == 0) = false := beq_eq_false_iff_ne.mpr c5
   have c5b1 : (t416 != 0) = true := bne_iff_ne.mpr c5
   obtain rfl := Option.some.inj H
   go_enter Try.func33, Try.ntmps33
   go_wp2_with (first | ((with_reducible refine gate_callee (f := 30) rfl ?_); refine goesL_ (some 10) rfl rfl Try.func30 (by kernel_rfl) rfl #[.slice none 0 0, .int .i64 8, .int .i64 4, .bool false] rfl zP ?_; (refine (sema_Acquire.calls k (fun k_ => False) _ _ ([] : List (S33)) 8 4 false t407 t410 t411 _ ?side1 A1.out).mono ?_); (case side1 => exact Kd.V_nil _ _ _ _ _); rintro e w29 ⟨v408, rfl, ho0, hb⟩; refine ⟨_, rfl, ?_⟩; have n0_ := Aside0.mk (Kd.V_lower (Kd.V_mono (ok' := fun k_ => True) ho0 (fun k_ hk_ => trivial)) (below_size (zB HB))); have n1_ := Aside0.mk (below_step (zB HB) hb); clear HB; have HO409 := n0_; have HB := n1_; clear n0_ n1_; (try clear hb); (try clear hb2); (try clear hk); (try clear hi); (try clear ho0); obtain ⟨Ao30, co30, eo30⟩ := Kd.V_slice HO409.out; subst eo30) | ((with_reducible refine gate_callee (f := 30) rfl ?_); refine goesL_ (some 16) rfl rfl Try.func30 (by kernel_rfl) rfl #[.slice Ao30 t407.length co30, .int .i64 8, .int .i64 2, .bool true] rfl zP ?_; (with_reducible refine (sema_Acquire.calls k (fun k_ => True) _ _ t407 8 2 true t412 t415 t416 _ ?side1 A2.out).mono ?_); (case side1 => exact HO409.out); rintro e w31 ⟨v413, rfl, ho0, hb⟩; refine ⟨_, rfl, ?_⟩; have n0_ := Aside0.mk (Kd.V_below (zV HO409) hb); have n1_ := Aside0.mk (Kd.V_lower (Kd.V_mono (ok' := fun k_ => True) ho0 (fun k_ hk_ => trivial)) (below_size (zB HB))); have n2_ := Aside0.mk (below_step (zB HB) hb); clear HO409; clear HB; have HO409 := n0_; have HO414 := n1_; have HB := n2_; clear n0_ n1_ n2_; (try clear hb); (try clear hb2); (try clear hk); (try clear hi); (try clear ho0); obtain ⟨Ao32, co32, eo32⟩ := Kd.V_slice HO414.out; subst eo32) | ((with_reducible refine gate_callee (f := 32) rfl ?_); refine goesL_ (some 22) rfl rfl Try.func32 (by kernel_rfl) rfl #[.slice Ao32 t412.length co32, .int .i64 8] rfl zP ?_; (with_reducible refine (sema_Release.calls (fun k_ => True) _ _ t412 8 t417 t420 t421 _ ?side1 A3.out).mono ?_); (case side1 => exact HO414.out); rintro e w33 ⟨v418, rfl, ho0, hb⟩; refine ⟨_, rfl, ?_⟩; have n0_ := Aside0.mk (Kd.V_below (zV HO409) hb); have n1_ := Aside0.mk (Kd.V_below (zV HO414) hb); have n2_ := Aside0.mk (Kd.V_lower (Kd.V_mono (ok' := fun k_ => True) ho0 (fun k_ hk_ => trivial)) (below_size (zB HB))); have n3_ := Aside0.mk (below_step (zB HB) hb); clear HO409; clear HO414; clear HB; have HO409 := n0_; have HO414 := n1_; have HO419 := n2_; have HB := n3_; clear n0_ n1_ n2_ n3_; (try clear hb); (try clear hb2); (try clear hk); (try clear hi); (try clear ho0)))
   go_ret
   exact ⟨by first | rfl | (simp [errW_none, errW_some] <;> rfl) | (simp [*, errW_none, errW_some] <;> rfl), zB HB⟩
 ·rw [if_neg c4] at H
  have c4b0 : (t411 == 0) = false := beq_eq_false_iff_ne.mpr c4
  have c4b1 : (t411 != 0) = true := bne_iff_ne.mpr c4
  obtain rfl := Option.some.inj H
  go_enter Try.func33, Try.ntmps33
  go_wp2_with (first | ((with_reducible refine gate_callee (f := 30) rfl ?_); refine goesL_ (some 10) rfl rfl Try.func30 (by kernel_rfl) rfl #[.slice none 0 0, .int .i64 8, .int .i64 4, .bool false] rfl zP ?_; (refine (sema_Acquire.calls k (fun k_ => False) _ _ ([] : List (S33)) 8 4 false t407 t410 t411 _ ?side1 A1.out).mono ?_); (case side1 => exact Kd.V_nil _ _ _ _ _); rintro e w34 ⟨v408, rfl, ho0, hb⟩; refine ⟨_, rfl, ?_⟩; have n0_ := Aside0.mk (Kd.V_lower (Kd.V_mono (ok' := fun k_ => True) ho0 (fun k_ hk_ => trivial)) (below_size (zB HB))); have n1_ := Aside0.mk (below_step (zB HB) hb); clear HB; have HO409 := n0_; have HB := n1_; clear n0_ n1_; (try clear hb); (try clear hb2); (try clear hk); (try clear hi); (try clear ho0); obtain ⟨Ao35, co35, eo35⟩ := Kd.V_slice HO409.out; subst eo35) | ((with_reducible refine gate_callee (f := 30) rfl ?_); refine goesL_ (some 16) rfl rfl Try.func30 (by kernel_rfl) rfl #[.slice Ao35 t407.length co35, .int .i64 8, .int .i64 2, .bool true] rfl zP ?_; (with_reducible refine (sema_Acquire.calls k (fun k_ => True) _ _ t407 8 2 true t412 t415 t416 _ ?side1 A2.out).mono ?_); (case side1 => exact HO409.out); rintro e w36 ⟨v413, rfl, ho0, hb⟩; refine ⟨_, rfl, ?_⟩; have n0_ := Aside0.mk (Kd.V_below (zV HO409) hb); have n1_ := Aside0.mk (Kd.V_lower (Kd.V_mono (ok' := fun k_ => True) ho0 (fun k_ hk_ => trivial)) (below_size (zB HB))); have n2_ := Aside0.mk (below_step (zB HB) hb); clear HO409; clear HB; have HO409 := n0_; have HO414 := n1_; have HB := n2_; clear n0_ n1_ n2_; (try clear hb); (try clear hb2); (try clear hk); (try clear hi); (try clear ho0); obtain ⟨Ao37, co37, eo37⟩ := Kd.V_slice HO414.out; subst eo37) | ((with_reducible refine gate_callee (f := 32) rfl ?_); refine goesL_ (some 22) rfl rfl Try.func32 (by kernel_rfl) rfl #[.slice Ao37 t412.length co37, .int .i64 8] rfl zP ?_; (with_reducible refine (sema_Release.calls (fun k_ => True) _ _ t412 8 t417 t420 t421 _ ?side1 A3.out).mono ?_); (case side1 => exact HO414.out); rintro e w38 ⟨v418, rfl, ho0, hb⟩; refine ⟨_, rfl, ?_⟩; have n0_ := Aside0.mk (Kd.V_below (zV HO409) hb); have n1_ := Aside0.mk (Kd.V_below (zV HO414) hb); have n2_ := Aside0.mk (Kd.V_lower (Kd.V_mono (ok' := fun k_ => True) ho0 (fun k_ hk_ => trivial)) (below_size (zB HB))); have n3_ := Aside0.mk (below_step (zB HB) hb); clear HO409; clear HO414; clear HB; have HO409 := n0_; have HO414 := n1_; have HO419 := n2_; have HB := n3_; clear n0_ n1_ n2_ n3_; (try clear hb); (try clear hb2); (try clear hk); (try clear hi); (try clear ho0)))
  go_ret
  exact ⟨by first | rfl | (simp [errW_none, errW_some] <;> rfl) | (simp [*, errW_none, errW_some] <;> rfl), zB HB⟩

end Go.Proofs.Ytnjnjajgpkmfhaa.PX

namespace Go.Proofs.Ytnjnjajgpkmfhaa.PX
open Go.RowKit Go.Proofs.YtnjnjajgpkmfhaaW.PrintWords Go.Proofs.YtnjnjajgpkmfhaaW.PrintLast Go.Proofs.YtnjnjajgpkmfhaaW.PrintMore
attribute [local go_sem] max2_int min2_int max_two min_two max_three min_three max_four min_four   -- for this text's walks alone
set_option linter.unusedVariables false
set_option linter.unusedSimpArgs false

/-! ### deadboltlaw10_few: function 34 -/
def deadboltlaw10_few.l0 : Nat → List (S33) → List (S33) → Int → Int → Option ((List (S33)))
 | 0, _, _, _, _ => none
 | k + 1, x3, x10, x11, x12 => if x12 < x11 then (if 0 ≤ x12 then (if x12 < (x10.length : Int) then (if 0 ≤ (mn (((rd_T33 x10 x12).f2).length : Int) 70) then (if (mn (((rd_T33 x10 x12).f2).length : Int) 70) ≤ (((rd_T33 x10 x12).f2).length : Int) then (if x3.length < 3518437208883 then (deadboltlaw10_few.l0 k (x3 ++ [(⟨(rd_T33 x10 x12).f0, (rd_T33 x10 x12).f1, (((rd_T33 x10 x12).f2).take ((mn (((rd_T33 x10 x12).f2).length : Int) 70) : Int).toNat)⟩ : S33)]) x10 x11 (wrap64 (x12 + 1))) else (none)) else (none)) else (none)) else (none)) else (none)) else (some x3)
def deadboltlaw10_few.f (k : Nat) (l0 : List (S33)) : Option ((List (S33))) := if 0 ≤ (mn (l0.length : Int) 70) then (if (mn (l0.length : Int) 70) ≤ (l0.length : Int) then ((some (l0.take ((mn (l0.length : Int) 70) : Int).toNat : List (S33))).bind fun y422 => (deadboltlaw10_few.l0 k ([] : List (S33)) y422 (y422.length : Int) 0)) else (none)) else (none)
set_option maxHeartbeats 8000000 in
set_option maxRecDepth 100000 in
theorem deadboltlaw10_few.calls (k : Nat) (P0_ : Nat → Prop) (A0 : Option Addr) (c0 : Nat) (l0 : List (S33)) (r : List (S33)) (w : World) (hs0 : Kd.V k33 33 w w.heap.size (fun k_ => P0_ k_) (.slice A0 l0.length c0) l0) (h : deadboltlaw10_few.f k l0 = some r) :
  Calls Try.prog 34 #[.slice A0 l0.length c0] w fun e w' => ∃ v0_ : Value, e = .returned (v0_) ∧ Kd.N k33 33 w' w.heap.size (fun k_ => (P0_ k_ ∨ w.heap.size ≤ k_)) v0_ r ∧ Below w.heap.size w w' := by
 have hu33 := Try.underlying33
 have HO0 := Aside0.mk (show Kd.V k33 33 w w.heap.size (fun k_ => (P0_ k_ ∨ w.heap.size ≤ k_)) (.slice A0 l0.length c0) l0 from Kd.V_mono hs0 (fun k_ hk => .inl hk))
 have HB := Aside0.mk (Below.refl w.heap.size w)
 have H : (if 0 ≤ (mn (l0.length : Int) 70) then (if (mn (l0.length : Int) 70) ≤ (l0.length : Int) then ((some (l0.take ((mn (l0.length : Int) 70) : Int).toNat : List (S33))).bind fun y422 => (deadboltlaw10_few.l0 k ([] : List (S33)) y422 (y422.length : Int) 0)) else (none)) else (none)) = some r := h
 clear h
 obtain ⟨ji2, hji2⟩ : ∃ j_ : Int, (mn (l0.length : Int) 70) = j_ := ⟨_, rfl⟩
 replace H : (if 0 ≤ (ji2) then (if (ji2) ≤ (l0.length : Int) then ((some (l0.take ((ji2) : Int).toNat : List (S33))).bind fun y422 => (deadboltlaw10_few.l0 k ([] : List (S33)) y422 (y422.length : Int) 0)) else (none)) else (none)) = some r := by first | (rw [hji2] at H; exact H) | (simp only [hji2] at H ⊢; exact H)
 (try (have hji2h : ji2 ≤ 70 := by (rw [← hji2]; unfold mn; (repeat' split) <;> omega)))
 (try (have hji2g : ji2 ≤ 64 := by omega))
 (try (have hji2l : 0 ≤ ji2 := by (rw [← hji2]; unfold mn; (repeat' split) <;> omega)))
 (try (have hji2m : 0 ≤ ji2 := by omega))
 have hji2_ : (if 70 < (l0.length : Int) then 70 else (l0.length : Int)) = ji2 := hji2
 by_cases c3 : 0 ≤ (ji2)
 ·rw [if_pos c3] at H
  have c3b0 := eq_true c3
  have c3b1 : decide (0 ≤ (ji2)) = true := decide_eq_true c3
  clear c3
  by_cases c4 : (ji2) ≤ (l0.length : Int)
  ·rw [if_pos c4] at H
   have c4b0 := eq_true c4
   have c4b1 : decide ((ji2) ≤ (l0.length : Int)) = true := decide_eq_true c4
   clear c4
   obtain ⟨y422, hy422⟩ : ∃ y_ : List (S33), y_ = (l0.take ((ji2) : Int).toNat) := ⟨_, rfl⟩
   replace H : (deadboltlaw10_few.l0 k ([] : List (S33)) y422 (y422.length : Int) 0) = some r := by first | (rw [hy422]; with_reducible exact H) | (have H2_ := (Option.bind_some _ _).symm.trans H; rw [hy422]; with_reducible exact H2_) | (have H2_ := (Option.bind_some _ _).symm.trans H; with_reducible exact H2_) | with_reducible exact H | (rw [hy422]; exact H) | exact H
   have Ny422 := Aside0.mk hy422
   clear hy422
   have H' := Aside0.mk H
   clear H
   have q5 : ((ji2) : Int) ≤ ((l0.length : Int) : Int) := of_decide_eq_true (by first | (with_reducible assumption) | assumption)
   obtain ⟨i05, hi05, _, hsz5, _⟩ := info_parts info33
   have hroom5 : l0.length ≤ c0 := (Kd.V_reads' HO0.out).2.1
   have hC5 : Kd.F k33 _ _ A0 l0.length l0 := (Kd.V_at (base := w.heap.size) HO0.out).2.2
   have hcut5 := cut_to (P := Try.prog) 22 33 .i64 Try.underlying22 hi05 A0 l0.length c0 (ji2) (of_decide_eq_true (by first | (with_reducible assumption) | assumption)) q5 hroom5
   have hr5 := Kd.F_take (m := ((ji2) : Int).toNat) hC5 (by omega)
   have hy5 : y422.length = ((ji2) : Int).toNat := (by rw [Ny422.out, List.length_take]; omega)
   rw [← Ny422.out] at hr5
   rw [← hy5] at hcut5
   have HO426 := Aside0.mk (show Kd.V k33 33 _ w.heap.size _ (.slice A0 y422.length c0) y422 from Kd.V_mk (by omega) hr5)
   have HC426 := Aside0.mk (show y422.length ≤ c0 from by omega)
   clear hr5 hC5 hroom5 hi05 hsz5
   have KY5 := Aside0.mk hy5
   clear hy5
   replace q5 := eq_true q5
   go_enter Try.func34, Try.ntmps34
   go_wp2
   go_loopg [3, 12] k (fun kq v3 v12 w' => ∃ (x3_1 : List (S33)) (x12_1 : Int), v12 = .int .i64 x12_1 ∧ Aside0 (deadboltlaw10_few.l0 kq x3_1 y422 (y422.length : Int) x12_1 = some r) ∧ Aside0 (kq ≤ k) ∧ Aside0 (Kd.N k33 33 w' w.heap.size (fun k_ => (P0_ k_ ∨ w.heap.size ≤ k_)) v3 x3_1) ∧ Aside0 (Kd.V k33 33 w' w.heap.size (fun k_ => (P0_ k_ ∨ w.heap.size ≤ k_) ∧ some k_ ≠ (v3 : Value).ownBlock) (.slice A0 y422.length c0) y422) ∧ Aside0 (Below w.heap.size w w'))
   case atStart => exact ⟨(([] : List (S33))), (0), (by first | rfl | (simp; done) | (simp [*]; done)), H', ⟨Nat.le_refl _⟩, ⟨by first | exact Kd.S_nil _ _ _ _ _ | exact Kd.N_nil _ _ _ _ _ | exact Kd.V_nil _ _ _ _ _ | exact Kd.Q_nil _ _ _ _ _ | exact Kd.R_nil _ _ _ _ _⟩, ⟨by (with_reducible repeat (first | apply Kd.V_alloc | apply Kd.V_drewN | apply Kd.V_drew)); exact Kd.V_mono HO426.out (fun _ hk => ⟨hk, (by simp [Value.ownBlock])⟩)⟩, ⟨zB HB⟩⟩
   case round =>
    clear H'
    try clear p2
    try clear c3
    try clear c3b0
    try clear c3b1
    try clear c4
    try clear c4b0
    try clear c4b1
    try clear q5
    try clear q5
    obtain ⟨x3_1, x12_1, rfl, HA, HK1, HO_3, HO_10, HB⟩ := hrel
    cases gk with
    | zero => exact absurd HA.out (by simp [deadboltlaw10_few.l0])
    | succ k1 =>
     have H := HA.out
     clear HA
     simp only [deadboltlaw10_few.l0] at H
     by_cases c6 : x12_1 < (y422.length : Int)
     ·rw [if_pos c6] at H
      have c6b0 : decide (x12_1 < (y422.length : Int)) = true := decide_eq_true c6
      clear c6
      by_cases c7 : 0 ≤ x12_1
      ·rw [if_pos c7] at H
       have c7b0 : decide (0 ≤ x12_1) = true := decide_eq_true c7
       clear c7
       by_cases c8 : x12_1 < (y422.length : Int)
       ·rw [if_pos c8] at H
        have c8b0 : decide (x12_1 < (y422.length : Int)) = true := decide_eq_true c8
        clear c8
        obtain ⟨ji9, hji9⟩ : ∃ j_ : Int, (mn (((rd_T33 y422 x12_1).f2).length : Int) 70) = j_ := ⟨_, rfl⟩
        replace H : (if 0 ≤ (ji9) then (if (ji9) ≤ (((rd_T33 y422 x12_1).f2).length : Int) then (if x3_1.length < 3518437208883 then (deadboltlaw10_few.l0 k1 (x3_1 ++ [(⟨(rd_T33 y422 x12_1).f0, (rd_T33 y422 x12_1).f1, (((rd_T33 y422 x12_1).f2).take ((ji9) : Int).toNat)⟩ : S33)]) y422 (y422.length : Int) (wrap64 (x12_1 + 1))) else (none)) else (none)) else (none)) = some r := by first | (rw [hji9] at H; exact H) | (simp only [hji9] at H ⊢; exact H)
        have hji9_ : (if 70 < (((rd_T33 y422 x12_1).f2).length : Int) then 70 else (((rd_T33 y422 x12_1).f2).length : Int)) = ji9 := hji9
        by_cases c10 : 0 ≤ (ji9)
        ·rw [if_pos c10] at H
         have c10b0 := eq_true c10
         have c10b1 : decide (0 ≤ (ji9)) = true := decide_eq_true c10
         clear c10
         by_cases c11 : (ji9) ≤ (((rd_T33 y422 x12_1).f2).length : Int)
         ·rw [if_pos c11] at H
          have c11b0 := eq_true c11
          have c11b1 : decide ((ji9) ≤ (((rd_T33 y422 x12_1).f2).length : Int)) = true := decide_eq_true c11
          clear c11
          obtain ⟨y429, hy429⟩ : ∃ y_ : List Int, y_ = (((rd_T33 y422 x12_1).f2).take ((ji9) : Int).toNat) := ⟨_, rfl⟩
          replace H : (if x3_1.length < 3518437208883 then (deadboltlaw10_few.l0 k1 (x3_1 ++ [(⟨(rd_T33 y422 x12_1).f0, (rd_T33 y422 x12_1).f1, y429⟩ : S33)]) y422 (y422.length : Int) (wrap64 (x12_1 + 1))) else (none)) = some r := by first | (rw [hy429]; with_reducible exact H) | (have H2_ := (Option.bind_some _ _).symm.trans H; rw [hy429]; with_reducible exact H2_) | (have H2_ := (Option.bind_some _ _).symm.trans H; with_reducible exact H2_) | with_reducible exact H | (rw [hy429]; exact H) | exact H
          have Ny429 := Aside0.mk hy429
          clear hy429
          by_cases c12 : x3_1.length < 3518437208883
          ·rw [if_pos c12] at H
           have LMc12 := Aside0.mk c12
           clear c12
           obtain ⟨y434, hy434⟩ : ∃ y_ : List (S33), y_ = (x3_1 ++ [(⟨(rd_T33 y422 x12_1).f0, (rd_T33 y422 x12_1).f1, y429⟩ : S33)]) := ⟨_, rfl⟩
           replace H : (deadboltlaw10_few.l0 k1 y434 y422 (y422.length : Int) (wrap64 (x12_1 + 1))) = some r := by first | (rw [hy434]; with_reducible exact H) | (have H2_ := (Option.bind_some _ _).symm.trans H; rw [hy434]; with_reducible exact H2_) | (have H2_ := (Option.bind_some _ _).symm.trans H; with_reducible exact H2_) | with_reducible exact H | (rw [hy434]; exact H) | exact H
           have Ny434 := Aside0.mk hy434
           clear hy434
           have H' := Aside0.mk H
           clear H
           have p427 : 0 ≤ (x12_1 : Int) := of_decide_eq_true (by first | (with_reducible assumption) | assumption)
           have q427 : x12_1 < (y422.length : Int) := of_decide_eq_true (by first | (with_reducible assumption) | assumption)
           obtain ⟨ad427, A427_2, c427_2, e427, hx427_0, hx427_1, hx427_2, hl427_2, hi427_2⟩ := at_T33 (Kd.V_reads' HO_10.out).2.2 x12_1 p427 q427
           cases e427
           obtain ⟨ce427, hce427, hMe427, hcc427⟩ := Kd.V_get HO_10.out z33 x12_1 p427 (by first | exact q427 | exact of_decide_eq_true (by first | (with_reducible assumption) | assumption) | (have e_ := (Kd.V_reads' HO_10.out).1; omega))
           obtain ⟨ua427_2, uc427_2, rfl, ul427_2, ge427_2⟩ := k33_openF hMe427
           have hv427_2 := hcc427 2 _ rfl
           rw [add_field _ _ 2 (by omega)] at hv427_2
           replace hv427_2 := Option.some.inj (hv427_2.symm.trans hx427_2)
           injection hv427_2 with hva_ hvn_ hvc_
           rw [hva_] at ge427_2
           rw [hvc_] at ul427_2
           have HL427_2 := Aside0.mk (show Kd.V (Kd.int .i64) 3 _ w.heap.size _ _ ((rd_T33 y422 x12_1).f2) from Kd.V_mk ul427_2 ge427_2)
           clear hva_ hvn_ hvc_ ge427_2 ul427_2
           clear hcc427 hce427
           have HR427_2 := Aside0.mk hi427_2
           have HC427_2 := Aside0.mk hl427_2
           clear hi427_2 hl427_2
           replace p427 := eq_true p427
           replace q427 := eq_true q427
           go_wp2_with (first | ((with_reducible refine gate_dst (N := 5) rfl ?_); refine box_event ?hg (N := 5) ?hd (cs := #[.int .i64 0, .int .i64 0, .slice none 0 0]) (t := 33) ?hr ?_; (case hd => rfl); (case hg => rfl); (case hr => first | (go_simp; done) | (go_simp; rfl)); intro gb428 hg w13 hbox hb; have n0_ := Aside0.mk (Kd.N_below (Kd.N_elderB (zN HO_3) gb428 (Nat.le_of_eq hg.symm)) hb); have n1_ := Aside0.mk (Kd.V_below (Kd.V_elderB (zV HO_10) gb428 (Nat.le_of_eq hg.symm)) hb); have n2_ := Aside0.mk (Kd.V_below (Kd.V_elderB (zV HL427_2) gb428 (Nat.le_of_eq hg.symm)) hb); (first | have n3_ := Aside0.mk (Kd.C_below (by repeat (first | (with_reducible exact HR427_2.out) | (with_reducible refine Kd.C_alloc ?_ _) | (with_reducible refine Kd.C_drewN ?_ _) | (with_reducible refine Kd.C_drew ?_) | exact HR427_2.out)) hb) | have n3_ := Aside0.mk True.intro); have n4_ := Aside0.mk (below_step (zB HB) hb); have n5_ := Aside0.mk (hbox); have n6_ := Aside0.mk ((by rw [hg]; exact (below_size (zB HB)) : w.heap.size ≤ gb428)); have n7_ := Aside0.mk ((by rw [hg]; exact (below_size (zB HB)) : w.heap.size ≤ gb428)); clear HO_3; clear HO_10; clear HL427_2; clear HR427_2; clear HB; have HO_3 := n0_; have HO_10 := n1_; have HL427_2 := n2_; have HR427_2 := n3_; have HB := n4_; have BK428 := n5_; have GW428 := n6_; have GE428 := n7_; clear n0_ n1_ n2_ n3_ n4_ n5_ n6_ n7_; clear hb hbox hg; have hcz14_0 : w13.cell? ⟨gb428, 0, none⟩ = some (.int .i64 0) := (blk_cell BK428.out 0).trans rfl; have hcz14_1 : w13.cell? ⟨gb428, 1, none⟩ = some (.int .i64 0) := (blk_cell BK428.out 1).trans rfl; have hcz14_2 : w13.cell? ⟨gb428, 2, none⟩ = some (.slice none 0 0) := (blk_cell BK428.out 2).trans rfl; have hfz14_0 := blk_frozen BK428.out 0; have hfz14_1 := blk_frozen BK428.out 1; have hfz14_2 := blk_frozen BK428.out 2) | ((with_reducible refine gate_store (t := 33) (p := 5) rfl ?_); refine store_event (t := 33) (p := 5) (v := ?vo_w15) (w1 := (((w13.setCell ⟨gb428, 0, none⟩ (.int .i64 ((rd_T33 y422 x12_1).f0))).setCell ⟨gb428, 1, none⟩ (.int .i64 ((rd_T33 y422 x12_1).f1))).setCell ⟨gb428, 2, none⟩ (.slice A427_2 ((rd_T33 y422 x12_1).f2).length c427_2))) ?hg ?ho ?hn ?hr ?_; (case ho => rfl); (case hg => rfl); (case hn => rfl); (case hr => first | (go_simp; done) | (go_simp; rfl)); intro w15 hw; have n0_ : Aside0 (Kd.N k33 33 w15 w.heap.size (fun k_ => (P0_ k_ ∨ w.heap.size ≤ k_) ∧ k_ ≠ gb428) u3 x3_1) := ⟨(by rw [hw]; exact (by (with_reducible repeat (first | apply Kd.N_alloc | apply Kd.N_drewN | apply Kd.N_drew)); exact Kd.N_mono (Kd.N_far (p := ⟨gb428, 2, none⟩) (Kd.N_far (p := ⟨gb428, 1, none⟩) (Kd.N_far (p := ⟨gb428, 0, none⟩) (Kd.N_mono HO_3.out (fun k_ hk => (⟨hk, hk.2⟩ : _ ∧ k_ ≠ gb428))) (fun _ hk => hk.2) (.int .i64 ((rd_T33 y422 x12_1).f0))) (fun _ hk => hk.2) (.int .i64 ((rd_T33 y422 x12_1).f1))) (fun _ hk => hk.2) (.slice A427_2 ((rd_T33 y422 x12_1).f2).length c427_2)) (fun _ hk => ⟨hk.1.1, hk.1.2⟩)))⟩; have n1_ : Aside0 (Kd.V k33 33 w15 w.heap.size (fun k_ => (P0_ k_ ∨ w.heap.size ≤ k_) ∧ some k_ ≠ (u3 : Value).ownBlock ∧ k_ ≠ gb428) (.slice (some ad427) y422.length c0) y422) := ⟨(by rw [hw]; exact (by (with_reducible repeat (first | apply Kd.V_alloc | apply Kd.V_drewN | apply Kd.V_drew)); exact Kd.V_mono (Kd.V_far (p := ⟨gb428, 2, none⟩) (Kd.V_far (p := ⟨gb428, 1, none⟩) (Kd.V_far (p := ⟨gb428, 0, none⟩) (Kd.V_mono HO_10.out (fun k_ hk => (⟨hk, hk.2⟩ : _ ∧ k_ ≠ gb428))) (fun _ hk => hk.2) (.int .i64 ((rd_T33 y422 x12_1).f0))) (fun _ hk => hk.2) (.int .i64 ((rd_T33 y422 x12_1).f1))) (fun _ hk => hk.2) (.slice A427_2 ((rd_T33 y422 x12_1).f2).length c427_2)) (fun _ hk => ⟨hk.1.1.1, ⟨hk.1.1.2, hk.1.2⟩⟩)))⟩; have n2_ : Aside0 (Kd.V (Kd.int .i64) 3 w15 w.heap.size (fun k_ => (P0_ k_ ∨ w.heap.size ≤ k_) ∧ some k_ ≠ (u3 : Value).ownBlock ∧ k_ ≠ gb428) (.slice A427_2 ((rd_T33 y422 x12_1).f2).length c427_2) ((rd_T33 y422 x12_1).f2)) := ⟨(by rw [hw]; exact (by (with_reducible repeat (first | apply Kd.V_alloc | apply Kd.V_drewN | apply Kd.V_drew)); exact Kd.V_mono (Kd.V_far (p := ⟨gb428, 2, none⟩) (Kd.V_far (p := ⟨gb428, 1, none⟩) (Kd.V_far (p := ⟨gb428, 0, none⟩) (Kd.V_mono HL427_2.out (fun k_ hk => (⟨hk, hk.2⟩ : _ ∧ k_ ≠ gb428))) (fun _ hk => hk.2) (.int .i64 ((rd_T33 y422 x12_1).f0))) (fun _ hk => hk.2) (.int .i64 ((rd_T33 y422 x12_1).f1))) (fun _ hk => hk.2) (.slice A427_2 ((rd_T33 y422 x12_1).f2).length c427_2)) (fun _ hk => ⟨hk.1.1.1, ⟨hk.1.1.2, hk.1.2⟩⟩)))⟩; have n3_ : Aside0 (w15.heap[gb428]? = some (.cells #[.int .i64 ((rd_T33 y422 x12_1).f0), .int .i64 ((rd_T33 y422 x12_1).f1), .slice A427_2 ((rd_T33 y422 x12_1).f2).length c427_2] 33 (0, 0))) := ⟨(by rw [hw]; exact (by (with_reducible repeat (first | refine blk_drewN ?_ _ | refine blk_drew ?_ | refine blk_alloc ?_ _)); refine blk_put (cs := #[.int .i64 ((rd_T33 y422 x12_1).f0), .int .i64 ((rd_T33 y422 x12_1).f1), .slice none 0 0]) ?_ 2 _ rfl; (with_reducible repeat (first | refine blk_drewN ?_ _ | refine blk_drew ?_ | refine blk_alloc ?_ _)); refine blk_put (cs := #[.int .i64 ((rd_T33 y422 x12_1).f0), .int .i64 0, .slice none 0 0]) ?_ 1 _ rfl; (with_reducible repeat (first | refine blk_drewN ?_ _ | refine blk_drew ?_ | refine blk_alloc ?_ _)); refine blk_put (cs := #[.int .i64 0, .int .i64 0, .slice none 0 0]) ?_ 0 _ rfl; (with_reducible repeat (first | refine blk_drewN ?_ _ | refine blk_drew ?_ | refine blk_alloc ?_ _)); exact BK428.out))⟩; have n4_ : Aside0 (Below w.heap.size w w15) := ⟨(by rw [hw]; exact (zB1 HB GE428))⟩; clear hw; clear HO_3; clear HO_10; clear HL427_2; clear BK428; clear HB; have HO_3 := n0_; have HO_10 := n1_; have HL427_2 := n2_; have BK428 := n3_; have HB := n4_; clear n0_ n1_ n2_ n3_ n4_; have hcz16_0 : w15.cell? ⟨gb428, 0, none⟩ = some (.int .i64 ((rd_T33 y422 x12_1).f0)) := (blk_cell BK428.out 0).trans rfl; have hcz16_1 : w15.cell? ⟨gb428, 1, none⟩ = some (.int .i64 ((rd_T33 y422 x12_1).f1)) := (blk_cell BK428.out 1).trans rfl; have hcz16_2 : w15.cell? ⟨gb428, 2, none⟩ = some (.slice A427_2 ((rd_T33 y422 x12_1).f2).length c427_2) := (blk_cell BK428.out 2).trans rfl; have hfz16_0 := blk_frozen BK428.out 0; have hfz16_1 := blk_frozen BK428.out 1; have hfz16_2 := blk_frozen BK428.out 2; have q17 : ((ji9) : Int) ≤ ((((rd_T33 y422 x12_1).f2).length : Int) : Int) := of_decide_eq_true (by first | (with_reducible assumption) | assumption); obtain ⟨i017, hi017, _, hsz17, _⟩ := info_parts info3; have hroom17 : ((rd_T33 y422 x12_1).f2).length ≤ c427_2 := HC427_2.out; have hC17 : Kd.F (Kd.int .i64) _ _ A427_2 ((rd_T33 y422 x12_1).f2).length ((rd_T33 y422 x12_1).f2) := (Kd.V_at (base := w.heap.size) HL427_2.out).2.2; have hcut17 := cut_to (P := Try.prog) 25 3 .i64 Try.underlying25 hi017 A427_2 ((rd_T33 y422 x12_1).f2).length c427_2 (ji9) (of_decide_eq_true (by first | (with_reducible assumption) | assumption)) q17 hroom17; have hr17 := Kd.F_take (m := ((ji9) : Int).toNat) hC17 (by omega); have hy17 : y429.length = ((ji9) : Int).toNat := (by rw [Ny429.out, List.length_take]; omega); rw [← Ny429.out] at hr17; rw [← hy17] at hcut17; have HO433 := Aside0.mk (show Kd.V (Kd.int .i64) 3 _ w.heap.size _ (.slice A427_2 y429.length c427_2) y429 from Kd.V_mk (by omega) hr17); have HC433 := Aside0.mk (show y429.length ≤ c427_2 from by omega); clear hr17 hC17 hroom17 hi017 hsz17; have KY17 := Aside0.mk hy17; clear hy17; replace q17 := eq_true q17) | ((with_reducible refine gate_store (t := 25) (p := 23) rfl ?_); refine store_event (t := 25) (p := 23) (v := ?vo_w18) (w1 := (w15.setCell ⟨gb428, 2, none⟩ (.slice A427_2 y429.length c427_2))) ?hg ?ho ?hn ?hr ?_; (case ho => rfl); (case hg => rfl); (case hn => rfl); (case hr => first | (go_simp; done) | (go_simp; rfl)); intro w18 hw; have n0_ : Aside0 (Kd.N k33 33 w18 w.heap.size (fun k_ => (P0_ k_ ∨ w.heap.size ≤ k_) ∧ k_ ≠ gb428) u3 x3_1) := ⟨(by rw [hw]; exact (by (with_reducible repeat (first | apply Kd.N_alloc | apply Kd.N_drewN | apply Kd.N_drew)); exact Kd.N_mono (Kd.N_far (p := ⟨gb428, 2, none⟩) (Kd.N_mono HO_3.out (fun k_ hk => (⟨hk, hk.2⟩ : _ ∧ k_ ≠ gb428))) (fun _ hk => hk.2) (.slice A427_2 y429.length c427_2)) (fun _ hk => ⟨hk.1.1, hk.1.2⟩)))⟩; have n1_ : Aside0 (Kd.V k33 33 w18 w.heap.size (fun k_ => (P0_ k_ ∨ w.heap.size ≤ k_) ∧ some k_ ≠ (u3 : Value).ownBlock ∧ k_ ≠ gb428) (.slice (some ad427) y422.length c0) y422) := ⟨(by rw [hw]; exact (by (with_reducible repeat (first | apply Kd.V_alloc | apply Kd.V_drewN | apply Kd.V_drew)); exact Kd.V_mono (Kd.V_far (p := ⟨gb428, 2, none⟩) (Kd.V_mono HO_10.out (fun k_ hk => (⟨hk, hk.2.2⟩ : _ ∧ k_ ≠ gb428))) (fun _ hk => hk.2) (.slice A427_2 y429.length c427_2)) (fun _ hk => ⟨hk.1.1, ⟨hk.1.2.1, hk.1.2.2⟩⟩)))⟩; have n2_ : Aside0 (Kd.V (Kd.int .i64) 3 w18 w.heap.size (fun k_ => (P0_ k_ ∨ w.heap.size ≤ k_) ∧ some k_ ≠ (u3 : Value).ownBlock ∧ k_ ≠ gb428) (.slice A427_2 ((rd_T33 y422 x12_1).f2).length c427_2) ((rd_T33 y422 x12_1).f2)) := ⟨(by rw [hw]; exact (by (with_reducible repeat (first | apply Kd.V_alloc | apply Kd.V_drewN | apply Kd.V_drew)); exact Kd.V_mono (Kd.V_far (p := ⟨gb428, 2, none⟩) (Kd.V_mono HL427_2.out (fun k_ hk => (⟨hk, hk.2.2⟩ : _ ∧ k_ ≠ gb428))) (fun _ hk => hk.2) (.slice A427_2 y429.length c427_2)) (fun _ hk => ⟨hk.1.1, ⟨hk.1.2.1, hk.1.2.2⟩⟩)))⟩; have n3_ : Aside0 (Kd.V (Kd.int .i64) 3 w18 w.heap.size (fun k_ => (P0_ k_ ∨ w.heap.size ≤ k_) ∧ some k_ ≠ (u3 : Value).ownBlock ∧ k_ ≠ gb428) (.slice A427_2 y429.length c427_2) y429) := ⟨(by rw [hw]; exact (by (with_reducible repeat (first | apply Kd.V_alloc | apply Kd.V_drewN | apply Kd.V_drew)); exact Kd.V_mono (Kd.V_far (p := ⟨gb428, 2, none⟩) (Kd.V_mono HO433.out (fun k_ hk => (⟨hk, hk.2.2⟩ : _ ∧ k_ ≠ gb428))) (fun _ hk => hk.2) (.slice A427_2 y429.length c427_2)) (fun _ hk => ⟨hk.1.1, ⟨hk.1.2.1, hk.1.2.2⟩⟩)))⟩; have n4_ : Aside0 (w18.heap[gb428]? = some (.cells #[.int .i64 ((rd_T33 y422 x12_1).f0), .int .i64 ((rd_T33 y422 x12_1).f1), .slice A427_2 y429.length c427_2] 33 (0, 0))) := ⟨(by rw [hw]; exact (by (with_reducible repeat (first | refine blk_drewN ?_ _ | refine blk_drew ?_ | refine blk_alloc ?_ _)); refine blk_put (cs := #[.int .i64 ((rd_T33 y422 x12_1).f0), .int .i64 ((rd_T33 y422 x12_1).f1), .slice A427_2 ((rd_T33 y422 x12_1).f2).length c427_2]) ?_ 2 _ rfl; (with_reducible repeat (first | refine blk_drewN ?_ _ | refine blk_drew ?_ | refine blk_alloc ?_ _)); exact BK428.out))⟩; have n5_ : Aside0 (Below w.heap.size w w18) := ⟨(by rw [hw]; exact (zB1 HB GE428))⟩; clear hw; clear HO_3; clear HO_10; clear HL427_2; clear HO433; clear BK428; clear HB; have HO_3 := n0_; have HO_10 := n1_; have HL427_2 := n2_; have HO433 := n3_; have BK428 := n4_; have HB := n5_; clear n0_ n1_ n2_ n3_ n4_ n5_; have hcz19_0 : w18.cell? ⟨gb428, 0, none⟩ = some (.int .i64 ((rd_T33 y422 x12_1).f0)) := (blk_cell BK428.out 0).trans rfl; have hcz19_1 : w18.cell? ⟨gb428, 1, none⟩ = some (.int .i64 ((rd_T33 y422 x12_1).f1)) := (blk_cell BK428.out 1).trans rfl; have hcz19_2 : w18.cell? ⟨gb428, 2, none⟩ = some (.slice A427_2 y429.length c427_2) := (blk_cell BK428.out 2).trans rfl; have hfz19_0 := blk_frozen BK428.out 0; have hfz19_1 := blk_frozen BK428.out 1; have hfz19_2 := blk_frozen BK428.out 2) | ((with_reducible refine gate_builtin (b := .append) (xs := #[.tmp 24, .tmp 26]) rfl ?_); at_builtin; refine Kd.N_append k33 (w0 := w) w.heap.size rfl (.tmp 24) (.tmp 26) 22 33 (.agg #[(.int .i64 0), (.int .i64 0), (.slice none 0 0)]) 40 rfl Try.underlying22 info33 rfl (by decide) (by omega) u3 x3_1 (⟨(rd_T33 y422 x12_1).f0, (rd_T33 y422 x12_1).f1, y429⟩ : S33) [.int .i64 ((rd_T33 y422 x12_1).f0), .int .i64 ((rd_T33 y422 x12_1).f1), .slice A427_2 y429.length c427_2] (fun k_ => (P0_ k_ ∨ w.heap.size ≤ k_) ∧ k_ ≠ gb428) (fun k_ => ((fun k_ => (P0_ k_ ∨ w.heap.size ≤ k_) ∧ k_ ≠ gb428)) k_ ∧ some k_ ≠ (u3 : Value).ownBlock) rfl rfl ?aP (fun _ hk => hk) ?aF ?aO ?aB ?aS ?aL ?_; (case aP => first | exact (k33_mkF _ _ (⟨(rd_T33 y422 x12_1).f0, (rd_T33 y422 x12_1).f1, y429⟩ : S33) (Kd.V_reads' (Kd.V_mono (ok' := (fun k_ => ((fun k_ => (P0_ k_ ∨ w.heap.size ≤ k_) ∧ k_ ≠ gb428)) k_ ∧ some k_ ≠ (u3 : Value).ownBlock)) (HO433.out) (fun k_ hk => ⟨⟨hk.1, hk.2.2⟩, hk.2.1⟩))).2.1 (Kd.V_F (Kd.V_mono (ok' := (fun k_ => ((fun k_ => (P0_ k_ ∨ w.heap.size ≤ k_) ∧ k_ ≠ gb428)) k_ ∧ some k_ ≠ (u3 : Value).ownBlock)) (HO433.out) (fun k_ hk => ⟨⟨hk.1, hk.2.2⟩, hk.2.1⟩)))) | exact (k33_mkF _ _ (⟨(rd_T33 y422 x12_1).f0, (rd_T33 y422 x12_1).f1, y429⟩ : S33) (Kd.V_reads' (Kd.V_mono (ok' := (fun k_ => ((fun k_ => (P0_ k_ ∨ w.heap.size ≤ k_) ∧ k_ ≠ gb428)) k_ ∧ some k_ ≠ (u3 : Value).ownBlock)) (HO433.out) (fun k_ hk => ⟨⟨hk.1, hk.2.2⟩, hk.2.1⟩))).2.1 (Kd.V_F (Kd.V_mono (ok' := (fun k_ => ((fun k_ => (P0_ k_ ∨ w.heap.size ≤ k_) ∧ k_ ≠ gb428)) k_ ∧ some k_ ≠ (u3 : Value).ownBlock)) (Kd.V_drewN HO433.out _) (fun k_ hk => ⟨⟨hk.1, hk.2.2⟩, hk.2.1⟩))))); (case aB => exact (zB1 HB GE428)); (case aF => exact (fun k_ hk => ⟨(.inr (Nat.le_trans (below_size (zB1 HB GE428)) hk)), Kd.freshB (g := gb428) (o := .cells #[.int .i64 ((rd_T33 y422 x12_1).f0), .int .i64 ((rd_T33 y422 x12_1).f1), .slice A427_2 y429.length c427_2] 33 (0, 0)) (zK BK428) k_ hk⟩)); (case aO => exact (zN HO_3)); (case aS => exact (below_size (zB1 HB GE428))); (case aL => have := LMc12.out; omega); intro v435 w20 ho hb hg hat; rw [← Ny434.out] at ho; have n0_ := Aside0.mk (Kd.V_afterv (ok := (fun k_ => (P0_ k_ ∨ w.heap.size ≤ k_) ∧ k_ ≠ gb428)) (by (with_reducible repeat (first | apply Kd.V_alloc | apply Kd.V_drewN | apply Kd.V_drew)); exact Kd.V_mono HO_10.out (fun _ hk => ⟨⟨hk.1, hk.2.2⟩, hk.2.1⟩)) hg hat); have n1_ := Aside0.mk (Kd.V_afterv (ok := (fun k_ => (P0_ k_ ∨ w.heap.size ≤ k_) ∧ k_ ≠ gb428)) (by (with_reducible repeat (first | apply Kd.V_alloc | apply Kd.V_drewN | apply Kd.V_drew)); exact Kd.V_mono HL427_2.out (fun _ hk => ⟨⟨hk.1, hk.2.2⟩, hk.2.1⟩)) hg hat); have n2_ := Aside0.mk (blk_grown (g := gb428) (o := .cells #[.int .i64 ((rd_T33 y422 x12_1).f0), .int .i64 ((rd_T33 y422 x12_1).f1), .slice A427_2 y429.length c427_2] 33 (0, 0)) (zK BK428) hg (Kd.N_away HO_3.out (fun _ hk => hk.2))); have n3_ := Aside0.mk (Kd.V_afterv (ok := (fun k_ => (P0_ k_ ∨ w.heap.size ≤ k_) ∧ k_ ≠ gb428)) (by (with_reducible repeat (first | apply Kd.V_alloc | apply Kd.V_drewN | apply Kd.V_drew)); exact Kd.V_mono HO433.out (fun _ hk => ⟨⟨hk.1, hk.2.2⟩, hk.2.1⟩)) hg hat); have n4_ := Aside0.mk (hb); have n5_ := Aside0.mk (ho); clear HO_10; clear HL427_2; clear BK428; clear HO433; clear HB; clear HO_3; have HO_10 := n0_; have HL427_2 := n1_; have BK428 := n2_; have HO433 := n3_; have HB := n4_; have HO436 := n5_; clear n0_ n1_ n2_ n3_ n4_ n5_; clear ho hb hg hat))
           go_roundg k1
           case measure => have := HK1.out; omega
           case rel => exact ⟨(y434), (wrap64 (x12_1 + 1)), (by first | rfl | (simp; done) | (simp [*]; done)), H', ⟨by have := HK1.out; omega⟩, ⟨by (with_reducible repeat (first | apply Kd.N_alloc | apply Kd.N_drewN | apply Kd.N_drew)); exact Kd.N_mono HO436.out (fun _ hk => hk.1)⟩, ⟨by (with_reducible repeat (first | apply Kd.V_alloc | apply Kd.V_drewN | apply Kd.V_drew)); exact Kd.V_mono HO_10.out (fun _ hk => ⟨hk.1.1, hk.2⟩)⟩, ⟨zB1 HB GE428⟩⟩
          ·rw [if_neg c12] at H
           exact absurd H (by simp)
         ·rw [if_neg c11] at H
          exact absurd H (by simp)
        ·rw [if_neg c10] at H
         exact absurd H (by simp)
       ·rw [if_neg c8] at H
        exact absurd H (by simp)
      ·rw [if_neg c7] at H
       exact absurd H (by simp)
     ·rw [if_neg c6] at H
      have c6b0 : decide (x12_1 < (y422.length : Int)) = false := decide_eq_false c6
      clear c6
      obtain rfl := Option.some.inj H
      go_wp2
      go_ret
      exact ⟨_, by first | rfl | (simp [errW_none, errW_some] <;> rfl) | (simp only [← hji2]; first | rfl | (simp [errW_none, errW_some] <;> rfl)) | (simp [*, errW_none, errW_some] <;> rfl), by (with_reducible repeat (first | apply Kd.N_alloc | apply Kd.N_drewN | apply Kd.N_drew)); exact HO_3.out, zB HB⟩
  ·rw [if_neg c4] at H
   exact absurd H (by simp)
 ·rw [if_neg c3] at H
  exact absurd H (by simp)

end Go.Proofs.Ytnjnjajgpkmfhaa.PX

/-
 Grants and who waits for them, told as plain functions of tables.
-/
namespace Go.Proofs.Ytnjnjajgpkmfhaa.PX
open Go.RowKit Go.Proofs.YtnjnjajgpkmfhaaW.PrintWords Go.Proofs.YtnjnjajgpkmfhaaW.PrintLast Go.Proofs.YtnjnjajgpkmfhaaW.PrintMore
theorem index_l0 (l : List Int) (a : Int) (hl : l.length ≤ 1000) : ∀ (d i k : Nat), i + d = l.length → d < k → (∀ j, j < i → l[j]? ≠ some a) → slices_Index_int_int.l0 k l a (l.length : Int) (i : Int) = some (placeI l a) := by
 intro d
 induction d with
 | zero =>
  intro i k h1 hk h
  obtain ⟨k, rfl⟩ : ∃ q, k = q + 1 := ⟨k - 1, by omega⟩
  rw [slices_Index_int_int.l0, if_neg (by omega), placeI, if_neg]
  intro hm
  obtain ⟨j, hj, rfl⟩ := List.mem_iff_getElem.1 hm
  exact h j (by omega) (List.getElem?_eq_getElem hj)
 | succ d ih =>
  intro i k h1 hk h
  obtain ⟨k, rfl⟩ : ∃ q, k = q + 1 := ⟨k - 1, by omega⟩
  have hx : l[i]? = some l[i] := List.getElem?_eq_getElem (by omega)
  rw [slices_Index_int_int.l0, if_pos (by omega), if_pos (by omega), if_pos (by omega), rd_at hx]
  by_cases he : a = l[i]
  ·have hmem : a ∈ l := by rw [he]; exact List.getElem_mem _
   have hp := place_l0 l a hl (l.length - i) i (l.length + 1) (by omega) (by omega) h
   rw [deadboltref07_Place.l0, if_pos (by omega), if_pos (by omega), if_pos (by omega), rd_at hx, if_pos he.symm] at hp
   rw [if_pos he]
   exact hp
  ·rw [if_neg he, next_i (by omega)]
   refine ih (i + 1) k (by omega) (by omega) fun j hj => ?_
   rcases Nat.lt_or_eq_of_le (Nat.le_of_lt_succ hj) with h' | h'
   ·exact h j h'
   ·rw [h', hx]
    exact fun e => he (Option.some.inj e).symm
theorem contains_f {l : List Int} (a : Int) (hl : l.length ≤ 1000) {k : Nat} (hk : l.length < k) : slices_Contains_int_int.f k l a = some (decide (a ∈ l)) := by
 unfold slices_Contains_int_int.f slices_Index_int_int.f
 rw [show (0 : Int) = ((0 : Nat) : Int) from rfl, index_l0 l a hl l.length 0 k (by omega) hk (fun j hj => absurd hj (by omega))]
 simp only [Option.bind_some]
 refine congrArg some (Bool.eq_iff_iff.2 ?_)
 rw [decide_eq_true_eq, decide_eq_true_eq]
 exact placeI_mem l a
theorem joined_f (p q : List Int) (h : p.length + q.length ≤ 1000) {k : Nat} (hk : 5 ≤ k) : line_joined.f k [p, q] = some (p ++ q) := by
 obtain ⟨k, rfl⟩ : ∃ q, k = q + 1 + 1 + 1 := ⟨k - 3, by omega⟩
 unfold line_joined.f
 rw [line_joined.l0, if_pos (by simp), if_pos (by omega), if_pos (by simp), show rd_L1 [p, q] 0 = p from rfl, if_pos (by simp; omega), show wrap64 ((0 : Int) + 1) = 1 from by unfold wrap64; omega,
  line_joined.l0, if_pos (by simp), if_pos (by omega), if_pos (by simp), show rd_L1 [p, q] 1 = q from rfl, if_pos (by simp; omega), show wrap64 ((1 : Int) + 1) = 2 from by unfold wrap64; omega,
  line_joined.l0, if_neg (by simp)]
 rfl
/-- One more in a line. -/
def pushL (l : List Int) (x : Int) (first : Bool) : List Int := if first = true then x :: l else l ++ [x]
theorem pushL_len (l : List Int) (x : Int) (b : Bool) : (pushL l x b).length = l.length + 1 := by
 unfold pushL; split <;> simp
theorem pushL_line {l : List Int} {x : Int} {b : Bool} (h : lineB l = true) (hx : 0 ≤ x) (hm : x ∉ l) (hn : l.length ≠ 64) : lineB (pushL l x b) = true := by
 obtain ⟨h1, h2, h3⟩ := (lineB_iff l).1 h
 refine (lineB_iff _).2 ⟨?_, fun y hy => ?_, by rw [pushL_len]; omega⟩
 ·unfold pushL
  split
  ·exact List.nodup_cons.2 ⟨hm, h1⟩
  ·refine List.nodup_append.2 ⟨h1, by simp, fun a ha c hc => ?_⟩
   simp at hc
   subst hc
   exact fun e => hm (e ▸ ha)
 ·unfold pushL at hy
  split at hy
  ·rcases List.mem_cons.1 hy with rfl | h
   ·exact hx
   ·exact h2 y h
  ·rcases List.mem_append.1 hy with h | h
   ·exact h2 y h
   ·simp at h; omega
theorem push_f {l : List Int} {x : Int} (b : Bool) (h : lineB l = true) (hx : 0 ≤ x) (hm : x ∉ l) {k : Nat} (hk : 200 ≤ k) : line_Push.f k l x b = some (if l.length = 64 then ([], 5) else (pushL l x b, 0)) := by
 have h3 := ((lineB_iff l).1 h).2.2
 obtain ⟨k, rfl⟩ : ∃ q, k = q + 1 := ⟨k - 1, by omega⟩
 unfold line_Push.f line_Right.f
 rw [if_pos (by omega)]
 simp only [Option.bind_some]
 rw [if_pos h, line_Push.j0, if_neg (by simp; omega), contains_f x (by omega) (by omega), decide_eq_false hm]
 simp only [Option.bind_some]
 rw [if_neg Bool.false_ne_true]
 by_cases hn : l.length = 64
 ·rw [if_pos (by omega), if_pos hn]
 ·rw [if_neg (by omega), if_neg hn]
  unfold pushL
  cases b with
  | true =>
   rw [if_pos rfl, joined_f [x] l (by simp; omega) (by omega), if_pos rfl]
   rfl
  | false =>
   rw [if_neg Bool.false_ne_true, joined_f l [x] (by simp; omega) (by omega), if_neg Bool.false_ne_true]
   rfl
/-- What setting a spot tells, with a word beside it. -/
noncomputable def setR (L : List Sp) (s : Sp) (b : Bool) : List Sp × Bool × Int := if (setT L s).length > 64 then ([], false, 5) else (setT L s, b, 0)
noncomputable def acqT (L : List Sp) (a who : Int) (first : Bool) : List Sp × Bool × Int :=
 if who ∈ (getT L a).f2 then ([], false, 7) else if (getT L a).f1 > 0 then setR L ⟨a, (getT L a).f1 - 1, (getT L a).f2⟩ true
  else if (getT L a).f2.length = 64 then ([], false, 5) else setR L ⟨a, 0, pushL (getT L a).f2 who first⟩ false
theorem less_spot {s : Sp} (h : SpotP s) (h1 : s.f1 > 0) : SpotP ⟨s.f0, s.f1 - 1, s.f2⟩ := by
 obtain ⟨p1, p2, p3, p4⟩ := h
 exact ⟨p1, ⟨by show 0 ≤ s.f1 - 1; omega, by show s.f1 - 1 ≤ _; omega⟩, p3, .inr (p4.resolve_left (by omega))⟩
theorem push_spot {s : Sp} {x : Int} {b : Bool} (h : SpotP s) (hx : 0 ≤ x) (hm : x ∉ s.f2) (hn : s.f2.length ≠ 64) : SpotP ⟨s.f0, 0, pushL s.f2 x b⟩ :=
 ⟨h.1, by simp, pushL_line h.2.2.1 hx hm hn, .inl rfl⟩
theorem acq_f {L : List Sp} (h : Tab L) {a : Int} (ha : 0 ≤ a ∧ a ≤ 4294967295) {who : Int} (hw : 0 ≤ who) (first : Bool) {k : Nat} (hk : 300 ≤ k) : sema_Acquire.f k L a who first = some (acqT L a who first) := by
 obtain ⟨hS, h0⟩ := get_spot h ha
 have h3 := ((lineB_iff _).1 hS.2.2.1).2.2
 obtain ⟨k, rfl⟩ : ∃ q, k = q + 1 := ⟨k - 1, by omega⟩
 unfold sema_Acquire.f acqT
 rw [get_f h ha]
 simp only [Option.bind_some]
 rw [if_pos trivial, sema_Acquire.j0, if_neg (by simp; omega), contains_f who (by omega) (by omega)]
 simp only [Option.bind_some]
 by_cases hm : who ∈ (getT L a).f2
 ·rw [if_pos (decide_eq_true hm), if_pos hm]
 ·rw [if_neg (by simpa using hm), if_neg hm]
  have hf1 := hS.2.1
  by_cases h1 : (getT L a).f1 > 0
  ·have hsp := less_spot hS h1
   rw [h0] at hsp
   rw [if_pos h1, if_pos h1, wrap_id (by omega) (by omega), h0, set_f h hsp, setR]
   simp only [Option.bind_some]
   split
   ·rfl
   ·rw [if_pos rfl, decide_eq_true h1]
  ·rw [if_neg h1, if_neg h1, push_f first hS.2.2.1 hw hm (by omega)]
   simp only [Option.bind_some]
   by_cases hn : (getT L a).f2.length = 64
   ·rw [if_pos hn, if_pos hn, if_neg (by simp)]
   ·have hsp := push_spot (b := first) hS hw hm hn
    rw [h0] at hsp
    rw [if_neg hn, if_neg hn]
    simp only
    rw [if_pos trivial, h0, show (getT L a).f1 = 0 by omega, set_f h hsp, setR]
    simp only [Option.bind_some]
    split
    ·rfl
    ·rw [if_pos rfl, decide_eq_false (by omega)]
noncomputable def relT (L : List Sp) (a : Int) : List Sp × Int × Int :=
 match (getT L a).f2 with
 | x :: r => (setT L ⟨a, (getT L a).f1, r⟩, x, 0)
 | [] => if (getT L a).f1 = 2147483647 then ([], 0, 10) else if (setT L ⟨a, (getT L a).f1 + 1, []⟩).length > 64 then ([], 0, 5) else (setT L ⟨a, (getT L a).f1 + 1, []⟩, -1, 0)
theorem pop_spot {s : Sp} {x : Int} {r : List Int} (h : SpotP s) (he : s.f2 = x :: r) : SpotP ⟨s.f0, s.f1, r⟩ := by
 obtain ⟨p1, p2, p3, p4⟩ := h
 refine ⟨p1, p2, ?_, ?_⟩
 ·obtain ⟨h1, h2, h3⟩ := (lineB_iff _).1 p3
  rw [he] at h1 h2 h3
  exact (lineB_iff _).2 ⟨(List.nodup_cons.1 h1).2, fun y hy => h2 y (List.mem_cons_of_mem _ hy), by simp at h3 ⊢; omega⟩
 ·rcases p4 with h | h
  ·exact .inl h
  ·rw [he] at h; cases h
theorem more_spot {s : Sp} (h : SpotP s) (_h2 : s.f2 = []) (h1 : s.f1 ≠ 2147483647) : SpotP ⟨s.f0, s.f1 + 1, []⟩ := by
 obtain ⟨p1, p2, p3, p4⟩ := h
 exact ⟨p1, ⟨by show 0 ≤ s.f1 + 1; omega, by show s.f1 + 1 ≤ _; omega⟩, by simp [lineB], .inr rfl⟩
theorem pop_room {L : List Sp} (h : Tab L) {a : Int} {x : Int} {r : List Int} {c : Int} (he : (getT L a).f2 = x :: r) {t : List Int} : (setT L ⟨a, c, t⟩).length ≤ 64 :=
 set_room h (s := ⟨a, c, t⟩) (fun hE => by have := hE.2; simp only at this; rw [he] at this; cases this)
theorem rel_f {L : List Sp} (h : Tab L) {a : Int} (ha : 0 ≤ a ∧ a ≤ 4294967295) : sema_Release.f L a = some (relT L a) := by
 obtain ⟨hS, h0⟩ := get_spot h ha
 have h3 := ((lineB_iff _).1 hS.2.2.1).2.2
 have hf1 := hS.2.1
 unfold sema_Release.f relT
 rw [get_f h ha]
 simp only [Option.bind_some]
 rw [if_pos trivial]
 unfold line_Pop.f
 rw [if_pos (by omega), if_neg (by rw [hS.2.2.1]; simp)]
 simp only [Option.bind_some]
 cases hl : (getT L a).f2 with
 | cons x r =>
  simp only
  have hsp := pop_spot hS hl
  rw [h0] at hsp
  have hroom := pop_room h hl (c := (getT L a).f1) (t := r)
  rw [if_pos trivial, h0, set_f h hsp, if_neg (by omega)]
  simp only [Option.bind_some]
  rw [if_pos trivial]
 | nil =>
  simp only
  rw [if_neg (by simp)]
  by_cases hm : (getT L a).f1 = 2147483647
  ·rw [if_pos hm, if_pos hm]
  ·have hsp := more_spot hS hl hm
   rw [h0] at hsp
   rw [if_neg hm, if_neg hm, wrap_id (by omega) (by omega), h0, set_f h hsp]
   simp only [Option.bind_some]
   split
   ·rfl
   ·rfl
theorem rel_bad {L : List Sp} {a : Int} (hl : L.length ≤ 80) (h2 : ∀ s ∈ L, s.f2.length ≤ 1000) (h : ¬ Tab L ∨ isAddrB a = false) : sema_Release.f L a = some ([], 0, 1) := by
 unfold sema_Release.f
 rw [get_bad hl h2 h]
 rfl
theorem semalive_at : deadboltlaw10_alive.f 400 = some true := by decide +kernel
theorem semalive_ok {k : Nat} (hk : 400 ≤ k) : deadboltlaw10_alive.f k = some true := by
 obtain ⟨d, rfl⟩ : ∃ d, k = 400 + d := ⟨k - 400, by omega⟩
 clear hk
 induction d with
 | zero => exact semalive_at
 | succ d ih => exact deadboltlaw10_alive.mono _ _ ih
/-- The law's own cut of a table. -/
theorem few10_l0 (l : List Sp) (hl : l.length ≤ 1000) : ∀ (d i : Nat) (k : Nat) (out : List Sp), i + d = l.length → d < k → out.length ≤ 1000 + i → deadboltlaw10_few.l0 k out l (l.length : Int) (i : Int) = some (out ++ (l.drop i).map cut70) := by
 intro d
 induction d with
 | zero =>
  intro i k out h1 h2 h3
  obtain ⟨k, rfl⟩ : ∃ q, k = q + 1 := ⟨k - 1, by omega⟩
  rw [deadboltlaw10_few.l0, if_neg (by omega), List.drop_eq_nil_of_le (by omega)]
  simp
 | succ d ih =>
  intro i k out h1 h2 h3
  obtain ⟨k, rfl⟩ : ∃ q, k = q + 1 := ⟨k - 1, by omega⟩
  have hx : l[i]? = some l[i] := List.getElem?_eq_getElem (by omega)
  have hm : mn ((l[i].f2.length : Nat) : Int) 70 = ((min l[i].f2.length 70 : Nat) : Int) := by unfold mn; split <;> omega
  have hc : l[i].f2.take (min l[i].f2.length 70) = l[i].f2.take 70 := by rw [Nat.min_comm, ← List.take_eq_take_min]
  rw [deadboltlaw10_few.l0, if_pos (by omega), if_pos (by omega), if_pos (by omega), rd_sp hx, hm, if_pos (by omega), if_pos (by omega), if_pos (by omega), Int.toNat_natCast, hc, next_i (by omega), ih (i + 1) k _ (by omega) (by omega) (by simp; omega)]
  rw [List.drop_eq_getElem_cons (show i < l.length by omega), List.map_cons, List.append_assoc]
  rfl
theorem few10_f (l : List Sp) {k : Nat} (hk : 80 ≤ k) : deadboltlaw10_few.f k l = some (fewF l) := by
 unfold deadboltlaw10_few.f
 have hm : mn (l.length : Int) 70 = ((min l.length 70 : Nat) : Int) := by unfold mn; split <;> omega
 rw [hm, if_pos (by omega), if_pos (by omega), Int.toNat_natCast]
 simp only [Option.bind_some]
 have hl : (l.take (min l.length 70)).length ≤ 70 := by simp; omega
 have e : l.take (min l.length 70) = l.take 70 := by rw [Nat.min_comm, ← List.take_eq_take_min]
 rw [e] at hl ⊢
 have := few10_l0 (l.take 70) (by omega) (l.take 70).length 0 k [] (by omega) (by omega) (by simp)
 rw [List.drop_zero, List.nil_append] at this
 exact this
end Go.Proofs.Ytnjnjajgpkmfhaa.PX

namespace Go.Proofs.Ytnjnjajgpkmfhaa.PX
open Go.RowKit Go.Proofs.YtnjnjajgpkmfhaaW.PrintWords Go.Proofs.YtnjnjajgpkmfhaaW.PrintLast Go.Proofs.YtnjnjajgpkmfhaaW.PrintMore
attribute [local go_sem] max2_int min2_int max_two min_two max_three min_three max_four min_four   -- for this text's walks alone
set_option linter.unusedVariables false
set_option linter.unusedSimpArgs false

/-! ### deadboltref10_May: function 35 -/
def deadboltref10_May.f (k : Nat) (l0 : List (S33)) (a1 : Int) : Option (Bool) := (deadboltref09_Right.f k l0).bind fun t437 => (if t437 = true then ((deadboltref08_Key.f a1).bind fun t438 => (some t438)) else (some false))
end Go.Proofs.Ytnjnjajgpkmfhaa.PX

namespace Go.Proofs.Ytnjnjajgpkmfhaa.PX
open Go.RowKit Go.Proofs.YtnjnjajgpkmfhaaW.PrintWords Go.Proofs.YtnjnjajgpkmfhaaW.PrintLast Go.Proofs.YtnjnjajgpkmfhaaW.PrintMore
attribute [local go_sem] max2_int min2_int max_two min_two max_three min_three max_four min_four   -- for this text's walks alone
set_option linter.unusedVariables false
set_option linter.unusedSimpArgs false

/-! ### deadboltlaw10_SemaOrder: function 7 -/
mutual
def deadboltlaw10_SemaOrder.j0 : Nat → List (S33) → Int → List Int → Bool → Bool → Option (Bool)
 | 0, _, _, _, _, _ => none
 | k + 1, x0, x1, x2, x3, x33 => if x33 = true then ((deadboltlaw10_alive.f k).bind fun t579 => (some t579)) else (if 0 ≤ (mn (x2.length : Int) 20) then (if (mn (x2.length : Int) 20) ≤ (x2.length : Int) then (deadboltlaw10_SemaOrder.l0 k x0 x1 x3 ([] : List Int) x0 (x2.take ((mn (x2.length : Int) 20) : Int).toNat) ((x2.take ((mn (x2.length : Int) 20) : Int).toNat).length : Int) 0) else (none)) else (none))
def deadboltlaw10_SemaOrder.l0 : Nat → List (S33) → Int → Bool → List Int → List (S33) → List Int → Int → Int → Option (Bool)
 | 0, _, _, _, _, _, _, _, _ => none
 | k + 1, x0, x1, x3, x9, x10, x40, x41, x42 => if x42 < x41 then (if 0 ≤ x42 then (if x42 < (x40.length : Int) then ((sema_Acquire.f k x10 x1 (rd x40 x42) x3).bind fun bt582 => (if bt582.2.2 = 0 then (if bt582.2.1 = true then (some false) else (if (rd x40 x42) < 0 then (some false) else (if x9.length < 17592186044416 then (deadboltlaw10_SemaOrder.l0 k x0 x1 x3 (x9 ++ [rd x40 x42]) bt582.1 x40 x41 (wrap64 (x42 + 1))) else (none)))) else (deadboltlaw10_SemaOrder.l0 k x0 x1 x3 x9 x10 x40 x41 (wrap64 (x42 + 1))))) else (none)) else (none)) else (deadboltlaw10_SemaOrder.l1 k x0 x1 x3 x9 x10 (x9.length : Int) 0)
def deadboltlaw10_SemaOrder.l1 : Nat → List (S33) → Int → Bool → List Int → List (S33) → Int → Int → Option (Bool)
 | 0, _, _, _, _, _, _, _ => none
 | k + 1, x0, x1, x3, x9, x10, x69, x70 => if x70 < x69 then ((sema_Release.f x10 x1).bind fun bt592 => (if 0 ≤ x70 then (if x70 < (x9.length : Int) then (if x3 = true then (if 0 ≤ (wrap64 ((wrap64 ((x9.length : Int) - 1)) - x70)) then (if (wrap64 ((wrap64 ((x9.length : Int) - 1)) - x70)) < (x9.length : Int) then (if bt592.2.2 = 0 then (if bt592.2.1 = (rd x9 (wrap64 ((wrap64 ((x9.length : Int) - 1)) - x70))) then (deadboltlaw10_SemaOrder.l1 k x0 x1 x3 x9 bt592.1 x69 (wrap64 (x70 + 1))) else (some false)) else (some false)) else (none)) else (none)) else (if bt592.2.2 = 0 then (if bt592.2.1 = (rd x9 x70) then (deadboltlaw10_SemaOrder.l1 k x0 x1 x3 x9 bt592.1 x69 (wrap64 (x70 + 1))) else (some false)) else (some false))) else (none)) else (none))) else ((deadboltlaw10_alive.f k).bind fun t590 => (if t590 = true then ((deadboltref09_Same.f k x10 x0).bind fun t591 => (some t591)) else (some false)))
end
def deadboltlaw10_SemaOrder.f (k : Nat) (l0 : List (S33)) (a1 : Int) (l2 : List Int) (a3 : Bool) : Option (Bool) := (deadboltlaw10_few.f k l0).bind fun t569 => ((deadboltref10_May.f k t569 a1).bind fun t572 => (if t572 = true then ((deadboltref09_Get.f k t569 a1).bind fun bt573 => ((deadboltref09_Empty.f bt573.1 bt573.2.1 bt573.2.2).bind fun t578 => (deadboltlaw10_SemaOrder.j0 k t569 a1 l2 a3 (!t578)))) else (deadboltlaw10_SemaOrder.j0 k t569 a1 l2 a3 true)))
end Go.Proofs.Ytnjnjajgpkmfhaa.PX

/-
 The law SemaOrder, told of its printed form.
-/
namespace Go.Proofs.Ytnjnjajgpkmfhaa.PX
open Go.RowKit Go.Proofs.YtnjnjajgpkmfhaaW.PrintWords Go.Proofs.YtnjnjajgpkmfhaaW.PrintLast Go.Proofs.YtnjnjajgpkmfhaaW.PrintMore
section
variable {t : List Sp} {a : Int}
/-- A line at the address, in the table. -/
structure AtL (t : List Sp) (a : Int) (ln : List Int) : Prop where
 line : lineB ln = true
 room : (setT t ⟨a, 0, ln⟩).length ≤ 64
/-- Who waits, when they came in this order. -/
def lnOf (b : Bool) (come : List Int) : List Int := if b = true then come.reverse else come
end
end Go.Proofs.Ytnjnjajgpkmfhaa.PX

/-
 The contract of sema.Queued: in how many lines somebody waits.
-/
namespace Go.Proofs.Ytnjnjajgpkmfhaa.PX
open Go.RowKit Go.Proofs.YtnjnjajgpkmfhaaW.PrintWords Go.Proofs.YtnjnjajgpkmfhaaW.PrintLast Go.Proofs.YtnjnjajgpkmfhaaW.PrintMore
/-- What is behind one spot that is looked at. -/
def SeeP (n₀ Bw Bn : Nat) (who n : Int) (w : World) (e : Ending) (w' : World) : Prop := (∃ v, e = .returned v) ∧ Blk w' Bw 3 #[.int .i64 who] ∧ Blk w' Bn 3 #[.int .i64 n] ∧ Below n₀ w w'
set_option maxRecDepth 100000 in
set_option maxHeartbeats 2000000 in
theorem see_any (n₀ Bw Bn : Nat) (who n : Int) (x : Rw) (w : World) (hw : Blk w Bw 3 #[.int .i64 who]) (hn : Blk w Bn 3 #[.int .i64 n]) (hne : Bw ≠ Bn) (hB : n₀ ≤ Bn) (hs : n₀ ≤ w.heap.size)
  {ok : Nat → Prop} (hV : Kd.V (Kd.int .i64) 3 w 0 ok x.v x.s.f2) (r : Bool) (k : Nat) (hr : slices_Contains_int_int.f k x.s.f2 who = some r) (h0 : 0 ≤ n) (h1 : n ≤ 100000) (n' : Int) (hn' : n' = if r = true then n + 1 else n) :
  Calls Try.prog 59 #[.agg #[.int .i64 x.s.f0, .int .i64 x.s.f1, x.v], .pointer (some ⟨Bw, 0, none⟩), .pointer (some ⟨Bn, 0, none⟩)] w (SeeP n₀ Bw Bn who n' w) := by
 obtain ⟨s, Av, cv⟩ := x
 simp only [Rw.v] at hV hr ⊢
 obtain ⟨_, hc, hC⟩ := Kd.V_reads' hV
 have hltw := hw.lt
 have hltn := hn.lt
 have HW := Lib.hid (hw.alloc (.cells #[.int .i64 s.f0, .int .i64 s.f1, .slice Av s.f2.length cv] 33))
 have HN := Lib.hid (hn.alloc (.cells #[.int .i64 s.f0, .int .i64 s.f1, .slice Av s.f2.length cv] 33))
 have HB0 := Lib.hid (((Below.refl n₀ w).alloc hs (.cells #[.int .i64 s.f0, .int .i64 s.f1, .slice Av s.f2.length cv] 33)))
 have HC := Lib.hid (Kd.C_alloc hC (.cells #[.int .i64 s.f0, .int .i64 s.f1, .slice Av s.f2.length cv] 33))
 have HR := Lib.hid hr
 have HL := Lib.hid hc
 have qw := HW.out.at1
 have qn := HN.out.at1
 have zn := HN.out.frozen 0
 have HNE := Lib.hid hne
 have HN' := Lib.hid hn'
 have HS := Lib.hid hs
 have HBN := Lib.hid hB
 clear hV hC hw hn hr hc hne hs hB hltw hn'
 go_enter Try.func59, Try.ntmps59
 go_wp2_with fail
 refine (slices_Contains_int_int.calls k Av cv s.f2 who r _ HC.out HL.out HR.out).mono ?_
 rintro e w2 ⟨rfl, ⟨m, rfl⟩⟩
 have HB2 := Lib.hid (below_drewN HB0.out m)
 have HW2 := Lib.hid (HW.out.drewN m)
 have HN2 := Lib.hid (HN.out.drewN m)
 clear HB0 HC HR HL HW HN
 cases r with
 | true =>
  have hv := HN'.out
  rw [if_pos rfl] at hv
  subst hv
  clear HN'
  go_wp2_with fail
  go_end0
  exact ⟨⟨_, rfl⟩, HW2.out.far (p := ⟨Bn, 0, none⟩) HNE.out _, HN2.out.set_ 0 _, HB2.out.setCell (p := ⟨Bn, 0, none⟩) HBN.out _⟩
 | false =>
  have hv := HN'.out
  rw [if_neg Bool.false_ne_true] at hv
  subst hv
  clear HN'
  go_wp2_with fail
  go_end0
  exact ⟨⟨_, rfl⟩, HW2.out, HN2.out, HB2.out⟩
/-- In how many lines somebody waits. -/
def cntI (who : Int) (l : List S33) : Int := ((l.filter (fun s => decide (who ∈ s.f2))).length : Int)
def sema_Queued.f (l0 : List S33) (a1 : Int) : Option (Int × Int) := if l0.length ≤ 1000 ∧ (∀ s ∈ l0, s.f2.length ≤ 1000) then (root_Right.f 2000 l0).bind fun r => if r = false ∨ a1 < 0 then some (0, 1) else some (cntI a1 l0, 0) else none
theorem contains_q {l : List Int} (a : Int) (hl : l.length ≤ 1000) : slices_Contains_int_int.f 1001 l a = some (decide (a ∈ l)) := by
 have idx : ∀ (d i k : Nat), i + d = l.length → d < k → (∀ j, j < i → l[j]? ≠ some a) → ∃ r, slices_Index_int_int.l0 k l a (l.length : Int) (i : Int) = some r ∧ (r ≥ 0 ↔ a ∈ l) := by
  intro d
  induction d with
  | zero =>
   intro i k h1 hk h
   obtain ⟨k, rfl⟩ : ∃ q, k = q + 1 := ⟨k - 1, by omega⟩
   rw [slices_Index_int_int.l0, if_neg (by omega)]
   refine ⟨-1, rfl, ⟨fun h => by omega, fun hm => ?_⟩⟩
   obtain ⟨j, hj, rfl⟩ := List.mem_iff_getElem.1 hm
   exact absurd (List.getElem?_eq_getElem hj) (h j (by omega))
  | succ d ih =>
   intro i k h1 hk h
   obtain ⟨k, rfl⟩ : ∃ q, k = q + 1 := ⟨k - 1, by omega⟩
   have hx : l[i]? = some l[i] := List.getElem?_eq_getElem (by omega)
   have hrd : rd l (i : Int) = l[i] := by
    unfold rd
    rw [Int.toNat_natCast, List.getD_eq_getElem?_getD, hx]
    rfl
   rw [slices_Index_int_int.l0, if_pos (by omega), if_pos (by omega), if_pos (by omega), hrd]
   by_cases he : a = l[i]
   ·rw [if_pos he]
    exact ⟨_, rfl, ⟨fun _ => by rw [he]; exact List.getElem_mem _, fun _ => by omega⟩⟩
   ·rw [if_neg he, show wrap64 ((i : Int) + 1) = ((i + 1 : Nat) : Int) by unfold wrap64; omega]
    refine ih (i + 1) k (by omega) (by omega) fun j hj => ?_
    rcases Nat.lt_or_eq_of_le (Nat.le_of_lt_succ hj) with h' | h'
    ·exact h j h'
    ·rw [h', hx]
     exact fun e => he (Option.some.inj e).symm
 obtain ⟨r, h1, h2⟩ := idx l.length 0 1001 (by omega) (by omega) (fun j hj => absurd hj (by omega))
 unfold slices_Contains_int_int.f slices_Index_int_int.f
 rw [show (0 : Int) = ((0 : Nat) : Int) from rfl, h1]
 simp only [Option.bind_some]
 refine congrArg some (Bool.eq_iff_iff.2 ?_)
 rw [decide_eq_true_eq, decide_eq_true_eq]
 exact h2
theorem cnt_more (who : Int) (R : List Rw) (i : Nat) (x : Rw) (h : R[i]? = some x) : cntI who (spots (R.take (i + 1))) = if decide (who ∈ x.s.f2) = true then cntI who (spots (R.take i)) + 1 else cntI who (spots (R.take i)) := by
 unfold cntI spots
 rw [List.take_add_one, h, List.map_append, List.filter_append, List.length_append]
 by_cases hm : who ∈ x.s.f2
 ·simp [hm]
 ·simp [hm]
theorem cnt_le (who : Int) (l : List S33) : 0 ≤ cntI who l ∧ cntI who l ≤ l.length := by
 unfold cntI
 have := List.length_filter_le (fun s : S33 => decide (who ∈ s.f2)) l
 omega
def QuP (r1 r2 : Int) (w : World) (e : Ending) (w' : World) : Prop := e = .returned (.tuple #[.int .i64 r1, .int .i64 r2]) ∧ Below w.heap.size w w'
set_option maxRecDepth 100000 in
set_option maxHeartbeats 4000000 in
theorem queued_any (A0 : Option Addr) (c0 : Nat) (l0 : List S33) (a1 : Int) (b : Bool) (w : World) (hr0 : Kd.C k33 w A0 l0.length l0) (hc0 : l0.length ≤ c0) (hn : l0.length ≤ 1000) (h2 : ∀ s ∈ l0, s.f2.length ≤ 1000) (hb : root_Right.f 2000 l0 = some b)
  (R1 R2 : Int) (hres : (b = true → 0 ≤ a1 → R1 = cntI a1 l0 ∧ R2 = 0) ∧ (b = false ∨ a1 < 0 → R1 = 0 ∧ R2 = 1)) :
  Calls Try.prog 36 #[.slice A0 l0.length c0, .int .i64 a1] w (QuP R1 R2 w) := by
 obtain ⟨R, hR, _, _, hreads, hrep⟩ := raws_of_V (base := 0) (Kd.V_mk (e := 33) (base := 0) hc0 (Kd.C_F k33_heap hr0))
 have HRD := Lib.hid hreads
 have HRP := Lib.hid hrep
 have HSP := Lib.hid hR
 have HN := Lib.hid hn
 have H2 := Lib.hid h2
 have HRES := Lib.hid hres
 have HC := Lib.hid hc0
 have HBF := Lib.hid hb
 have HC1 := Lib.hid (Kd.C_alloc hr0 (.cells #[.int .i64 a1] 3))
 have HB1 := Lib.hid ((Below.refl w.heap.size w).alloc (Nat.le_refl _) (.cells #[.int .i64 a1] 3))
 have HW1 := Lib.hid (Blk.new w 3 #[.int .i64 a1])
 clear hr0 hc0 hn h2 hb hres hreads hrep hR
 go_enter Try.func36, Try.ntmps36
 go_wp2_with fail
 refine (root_Right.calls 2000 A0 c0 l0 b _ HC1.out HC.out HBF.out).mono ?_
 rintro e w2 ⟨rfl, hb2⟩
 have HB2 := Lib.hid (bthen HB1.out hb2)
 have HW2 := Lib.hid (HW1.out.below hb2 HW1.out.lt)
 clear hb2 HC1 HB1 HW1 HC HBF
 have q1 := HW2.out.at1
 cases b with
 | false =>
  have HV := Lib.hid (HRES.out.2 (.inl rfl))
  clear HRES
  go_wp2_with fail
  go_ret2
  exact ⟨by rw [HV.out.1, HV.out.2]; rfl, HB2.out⟩
 | true =>
  by_cases h0 : a1 < 0
  ·have d0 : decide (a1 < 0) = true := decide_eq_true h0
   have HV := Lib.hid (HRES.out.2 (.inr h0))
   clear HRES h0
   go_wp2_with fail
   go_ret2
   exact ⟨by rw [HV.out.1, HV.out.2]; rfl, HB2.out⟩
  ·have d0 : decide (a1 < 0) = false := decide_eq_false h0
   have HV := Lib.hid (HRES.out.1 rfl (by omega))
   clear HRES h0
   have HNE := Lib.hid (Nat.ne_of_lt HW2.out.lt)
   have HGE := Lib.hid (Nat.le_of_lt HW2.out.lt)
   have HW3 := Lib.hid (HW2.out.alloc (.cells #[.int .i64 0] 3))
   have HN3 := Lib.hid (Blk.new w2 3 #[.int .i64 0])
   have HB3 := Lib.hid (HB2.out.alloc HGE.out (.cells #[.int .i64 0] 3))
   have HLEN := Lib.hid (raw_len HRD.out)
   go_wp2_with fail
   clear HW2 HB2 q1
   go_loopw [20] (fun v wr => ∃ i : Nat, i ≤ l0.length ∧ v = .int .i64 i ∧ Blk wr w.heap.size 3 #[.int .i64 a1] ∧ Blk wr w2.heap.size 3 #[.int .i64 (cntI a1 (spots (R.take i)))] ∧ Below w.heap.size w wr) (fun v _ => l0.length - (intOf v).toNat)
   case atStart => exact ⟨0, Nat.zero_le _, rfl, HW3.out, HN3.out, HB3.out⟩
   case round =>
    obtain ⟨i, hi, rfl, hw, hnn, hb⟩ := hrel
    have HBR := Lib.hid hb
    by_cases hlt : i < l0.length
    ·have d1 : decide ((i : Int) < l0.length) = true := decide_eq_true (by omega)
     obtain ⟨ad, x, rfl, _, hx, q0, q1, q2⟩ := raw_at (HRD.out.below hb) hlt
     have hxm : x.s ∈ l0 := by rw [← HSP.out]; exact List.mem_map.2 ⟨x, List.mem_of_getElem? hx, rfl⟩
     have hlx := H2.out _ hxm
     have hcn := cnt_le a1 (spots (R.take i))
     have hc2 : (cntI a1 (spots (R.take i))) ≤ 1000 := by
      have : (spots (R.take i)).length ≤ i := by unfold spots; rw [List.length_map, List.length_take]; omega
      have := HN.out
      omega
     have HSEE := Lib.hid (see_any w.heap.size w.heap.size w2.heap.size a1 (cntI a1 (spots (R.take i))) x (wr.alloc (.cells #[.int .i64 x.s.f0, .int .i64 x.s.f1, x.v] 33)) (hw.alloc _) (hnn.alloc _) HNE.out HGE.out
      (below_size (hb.alloc (below_size hb) _)) (Kd.V_alloc ((HRP.out.below hb) x (List.mem_of_getElem? hx)) _) (decide (a1 ∈ x.s.f2)) 1001 (contains_q a1 hlx) hcn.1 (by omega) (cntI a1 (spots (R.take (i + 1)))) (cnt_more a1 R i x hx))
     have HBA := Lib.hid (hb.alloc (below_size hb) (.cells #[.int .i64 x.s.f0, .int .i64 x.s.f1, x.v] 33))
     have hen : ∀ W, (callFunc 59 (#[.agg #[.int .i64 x.s.f0, .int .i64 x.s.f1, x.v]] ++ #[.pointer (some ⟨w.heap.size, 0, none⟩), .pointer (some ⟨w2.heap.size, 0, none⟩)])).run Try.prog W = .ok (.enter 59 (#[.agg #[.int .i64 x.s.f0, .int .i64 x.s.f1, x.v]] ++ #[.pointer (some ⟨w.heap.size, 0, none⟩), .pointer (some ⟨w2.heap.size, 0, none⟩)])) W := fun W => by simp [go_sem]
     clear hb hx hw hnn hxm hlx hcn hc2
     obtain ⟨xs, Av, cv⟩ := x
     simp only [Rw.v] at q2 HSEE HBA hen
     go_wp2_with fail
     refine HSEE.out.mono ?_
     rintro e w4 ⟨⟨v, rfl⟩, hw4, hn4, hb4⟩
     have HW4 := Lib.hid hw4
     have HN4 := Lib.hid hn4
     have HB4 := Lib.hid (HBA.out.trans hb4)
     clear hw4 hn4 hb4 q0 q1 q2
     go_wp2_with fail
     have hwr : wrap64 ((i : Int) + 1) = ((i + 1 : Nat) : Int) := by have := HN.out; unfold wrap64; omega
     rw [hwr]
     exact ⟨⟨i + 1, by omega, rfl, HW4.out, HN4.out, HB4.out⟩, by simp only [intOf]; omega⟩
    ·have d1 : decide ((i : Int) < l0.length) = false := decide_eq_false (by omega)
     obtain rfl : i = l0.length := by omega
     have hall : spots (R.take l0.length) = l0 := by rw [List.take_of_length_le (by rw [HLEN.out]; exact Nat.le_refl _), HSP.out]
     rw [hall] at hnn
     have q5 := hnn.at1
     clear hb hw hnn hall
     go_wp2_with fail
     go_ret2
     exact ⟨by rw [HV.out.1, HV.out.2]; rfl, HBR.out⟩
theorem sema_Queued.calls (A0 : Option Addr) (c0 : Nat) (l0 : List S33) (a1 : Int) (r1 r2 : Int) (w : World) (hr0 : Kd.C k33 w A0 l0.length l0) (hc0 : l0.length ≤ c0) (h : sema_Queued.f l0 a1 = some (r1, r2)) :
  Calls Try.prog 36 #[.slice A0 l0.length c0, .int .i64 a1] w fun e w' => e = .returned (.tuple #[.int .i64 r1, .int .i64 r2]) ∧ Below w.heap.size w w' := by
 unfold sema_Queued.f at h
 split at h
 case isFalse => cases h
 rename_i hh
 obtain ⟨b, hb, h⟩ := Option.bind_eq_some_iff.1 h
 refine queued_any A0 c0 l0 a1 b w hr0 hc0 hh.1 hh.2 hb r1 r2 ⟨fun h1 h2 => ?_, fun h1 => ?_⟩
 ·rw [if_neg (by rw [h1]; simp; omega)] at h
  have := Option.some.inj h
  exact ⟨(congrArg (·.1) this).symm, (congrArg (·.2) this).symm⟩
 ·rw [if_pos h1] at h
  have := Option.some.inj h
  exact ⟨(congrArg (·.1) this).symm, (congrArg (·.2) this).symm⟩
end Go.Proofs.Ytnjnjajgpkmfhaa.PX

namespace Go.Proofs.Ytnjnjajgpkmfhaa.PX
open Go.RowKit Go.Proofs.YtnjnjajgpkmfhaaW.PrintWords Go.Proofs.YtnjnjajgpkmfhaaW.PrintLast Go.Proofs.YtnjnjajgpkmfhaaW.PrintMore
attribute [local go_sem] max2_int min2_int max_two min_two max_three min_three max_four min_four   -- for this text's walks alone
set_option linter.unusedVariables false
set_option linter.unusedSimpArgs false

/-! ### deadboltref10_set: function 60 -/
def deadboltref10_set.f (k : Nat) (l0 : List (S33)) (a1_0 : Int) (a1_1 : Int) (l1_2 : List Int) : Option ((List (S33)) × Int) := (deadboltref09_Set.f k l0 a1_0 a1_1 l1_2).bind fun t443 => (if (t443.length : Int) > 64 then (some (([] : List (S33)), 5)) else (some (t443, 0)))
end Go.Proofs.Ytnjnjajgpkmfhaa.PX

namespace Go.Proofs.Ytnjnjajgpkmfhaa.PX
open Go.RowKit Go.Proofs.YtnjnjajgpkmfhaaW.PrintWords Go.Proofs.YtnjnjajgpkmfhaaW.PrintLast Go.Proofs.YtnjnjajgpkmfhaaW.PrintMore
attribute [local go_sem] max2_int min2_int max_two min_two max_three min_three max_four min_four   -- for this text's walks alone
set_option linter.unusedVariables false
set_option linter.unusedSimpArgs false

/-! ### deadboltref07_Push: function 31 -/
def deadboltref07_Push.f (l0 : List Int) (a1 : Int) (a2 : Bool) : Option (List Int) := (some (([] : List Int) : List Int)).bind fun y465 => (if a2 = true then (if y465.length < 17592186044416 then ((some (y465 ++ [a1] : List Int)).bind fun y468 => (if y468.length + l0.length < 17592186044416 then (some (y468 ++ l0)) else (none))) else (none)) else (if y465.length + l0.length < 17592186044416 then ((some (y465 ++ l0 : List Int)).bind fun y474 => (if y474.length < 17592186044416 then (some (y474 ++ [a1])) else (none))) else (none)))
end Go.Proofs.Ytnjnjajgpkmfhaa.PX

namespace Go.Proofs.Ytnjnjajgpkmfhaa.PX
open Go.RowKit Go.Proofs.YtnjnjajgpkmfhaaW.PrintWords Go.Proofs.YtnjnjajgpkmfhaaW.PrintLast Go.Proofs.YtnjnjajgpkmfhaaW.PrintMore
attribute [local go_sem] max2_int min2_int max_two min_two max_three min_three max_four min_four   -- for this text's walks alone
set_option linter.unusedVariables false
set_option linter.unusedSimpArgs false

/-! ### deadboltref10_Acquire: function 39 -/
def deadboltref10_Acquire.f (k : Nat) (l0 : List (S33)) (a1 : Int) (a2 : Int) (a3 : Bool) : Option ((List (S33)) × Bool × Int) := (deadboltref09_Get.f k l0 a1).bind fun bt480 => ((deadboltref07_Place.f k bt480.2.2 a2).bind fun t486 => (if t486 ≥ 0 then (some (([] : List (S33)), false, 7)) else (if bt480.2.1 > 0 then ((deadboltref10_set.f k l0 bt480.1 (wrap64 (bt480.2.1 - 1)) bt480.2.2).bind fun bt487 => (some (bt487.1, true, bt487.2))) else (if (bt480.2.2.length : Int) = 64 then (some (([] : List (S33)), false, 5)) else ((deadboltref07_Push.f bt480.2.2 a2 a3).bind fun t491 => ((deadboltref10_set.f k l0 bt480.1 bt480.2.1 t491).bind fun bt494 => (some (bt494.1, false, bt494.2))))))))
end Go.Proofs.Ytnjnjajgpkmfhaa.PX

namespace Go.Proofs.Ytnjnjajgpkmfhaa.PX
open Go.RowKit Go.Proofs.YtnjnjajgpkmfhaaW.PrintWords Go.Proofs.YtnjnjajgpkmfhaaW.PrintLast Go.Proofs.YtnjnjajgpkmfhaaW.PrintMore
attribute [local go_sem] max2_int min2_int max_two min_two max_three min_three max_four min_four   -- for this text's walks alone
set_option linter.unusedVariables false
set_option linter.unusedSimpArgs false

/-! ### deadboltref10_Release: function 38 -/
def deadboltref10_Release.f (k : Nat) (l0 : List (S33)) (a1 : Int) : Option ((List (S33)) × Int × Int) := (deadboltref09_Get.f k l0 a1).bind fun bt446 => (if (bt446.2.2.length : Int) > 0 then (if 0 < (bt446.2.2.length : Int) then (if 1 ≤ (bt446.2.2.length : Int) then ((deadboltref09_Set.f k l0 bt446.1 bt446.2.1 (bt446.2.2.drop 1)).bind fun t458 => (some (t458, rd bt446.2.2 0, 0))) else (none)) else (none)) else (if bt446.2.1 = 2147483647 then (some (([] : List (S33)), 0, 10)) else ((deadboltref10_set.f k l0 bt446.1 (wrap64 (bt446.2.1 + 1)) bt446.2.2).bind fun bt461 => (if bt461.2 = 0 then (some (bt461.1, (-1), 0)) else (some (([] : List (S33)), 0, bt461.2))))))
end Go.Proofs.Ytnjnjajgpkmfhaa.PX

namespace Go.Proofs.Ytnjnjajgpkmfhaa.PX
open Go.RowKit Go.Proofs.YtnjnjajgpkmfhaaW.PrintWords Go.Proofs.YtnjnjajgpkmfhaaW.PrintLast Go.Proofs.YtnjnjajgpkmfhaaW.PrintMore
attribute [local go_sem] max2_int min2_int max_two min_two max_three min_three max_four min_four   -- for this text's walks alone
set_option linter.unusedVariables false
set_option linter.unusedSimpArgs false

/-! ### deadboltref10_Queued: function 37 -/
def deadboltref10_Queued.l0 : Nat → Int → Int → List (S33) → Int → Int → Option (Int)
 | 0, _, _, _, _, _ => none
 | k + 1, x1, x5, x8, x9, x10 => if x10 < x9 then (if 0 ≤ x10 then (if x10 < (x8.length : Int) then ((deadboltref07_Place.f k ((rd_T33 x8 x10).f2) x1).bind fun t441 => (if t441 ≥ 0 then (deadboltref10_Queued.l0 k x1 (wrap64 (x5 + 1)) x8 x9 (wrap64 (x10 + 1))) else (deadboltref10_Queued.l0 k x1 x5 x8 x9 (wrap64 (x10 + 1))))) else (none)) else (none)) else (some x5)
def deadboltref10_Queued.f (k : Nat) (l0 : List (S33)) (a1 : Int) : Option (Int) := deadboltref10_Queued.l0 k a1 0 l0 (l0.length : Int) 0
end Go.Proofs.Ytnjnjajgpkmfhaa.PX

/-
 The document's answers on grants; in how many lines somebody waits.
-/
namespace Go.Proofs.Ytnjnjajgpkmfhaa.PX
open Go.RowKit Go.Proofs.YtnjnjajgpkmfhaaW.PrintWords Go.Proofs.YtnjnjajgpkmfhaaW.PrintLast Go.Proofs.YtnjnjajgpkmfhaaW.PrintMore
theorem queued_f {L : List Sp} (h : Tab L) {who : Int} (hw : 0 ≤ who) : sema_Queued.f L who = some (cntI who L, 0) := by
 have hf := h.few
 unfold sema_Queued.f
 rw [if_pos ⟨by omega, h.lens⟩, right_yes h (by omega)]
 simp only [Option.bind_some]
 rw [if_neg (by simp; omega)]
/-- A table that is small enough to be compared. -/
def Small (l : List Sp) : Prop := l.length ≤ 1000 ∧ ∀ s ∈ l, s.f2.length ≤ 1000
theorem same_small {l : List Sp} (h : Small l) {k : Nat} (hk : 2100 ≤ k) : deadboltref09_Same.f k l l = some true := by
 obtain ⟨b, e1, e2⟩ := refsame_f l l h.1 h.2 hk
 rw [e1, e2.2 rfl]
end Go.Proofs.Ytnjnjajgpkmfhaa.PX

namespace Go.Proofs.Ytnjnjajgpkmfhaa.PX
open Go.RowKit Go.Proofs.YtnjnjajgpkmfhaaW.PrintWords Go.Proofs.YtnjnjajgpkmfhaaW.PrintLast Go.Proofs.YtnjnjajgpkmfhaaW.PrintMore
attribute [local go_sem] max2_int min2_int max_two min_two max_three min_three max_four min_four   -- for this text's walks alone
set_option linter.unusedVariables false
set_option linter.unusedSimpArgs false

/-! ### deadboltlaw10_SemaApart: function 9 -/
def deadboltlaw10_SemaApart.j0 : Nat → List (S33) → Int → Int → Bool → List (S33) → Int → Bool → Option (Bool)
 | 0, _, _, _, _, _, _, _ => none
 | k + 1, x0, x1, x3, x4, x11, x12, x54 => if x54 = true then (some false) else (if x12 = (-1) then (if x3 < 0 then ((sema_Acquire.f k x11 x1 0 x4).bind fun bt555 => ((deadboltlaw10_alive.f k).bind fun t560 => (if t560 = true then (if bt555.2.2 = 0 then (if bt555.2.1 = true then ((deadboltref09_Same.f k bt555.1 x0).bind fun t561 => (some t561)) else (some false)) else (some false)) else (some false)))) else ((sema_Acquire.f k x11 x1 x3 x4).bind fun bt562 => ((deadboltlaw10_alive.f k).bind fun t567 => (if t567 = true then (if bt562.2.2 = 0 then (if bt562.2.1 = true then ((deadboltref09_Same.f k bt562.1 x0).bind fun t568 => (some t568)) else (some false)) else (some false)) else (some false))))) else ((sema_Queued.f x0 x12).bind fun bt550 => ((sema_Queued.f x11 x12).bind fun bt552 => ((deadboltlaw10_alive.f k).bind fun t554 => (if t554 = true then (if bt550.2 = 0 then (if bt552.2 = 0 then (some (bt552.1 == (wrap64 (bt550.1 - 1)))) else (some false)) else (some false)) else (some false))))))
def deadboltlaw10_SemaApart.f (k : Nat) (l0 : List (S33)) (a1 : Int) (a2 : Int) (a3 : Int) (a4 : Bool) : Option (Bool) := (deadboltlaw10_few.f k l0).bind fun t529 => ((sema_Release.f t529 a1).bind fun bt532 => (if bt532.2.2 = 0 then (if a1 = a2 then (deadboltlaw10_SemaApart.j0 k t529 a1 a3 a4 bt532.1 bt532.2.1 false) else ((deadboltref09_Right.f k bt532.1).bind fun t538 => (if t538 = true then ((deadboltref09_Get.f k bt532.1 a2).bind fun bt539 => ((deadboltref09_Get.f k t529 a2).bind fun bt544 => ((deadboltref09_Spots.f k bt539.1 bt539.2.1 bt539.2.2 bt544.1 bt544.2.1 bt544.2.2).bind fun t549 => (deadboltlaw10_SemaApart.j0 k t529 a1 a3 a4 bt532.1 bt532.2.1 (!t549))))) else (deadboltlaw10_SemaApart.j0 k t529 a1 a3 a4 bt532.1 bt532.2.1 false)))) else ((deadboltlaw10_alive.f k).bind fun t537 => (if t537 = true then (some ((bt532.1.length : Int) == 0)) else (some false)))))
set_option maxHeartbeats 8000000 in
set_option maxRecDepth 100000 in
theorem deadboltlaw10_SemaApart.calls (k : Nat) (A0 : Option Addr) (c0 : Nat) (l0 : List (S33)) (a1 : Int) (a2 : Int) (a3 : Int) (a4 : Bool) (r : Bool) (w : World) (hr0 : Kd.C k33 w A0 l0.length l0) (hc0 : l0.length ≤ c0) (h : deadboltlaw10_SemaApart.f k l0 a1 a2 a3 a4 = some r) :
  Calls Try.prog 9 #[.slice A0 l0.length c0, .int .i64 a1, .int .i64 a2, .int .i64 a3, .bool a4] w fun e w' => e = .returned (.bool r) ∧ Below w.heap.size w w' := by
 have HR0 := Aside0.mk hr0
 have HC0 := Aside0.mk hc0
 clear hr0 hc0
 have HB := Aside0.mk (Below.refl w.heap.size w)
 have H : ((deadboltlaw10_few.f k l0).bind fun t529 => ((sema_Release.f t529 a1).bind fun bt532 => (if bt532.2.2 = 0 then (if a1 = a2 then (deadboltlaw10_SemaApart.j0 k t529 a1 a3 a4 bt532.1 bt532.2.1 false) else ((deadboltref09_Right.f k bt532.1).bind fun t538 => (if t538 = true then ((deadboltref09_Get.f k bt532.1 a2).bind fun bt539 => ((deadboltref09_Get.f k t529 a2).bind fun bt544 => ((deadboltref09_Spots.f k bt539.1 bt539.2.1 bt539.2.2 bt544.1 bt544.2.1 bt544.2.2).bind fun t549 => (deadboltlaw10_SemaApart.j0 k t529 a1 a3 a4 bt532.1 bt532.2.1 (!t549))))) else (deadboltlaw10_SemaApart.j0 k t529 a1 a3 a4 bt532.1 bt532.2.1 false)))) else ((deadboltlaw10_alive.f k).bind fun t537 => (if t537 = true then (some ((bt532.1.length : Int) == 0)) else (some false)))))) = some r := h
 clear h
 replace H := Option.bind_eq_some_iff.mp H
 obtain ⟨t529, A60, H⟩ := H
 replace H : ((sema_Release.f t529 a1).bind fun bt532 => (if bt532.2.2 = 0 then (if a1 = a2 then (deadboltlaw10_SemaApart.j0 k t529 a1 a3 a4 bt532.1 bt532.2.1 false) else ((deadboltref09_Right.f k bt532.1).bind fun t538 => (if t538 = true then ((deadboltref09_Get.f k bt532.1 a2).bind fun bt539 => ((deadboltref09_Get.f k t529 a2).bind fun bt544 => ((deadboltref09_Spots.f k bt539.1 bt539.2.1 bt539.2.2 bt544.1 bt544.2.1 bt544.2.2).bind fun t549 => (deadboltlaw10_SemaApart.j0 k t529 a1 a3 a4 bt532.1 bt532.2.1 (!t549))))) else (deadboltlaw10_SemaApart.j0 k t529 a1 a3 a4 bt532.1 bt532.2.1 false)))) else ((deadboltlaw10_alive.f k).bind fun t537 => (if t537 = true then (some ((bt532.1.length : Int) == 0)) else (some false))))) = some r := H
 have A6 := Aside0.mk A60
 clear A60
 replace H := Option.bind_eq_some_iff.mp H
 obtain ⟨⟨t532, t535, t536⟩, A70, H⟩ := H
 replace H : (if t536 = 0 then (if a1 = a2 then (deadboltlaw10_SemaApart.j0 k t529 a1 a3 a4 t532 t535 false) else ((deadboltref09_Right.f k t532).bind fun t538 => (if t538 = true then ((deadboltref09_Get.f k t532 a2).bind fun bt539 => ((deadboltref09_Get.f k t529 a2).bind fun bt544 => ((deadboltref09_Spots.f k bt539.1 bt539.2.1 bt539.2.2 bt544.1 bt544.2.1 bt544.2.2).bind fun t549 => (deadboltlaw10_SemaApart.j0 k t529 a1 a3 a4 t532 t535 (!t549))))) else (deadboltlaw10_SemaApart.j0 k t529 a1 a3 a4 t532 t535 false)))) else ((deadboltlaw10_alive.f k).bind fun t537 => (if t537 = true then (some ((t532.length : Int) == 0)) else (some false)))) = some r := H
 have A7 := Aside0.mk A70
 clear A70
 by_cases c8 : t536 = 0
 ·rw [if_pos c8] at H
  have c8b0 : (t536 == 0) = true := beq_iff_eq.mpr c8
  have c8b1 : (t536 != 0) = false := bne_eq_false_iff_eq.mpr c8
  clear c8
  have HC9 := Aside0.mk H
  clear H
  go_enter Try.func9, Try.ntmps9
  go_upto_region 5 with (first | ((with_reducible refine gate_callee (f := 34) rfl ?_); refine goesL_ (some 22) rfl rfl Try.func34 (by kernel_rfl) rfl #[.slice A0 l0.length c0] rfl zP ?_; (with_reducible refine (deadboltlaw10_few.calls k (fun k_ => k_ < w.heap.size) _ _ l0 t529 _ ?side1 A6.out).mono ?_); (case side1 => exact Kd.V_mk HC0.out (Kd.F_below (Kd.C_F k33_heap HR0.out) (zB HB))); rintro e w10 ⟨v530, rfl, ho0, hb⟩; refine ⟨_, rfl, ?_⟩; have n0_ := Aside0.mk (Kd.N_lower (Kd.N_mono (ok' := fun k_ => True) ho0 (fun k_ hk_ => trivial)) (below_size (zB HB))); have n1_ := Aside0.mk (below_step (zB HB) hb); clear HB; have HO531 := n0_; have HB := n1_; clear n0_ n1_; (try clear hb); (try clear hb2); (try clear hk); (try clear hi); (try clear ho0); obtain ⟨Ao11, co11, eo11⟩ := Kd.N_slice HO531.out; subst eo11) | ((with_reducible refine gate_callee (f := 32) rfl ?_); refine goesL_ (some 26) rfl rfl Try.func32 (by kernel_rfl) rfl #[.slice Ao11 t529.length co11, .int .i64 a1] rfl zP ?_; (with_reducible refine (sema_Release.calls (fun k_ => True) _ _ t529 a1 t532 t535 t536 _ ?side1 A7.out).mono ?_); (case side1 => exact Kd.N_V (HO531.out)); rintro e w12 ⟨v533, rfl, ho0, hb⟩; refine ⟨_, rfl, ?_⟩; have n0_ := Aside0.mk (Kd.N_below (zN HO531) hb); have n1_ := Aside0.mk (Kd.V_lower (Kd.V_mono (ok' := fun k_ => True) ho0 (fun k_ hk_ => trivial)) (below_size (zB HB))); have n2_ := Aside0.mk (below_step (zB HB) hb); clear HO531; clear HB; have HO531 := n0_; have HO534 := n1_; have HB := n2_; clear n0_ n1_ n2_; (try clear hb); (try clear hb2); (try clear hk); (try clear hi); (try clear ho0)))
  (try simp only [Act.put, List.setIfInBounds_toArray, List.set_cons_zero, List.set_cons_succ])
  go_cut [54] (fun v54 wc => ∃ (kq : Nat) (x54_8 : Bool), v54 = .bool x54_8 ∧ Aside0 (deadboltlaw10_SemaApart.j0 kq t529 a1 a3 a4 t532 t535 x54_8 = some r) ∧ Aside0 (kq ≤ k) ∧ Aside0 (Kd.N k33 33 wc w.heap.size (fun _ => True) (.slice Ao11 t529.length co11) t529) ∧ Aside0 (Kd.V k33 33 wc w.heap.size (fun _ => True) v533 t532) ∧ Aside0 (Below w.heap.size w wc))
  case first =>
   have H := HC9.out
   clear HC9
   by_cases c13 : a1 = a2
   ·rw [if_pos c13] at H
    have c13b0 : (a1 == a2) = true := beq_iff_eq.mpr c13
    have c13b1 : (a1 != a2) = false := bne_eq_false_iff_eq.mpr c13
    clear c13
    (first | rw [c13b0] | (simp only [i64_w, i32_w]; rw [c13b0]) | skip)
    have H' := Aside0.mk H
    clear H
    go_wp2
    go_meet
    case rel => exact ⟨_, (false), (by first | rfl | (simp; done) | (simp [*]; done)), H', ⟨by first | omega | exact Nat.le_refl _⟩, ⟨by (with_reducible repeat (first | apply Kd.N_alloc | apply Kd.N_drewN | apply Kd.N_drew)); exact HO531.out⟩, ⟨by (with_reducible repeat (first | apply Kd.V_alloc | apply Kd.V_drewN | apply Kd.V_drew)); exact HO534.out⟩, ⟨zB HB⟩⟩
   ·rw [if_neg c13] at H
    have c13b0 : (a1 == a2) = false := beq_eq_false_iff_ne.mpr c13
    have c13b1 : (a1 != a2) = true := bne_iff_ne.mpr c13
    (first | rw [c13b0] | (simp only [i64_w, i32_w]; rw [c13b0]) | skip)
    replace H := Option.bind_eq_some_iff.mp H
    obtain ⟨t538, A140, H⟩ := H
    replace H : (if t538 = true then ((deadboltref09_Get.f k t532 a2).bind fun bt539 => ((deadboltref09_Get.f k t529 a2).bind fun bt544 => ((deadboltref09_Spots.f k bt539.1 bt539.2.1 bt539.2.2 bt544.1 bt544.2.1 bt544.2.2).bind fun t549 => (deadboltlaw10_SemaApart.j0 k t529 a1 a3 a4 t532 t535 (!t549))))) else (deadboltlaw10_SemaApart.j0 k t529 a1 a3 a4 t532 t535 false)) = some r := H
    have A14 := Aside0.mk A140
    clear A140
    by_cases c15 : t538 = true
    ·subst c15
     have H1 : ((deadboltref09_Get.f k t532 a2).bind fun bt539 => ((deadboltref09_Get.f k t529 a2).bind fun bt544 => ((deadboltref09_Spots.f k bt539.1 bt539.2.1 bt539.2.2 bt544.1 bt544.2.1 bt544.2.2).bind fun t549 => (deadboltlaw10_SemaApart.j0 k t529 a1 a3 a4 t532 t535 (!t549))))) = some r := by rw [if_pos rfl] at H; exact H
     clear H
     have H := H1
     clear H1
     replace H := Option.bind_eq_some_iff.mp H
     obtain ⟨⟨t539, t540, t541⟩, A160, H⟩ := H
     replace H : ((deadboltref09_Get.f k t529 a2).bind fun bt544 => ((deadboltref09_Spots.f k t539 t540 t541 bt544.1 bt544.2.1 bt544.2.2).bind fun t549 => (deadboltlaw10_SemaApart.j0 k t529 a1 a3 a4 t532 t535 (!t549)))) = some r := H
     have A16 := Aside0.mk A160
     clear A160
     replace H := Option.bind_eq_some_iff.mp H
     obtain ⟨⟨t544, t545, t546⟩, A170, H⟩ := H
     replace H : ((deadboltref09_Spots.f k t539 t540 t541 t544 t545 t546).bind fun t549 => (deadboltlaw10_SemaApart.j0 k t529 a1 a3 a4 t532 t535 (!t549))) = some r := H
     have A17 := Aside0.mk A170
     clear A170
     replace H := Option.bind_eq_some_iff.mp H
     obtain ⟨t549, A180, H⟩ := H
     replace H : (deadboltlaw10_SemaApart.j0 k t529 a1 a3 a4 t532 t535 (!t549)) = some r := H
     have A18 := Aside0.mk A180
     clear A180
     have H' := Aside0.mk H
     clear H
     obtain ⟨Ao19, co19, eo19⟩ := Kd.V_slice HO534.out
     subst eo19
     go_wp2_with (first | (go_at_call 18; (with_reducible refine (deadboltref09_Right.calls k _ _ t532 true _ ?side1 ?side2 A14.out).mono ?_); (case side1 => repeat (first | exact (Kd.V_reads' HO534.out).2.2 | (with_reducible refine Kd.C_alloc ?_ _) | (with_reducible refine Kd.C_drewN ?_ _) | (with_reducible refine Kd.C_drew ?_))); (case side2 => exact (Kd.V_reads' HO534.out).2.1); rintro e w20 ⟨rfl, hb⟩; have n0_ := Aside0.mk (Kd.N_below (zN HO531) hb); have n1_ := Aside0.mk (Kd.V_below (zV HO534) hb); have n2_ := Aside0.mk (below_step (zB HB) hb); clear HO531; clear HO534; clear HB; have HO531 := n0_; have HO534 := n1_; have HB := n2_; clear n0_ n1_ n2_; (try clear hb); (try clear hb2); (try clear hk); (try clear hi)) | (go_at_call 22; (with_reducible refine (deadboltref09_Get.calls k (fun k_ => True) _ _ t532 a2 t539 t540 t541 _ ?side1 A16.out).mono ?_); (case side1 => exact HO534.out); rintro e w21 ⟨v542, rfl, ho0, hb⟩; have n0_ := Aside0.mk (Kd.N_below (zN HO531) hb); have n1_ := Aside0.mk (Kd.V_below (zV HO534) hb); have n2_ := Aside0.mk (Kd.V_lower (Kd.V_mono (ok' := fun k_ => True) ho0 (fun k_ hk_ => trivial)) (below_size (zB HB))); have n3_ := Aside0.mk (below_step (zB HB) hb); clear HO531; clear HO534; clear HB; have HO531 := n0_; have HO534 := n1_; have HO543 := n2_; have HB := n3_; clear n0_ n1_ n2_ n3_; (try clear hb); (try clear hb2); (try clear hk); (try clear hi); (try clear ho0)) | (go_at_call 22; (with_reducible refine (deadboltref09_Get.calls k (fun k_ => True) _ _ t529 a2 t544 t545 t546 _ ?side1 A17.out).mono ?_); (case side1 => exact Kd.N_V (HO531.out)); rintro e w22 ⟨v547, rfl, ho0, hb⟩; have n0_ := Aside0.mk (Kd.N_below (zN HO531) hb); have n1_ := Aside0.mk (Kd.V_below (zV HO534) hb); have n2_ := Aside0.mk (Kd.V_below (zV HO543) hb); have n3_ := Aside0.mk (Kd.V_lower (Kd.V_mono (ok' := fun k_ => True) ho0 (fun k_ hk_ => trivial)) (below_size (zB HB))); have n4_ := Aside0.mk (below_step (zB HB) hb); clear HO531; clear HO534; clear HO543; clear HB; have HO531 := n0_; have HO534 := n1_; have HO543 := n2_; have HO548 := n3_; have HB := n4_; clear n0_ n1_ n2_ n3_ n4_; (try clear hb); (try clear hb2); (try clear hk); (try clear hi); (try clear ho0); obtain ⟨Ao23, co23, eo23⟩ := Kd.V_slice HO543.out; subst eo23; obtain ⟨Ao24, co24, eo24⟩ := Kd.V_slice HO548.out; subst eo24) | (go_at_call 21; (with_reducible refine (deadboltref09_Spots.calls k t539 t540 _ _ t541 t544 t545 _ _ t546 t549 _ ?side1 ?side2 ?side3 ?side4 A18.out).mono ?_); (case side1 => repeat (first | exact (Kd.V_reads' HO543.out).2.2 | (with_reducible refine Kd.C_alloc ?_ _) | (with_reducible refine Kd.C_drewN ?_ _) | (with_reducible refine Kd.C_drew ?_))); (case side2 => exact (Kd.V_reads' HO543.out).2.1); (case side3 => repeat (first | exact (Kd.V_reads' HO548.out).2.2 | (with_reducible refine Kd.C_alloc ?_ _) | (with_reducible refine Kd.C_drewN ?_ _) | (with_reducible refine Kd.C_drew ?_))); (case side4 => exact (Kd.V_reads' HO548.out).2.1); rintro e w25 ⟨rfl, hb⟩; have n0_ := Aside0.mk (Kd.N_below (zN HO531) hb); have n1_ := Aside0.mk (Kd.V_below (zV HO534) hb); have n2_ := Aside0.mk (Kd.V_below (zV HO543) hb); have n3_ := Aside0.mk (Kd.V_below (zV HO548) hb); have n4_ := Aside0.mk (below_step (zB HB) hb); clear HO531; clear HO534; clear HO543; clear HO548; clear HB; have HO531 := n0_; have HO534 := n1_; have HO543 := n2_; have HO548 := n3_; have HB := n4_; clear n0_ n1_ n2_ n3_ n4_; (try clear hb); (try clear hb2); (try clear hk); (try clear hi)))
     go_meet
     case rel => exact ⟨_, (!t549), (by first | rfl | (simp; done) | (simp [*]; done)), H', ⟨by first | omega | exact Nat.le_refl _⟩, ⟨by (with_reducible repeat (first | apply Kd.N_alloc | apply Kd.N_drewN | apply Kd.N_drew)); exact HO531.out⟩, ⟨by (with_reducible repeat (first | apply Kd.V_alloc | apply Kd.V_drewN | apply Kd.V_drew)); exact HO534.out⟩, ⟨zB HB⟩⟩
    ·replace c15 := Bool.eq_false_iff.mpr c15
     subst c15
     have H1 : (deadboltlaw10_SemaApart.j0 k t529 a1 a3 a4 t532 t535 false) = some r := by rw [if_neg (show ¬ (false = true) by decide)] at H; exact H
     clear H
     have H := H1
     clear H1
     have H' := Aside0.mk H
     clear H
     obtain ⟨Ao26, co26, eo26⟩ := Kd.V_slice HO534.out
     subst eo26
     go_wp2_with (first | (go_at_call 18; (with_reducible refine (deadboltref09_Right.calls k _ _ t532 false _ ?side1 ?side2 A14.out).mono ?_); (case side1 => repeat (first | exact (Kd.V_reads' HO534.out).2.2 | (with_reducible refine Kd.C_alloc ?_ _) | (with_reducible refine Kd.C_drewN ?_ _) | (with_reducible refine Kd.C_drew ?_))); (case side2 => exact (Kd.V_reads' HO534.out).2.1); rintro e w27 ⟨rfl, hb⟩; have n0_ := Aside0.mk (Kd.N_below (zN HO531) hb); have n1_ := Aside0.mk (Kd.V_below (zV HO534) hb); have n2_ := Aside0.mk (below_step (zB HB) hb); clear HO531; clear HO534; clear HB; have HO531 := n0_; have HO534 := n1_; have HB := n2_; clear n0_ n1_ n2_; (try clear hb); (try clear hb2); (try clear hk); (try clear hi)))
     go_meet
     case rel => exact ⟨_, (false), (by first | rfl | (simp; done) | (simp [*]; done)), H', ⟨by first | omega | exact Nat.le_refl _⟩, ⟨by (with_reducible repeat (first | apply Kd.N_alloc | apply Kd.N_drewN | apply Kd.N_drew)); exact HO531.out⟩, ⟨by (with_reducible repeat (first | apply Kd.V_alloc | apply Kd.V_drewN | apply Kd.V_drew)); exact HO534.out⟩, ⟨zB HB⟩⟩
  case rest =>
   clear HC9
   try clear c1
   try clear p2
   try clear c3
   try clear c8
   try clear c8b0
   try clear c8b1
   try clear c9
   try clear c13
   try clear c13b0
   try clear c13b1
   try clear c15
   obtain ⟨kq, x54_8, rfl, HA, HJ8, HO_0, HO_11, HB⟩ := hcut
   cases kq with
   | zero => exact absurd HA.out (by simp [deadboltlaw10_SemaApart.j0])
   | succ kj8 =>
    have H := HA.out
    clear HA
    simp only [deadboltlaw10_SemaApart.j0] at H
    by_cases c28 : x54_8 = true
    ·subst c28
     have H1 : (some false) = some r := by rw [if_pos rfl] at H; exact H
     clear H
     have H := H1
     clear H1
     obtain rfl := Option.some.inj H
     go_wp2
     go_ret
     exact ⟨by first | rfl | (simp [errW_none, errW_some] <;> rfl) | (simp [*, errW_none, errW_some] <;> rfl), zB HB⟩
    ·replace c28 := Bool.eq_false_iff.mpr c28
     subst c28
     have H1 : (if t535 = (-1) then (if a3 < 0 then ((sema_Acquire.f kj8 t532 a1 0 a4).bind fun bt555 => ((deadboltlaw10_alive.f kj8).bind fun t560 => (if t560 = true then (if bt555.2.2 = 0 then (if bt555.2.1 = true then ((deadboltref09_Same.f kj8 bt555.1 t529).bind fun t561 => (some t561)) else (some false)) else (some false)) else (some false)))) else ((sema_Acquire.f kj8 t532 a1 a3 a4).bind fun bt562 => ((deadboltlaw10_alive.f kj8).bind fun t567 => (if t567 = true then (if bt562.2.2 = 0 then (if bt562.2.1 = true then ((deadboltref09_Same.f kj8 bt562.1 t529).bind fun t568 => (some t568)) else (some false)) else (some false)) else (some false))))) else ((sema_Queued.f t529 t535).bind fun bt550 => ((sema_Queued.f t532 t535).bind fun bt552 => ((deadboltlaw10_alive.f kj8).bind fun t554 => (if t554 = true then (if bt550.2 = 0 then (if bt552.2 = 0 then (some (bt552.1 == (wrap64 (bt550.1 - 1)))) else (some false)) else (some false)) else (some false)))))) = some r := by rw [if_neg (show ¬ (false = true) by decide)] at H; exact H
     clear H
     have H := H1
     clear H1
     by_cases c29 : t535 = (-1)
     ·rw [if_pos c29] at H
      have c29b0 : (t535 == (-1)) = true := beq_iff_eq.mpr c29
      have c29b1 : (t535 != (-1)) = false := bne_eq_false_iff_eq.mpr c29
      clear c29
      by_cases c30 : a3 < 0
      ·rw [if_pos c30] at H
       have c30b0 : decide (a3 < 0) = true := decide_eq_true c30
       clear c30
       replace H := Option.bind_eq_some_iff.mp H
       obtain ⟨⟨t555, t558, t559⟩, A310, H⟩ := H
       replace H : ((deadboltlaw10_alive.f kj8).bind fun t560 => (if t560 = true then (if t559 = 0 then (if t558 = true then ((deadboltref09_Same.f kj8 t555 t529).bind fun t561 => (some t561)) else (some false)) else (some false)) else (some false))) = some r := H
       have A31 := Aside0.mk A310
       clear A310
       replace H := Option.bind_eq_some_iff.mp H
       obtain ⟨t560, A320, H⟩ := H
       replace H : (if t560 = true then (if t559 = 0 then (if t558 = true then ((deadboltref09_Same.f kj8 t555 t529).bind fun t561 => (some t561)) else (some false)) else (some false)) else (some false)) = some r := H
       have A32 := Aside0.mk A320
       clear A320
       by_cases c33 : t560 = true
       ·subst c33
        have H1 : (if t559 = 0 then (if t558 = true then ((deadboltref09_Same.f kj8 t555 t529).bind fun t561 => (some t561)) else (some false)) else (some false)) = some r := by rw [if_pos rfl] at H; exact H
        clear H
        have H := H1
        clear H1
        by_cases c34 : t559 = 0
        ·rw [if_pos c34] at H
         have c34b0 : (t559 == 0) = true := beq_iff_eq.mpr c34
         have c34b1 : (t559 != 0) = false := bne_eq_false_iff_eq.mpr c34
         clear c34
         by_cases c35 : t558 = true
         ·subst c35
          have H1 : ((deadboltref09_Same.f kj8 t555 t529).bind fun t561 => (some t561)) = some r := by rw [if_pos rfl] at H; exact H
          clear H
          have H := H1
          clear H1
          replace H := Option.bind_eq_some_iff.mp H
          obtain ⟨t561, A360, H⟩ := H
          replace H : (some t561) = some r := H
          have A36 := Aside0.mk A360
          clear A360
          obtain rfl := Option.some.inj H
          obtain ⟨Ao37, co37, eo37⟩ := Kd.V_slice HO_11.out
          subst eo37
          go_wp2_with (first | ((with_reducible refine gate_callee (f := 30) rfl ?_); refine goesL_ (some 91) rfl rfl Try.func30 (by kernel_rfl) rfl #[.slice Ao37 t532.length co37, .int .i64 a1, .int .i64 0, .bool a4] rfl zP ?_; (with_reducible refine (sema_Acquire.calls kj8 (fun k_ => True) _ _ t532 a1 0 a4 t555 true t559 _ ?side1 A31.out).mono ?_); (case side1 => exact HO_11.out); rintro e w38 ⟨v556, rfl, ho0, hb⟩; refine ⟨_, rfl, ?_⟩; have n0_ := Aside0.mk (Kd.N_below (zN HO_0) hb); have n1_ := Aside0.mk (Kd.V_below (zV HO_11) hb); have n2_ := Aside0.mk (Kd.V_lower (Kd.V_mono (ok' := fun k_ => True) ho0 (fun k_ hk_ => trivial)) (below_size (zB HB))); have n3_ := Aside0.mk (below_step (zB HB) hb); clear HO_0; clear HO_11; clear HB; have HO_0 := n0_; have HO_11 := n1_; have HO557 := n2_; have HB := n3_; clear n0_ n1_ n2_ n3_; (try clear hb); (try clear hb2); (try clear hk); (try clear hi); (try clear ho0)) | ((with_reducible refine gate_callee (f := 33) rfl ?_); refine goesL_ (some 95) rfl rfl Try.func33 (by kernel_rfl) rfl #[] rfl zP ?_; (with_reducible refine (deadboltlaw10_alive.calls kj8  true _ A32.out).mono ?_); rintro e w39 ⟨rfl, hb⟩; refine ⟨_, rfl, ?_⟩; have n0_ := Aside0.mk (Kd.N_below (zN HO_0) hb); have n1_ := Aside0.mk (Kd.V_below (zV HO_11) hb); have n2_ := Aside0.mk (Kd.V_below (zV HO557) hb); have n3_ := Aside0.mk (below_step (zB HB) hb); clear HO_0; clear HO_11; clear HO557; clear HB; have HO_0 := n0_; have HO_11 := n1_; have HO557 := n2_; have HB := n3_; clear n0_ n1_ n2_ n3_; (try clear hb); (try clear hb2); (try clear hk); (try clear hi); obtain ⟨Ao40, co40, eo40⟩ := Kd.V_slice HO557.out; subst eo40) | (go_at_call 27; (with_reducible refine (deadboltref09_Same.calls kj8 _ _ t555 _ _ t529 t561 _ ?side1 ?side2 ?side3 ?side4 A36.out).mono ?_); (case side1 => repeat (first | exact (Kd.V_reads' HO557.out).2.2 | (with_reducible refine Kd.C_alloc ?_ _) | (with_reducible refine Kd.C_drewN ?_ _) | (with_reducible refine Kd.C_drew ?_))); (case side2 => exact (Kd.V_reads' HO557.out).2.1); (case side3 => repeat (first | exact (Kd.N_reads' HO_0.out).2.2 | (with_reducible refine Kd.C_alloc ?_ _) | (with_reducible refine Kd.C_drewN ?_ _) | (with_reducible refine Kd.C_drew ?_))); (case side4 => exact (Kd.N_reads' HO_0.out).2.1); rintro e w41 ⟨rfl, hb⟩; have n0_ := Aside0.mk (Kd.N_below (zN HO_0) hb); have n1_ := Aside0.mk (Kd.V_below (zV HO_11) hb); have n2_ := Aside0.mk (Kd.V_below (zV HO557) hb); have n3_ := Aside0.mk (below_step (zB HB) hb); clear HO_0; clear HO_11; clear HO557; clear HB; have HO_0 := n0_; have HO_11 := n1_; have HO557 := n2_; have HB := n3_; clear n0_ n1_ n2_ n3_; (try clear hb); (try clear hb2); (try clear hk); (try clear hi)))
          go_ret
          exact ⟨by first | rfl | (simp [errW_none, errW_some] <;> rfl) | (simp [*, errW_none, errW_some] <;> rfl), zB HB⟩
         ·replace c35 := Bool.eq_false_iff.mpr c35
          subst c35
          have H1 : (some false) = some r := by rw [if_neg (show ¬ (false = true) by decide)] at H; exact H
          clear H
          have H := H1
          clear H1
          obtain rfl := Option.some.inj H
          obtain ⟨Ao42, co42, eo42⟩ := Kd.V_slice HO_11.out
          subst eo42
          go_wp2_with (first | ((with_reducible refine gate_callee (f := 30) rfl ?_); refine goesL_ (some 91) rfl rfl Try.func30 (by kernel_rfl) rfl #[.slice Ao42 t532.length co42, .int .i64 a1, .int .i64 0, .bool a4] rfl zP ?_; (with_reducible refine (sema_Acquire.calls kj8 (fun k_ => True) _ _ t532 a1 0 a4 t555 false t559 _ ?side1 A31.out).mono ?_); (case side1 => exact HO_11.out); rintro e w43 ⟨v556, rfl, ho0, hb⟩; refine ⟨_, rfl, ?_⟩; have n0_ := Aside0.mk (Kd.N_below (zN HO_0) hb); have n1_ := Aside0.mk (Kd.V_below (zV HO_11) hb); have n2_ := Aside0.mk (Kd.V_lower (Kd.V_mono (ok' := fun k_ => True) ho0 (fun k_ hk_ => trivial)) (below_size (zB HB))); have n3_ := Aside0.mk (below_step (zB HB) hb); clear HO_0; clear HO_11; clear HB; have HO_0 := n0_; have HO_11 := n1_; have HO557 := n2_; have HB := n3_; clear n0_ n1_ n2_ n3_; (try clear hb); (try clear hb2); (try clear hk); (try clear hi); (try clear ho0)) | ((with_reducible refine gate_callee (f := 33) rfl ?_); refine goesL_ (some 95) rfl rfl Try.func33 (by kernel_rfl) rfl #[] rfl zP ?_; (with_reducible refine (deadboltlaw10_alive.calls kj8  true _ A32.out).mono ?_); rintro e w44 ⟨rfl, hb⟩; refine ⟨_, rfl, ?_⟩; have n0_ := Aside0.mk (Kd.N_below (zN HO_0) hb); have n1_ := Aside0.mk (Kd.V_below (zV HO_11) hb); have n2_ := Aside0.mk (Kd.V_below (zV HO557) hb); have n3_ := Aside0.mk (below_step (zB HB) hb); clear HO_0; clear HO_11; clear HO557; clear HB; have HO_0 := n0_; have HO_11 := n1_; have HO557 := n2_; have HB := n3_; clear n0_ n1_ n2_ n3_; (try clear hb); (try clear hb2); (try clear hk); (try clear hi)))
          go_ret
          exact ⟨by first | rfl | (simp [errW_none, errW_some] <;> rfl) | (simp [*, errW_none, errW_some] <;> rfl), zB HB⟩
        ·rw [if_neg c34] at H
         have c34b0 : (t559 == 0) = false := beq_eq_false_iff_ne.mpr c34
         have c34b1 : (t559 != 0) = true := bne_iff_ne.mpr c34
         obtain rfl := Option.some.inj H
         obtain ⟨Ao45, co45, eo45⟩ := Kd.V_slice HO_11.out
         subst eo45
         go_wp2_with (first | ((with_reducible refine gate_callee (f := 30) rfl ?_); refine goesL_ (some 91) rfl rfl Try.func30 (by kernel_rfl) rfl #[.slice Ao45 t532.length co45, .int .i64 a1, .int .i64 0, .bool a4] rfl zP ?_; (with_reducible refine (sema_Acquire.calls kj8 (fun k_ => True) _ _ t532 a1 0 a4 t555 t558 t559 _ ?side1 A31.out).mono ?_); (case side1 => exact HO_11.out); rintro e w46 ⟨v556, rfl, ho0, hb⟩; refine ⟨_, rfl, ?_⟩; have n0_ := Aside0.mk (Kd.N_below (zN HO_0) hb); have n1_ := Aside0.mk (Kd.V_below (zV HO_11) hb); have n2_ := Aside0.mk (Kd.V_lower (Kd.V_mono (ok' := fun k_ => True) ho0 (fun k_ hk_ => trivial)) (below_size (zB HB))); have n3_ := Aside0.mk (below_step (zB HB) hb); clear HO_0; clear HO_11; clear HB; have HO_0 := n0_; have HO_11 := n1_; have HO557 := n2_; have HB := n3_; clear n0_ n1_ n2_ n3_; (try clear hb); (try clear hb2); (try clear hk); (try clear hi); (try clear ho0)) | ((with_reducible refine gate_callee (f := 33) rfl ?_); refine goesL_ (some 95) rfl rfl Try.func33 (by kernel_rfl) rfl #[] rfl zP ?_; (with_reducible refine (deadboltlaw10_alive.calls kj8  true _ A32.out).mono ?_); rintro e w47 ⟨rfl, hb⟩; refine ⟨_, rfl, ?_⟩; have n0_ := Aside0.mk (Kd.N_below (zN HO_0) hb); have n1_ := Aside0.mk (Kd.V_below (zV HO_11) hb); have n2_ := Aside0.mk (Kd.V_below (zV HO557) hb); have n3_ := Aside0.mk (below_step (zB HB) hb); clear HO_0; clear HO_11; clear HO557; clear HB; have HO_0 := n0_; have HO_11 := n1_; have HO557 := n2_; have HB := n3_; clear n0_ n1_ n2_ n3_; (try clear hb); (try clear hb2); (try clear hk); (try clear hi)))
         go_ret
         exact ⟨by first | rfl | (simp [errW_none, errW_some] <;> rfl) | (simp [*, errW_none, errW_some] <;> rfl), zB HB⟩
       ·replace c33 := Bool.eq_false_iff.mpr c33
        subst c33
        have H1 : (some false) = some r := by rw [if_neg (show ¬ (false = true) by decide)] at H; exact H
        clear H
        have H := H1
        clear H1
        obtain rfl := Option.some.inj H
        obtain ⟨Ao48, co48, eo48⟩ := Kd.V_slice HO_11.out
        subst eo48
        go_wp2_with (first | ((with_reducible refine gate_callee (f := 30) rfl ?_); refine goesL_ (some 91) rfl rfl Try.func30 (by kernel_rfl) rfl #[.slice Ao48 t532.length co48, .int .i64 a1, .int .i64 0, .bool a4] rfl zP ?_; (with_reducible refine (sema_Acquire.calls kj8 (fun k_ => True) _ _ t532 a1 0 a4 t555 t558 t559 _ ?side1 A31.out).mono ?_); (case side1 => exact HO_11.out); rintro e w49 ⟨v556, rfl, ho0, hb⟩; refine ⟨_, rfl, ?_⟩; have n0_ := Aside0.mk (Kd.N_below (zN HO_0) hb); have n1_ := Aside0.mk (Kd.V_below (zV HO_11) hb); have n2_ := Aside0.mk (Kd.V_lower (Kd.V_mono (ok' := fun k_ => True) ho0 (fun k_ hk_ => trivial)) (below_size (zB HB))); have n3_ := Aside0.mk (below_step (zB HB) hb); clear HO_0; clear HO_11; clear HB; have HO_0 := n0_; have HO_11 := n1_; have HO557 := n2_; have HB := n3_; clear n0_ n1_ n2_ n3_; (try clear hb); (try clear hb2); (try clear hk); (try clear hi); (try clear ho0)) | ((with_reducible refine gate_callee (f := 33) rfl ?_); refine goesL_ (some 95) rfl rfl Try.func33 (by kernel_rfl) rfl #[] rfl zP ?_; (with_reducible refine (deadboltlaw10_alive.calls kj8  false _ A32.out).mono ?_); rintro e w50 ⟨rfl, hb⟩; refine ⟨_, rfl, ?_⟩; have n0_ := Aside0.mk (Kd.N_below (zN HO_0) hb); have n1_ := Aside0.mk (Kd.V_below (zV HO_11) hb); have n2_ := Aside0.mk (Kd.V_below (zV HO557) hb); have n3_ := Aside0.mk (below_step (zB HB) hb); clear HO_0; clear HO_11; clear HO557; clear HB; have HO_0 := n0_; have HO_11 := n1_; have HO557 := n2_; have HB := n3_; clear n0_ n1_ n2_ n3_; (try clear hb); (try clear hb2); (try clear hk); (try clear hi)))
        go_ret
        exact ⟨by first | rfl | (simp [errW_none, errW_some] <;> rfl) | (simp [*, errW_none, errW_some] <;> rfl), zB HB⟩
      ·rw [if_neg c30] at H
       have c30b0 : decide (a3 < 0) = false := decide_eq_false c30
       clear c30
       replace H := Option.bind_eq_some_iff.mp H
       obtain ⟨⟨t562, t565, t566⟩, A510, H⟩ := H
       replace H : ((deadboltlaw10_alive.f kj8).bind fun t567 => (if t567 = true then (if t566 = 0 then (if t565 = true then ((deadboltref09_Same.f kj8 t562 t529).bind fun t568 => (some t568)) else (some false)) else (some false)) else (some false))) = some r := H
       have A51 := Aside0.mk A510
       clear A510
       replace H := Option.bind_eq_some_iff.mp H
       obtain ⟨t567, A520, H⟩ := H
       replace H : (if t567 = true then (if t566 = 0 then (if t565 = true then ((deadboltref09_Same.f kj8 t562 t529).bind fun t568 => (some t568)) else (some false)) else (some false)) else (some false)) = some r := H
       have A52 := Aside0.mk A520
       clear A520
       by_cases c53 : t567 = true
       ·subst c53
        have H1 : (if t566 = 0 then (if t565 = true then ((deadboltref09_Same.f kj8 t562 t529).bind fun t568 => (some t568)) else (some false)) else (some false)) = some r := by rw [if_pos rfl] at H; exact H
        clear H
        have H := H1
        clear H1
        by_cases c54 : t566 = 0
        ·rw [if_pos c54] at H
         have c54b0 : (t566 == 0) = true := beq_iff_eq.mpr c54
         have c54b1 : (t566 != 0) = false := bne_eq_false_iff_eq.mpr c54
         clear c54
         by_cases c55 : t565 = true
         ·subst c55
          have H1 : ((deadboltref09_Same.f kj8 t562 t529).bind fun t568 => (some t568)) = some r := by rw [if_pos rfl] at H; exact H
          clear H
          have H := H1
          clear H1
          replace H := Option.bind_eq_some_iff.mp H
          obtain ⟨t568, A560, H⟩ := H
          replace H : (some t568) = some r := H
          have A56 := Aside0.mk A560
          clear A560
          obtain rfl := Option.some.inj H
          obtain ⟨Ao57, co57, eo57⟩ := Kd.V_slice HO_11.out
          subst eo57
          go_wp2_with (first | ((with_reducible refine gate_callee (f := 30) rfl ?_); refine goesL_ (some 91) rfl rfl Try.func30 (by kernel_rfl) rfl #[.slice Ao57 t532.length co57, .int .i64 a1, .int .i64 a3, .bool a4] rfl zP ?_; (with_reducible refine (sema_Acquire.calls kj8 (fun k_ => True) _ _ t532 a1 a3 a4 t562 true t566 _ ?side1 A51.out).mono ?_); (case side1 => exact HO_11.out); rintro e w58 ⟨v563, rfl, ho0, hb⟩; refine ⟨_, rfl, ?_⟩; have n0_ := Aside0.mk (Kd.N_below (zN HO_0) hb); have n1_ := Aside0.mk (Kd.V_below (zV HO_11) hb); have n2_ := Aside0.mk (Kd.V_lower (Kd.V_mono (ok' := fun k_ => True) ho0 (fun k_ hk_ => trivial)) (below_size (zB HB))); have n3_ := Aside0.mk (below_step (zB HB) hb); clear HO_0; clear HO_11; clear HB; have HO_0 := n0_; have HO_11 := n1_; have HO564 := n2_; have HB := n3_; clear n0_ n1_ n2_ n3_; (try clear hb); (try clear hb2); (try clear hk); (try clear hi); (try clear ho0)) | ((with_reducible refine gate_callee (f := 33) rfl ?_); refine goesL_ (some 95) rfl rfl Try.func33 (by kernel_rfl) rfl #[] rfl zP ?_; (with_reducible refine (deadboltlaw10_alive.calls kj8  true _ A52.out).mono ?_); rintro e w59 ⟨rfl, hb⟩; refine ⟨_, rfl, ?_⟩; have n0_ := Aside0.mk (Kd.N_below (zN HO_0) hb); have n1_ := Aside0.mk (Kd.V_below (zV HO_11) hb); have n2_ := Aside0.mk (Kd.V_below (zV HO564) hb); have n3_ := Aside0.mk (below_step (zB HB) hb); clear HO_0; clear HO_11; clear HO564; clear HB; have HO_0 := n0_; have HO_11 := n1_; have HO564 := n2_; have HB := n3_; clear n0_ n1_ n2_ n3_; (try clear hb); (try clear hb2); (try clear hk); (try clear hi); obtain ⟨Ao60, co60, eo60⟩ := Kd.V_slice HO564.out; subst eo60) | (go_at_call 27; (with_reducible refine (deadboltref09_Same.calls kj8 _ _ t562 _ _ t529 t568 _ ?side1 ?side2 ?side3 ?side4 A56.out).mono ?_); (case side1 => repeat (first | exact (Kd.V_reads' HO564.out).2.2 | (with_reducible refine Kd.C_alloc ?_ _) | (with_reducible refine Kd.C_drewN ?_ _) | (with_reducible refine Kd.C_drew ?_))); (case side2 => exact (Kd.V_reads' HO564.out).2.1); (case side3 => repeat (first | exact (Kd.N_reads' HO_0.out).2.2 | (with_reducible refine Kd.C_alloc ?_ _) | (with_reducible refine Kd.C_drewN ?_ _) | (with_reducible refine Kd.C_drew ?_))); (case side4 => exact (Kd.N_reads' HO_0.out).2.1); rintro e w61 ⟨rfl, hb⟩; have n0_ := Aside0.mk (Kd.N_below (zN HO_0) hb); have n1_ := Aside0.mk (Kd.V_below (zV HO_11) hb); have n2_ := Aside0.mk (Kd.V_below (zV HO564) hb); have n3_ := Aside0.mk (below_step (zB HB) hb); clear HO_0; clear HO_11; clear HO564; clear HB; have HO_0 := n0_; have HO_11 := n1_; have HO564 := n2_; have HB := n3_; clear n0_ n1_ n2_ n3_; (try clear hb); (try clear hb2); (try clear hk); (try clear hi)))
          go_ret
          exact ⟨by first | rfl | (simp [errW_none, errW_some] <;> rfl) | (simp [*, errW_none, errW_some] <;> rfl), zB HB⟩
         ·replace c55 := Bool.eq_false_iff.mpr c55
          subst c55
          have H1 : (some false) = some r := by rw [if_neg (show ¬ (false = true) by decide)] at H; exact H
          clear H
          have H := H1
          clear H1
          obtain rfl := Option.some.inj H
          obtain ⟨Ao62, co62, eo62⟩ := Kd.V_slice HO_11.out
          subst eo62
          go_wp2_with (first | ((with_reducible refine gate_callee (f := 30) rfl ?_); refine goesL_ (some 91) rfl rfl Try.func30 (by kernel_rfl) rfl #[.slice Ao62 t532.length co62, .int .i64 a1, .int .i64 a3, .bool a4] rfl zP ?_; (with_reducible refine (sema_Acquire.calls kj8 (fun k_ => True) _ _ t532 a1 a3 a4 t562 false t566 _ ?side1 A51.out).mono ?_); (case side1 => exact HO_11.out); rintro e w63 ⟨v563, rfl, ho0, hb⟩; refine ⟨_, rfl, ?_⟩; have n0_ := Aside0.mk (Kd.N_below (zN HO_0) hb); have n1_ := Aside0.mk (Kd.V_below (zV HO_11) hb); have n2_ := Aside0.mk (Kd.V_lower (Kd.V_mono (ok' := fun k_ => True) ho0 (fun k_ hk_ => trivial)) (below_size (zB HB))); have n3_ := Aside0.mk (below_step (zB HB) hb); clear HO_0; clear HO_11; clear HB; have HO_0 := n0_; have HO_11 := n1_; have HO564 := n2_; have HB := n3_; clear n0_ n1_ n2_ n3_; (try clear hb); (try clear hb2); (try clear hk); (try clear hi); (try clear ho0)) | ((with_reducible refine gate_callee (f := 33) rfl ?_); refine goesL_ (some 95) rfl rfl Try.func33 (by kernel_rfl) rfl #[] rfl zP ?_; (with_reducible refine (deadboltlaw10_alive.calls kj8  true _ A52.out).mono ?_); rintro e w64 ⟨rfl, hb⟩; refine ⟨_, rfl, ?_⟩; have n0_ := Aside0.mk (Kd.N_below (zN HO_0) hb); have n1_ := Aside0.mk (Kd.V_below (zV HO_11) hb); have n2_ := Aside0.mk (Kd.V_below (zV HO564) hb); have n3_ := Aside0.mk (below_step (zB HB) hb); clear HO_0; clear HO_11; clear HO564; clear HB; have HO_0 := n0_; have HO_11 := n1_; have HO564 := n2_; have HB := n3_; clear n0_ n1_ n2_ n3_; (try clear hb); (try clear hb2); (try clear hk); (try clear hi)))
          go_ret
          exact ⟨by first | rfl | (simp [errW_none, errW_some] <;> rfl) | (simp [*, errW_none, errW_some] <;> rfl), zB HB⟩
        ·rw [if_neg c54] at H
         have c54b0 : (t566 == 0) = false := beq_eq_false_iff_ne.mpr c54
         have c54b1 : (t566 != 0) = true := bne_iff_ne.mpr c54
         obtain rfl := Option.some.inj H
         obtain ⟨Ao65, co65, eo65⟩ := Kd.V_slice HO_11.out
         subst eo65
         go_wp2_with (first | ((with_reducible refine gate_callee (f := 30) rfl ?_); refine goesL_ (some 91) rfl rfl Try.func30 (by kernel_rfl) rfl #[.slice Ao65 t532.length co65, .int .i64 a1, .int .i64 a3, .bool a4] rfl zP ?_; (with_reducible refine (sema_Acquire.calls kj8 (fun k_ => True) _ _ t532 a1 a3 a4 t562 t565 t566 _ ?side1 A51.out).mono ?_); (case side1 => exact HO_11.out); rintro e w66 ⟨v563, rfl, ho0, hb⟩; refine ⟨_, rfl, ?_⟩; have n0_ := Aside0.mk (Kd.N_below (zN HO_0) hb); have n1_ := Aside0.mk (Kd.V_below (zV HO_11) hb); have n2_ := Aside0.mk (Kd.V_lower (Kd.V_mono (ok' := fun k_ => True) ho0 (fun k_ hk_ => trivial)) (below_size (zB HB))); have n3_ := Aside0.mk (below_step (zB HB) hb); clear HO_0; clear HO_11; clear HB; have HO_0 := n0_; have HO_11 := n1_; have HO564 := n2_; have HB := n3_; clear n0_ n1_ n2_ n3_; (try clear hb); (try clear hb2); (try clear hk); (try clear hi); (try clear ho0)) | ((with_reducible refine gate_callee (f := 33) rfl ?_); refine goesL_ (some 95) rfl rfl Try.func33 (by kernel_rfl) rfl #[] rfl zP ?_; (with_reducible refine (deadboltlaw10_alive.calls kj8  true _ A52.out).mono ?_); rintro e w67 ⟨rfl, hb⟩; refine ⟨_, rfl, ?_⟩; have n0_ := Aside0.mk (Kd.N_below (zN HO_0) hb); have n1_ := Aside0.mk (Kd.V_below (zV HO_11) hb); have n2_ := Aside0.mk (Kd.V_below (zV HO564) hb); have n3_ := Aside0.mk (below_step (zB HB) hb); clear HO_0; clear HO_11; clear HO564; clear HB; have HO_0 := n0_; have HO_11 := n1_; have HO564 := n2_; have HB := n3_; clear n0_ n1_ n2_ n3_; (try clear hb); (try clear hb2); (try clear hk); (try clear hi)))
         go_ret
         exact ⟨by first | rfl | (simp [errW_none, errW_some] <;> rfl) | (simp [*, errW_none, errW_some] <;> rfl), zB HB⟩
       ·replace c53 := Bool.eq_false_iff.mpr c53
        subst c53
        have H1 : (some false) = some r := by rw [if_neg (show ¬ (false = true) by decide)] at H; exact H
        clear H
        have H := H1
        clear H1
        obtain rfl := Option.some.inj H
        obtain ⟨Ao68, co68, eo68⟩ := Kd.V_slice HO_11.out
        subst eo68
        go_wp2_with (first | ((with_reducible refine gate_callee (f := 30) rfl ?_); refine goesL_ (some 91) rfl rfl Try.func30 (by kernel_rfl) rfl #[.slice Ao68 t532.length co68, .int .i64 a1, .int .i64 a3, .bool a4] rfl zP ?_; (with_reducible refine (sema_Acquire.calls kj8 (fun k_ => True) _ _ t532 a1 a3 a4 t562 t565 t566 _ ?side1 A51.out).mono ?_); (case side1 => exact HO_11.out); rintro e w69 ⟨v563, rfl, ho0, hb⟩; refine ⟨_, rfl, ?_⟩; have n0_ := Aside0.mk (Kd.N_below (zN HO_0) hb); have n1_ := Aside0.mk (Kd.V_below (zV HO_11) hb); have n2_ := Aside0.mk (Kd.V_lower (Kd.V_mono (ok' := fun k_ => True) ho0 (fun k_ hk_ => trivial)) (below_size (zB HB))); have n3_ := Aside0.mk (below_step (zB HB) hb); clear HO_0; clear HO_11; clear HB; have HO_0 := n0_; have HO_11 := n1_; have HO564 := n2_; have HB := n3_; clear n0_ n1_ n2_ n3_; (try clear hb); (try clear hb2); (try clear hk); (try clear hi); (try clear ho0)) | ((with_reducible refine gate_callee (f := 33) rfl ?_); refine goesL_ (some 95) rfl rfl Try.func33 (by kernel_rfl) rfl #[] rfl zP ?_; (with_reducible refine (deadboltlaw10_alive.calls kj8  false _ A52.out).mono ?_); rintro e w70 ⟨rfl, hb⟩; refine ⟨_, rfl, ?_⟩; have n0_ := Aside0.mk (Kd.N_below (zN HO_0) hb); have n1_ := Aside0.mk (Kd.V_below (zV HO_11) hb); have n2_ := Aside0.mk (Kd.V_below (zV HO564) hb); have n3_ := Aside0.mk (below_step (zB HB) hb); clear HO_0; clear HO_11; clear HO564; clear HB; have HO_0 := n0_; have HO_11 := n1_; have HO564 := n2_; have HB := n3_; clear n0_ n1_ n2_ n3_; (try clear hb); (try clear hb2); (try clear hk); (try clear hi)))
        go_ret
        exact ⟨by first | rfl | (simp [errW_none, errW_some] <;> rfl) | (simp [*, errW_none, errW_some] <;> rfl), zB HB⟩
     ·rw [if_neg c29] at H
      have c29b0 : (t535 == (-1)) = false := beq_eq_false_iff_ne.mpr c29
      have c29b1 : (t535 != (-1)) = true := bne_iff_ne.mpr c29
      replace H := Option.bind_eq_some_iff.mp H
      obtain ⟨⟨t550, t551⟩, A710, H⟩ := H
      replace H : ((sema_Queued.f t532 t535).bind fun bt552 => ((deadboltlaw10_alive.f kj8).bind fun t554 => (if t554 = true then (if t551 = 0 then (if bt552.2 = 0 then (some (bt552.1 == (wrap64 (t550 - 1)))) else (some false)) else (some false)) else (some false)))) = some r := H
      have A71 := Aside0.mk A710
      clear A710
      replace H := Option.bind_eq_some_iff.mp H
      obtain ⟨⟨t552, t553⟩, A720, H⟩ := H
      replace H : ((deadboltlaw10_alive.f kj8).bind fun t554 => (if t554 = true then (if t551 = 0 then (if t553 = 0 then (some (t552 == (wrap64 (t550 - 1)))) else (some false)) else (some false)) else (some false))) = some r := H
      have A72 := Aside0.mk A720
      clear A720
      replace H := Option.bind_eq_some_iff.mp H
      obtain ⟨t554, A730, H⟩ := H
      replace H : (if t554 = true then (if t551 = 0 then (if t553 = 0 then (some (t552 == (wrap64 (t550 - 1)))) else (some false)) else (some false)) else (some false)) = some r := H
      have A73 := Aside0.mk A730
      clear A730
      by_cases c74 : t554 = true
      ·subst c74
       have H1 : (if t551 = 0 then (if t553 = 0 then (some (t552 == (wrap64 (t550 - 1)))) else (some false)) else (some false)) = some r := by rw [if_pos rfl] at H; exact H
       clear H
       have H := H1
       clear H1
       by_cases c75 : t551 = 0
       ·rw [if_pos c75] at H
        have c75b0 : (t551 == 0) = true := beq_iff_eq.mpr c75
        have c75b1 : (t551 != 0) = false := bne_eq_false_iff_eq.mpr c75
        clear c75
        by_cases c76 : t553 = 0
        ·rw [if_pos c76] at H
         have c76b0 : (t553 == 0) = true := beq_iff_eq.mpr c76
         have c76b1 : (t553 != 0) = false := bne_eq_false_iff_eq.mpr c76
         clear c76
         obtain rfl := Option.some.inj H
         go_wp2_with (first | ((with_reducible refine gate_callee (f := 36) rfl ?_); refine goesL_ (some 60) rfl rfl Try.func36 (by kernel_rfl) rfl #[.slice Ao11 t529.length co11, .int .i64 t535] rfl zP ?_; (with_reducible refine (sema_Queued.calls _ _ t529 t535 t550 t551 _ ?side1 ?side2 A71.out).mono ?_); (case side1 => repeat (first | exact (Kd.N_reads' HO_0.out).2.2 | (with_reducible refine Kd.C_alloc ?_ _) | (with_reducible refine Kd.C_drewN ?_ _) | (with_reducible refine Kd.C_drew ?_))); (case side2 => exact (Kd.N_reads' HO_0.out).2.1); rintro e w77 ⟨rfl, hb⟩; refine ⟨_, rfl, ?_⟩; have n0_ := Aside0.mk (Kd.N_below (zN HO_0) hb); have n1_ := Aside0.mk (Kd.V_below (zV HO_11) hb); have n2_ := Aside0.mk (below_step (zB HB) hb); clear HO_0; clear HO_11; clear HB; have HO_0 := n0_; have HO_11 := n1_; have HB := n2_; clear n0_ n1_ n2_; (try clear hb); (try clear hb2); (try clear hk); (try clear hi); obtain ⟨Ao78, co78, eo78⟩ := Kd.V_slice HO_11.out; subst eo78) | ((with_reducible refine gate_callee (f := 36) rfl ?_); refine goesL_ (some 66) rfl rfl Try.func36 (by kernel_rfl) rfl #[.slice Ao78 t532.length co78, .int .i64 t535] rfl zP ?_; (with_reducible refine (sema_Queued.calls _ _ t532 t535 t552 t553 _ ?side1 ?side2 A72.out).mono ?_); (case side1 => repeat (first | exact (Kd.V_reads' HO_11.out).2.2 | (with_reducible refine Kd.C_alloc ?_ _) | (with_reducible refine Kd.C_drewN ?_ _) | (with_reducible refine Kd.C_drew ?_))); (case side2 => exact (Kd.V_reads' HO_11.out).2.1); rintro e w79 ⟨rfl, hb⟩; refine ⟨_, rfl, ?_⟩; have n0_ := Aside0.mk (Kd.N_below (zN HO_0) hb); have n1_ := Aside0.mk (Kd.V_below (zV HO_11) hb); have n2_ := Aside0.mk (below_step (zB HB) hb); clear HO_0; clear HO_11; clear HB; have HO_0 := n0_; have HO_11 := n1_; have HB := n2_; clear n0_ n1_ n2_; (try clear hb); (try clear hb2); (try clear hk); (try clear hi)) | ((with_reducible refine gate_callee (f := 33) rfl ?_); refine goesL_ (some 69) rfl rfl Try.func33 (by kernel_rfl) rfl #[] rfl zP ?_; (with_reducible refine (deadboltlaw10_alive.calls kj8  true _ A73.out).mono ?_); rintro e w80 ⟨rfl, hb⟩; refine ⟨_, rfl, ?_⟩; have n0_ := Aside0.mk (Kd.N_below (zN HO_0) hb); have n1_ := Aside0.mk (Kd.V_below (zV HO_11) hb); have n2_ := Aside0.mk (below_step (zB HB) hb); clear HO_0; clear HO_11; clear HB; have HO_0 := n0_; have HO_11 := n1_; have HB := n2_; clear n0_ n1_ n2_; (try clear hb); (try clear hb2); (try clear hk); (try clear hi)))
         go_ret
         exact ⟨by first | rfl | (simp [errW_none, errW_some] <;> rfl) | (simp [*, errW_none, errW_some] <;> rfl), zB HB⟩
        ·rw [if_neg c76] at H
         have c76b0 : (t553 == 0) = false := beq_eq_false_iff_ne.mpr c76
         have c76b1 : (t553 != 0) = true := bne_iff_ne.mpr c76
         obtain rfl := Option.some.inj H
         go_wp2_with (first | ((with_reducible refine gate_callee (f := 36) rfl ?_); refine goesL_ (some 60) rfl rfl Try.func36 (by kernel_rfl) rfl #[.slice Ao11 t529.length co11, .int .i64 t535] rfl zP ?_; (with_reducible refine (sema_Queued.calls _ _ t529 t535 t550 t551 _ ?side1 ?side2 A71.out).mono ?_); (case side1 => repeat (first | exact (Kd.N_reads' HO_0.out).2.2 | (with_reducible refine Kd.C_alloc ?_ _) | (with_reducible refine Kd.C_drewN ?_ _) | (with_reducible refine Kd.C_drew ?_))); (case side2 => exact (Kd.N_reads' HO_0.out).2.1); rintro e w81 ⟨rfl, hb⟩; refine ⟨_, rfl, ?_⟩; have n0_ := Aside0.mk (Kd.N_below (zN HO_0) hb); have n1_ := Aside0.mk (Kd.V_below (zV HO_11) hb); have n2_ := Aside0.mk (below_step (zB HB) hb); clear HO_0; clear HO_11; clear HB; have HO_0 := n0_; have HO_11 := n1_; have HB := n2_; clear n0_ n1_ n2_; (try clear hb); (try clear hb2); (try clear hk); (try clear hi); obtain ⟨Ao82, co82, eo82⟩ := Kd.V_slice HO_11.out; subst eo82) | ((with_reducible refine gate_callee (f := 36) rfl ?_); refine goesL_ (some 66) rfl rfl Try.func36 (by kernel_rfl) rfl #[.slice Ao82 t532.length co82, .int .i64 t535] rfl zP ?_; (with_reducible refine (sema_Queued.calls _ _ t532 t535 t552 t553 _ ?side1 ?side2 A72.out).mono ?_); (case side1 => repeat (first | exact (Kd.V_reads' HO_11.out).2.2 | (with_reducible refine Kd.C_alloc ?_ _) | (with_reducible refine Kd.C_drewN ?_ _) | (with_reducible refine Kd.C_drew ?_))); (case side2 => exact (Kd.V_reads' HO_11.out).2.1); rintro e w83 ⟨rfl, hb⟩; refine ⟨_, rfl, ?_⟩; have n0_ := Aside0.mk (Kd.N_below (zN HO_0) hb); have n1_ := Aside0.mk (Kd.V_below (zV HO_11) hb); have n2_ := Aside0.mk (below_step (zB HB) hb); clear HO_0; clear HO_11; clear HB; have HO_0 := n0_; have HO_11 := n1_; have HB := n2_; clear n0_ n1_ n2_; (try clear hb); (try clear hb2); (try clear hk); (try clear hi)) | ((with_reducible refine gate_callee (f := 33) rfl ?_); refine goesL_ (some 69) rfl rfl Try.func33 (by kernel_rfl) rfl #[] rfl zP ?_; (with_reducible refine (deadboltlaw10_alive.calls kj8  true _ A73.out).mono ?_); rintro e w84 ⟨rfl, hb⟩; refine ⟨_, rfl, ?_⟩; have n0_ := Aside0.mk (Kd.N_below (zN HO_0) hb); have n1_ := Aside0.mk (Kd.V_below (zV HO_11) hb); have n2_ := Aside0.mk (below_step (zB HB) hb); clear HO_0; clear HO_11; clear HB; have HO_0 := n0_; have HO_11 := n1_; have HB := n2_; clear n0_ n1_ n2_; (try clear hb); (try clear hb2); (try clear hk); (try clear hi)))
         go_ret
         exact ⟨by first | rfl | (simp [errW_none, errW_some] <;> rfl) | (simp [*, errW_none, errW_some] <;> rfl), zB HB⟩
       ·rw [if_neg c75] at H
        have c75b0 : (t551 == 0) = false := beq_eq_false_iff_ne.mpr c75
        have c75b1 : (t551 != 0) = true := bne_iff_ne.mpr c75
        obtain rfl := Option.some.inj H
        go_wp2_with (first | ((with_reducible refine gate_callee (f := 36) rfl ?_); refine goesL_ (some 60) rfl rfl Try.func36 (by kernel_rfl) rfl #[.slice Ao11 t529.length co11, .int .i64 t535] rfl zP ?_; (with_reducible refine (sema_Queued.calls _ _ t529 t535 t550 t551 _ ?side1 ?side2 A71.out).mono ?_); (case side1 => repeat (first | exact (Kd.N_reads' HO_0.out).2.2 | (with_reducible refine Kd.C_alloc ?_ _) | (with_reducible refine Kd.C_drewN ?_ _) | (with_reducible refine Kd.C_drew ?_))); (case side2 => exact (Kd.N_reads' HO_0.out).2.1); rintro e w85 ⟨rfl, hb⟩; refine ⟨_, rfl, ?_⟩; have n0_ := Aside0.mk (Kd.N_below (zN HO_0) hb); have n1_ := Aside0.mk (Kd.V_below (zV HO_11) hb); have n2_ := Aside0.mk (below_step (zB HB) hb); clear HO_0; clear HO_11; clear HB; have HO_0 := n0_; have HO_11 := n1_; have HB := n2_; clear n0_ n1_ n2_; (try clear hb); (try clear hb2); (try clear hk); (try clear hi); obtain ⟨Ao86, co86, eo86⟩ := Kd.V_slice HO_11.out; subst eo86) | ((with_reducible refine gate_callee (f := 36) rfl ?_); refine goesL_ (some 66) rfl rfl Try.func36 (by kernel_rfl) rfl #[.slice Ao86 t532.length co86, .int .i64 t535] rfl zP ?_; (with_reducible refine (sema_Queued.calls _ _ t532 t535 t552 t553 _ ?side1 ?side2 A72.out).mono ?_); (case side1 => repeat (first | exact (Kd.V_reads' HO_11.out).2.2 | (with_reducible refine Kd.C_alloc ?_ _) | (with_reducible refine Kd.C_drewN ?_ _) | (with_reducible refine Kd.C_drew ?_))); (case side2 => exact (Kd.V_reads' HO_11.out).2.1); rintro e w87 ⟨rfl, hb⟩; refine ⟨_, rfl, ?_⟩; have n0_ := Aside0.mk (Kd.N_below (zN HO_0) hb); have n1_ := Aside0.mk (Kd.V_below (zV HO_11) hb); have n2_ := Aside0.mk (below_step (zB HB) hb); clear HO_0; clear HO_11; clear HB; have HO_0 := n0_; have HO_11 := n1_; have HB := n2_; clear n0_ n1_ n2_; (try clear hb); (try clear hb2); (try clear hk); (try clear hi)) | ((with_reducible refine gate_callee (f := 33) rfl ?_); refine goesL_ (some 69) rfl rfl Try.func33 (by kernel_rfl) rfl #[] rfl zP ?_; (with_reducible refine (deadboltlaw10_alive.calls kj8  true _ A73.out).mono ?_); rintro e w88 ⟨rfl, hb⟩; refine ⟨_, rfl, ?_⟩; have n0_ := Aside0.mk (Kd.N_below (zN HO_0) hb); have n1_ := Aside0.mk (Kd.V_below (zV HO_11) hb); have n2_ := Aside0.mk (below_step (zB HB) hb); clear HO_0; clear HO_11; clear HB; have HO_0 := n0_; have HO_11 := n1_; have HB := n2_; clear n0_ n1_ n2_; (try clear hb); (try clear hb2); (try clear hk); (try clear hi)))
        go_ret
        exact ⟨by first | rfl | (simp [errW_none, errW_some] <;> rfl) | (simp [*, errW_none, errW_some] <;> rfl), zB HB⟩
      ·replace c74 := Bool.eq_false_iff.mpr c74
       subst c74
       have H1 : (some false) = some r := by rw [if_neg (show ¬ (false = true) by decide)] at H; exact H
       clear H
       have H := H1
       clear H1
       obtain rfl := Option.some.inj H
       go_wp2_with (first | ((with_reducible refine gate_callee (f := 36) rfl ?_); refine goesL_ (some 60) rfl rfl Try.func36 (by kernel_rfl) rfl #[.slice Ao11 t529.length co11, .int .i64 t535] rfl zP ?_; (with_reducible refine (sema_Queued.calls _ _ t529 t535 t550 t551 _ ?side1 ?side2 A71.out).mono ?_); (case side1 => repeat (first | exact (Kd.N_reads' HO_0.out).2.2 | (with_reducible refine Kd.C_alloc ?_ _) | (with_reducible refine Kd.C_drewN ?_ _) | (with_reducible refine Kd.C_drew ?_))); (case side2 => exact (Kd.N_reads' HO_0.out).2.1); rintro e w89 ⟨rfl, hb⟩; refine ⟨_, rfl, ?_⟩; have n0_ := Aside0.mk (Kd.N_below (zN HO_0) hb); have n1_ := Aside0.mk (Kd.V_below (zV HO_11) hb); have n2_ := Aside0.mk (below_step (zB HB) hb); clear HO_0; clear HO_11; clear HB; have HO_0 := n0_; have HO_11 := n1_; have HB := n2_; clear n0_ n1_ n2_; (try clear hb); (try clear hb2); (try clear hk); (try clear hi); obtain ⟨Ao90, co90, eo90⟩ := Kd.V_slice HO_11.out; subst eo90) | ((with_reducible refine gate_callee (f := 36) rfl ?_); refine goesL_ (some 66) rfl rfl Try.func36 (by kernel_rfl) rfl #[.slice Ao90 t532.length co90, .int .i64 t535] rfl zP ?_; (with_reducible refine (sema_Queued.calls _ _ t532 t535 t552 t553 _ ?side1 ?side2 A72.out).mono ?_); (case side1 => repeat (first | exact (Kd.V_reads' HO_11.out).2.2 | (with_reducible refine Kd.C_alloc ?_ _) | (with_reducible refine Kd.C_drewN ?_ _) | (with_reducible refine Kd.C_drew ?_))); (case side2 => exact (Kd.V_reads' HO_11.out).2.1); rintro e w91 ⟨rfl, hb⟩; refine ⟨_, rfl, ?_⟩; have n0_ := Aside0.mk (Kd.N_below (zN HO_0) hb); have n1_ := Aside0.mk (Kd.V_below (zV HO_11) hb); have n2_ := Aside0.mk (below_step (zB HB) hb); clear HO_0; clear HO_11; clear HB; have HO_0 := n0_; have HO_11 := n1_; have HB := n2_; clear n0_ n1_ n2_; (try clear hb); (try clear hb2); (try clear hk); (try clear hi)) | ((with_reducible refine gate_callee (f := 33) rfl ?_); refine goesL_ (some 69) rfl rfl Try.func33 (by kernel_rfl) rfl #[] rfl zP ?_; (with_reducible refine (deadboltlaw10_alive.calls kj8  false _ A73.out).mono ?_); rintro e w92 ⟨rfl, hb⟩; refine ⟨_, rfl, ?_⟩; have n0_ := Aside0.mk (Kd.N_below (zN HO_0) hb); have n1_ := Aside0.mk (Kd.V_below (zV HO_11) hb); have n2_ := Aside0.mk (below_step (zB HB) hb); clear HO_0; clear HO_11; clear HB; have HO_0 := n0_; have HO_11 := n1_; have HB := n2_; clear n0_ n1_ n2_; (try clear hb); (try clear hb2); (try clear hk); (try clear hi)))
       go_ret
       exact ⟨by first | rfl | (simp [errW_none, errW_some] <;> rfl) | (simp [*, errW_none, errW_some] <;> rfl), zB HB⟩
 ·rw [if_neg c8] at H
  have c8b0 : (t536 == 0) = false := beq_eq_false_iff_ne.mpr c8
  have c8b1 : (t536 != 0) = true := bne_iff_ne.mpr c8
  replace H := Option.bind_eq_some_iff.mp H
  obtain ⟨t537, A930, H⟩ := H
  replace H : (if t537 = true then (some ((t532.length : Int) == 0)) else (some false)) = some r := H
  have A93 := Aside0.mk A930
  clear A930
  by_cases c94 : t537 = true
  ·subst c94
   have H1 : (some ((t532.length : Int) == 0)) = some r := by rw [if_pos rfl] at H; exact H
   clear H
   have H := H1
   clear H1
   obtain rfl := Option.some.inj H
   go_enter Try.func9, Try.ntmps9
   go_wp2_with (first | ((with_reducible refine gate_callee (f := 34) rfl ?_); refine goesL_ (some 22) rfl rfl Try.func34 (by kernel_rfl) rfl #[.slice A0 l0.length c0] rfl zP ?_; (with_reducible refine (deadboltlaw10_few.calls k (fun k_ => k_ < w.heap.size) _ _ l0 t529 _ ?side1 A6.out).mono ?_); (case side1 => exact Kd.V_mk HC0.out (Kd.F_below (Kd.C_F k33_heap HR0.out) (zB HB))); rintro e w95 ⟨v530, rfl, ho0, hb⟩; refine ⟨_, rfl, ?_⟩; have n0_ := Aside0.mk (Kd.N_lower (Kd.N_mono (ok' := fun k_ => True) ho0 (fun k_ hk_ => trivial)) (below_size (zB HB))); have n1_ := Aside0.mk (below_step (zB HB) hb); clear HB; have HO531 := n0_; have HB := n1_; clear n0_ n1_; (try clear hb); (try clear hb2); (try clear hk); (try clear hi); (try clear ho0); obtain ⟨Ao96, co96, eo96⟩ := Kd.N_slice HO531.out; subst eo96) | ((with_reducible refine gate_callee (f := 32) rfl ?_); refine goesL_ (some 26) rfl rfl Try.func32 (by kernel_rfl) rfl #[.slice Ao96 t529.length co96, .int .i64 a1] rfl zP ?_; (with_reducible refine (sema_Release.calls (fun k_ => True) _ _ t529 a1 t532 t535 t536 _ ?side1 A7.out).mono ?_); (case side1 => exact Kd.N_V (HO531.out)); rintro e w97 ⟨v533, rfl, ho0, hb⟩; refine ⟨_, rfl, ?_⟩; have n0_ := Aside0.mk (Kd.N_below (zN HO531) hb); have n1_ := Aside0.mk (Kd.V_lower (Kd.V_mono (ok' := fun k_ => True) ho0 (fun k_ hk_ => trivial)) (below_size (zB HB))); have n2_ := Aside0.mk (below_step (zB HB) hb); clear HO531; clear HB; have HO531 := n0_; have HO534 := n1_; have HB := n2_; clear n0_ n1_ n2_; (try clear hb); (try clear hb2); (try clear hk); (try clear hi); (try clear ho0)) | ((with_reducible refine gate_callee (f := 33) rfl ?_); refine goesL_ (some 32) rfl rfl Try.func33 (by kernel_rfl) rfl #[] rfl zP ?_; (with_reducible refine (deadboltlaw10_alive.calls k  true _ A93.out).mono ?_); rintro e w98 ⟨rfl, hb⟩; refine ⟨_, rfl, ?_⟩; have n0_ := Aside0.mk (Kd.N_below (zN HO531) hb); have n1_ := Aside0.mk (Kd.V_below (zV HO534) hb); have n2_ := Aside0.mk (below_step (zB HB) hb); clear HO531; clear HO534; clear HB; have HO531 := n0_; have HO534 := n1_; have HB := n2_; clear n0_ n1_ n2_; (try clear hb); (try clear hb2); (try clear hk); (try clear hi); obtain ⟨Ao99, co99, eo99⟩ := Kd.V_slice HO534.out; subst eo99))
   go_ret
   exact ⟨by first | rfl | (simp [errW_none, errW_some] <;> rfl) | (simp [*, errW_none, errW_some] <;> rfl), zB HB⟩
  ·replace c94 := Bool.eq_false_iff.mpr c94
   subst c94
   have H1 : (some false) = some r := by rw [if_neg (show ¬ (false = true) by decide)] at H; exact H
   clear H
   have H := H1
   clear H1
   obtain rfl := Option.some.inj H
   go_enter Try.func9, Try.ntmps9
   go_wp2_with (first | ((with_reducible refine gate_callee (f := 34) rfl ?_); refine goesL_ (some 22) rfl rfl Try.func34 (by kernel_rfl) rfl #[.slice A0 l0.length c0] rfl zP ?_; (with_reducible refine (deadboltlaw10_few.calls k (fun k_ => k_ < w.heap.size) _ _ l0 t529 _ ?side1 A6.out).mono ?_); (case side1 => exact Kd.V_mk HC0.out (Kd.F_below (Kd.C_F k33_heap HR0.out) (zB HB))); rintro e w100 ⟨v530, rfl, ho0, hb⟩; refine ⟨_, rfl, ?_⟩; have n0_ := Aside0.mk (Kd.N_lower (Kd.N_mono (ok' := fun k_ => True) ho0 (fun k_ hk_ => trivial)) (below_size (zB HB))); have n1_ := Aside0.mk (below_step (zB HB) hb); clear HB; have HO531 := n0_; have HB := n1_; clear n0_ n1_; (try clear hb); (try clear hb2); (try clear hk); (try clear hi); (try clear ho0); obtain ⟨Ao101, co101, eo101⟩ := Kd.N_slice HO531.out; subst eo101) | ((with_reducible refine gate_callee (f := 32) rfl ?_); refine goesL_ (some 26) rfl rfl Try.func32 (by kernel_rfl) rfl #[.slice Ao101 t529.length co101, .int .i64 a1] rfl zP ?_; (with_reducible refine (sema_Release.calls (fun k_ => True) _ _ t529 a1 t532 t535 t536 _ ?side1 A7.out).mono ?_); (case side1 => exact Kd.N_V (HO531.out)); rintro e w102 ⟨v533, rfl, ho0, hb⟩; refine ⟨_, rfl, ?_⟩; have n0_ := Aside0.mk (Kd.N_below (zN HO531) hb); have n1_ := Aside0.mk (Kd.V_lower (Kd.V_mono (ok' := fun k_ => True) ho0 (fun k_ hk_ => trivial)) (below_size (zB HB))); have n2_ := Aside0.mk (below_step (zB HB) hb); clear HO531; clear HB; have HO531 := n0_; have HO534 := n1_; have HB := n2_; clear n0_ n1_ n2_; (try clear hb); (try clear hb2); (try clear hk); (try clear hi); (try clear ho0)) | ((with_reducible refine gate_callee (f := 33) rfl ?_); refine goesL_ (some 32) rfl rfl Try.func33 (by kernel_rfl) rfl #[] rfl zP ?_; (with_reducible refine (deadboltlaw10_alive.calls k  false _ A93.out).mono ?_); rintro e w103 ⟨rfl, hb⟩; refine ⟨_, rfl, ?_⟩; have n0_ := Aside0.mk (Kd.N_below (zN HO531) hb); have n1_ := Aside0.mk (Kd.V_below (zV HO534) hb); have n2_ := Aside0.mk (below_step (zB HB) hb); clear HO531; clear HO534; clear HB; have HO531 := n0_; have HO534 := n1_; have HB := n2_; clear n0_ n1_ n2_; (try clear hb); (try clear hb2); (try clear hk); (try clear hi)))
   go_ret
   exact ⟨by first | rfl | (simp [errW_none, errW_some] <;> rfl) | (simp [*, errW_none, errW_some] <;> rfl), zB HB⟩

end Go.Proofs.Ytnjnjajgpkmfhaa.PX

/-
 The law SemaApart, told of its printed form.
-/
namespace Go.Proofs.Ytnjnjajgpkmfhaa.PX
open Go.RowKit Go.Proofs.YtnjnjajgpkmfhaaW.PrintWords Go.Proofs.YtnjnjajgpkmfhaaW.PrintLast Go.Proofs.YtnjnjajgpkmfhaaW.PrintMore
/-- Does somebody wait here: 1 or 0. -/
def wI (who : Int) (l : List Int) : Int := if who ∈ l then 1 else 0
theorem cnt_cons (who : Int) (x : Sp) (l : List Sp) : cntI who (x :: l) = cntI who l + wI who x.f2 := by
 unfold cntI wI
 by_cases h : who ∈ x.f2
 ·rw [List.filter_cons_of_pos (by simpa using h), if_pos h, List.length_cons]; omega
 ·rw [List.filter_cons_of_neg (by simpa using h), if_neg h]; omega
theorem cnt_off (who a : Int) : ∀ {l : List Sp}, UpL l → cntI who l = cntI who (offS l a) + wI who (getT l a).f2
 | [], _ => by simp [cntI, offS, wI, getT]
 | x :: l, h => by
  obtain ⟨h1, h2⟩ := List.pairwise_cons.1 h
  have ih := cnt_off who a h2
  rw [offS_cons, cnt_cons]
  by_cases he : x.f0 = a
  ·have hg : getT (x :: l) a = x := by unfold getT; rw [List.find?_cons_of_pos (by simpa using he)]; rfl
   have ho : offS l a = l := List.filter_eq_self.2 fun y hy => by
    have := h1 y hy
    have hne : y.f0 ≠ a := fun e => by rw [he, e] at this; exact less_irrefl _ this
    simpa using hne
   rw [if_pos he, hg, ho]
  ·have hg : getT (x :: l) a = getT l a := by unfold getT; rw [List.find?_cons_of_neg (by simpa using he)]
   rw [if_neg he, hg, cnt_cons, ih]
   omega
theorem cnt_put (who : Int) (s : Sp) : ∀ (l : List Sp), cntI who (putS l s) = cntI who l + wI who s.f2
 | [] => by rw [putS_nil, cnt_cons]
 | x :: l => by
  rw [putS_cons]
  split
  ·rw [cnt_cons]
  ·rw [cnt_cons, cnt_put who s l, cnt_cons]
   omega
theorem cnt_set (who : Int) (l : List Sp) (s : Sp) : cntI who (setT l s) = cntI who (offS l s.f0) + wI who s.f2 := by
 unfold setT
 split
 ·rename_i h
  rw [h.2]
  simp [wI]
 ·exact cnt_put who s _
theorem apart_all (l : List Sp) (a other who : Int) (first : Bool) : deadboltlaw10_SemaApart.f 5000 l a other who first = some true := by
 have hL : (fewF l).length ≤ 80 := by have := few_len l; omega
 have h2 := few_lens l
 unfold deadboltlaw10_SemaApart.f
 rw [few10_f l (by omega)]
 simp only [Option.bind_some]
 generalize fewF l = t at *
 by_cases hok : ¬ Tab t ∨ isAddrB a = false
 ·rw [rel_bad hL h2 hok]
  simp only [Option.bind_some]
  rw [if_neg (by simp), semalive_ok (by omega)]
  rfl
 ·have hT : Tab t := Classical.byContradiction fun h => hok (.inl h)
  have ha' : isAddrB a = true := by cases h : isAddrB a; exact absurd (.inr h) hok; rfl
  have ha := (addr_iff a).1 ha'
  obtain ⟨hS, h0⟩ := get_spot hT ha
  have hf := hT.few
  have hf1 := hS.2.1
  have h3 := ((lineB_iff _).1 hS.2.2.1).2.2
  -- what is left behind a grant, and what it tells of other addresses
  have far : ∀ (s : Sp) (x : Int), SpotP s → s.f0 = a → (setT t s).length ≤ 64 → (∀ k, 4900 ≤ k → deadboltlaw10_SemaApart.j0 k t a who first (setT t s) x false = some true) →
    (if a = other then (deadboltlaw10_SemaApart.j0 5000 t a who first (setT t s) x false) else ((deadboltref09_Right.f 5000 (setT t s)).bind fun t538 => (if t538 = true then ((deadboltref09_Get.f 5000 (setT t s) other).bind fun bt539 => ((deadboltref09_Get.f 5000 t other).bind fun bt544 => ((deadboltref09_Spots.f 5000 bt539.1 bt539.2.1 bt539.2.2 bt544.1 bt544.2.1 bt544.2.2).bind fun t549 => (deadboltlaw10_SemaApart.j0 5000 t a who first (setT t s) x (!t549))))) else (deadboltlaw10_SemaApart.j0 5000 t a who first (setT t s) x false)))) = some true := fun s x hs hsa hn hj => by
   by_cases hao : a = other
   ·rw [if_pos hao]
    exact hj 5000 (by omega)
   ·rw [if_neg hao]
    have hT2 := tab_set hT hs hn
    obtain ⟨b, e1, e2⟩ := refright_f (setT t s) (by omega) hT2.lens (k := 5000) (by omega)
    rw [e1, e2.2 hT2]
    simp only [Option.bind_some]
    rw [if_pos trivial, refget_f _ other (by omega) (by omega), refget_f _ other (by omega) (by omega), getT_set hT hs, if_neg (by rw [hsa]; exact fun e => hao e.symm)]
    simp only [Option.bind_some]
    have hg : (getT t other).f2.length ≤ 1000 := by
     by_cases hm : other ∈ t.map (·.f0)
     ·exact h2 _ (getT_in hm).2.2
     ·rw [getT_out hm]; simp
    obtain ⟨b2, e3, e4⟩ := refspots_f (getT t other) (getT t other) hg (k := 5000) (by omega)
    rw [e3, e4.2 rfl]
    exact hj 5000 (by omega)
  rw [rel_f hT ha, relT]
  simp only [Option.bind_some]
  cases hl : (getT t a).f2 with
  | cons x r =>
   simp only
   rw [if_pos trivial]
   have hsp := pop_spot hS hl
   rw [h0] at hsp
   have hroom := pop_room hT hl (c := (getT t a).f1) (t := r)
   refine far _ x hsp rfl hroom fun k hk => ?_
   obtain ⟨k, rfl⟩ : ∃ q, k = q + 1 := ⟨k - 1, by omega⟩
   have hx : 0 ≤ x := ((lineB_iff _).1 hS.2.2.1).2.1 x (by rw [hl]; simp)
   have hxr : x ∉ r := by
    have := ((lineB_iff _).1 hS.2.2.1).1
    rw [hl] at this
    exact (List.nodup_cons.1 this).1
   have hT2 := tab_set hT hsp hroom
   have hc1 := cnt_off x a hT.upl
   have hc2 := cnt_set x t ⟨a, (getT t a).f1, r⟩
   have hw1 : wI x (getT t a).f2 = 1 := by unfold wI; rw [if_pos (by rw [hl]; simp)]
   have hw2 : wI x r = 0 := by unfold wI; rw [if_neg hxr]
   have hle := cnt_le x t
   simp only at hc2
   rw [deadboltlaw10_SemaApart.j0, if_neg Bool.false_ne_true, if_neg (by omega), queued_f hT hx, queued_f hT2 hx, semalive_ok (by omega)]
   simp only [Option.bind_some]
   rw [if_pos trivial, if_pos trivial, if_pos trivial, wrap_id (by omega) (by omega)]
   refine congrArg some (beq_iff_eq.2 ?_)
   omega
  | nil =>
   simp only
   by_cases hm : (getT t a).f1 = 2147483647
   ·rw [if_pos hm]
    simp only
    rw [if_neg (by simp), semalive_ok (by omega)]
    rfl
   ·rw [if_neg hm]
    by_cases hq : (setT t ⟨a, (getT t a).f1 + 1, []⟩).length > 64
    ·rw [if_pos hq]
     simp only
     rw [if_neg (by simp), semalive_ok (by omega)]
     rfl
    ·rw [if_neg hq]
     simp only
     rw [if_pos trivial]
     have hsp := more_spot hS hl hm
     rw [h0] at hsp
     have hroom : (setT t ⟨a, (getT t a).f1 + 1, []⟩).length ≤ 64 := by omega
     refine far _ (-1) hsp rfl hroom fun k hk => ?_
     obtain ⟨k, rfl⟩ : ∃ q, k = q + 1 := ⟨k - 1, by omega⟩
     have hT2 := tab_set hT hsp hroom
     have hg : getT (setT t ⟨a, (getT t a).f1 + 1, []⟩) a = ⟨a, (getT t a).f1 + 1, []⟩ := by rw [getT_set hT hsp, if_pos rfl]
     have hback : setT (setT t ⟨a, (getT t a).f1 + 1, []⟩) ⟨a, (getT t a).f1 + 1 - 1, []⟩ = t := by
      have hs1 : SpotP ⟨a, (getT t a).f1 + 1 - 1, []⟩ := less_spot hsp (by show (getT t a).f1 + 1 > 0; omega)
      have e : (⟨a, (getT t a).f1 + 1 - 1, []⟩ : Sp) = getT t a := by
       have : getT t a = ⟨(getT t a).f0, (getT t a).f1, (getT t a).f2⟩ := rfl
       rw [this, h0, hl, show (getT t a).f1 + 1 - 1 = (getT t a).f1 by omega]
      rw [set_set hT hsp hs1 hroom rfl, e]
      exact set_get hT ha
     have hacq : ∀ y, 0 ≤ y → sema_Acquire.f k (setT t ⟨a, (getT t a).f1 + 1, []⟩) a y first = some (t, true, 0) := fun y hy => by
      rw [acq_f hT2 ha hy first (by omega), acqT, hg]
      simp only
      rw [if_neg (by simp), if_pos (by omega), setR, hback, if_neg (by omega)]
     have hsm : deadboltref09_Same.f k t t = some true := same_small ⟨by omega, hT.lens⟩ (by omega)
     rw [deadboltlaw10_SemaApart.j0, if_neg Bool.false_ne_true, if_pos rfl]
     by_cases hw : who < 0
     ·rw [if_pos hw, hacq 0 (by omega), semalive_ok (by omega)]
      simp only [Option.bind_some]
      rw [if_pos trivial, if_pos trivial, if_pos trivial, hsm]
      rfl
     ·rw [if_neg hw, hacq who (by omega), semalive_ok (by omega)]
      simp only [Option.bind_some]
      rw [if_pos trivial, if_pos trivial, if_pos trivial, hsm]
      rfl
end Go.Proofs.Ytnjnjajgpkmfhaa.PX

/-
 A spot, opened.
-/
namespace Go.Proofs.Ytnjnjajgpkmfhaa.PX
open Go.RowKit Go.Proofs.YtnjnjajgpkmfhaaW.PrintWords
theorem opensP {H : Type} {enc : TypeId × Value → H} {w : World} : Opens enc Try.prog w 33 k33 (fun x => (Lit.int .i64 x.f0).wf = true ∧ (Lit.int .i64 x.f1).wf = true) := by
 intro fuel cs x h
 obtain ⟨a, hk, hw⟩ := Opens.struct (g := fun x : S33 => (x.f0, x.f1, x.f2)) Try.underlying33 (by kernel_rfl) (fun x : Int × Int × List Int => ⟨x.1, x.2.1, x.2.2⟩) (fun _ => rfl)
  (OpensF.cons rfl (by kernel_rfl) (Opens.int Try.underlying3) rfl (OpensF.cons rfl (by kernel_rfl) (Opens.int Try.underlying3) rfl (OpensF.one rfl (by kernel_rfl) (Opens.slice Try.underlying25 (by kernel_rfl) (Opens.int Try.underlying3))))) fuel cs x h
 exact ⟨a, hk, hw.1, hw.2.1⟩
end Go.Proofs.Ytnjnjajgpkmfhaa.PX
