/-
 The statement on SemaOrder, out of what its printed form comes to: for every input the call returns true, and each argument reads behind it as it read before.
-/
import Derived.Test.YtnjnjajgpkmfhaaBSemaOrder5
import Derived.Test.YtnjnjajgpkmfhaaRows
namespace Go.Proofs.Ytnjnjajgpkmfhaa.PX
open Go.RowKit Go.Proofs.YtnjnjajgpkmfhaaW.PrintWords Go.Proofs.YtnjnjajgpkmfhaaW.PrintLast Go.Proofs.YtnjnjajgpkmfhaaW.PrintMore
attribute [local go_sem] max2_int min2_int max_two min_two max_three min_three max_four min_four   -- for this text's walks alone
set_option linter.unusedVariables false
set_option linter.unusedSimpArgs false

/-! ### deadboltref10_May: function 35 -/
def deadboltref10_May.f (k : Nat) (l0 : List (S33)) (a1 : Int) : Option (Bool) := (deadboltref09_Right.f k l0).bind fun t437 => (if t437 = true then ((deadboltref08_Key.f a1).bind fun t438 => (some t438)) else (some false))
set_option maxHeartbeats 8000000 in
set_option maxRecDepth 100000 in
theorem deadboltref10_May.calls (k : Nat) (A0 : Option Addr) (c0 : Nat) (l0 : List (S33)) (a1 : Int) (r : Bool) (w : World) (hr0 : Kd.C k33 w A0 l0.length l0) (hc0 : l0.length ≤ c0) (h : deadboltref10_May.f k l0 a1 = some r) :
  Calls Try.prog 35 #[.slice A0 l0.length c0, .int .i64 a1] w fun e w' => e = .returned (.bool r) ∧ Below w.heap.size w w' := by
 have HR0 := Aside0.mk hr0
 have HC0 := Aside0.mk hc0
 clear hr0 hc0
 have HB := Aside0.mk (Below.refl w.heap.size w)
 have H : ((deadboltref09_Right.f k l0).bind fun t437 => (if t437 = true then ((deadboltref08_Key.f a1).bind fun t438 => (some t438)) else (some false))) = some r := h
 clear h
 replace H := Option.bind_eq_some_iff.mp H
 obtain ⟨t437, A30, H⟩ := H
 replace H : (if t437 = true then ((deadboltref08_Key.f a1).bind fun t438 => (some t438)) else (some false)) = some r := H
 have A3 := Aside0.mk A30
 clear A30
 by_cases c4 : t437 = true
 ·subst c4
  have H1 : ((deadboltref08_Key.f a1).bind fun t438 => (some t438)) = some r := by rw [if_pos rfl] at H; exact H
  clear H
  have H := H1
  clear H1
  replace H := Option.bind_eq_some_iff.mp H
  obtain ⟨t438, A50, H⟩ := H
  replace H : (some t438) = some r := H
  have A5 := Aside0.mk A50
  clear A50
  obtain rfl := Option.some.inj H
  go_enter Try.func35, Try.ntmps35
  go_wp2_with (first | ((with_reducible refine gate_callee (f := 18) rfl ?_); refine goesL_ (some 6) rfl rfl Try.func18 (by kernel_rfl) rfl #[.slice A0 l0.length c0] rfl (by (try simp only [List.map_toArray, List.map_cons, List.map_nil]); first | done | rfl | (simp only [List.length_drop, List.length_take]; rfl)) ?_; (with_reducible refine (deadboltref09_Right.calls k _ _ l0 true _ ?side1 ?side2 A3.out).mono ?_); (case side1 => repeat (first | exact HR0.out | (with_reducible refine Kd.C_alloc ?_ _) | (with_reducible refine Kd.C_drewN ?_ _) | (with_reducible refine Kd.C_drew ?_))); (case side2 => exact HC0.out); rintro e w6 ⟨rfl, hb⟩; refine ⟨_, rfl, ?_⟩; have n0_ := Aside0.mk (below_step (by repeat (first | (with_reducible first | exact HB.out | apply below_alloc | apply pw_below_drewN | apply below_drew1) | exact HB.out)) hb); clear HB; have HB := n0_; clear n0_; (try clear hb); (try clear hb2); (try clear hk); (try clear hi)) | (go_at_call 19; (with_reducible refine (deadboltref08_Key.calls a1 t438 _ A5.out).mono ?_); rintro e w' ⟨rfl, ⟨nd, rfl⟩⟩))
  go_ret
  exact ⟨by first | rfl | (simp [errW_none, errW_some] <;> rfl) | (simp [*, errW_none, errW_some] <;> rfl), by repeat (first | (with_reducible first | exact HB.out | apply below_alloc | apply pw_below_drewN | apply below_drew1) | exact HB.out)⟩
 ·replace c4 := Bool.eq_false_iff.mpr c4
  subst c4
  have H1 : (some false) = some r := by rw [if_neg (show ¬ (false = true) by decide)] at H; exact H
  clear H
  have H := H1
  clear H1
  obtain rfl := Option.some.inj H
  go_enter Try.func35, Try.ntmps35
  go_wp2_with (first | ((with_reducible refine gate_callee (f := 18) rfl ?_); refine goesL_ (some 6) rfl rfl Try.func18 (by kernel_rfl) rfl #[.slice A0 l0.length c0] rfl (by (try simp only [List.map_toArray, List.map_cons, List.map_nil]); first | done | rfl | (simp only [List.length_drop, List.length_take]; rfl)) ?_; (with_reducible refine (deadboltref09_Right.calls k _ _ l0 false _ ?side1 ?side2 A3.out).mono ?_); (case side1 => repeat (first | exact HR0.out | (with_reducible refine Kd.C_alloc ?_ _) | (with_reducible refine Kd.C_drewN ?_ _) | (with_reducible refine Kd.C_drew ?_))); (case side2 => exact HC0.out); rintro e w7 ⟨rfl, hb⟩; refine ⟨_, rfl, ?_⟩; have n0_ := Aside0.mk (below_step (by repeat (first | (with_reducible first | exact HB.out | apply below_alloc | apply pw_below_drewN | apply below_drew1) | exact HB.out)) hb); clear HB; have HB := n0_; clear n0_; (try clear hb); (try clear hb2); (try clear hk); (try clear hi)))
  go_ret
  exact ⟨by first | rfl | (simp [errW_none, errW_some] <;> rfl) | (simp [*, errW_none, errW_some] <;> rfl), by repeat (first | (with_reducible first | exact HB.out | apply below_alloc | apply pw_below_drewN | apply below_drew1) | exact HB.out)⟩

end Go.Proofs.Ytnjnjajgpkmfhaa.PX

namespace Go.Proofs.Ytnjnjajgpkmfhaa.PX
open Go.RowKit Go.Proofs.YtnjnjajgpkmfhaaW.PrintWords Go.Proofs.YtnjnjajgpkmfhaaW.PrintLast Go.Proofs.YtnjnjajgpkmfhaaW.PrintMore
attribute [local go_sem] max2_int min2_int max_two min_two max_three min_three max_four min_four   -- for this text's walks alone
set_option linter.unusedVariables false
set_option linter.unusedSimpArgs false

/-! ### deadboltlaw10_SemaOrder: function 7 -/
mutual
def deadboltlaw10_SemaOrder.j0 : Nat → List (S33) → Int → List Int → Bool → Bool → Option (Bool)
 | 0, _, _, _, _, _ => none
 | k + 1, x0, x1, x2, x3, x33 => if x33 = true then ((deadboltlaw10_alive.f k).bind fun t579 => (some t579)) else (if 0 ≤ (mn (x2.length : Int) 20) then (if (mn (x2.length : Int) 20) ≤ (x2.length : Int) then (deadboltlaw10_SemaOrder.l0 k x0 x1 x3 ([] : List Int) x0 (x2.take ((mn (x2.length : Int) 20) : Int).toNat) ((x2.take ((mn (x2.length : Int) 20) : Int).toNat).length : Int) 0) else (none)) else (none))
def deadboltlaw10_SemaOrder.l0 : Nat → List (S33) → Int → Bool → List Int → List (S33) → List Int → Int → Int → Option (Bool)
 | 0, _, _, _, _, _, _, _, _ => none
 | k + 1, x0, x1, x3, x9, x10, x40, x41, x42 => if x42 < x41 then (if 0 ≤ x42 then (if x42 < (x40.length : Int) then ((sema_Acquire.f k x10 x1 (rd x40 x42) x3).bind fun bt582 => (if bt582.2.2 = 0 then (if bt582.2.1 = true then (some false) else (if (rd x40 x42) < 0 then (some false) else (if x9.length < 17592186044416 then (deadboltlaw10_SemaOrder.l0 k x0 x1 x3 (x9 ++ [rd x40 x42]) bt582.1 x40 x41 (wrap64 (x42 + 1))) else (none)))) else (deadboltlaw10_SemaOrder.l0 k x0 x1 x3 x9 x10 x40 x41 (wrap64 (x42 + 1))))) else (none)) else (none)) else (deadboltlaw10_SemaOrder.l1 k x0 x1 x3 x9 x10 (x9.length : Int) 0)
def deadboltlaw10_SemaOrder.l1 : Nat → List (S33) → Int → Bool → List Int → List (S33) → Int → Int → Option (Bool)
 | 0, _, _, _, _, _, _, _ => none
 | k + 1, x0, x1, x3, x9, x10, x69, x70 => if x70 < x69 then ((sema_Release.f x10 x1).bind fun bt592 => (if 0 ≤ x70 then (if x70 < (x9.length : Int) then (if x3 = true then (if 0 ≤ (wrap64 ((wrap64 ((x9.length : Int) - 1)) - x70)) then (if (wrap64 ((wrap64 ((x9.length : Int) - 1)) - x70)) < (x9.length : Int) then (if bt592.2.2 = 0 then (if bt592.2.1 = (rd x9 (wrap64 ((wrap64 ((x9.length : Int) - 1)) - x70))) then (deadboltlaw10_SemaOrder.l1 k x0 x1 x3 x9 bt592.1 x69 (wrap64 (x70 + 1))) else (some false)) else (some false)) else (none)) else (none)) else (if bt592.2.2 = 0 then (if bt592.2.1 = (rd x9 x70) then (deadboltlaw10_SemaOrder.l1 k x0 x1 x3 x9 bt592.1 x69 (wrap64 (x70 + 1))) else (some false)) else (some false))) else (none)) else (none))) else ((deadboltlaw10_alive.f k).bind fun t590 => (if t590 = true then ((deadboltref09_Same.f k x10 x0).bind fun t591 => (some t591)) else (some false)))
end
def deadboltlaw10_SemaOrder.f (k : Nat) (l0 : List (S33)) (a1 : Int) (l2 : List Int) (a3 : Bool) : Option (Bool) := (deadboltlaw10_few.f k l0).bind fun t569 => ((deadboltref10_May.f k t569 a1).bind fun t572 => (if t572 = true then ((deadboltref09_Get.f k t569 a1).bind fun bt573 => ((deadboltref09_Empty.f bt573.1 bt573.2.1 bt573.2.2).bind fun t578 => (deadboltlaw10_SemaOrder.j0 k t569 a1 l2 a3 (!t578)))) else (deadboltlaw10_SemaOrder.j0 k t569 a1 l2 a3 true)))
set_option maxHeartbeats 8000000 in
set_option maxRecDepth 100000 in
theorem deadboltlaw10_SemaOrder.calls (k : Nat) (A0 : Option Addr) (c0 : Nat) (l0 : List (S33)) (a1 : Int) (A2 : Option Addr) (c2 : Nat) (l2 : List Int) (a3 : Bool) (r : Bool) (w : World) (hr0 : Kd.C k33 w A0 l0.length l0) (hc0 : l0.length ≤ c0) (hr2 : Kd.C (Kd.int .i64) w A2 l2.length l2) (hc2 : l2.length ≤ c2) (h : deadboltlaw10_SemaOrder.f k l0 a1 l2 a3 = some r) :
  Calls Try.prog 7 #[.slice A0 l0.length c0, .int .i64 a1, .slice A2 l2.length c2, .bool a3] w fun e w' => e = .returned (.bool r) ∧ Below w.heap.size w w' := by
 have HR0 := Aside0.mk hr0
 have HC0 := Aside0.mk hc0
 clear hr0 hc0
 have HR2 := Aside0.mk hr2
 have HC2 := Aside0.mk hc2
 clear hr2 hc2
 have HB := Aside0.mk (Below.refl w.heap.size w)
 have H : ((deadboltlaw10_few.f k l0).bind fun t569 => ((deadboltref10_May.f k t569 a1).bind fun t572 => (if t572 = true then ((deadboltref09_Get.f k t569 a1).bind fun bt573 => ((deadboltref09_Empty.f bt573.1 bt573.2.1 bt573.2.2).bind fun t578 => (deadboltlaw10_SemaOrder.j0 k t569 a1 l2 a3 (!t578)))) else (deadboltlaw10_SemaOrder.j0 k t569 a1 l2 a3 true)))) = some r := h
 clear h
 replace H := Option.bind_eq_some_iff.mp H
 obtain ⟨t569, A50, H⟩ := H
 replace H : ((deadboltref10_May.f k t569 a1).bind fun t572 => (if t572 = true then ((deadboltref09_Get.f k t569 a1).bind fun bt573 => ((deadboltref09_Empty.f bt573.1 bt573.2.1 bt573.2.2).bind fun t578 => (deadboltlaw10_SemaOrder.j0 k t569 a1 l2 a3 (!t578)))) else (deadboltlaw10_SemaOrder.j0 k t569 a1 l2 a3 true))) = some r := H
 have A5 := Aside0.mk A50
 clear A50
 have HC6 := Aside0.mk H
 clear H
 go_enter Try.func7, Try.ntmps7
 go_upto_region 2 with (first | ((with_reducible refine gate_callee (f := 34) rfl ?_); refine goesL_ (some 22) rfl rfl Try.func34 (by kernel_rfl) rfl #[.slice A0 l0.length c0] rfl (by (try simp only [List.map_toArray, List.map_cons, List.map_nil]); first | done | rfl | (simp only [List.length_drop, List.length_take]; rfl)) ?_; (with_reducible refine (deadboltlaw10_few.calls k (fun k_ => k_ < w.heap.size) _ _ l0 t569 _ ?side1 A5.out).mono ?_); (case side1 => exact Kd.V_mk HC0.out (Kd.F_below (Kd.C_F k33_heap HR0.out) (by repeat (first | (with_reducible first | exact HB.out | apply below_alloc | apply pw_below_drewN | apply below_drew1) | exact HB.out)))); rintro e w7 ⟨v570, rfl, ho0, hb⟩; refine ⟨_, rfl, ?_⟩; have n0_ := Aside0.mk (Kd.N_lower (Kd.N_mono (ok' := fun k_ => True) ho0 (fun k_ hk_ => trivial)) (below_size (by repeat (first | (with_reducible first | exact HB.out | apply below_alloc | apply pw_below_drewN | apply below_drew1) | exact HB.out)))); have n1_ := Aside0.mk (below_step (by repeat (first | (with_reducible first | exact HB.out | apply below_alloc | apply pw_below_drewN | apply below_drew1) | exact HB.out)) hb); clear HB; have HO571 := n0_; have HB := n1_; clear n0_ n1_; (try clear hb); (try clear hb2); (try clear hk); (try clear hi); (try clear ho0)))
 (try simp only [Act.put, List.setIfInBounds_toArray, List.set_cons_zero, List.set_cons_succ])
 go_cut [33] (fun v33 wc => ∃ (kq : Nat) (x33_5 : Bool), v33 = .bool x33_5 ∧ Aside0 (deadboltlaw10_SemaOrder.j0 kq t569 a1 l2 a3 x33_5 = some r) ∧ Aside0 (kq ≤ k) ∧ Aside0 (Kd.N k33 33 wc w.heap.size (fun _ => True) v570 t569) ∧ Aside0 (Below w.heap.size w wc))
 case first =>
  have H := HC6.out
  clear HC6
  replace H := Option.bind_eq_some_iff.mp H
  obtain ⟨t572, A80, H⟩ := H
  replace H : (if t572 = true then ((deadboltref09_Get.f k t569 a1).bind fun bt573 => ((deadboltref09_Empty.f bt573.1 bt573.2.1 bt573.2.2).bind fun t578 => (deadboltlaw10_SemaOrder.j0 k t569 a1 l2 a3 (!t578)))) else (deadboltlaw10_SemaOrder.j0 k t569 a1 l2 a3 true)) = some r := H
  have A8 := Aside0.mk A80
  clear A80
  by_cases c9 : t572 = true
  ·subst c9
   have H1 : ((deadboltref09_Get.f k t569 a1).bind fun bt573 => ((deadboltref09_Empty.f bt573.1 bt573.2.1 bt573.2.2).bind fun t578 => (deadboltlaw10_SemaOrder.j0 k t569 a1 l2 a3 (!t578)))) = some r := by rw [if_pos rfl] at H; exact H
   clear H
   have H := H1
   clear H1
   replace H := Option.bind_eq_some_iff.mp H
   obtain ⟨⟨t573, t574, t575⟩, A100, H⟩ := H
   replace H : ((deadboltref09_Empty.f t573 t574 t575).bind fun t578 => (deadboltlaw10_SemaOrder.j0 k t569 a1 l2 a3 (!t578))) = some r := H
   have A10 := Aside0.mk A100
   clear A100
   replace H := Option.bind_eq_some_iff.mp H
   obtain ⟨t578, A110, H⟩ := H
   replace H : (deadboltlaw10_SemaOrder.j0 k t569 a1 l2 a3 (!t578)) = some r := H
   have A11 := Aside0.mk A110
   clear A110
   have H' := Aside0.mk H
   clear H
   obtain ⟨Ao12, co12, eo12⟩ := Kd.N_slice HO571.out
   subst eo12
   go_wp2_with (first | ((with_reducible refine gate_callee (f := 35) rfl ?_); refine goesL_ (some 25) rfl rfl Try.func35 (by kernel_rfl) rfl #[.slice Ao12 t569.length co12, .int .i64 a1] rfl (by (try simp only [List.map_toArray, List.map_cons, List.map_nil]); first | done | rfl | (simp only [List.length_drop, List.length_take]; rfl)) ?_; (with_reducible refine (deadboltref10_May.calls k _ _ t569 a1 true _ ?side1 ?side2 A8.out).mono ?_); (case side1 => repeat (first | exact (Kd.N_reads' HO571.out).2.2 | (with_reducible refine Kd.C_alloc ?_ _) | (with_reducible refine Kd.C_drewN ?_ _) | (with_reducible refine Kd.C_drew ?_))); (case side2 => exact (Kd.N_reads' HO571.out).2.1); rintro e w13 ⟨rfl, hb⟩; refine ⟨_, rfl, ?_⟩; have n0_ := Aside0.mk (Kd.N_below (by (with_reducible repeat (first | apply Kd.N_alloc | apply Kd.N_drewN | apply Kd.N_drew)); exact HO571.out) hb); have n1_ := Aside0.mk (below_step (by repeat (first | (with_reducible first | exact HB.out | apply below_alloc | apply pw_below_drewN | apply below_drew1) | exact HB.out)) hb); clear HO571; clear HB; have HO571 := n0_; have HB := n1_; clear n0_ n1_; (try clear hb); (try clear hb2); (try clear hk); (try clear hi)) | (go_at_call 22; (with_reducible refine (deadboltref09_Get.calls k (fun k_ => True) _ _ t569 a1 t573 t574 t575 _ ?side1 A10.out).mono ?_); (case side1 => exact Kd.N_V (HO571.out)); rintro e w14 ⟨v576, rfl, ho0, hb⟩; have n0_ := Aside0.mk (Kd.N_below (by (with_reducible repeat (first | apply Kd.N_alloc | apply Kd.N_drewN | apply Kd.N_drew)); exact HO571.out) hb); have n1_ := Aside0.mk (Kd.V_lower (Kd.V_mono (ok' := fun k_ => True) ho0 (fun k_ hk_ => trivial)) (below_size (by repeat (first | (with_reducible first | exact HB.out | apply below_alloc | apply pw_below_drewN | apply below_drew1) | exact HB.out)))); have n2_ := Aside0.mk (below_step (by repeat (first | (with_reducible first | exact HB.out | apply below_alloc | apply pw_below_drewN | apply below_drew1) | exact HB.out)) hb); clear HO571; clear HB; have HO571 := n0_; have HO577 := n1_; have HB := n2_; clear n0_ n1_ n2_; (try clear hb); (try clear hb2); (try clear hk); (try clear hi); (try clear ho0); obtain ⟨Ao15, co15, eo15⟩ := Kd.V_slice HO577.out; subst eo15) | (go_at_call 29; (with_reducible refine (deadboltref09_Empty.calls t573 t574 _ _ t575 t578 _ ?side1 ?side2 A11.out).mono ?_); (case side1 => repeat (first | exact (Kd.V_reads' HO577.out).2.2 | (with_reducible refine Kd.C_alloc ?_ _) | (with_reducible refine Kd.C_drewN ?_ _) | (with_reducible refine Kd.C_drew ?_))); (case side2 => exact (Kd.V_reads' HO577.out).2.1); rintro e w16 ⟨rfl, hb⟩; have n0_ := Aside0.mk (Kd.N_below (by (with_reducible repeat (first | apply Kd.N_alloc | apply Kd.N_drewN | apply Kd.N_drew)); exact HO571.out) hb); have n1_ := Aside0.mk (Kd.V_below (by (with_reducible repeat (first | apply Kd.V_alloc | apply Kd.V_drewN | apply Kd.V_drew)); exact HO577.out) hb); have n2_ := Aside0.mk (below_step (by repeat (first | (with_reducible first | exact HB.out | apply below_alloc | apply pw_below_drewN | apply below_drew1) | exact HB.out)) hb); clear HO571; clear HO577; clear HB; have HO571 := n0_; have HO577 := n1_; have HB := n2_; clear n0_ n1_ n2_; (try clear hb); (try clear hb2); (try clear hk); (try clear hi)))
   go_meet
   case rel => exact ⟨_, (!t578), (by first | rfl | (simp; done) | (simp [*]; done)), H', ⟨by first | omega | exact Nat.le_refl _⟩, ⟨by (with_reducible repeat (first | apply Kd.N_alloc | apply Kd.N_drewN | apply Kd.N_drew)); exact HO571.out⟩, ⟨by repeat (first | (with_reducible first | exact HB.out | apply below_alloc | apply pw_below_drewN | apply below_drew1) | exact HB.out)⟩⟩
  ·replace c9 := Bool.eq_false_iff.mpr c9
   subst c9
   have H1 : (deadboltlaw10_SemaOrder.j0 k t569 a1 l2 a3 true) = some r := by rw [if_neg (show ¬ (false = true) by decide)] at H; exact H
   clear H
   have H := H1
   clear H1
   have H' := Aside0.mk H
   clear H
   obtain ⟨Ao17, co17, eo17⟩ := Kd.N_slice HO571.out
   subst eo17
   go_wp2_with (first | ((with_reducible refine gate_callee (f := 35) rfl ?_); refine goesL_ (some 25) rfl rfl Try.func35 (by kernel_rfl) rfl #[.slice Ao17 t569.length co17, .int .i64 a1] rfl (by (try simp only [List.map_toArray, List.map_cons, List.map_nil]); first | done | rfl | (simp only [List.length_drop, List.length_take]; rfl)) ?_; (with_reducible refine (deadboltref10_May.calls k _ _ t569 a1 false _ ?side1 ?side2 A8.out).mono ?_); (case side1 => repeat (first | exact (Kd.N_reads' HO571.out).2.2 | (with_reducible refine Kd.C_alloc ?_ _) | (with_reducible refine Kd.C_drewN ?_ _) | (with_reducible refine Kd.C_drew ?_))); (case side2 => exact (Kd.N_reads' HO571.out).2.1); rintro e w18 ⟨rfl, hb⟩; refine ⟨_, rfl, ?_⟩; have n0_ := Aside0.mk (Kd.N_below (by (with_reducible repeat (first | apply Kd.N_alloc | apply Kd.N_drewN | apply Kd.N_drew)); exact HO571.out) hb); have n1_ := Aside0.mk (below_step (by repeat (first | (with_reducible first | exact HB.out | apply below_alloc | apply pw_below_drewN | apply below_drew1) | exact HB.out)) hb); clear HO571; clear HB; have HO571 := n0_; have HB := n1_; clear n0_ n1_; (try clear hb); (try clear hb2); (try clear hk); (try clear hi)))
   go_meet
   case rel => exact ⟨_, (true), (by first | rfl | (simp; done) | (simp [*]; done)), H', ⟨by first | omega | exact Nat.le_refl _⟩, ⟨by (with_reducible repeat (first | apply Kd.N_alloc | apply Kd.N_drewN | apply Kd.N_drew)); exact HO571.out⟩, ⟨by repeat (first | (with_reducible first | exact HB.out | apply below_alloc | apply pw_below_drewN | apply below_drew1) | exact HB.out)⟩⟩
 case rest =>
  clear HC6
  try clear c2
  try clear p2
  try clear c3
  try clear c7
  try clear c9
  obtain ⟨kq, x33_5, rfl, HA, HJ5, HO_0, HB⟩ := hcut
  cases kq with
  | zero => exact absurd HA.out (by simp [deadboltlaw10_SemaOrder.j0])
  | succ kj5 =>
   have H := HA.out
   clear HA
   simp only [deadboltlaw10_SemaOrder.j0] at H
   by_cases c19 : x33_5 = true
   ·subst c19
    have H1 : ((deadboltlaw10_alive.f kj5).bind fun t579 => (some t579)) = some r := by rw [if_pos rfl] at H; exact H
    clear H
    have H := H1
    clear H1
    replace H := Option.bind_eq_some_iff.mp H
    obtain ⟨t579, A200, H⟩ := H
    replace H : (some t579) = some r := H
    have A20 := Aside0.mk A200
    clear A200
    obtain rfl := Option.some.inj H
    go_wp2_with (first | ((with_reducible refine gate_callee (f := 33) rfl ?_); refine goesL_ (some 34) rfl rfl Try.func33 (by kernel_rfl) rfl #[] rfl (by (try simp only [List.map_toArray, List.map_cons, List.map_nil]); first | done | rfl | (simp only [List.length_drop, List.length_take]; rfl)) ?_; (with_reducible refine (deadboltlaw10_alive.calls kj5  t579 _ A20.out).mono ?_); rintro e w21 ⟨rfl, hb⟩; refine ⟨_, rfl, ?_⟩; have n0_ := Aside0.mk (Kd.N_below (by (with_reducible repeat (first | apply Kd.N_alloc | apply Kd.N_drewN | apply Kd.N_drew)); exact HO_0.out) hb); have n1_ := Aside0.mk (below_step (by repeat (first | (with_reducible first | exact HB.out | apply below_alloc | apply pw_below_drewN | apply below_drew1) | exact HB.out)) hb); clear HO_0; clear HB; have HO_0 := n0_; have HB := n1_; clear n0_ n1_; (try clear hb); (try clear hb2); (try clear hk); (try clear hi)))
    go_ret
    exact ⟨by first | rfl | (simp [errW_none, errW_some] <;> rfl) | (simp [*, errW_none, errW_some] <;> rfl), by repeat (first | (with_reducible first | exact HB.out | apply below_alloc | apply pw_below_drewN | apply below_drew1) | exact HB.out)⟩
   ·replace c19 := Bool.eq_false_iff.mpr c19
    subst c19
    have H1 : (if 0 ≤ (mn (l2.length : Int) 20) then (if (mn (l2.length : Int) 20) ≤ (l2.length : Int) then (deadboltlaw10_SemaOrder.l0 kj5 t569 a1 a3 ([] : List Int) t569 (l2.take ((mn (l2.length : Int) 20) : Int).toNat) ((l2.take ((mn (l2.length : Int) 20) : Int).toNat).length : Int) 0) else (none)) else (none)) = some r := by rw [if_neg (show ¬ (false = true) by decide)] at H; exact H
    clear H
    have H := H1
    clear H1
    obtain ⟨ji22, hji22⟩ : ∃ j_ : Int, (mn (l2.length : Int) 20) = j_ := ⟨_, rfl⟩
    replace H : (if 0 ≤ (ji22) then (if (ji22) ≤ (l2.length : Int) then (deadboltlaw10_SemaOrder.l0 kj5 t569 a1 a3 ([] : List Int) t569 (l2.take ((ji22) : Int).toNat) ((l2.take ((ji22) : Int).toNat).length : Int) 0) else (none)) else (none)) = some r := by first | (rw [hji22] at H; exact H) | (simp only [hji22] at H ⊢; exact H)
    have hji22_ : (if 20 < (l2.length : Int) then 20 else (l2.length : Int)) = ji22 := hji22
    by_cases c23 : 0 ≤ (ji22)
    ·rw [if_pos c23] at H
     have c23b0 := eq_true c23
     have c23b1 : decide (0 ≤ (ji22)) = true := decide_eq_true c23
     clear c23
     by_cases c24 : (ji22) ≤ (l2.length : Int)
     ·rw [if_pos c24] at H
      have c24b0 := eq_true c24
      have c24b1 : decide ((ji22) ≤ (l2.length : Int)) = true := decide_eq_true c24
      clear c24
      have H' := Aside0.mk H
      clear H
      obtain ⟨i025, hi025, _, hsz25, _⟩ := info_parts info3
      obtain ⟨hcut25, hA25, hC25⟩ := print_take_of (P := Try.prog) (Value.int .i64) 0 25 3 .i64 Try.underlying25 hi025 hsz25 A2 c2 l2 (ji22) (of_decide_eq_true (by first | (with_reducible assumption) | assumption)) (of_decide_eq_true (by first | (with_reducible assumption) | assumption)) HC2.out
      have HR580 := Aside0.mk (Kd.C_of_reads (h1 := fun _ => rfl) (hA25 _ (Kd.reads_of_C HR2.out)))
      have HC580 := Aside0.mk hC25
      clear hA25 hC25 hi025 hsz25
      go_wp2
      go_loopg [9, 10, 42] kj5 (fun kq v9 v10 v42 w' => ∃ (x9_2 : List Int) (x10_2 : List (S33)) (x42_2 : Int), v42 = .int .i64 x42_2 ∧ Aside0 (deadboltlaw10_SemaOrder.l0 kq t569 a1 a3 x9_2 x10_2 (l2.take ((ji22) : Int).toNat) ((l2.take ((ji22) : Int).toNat).length : Int) x42_2 = some r) ∧ Aside0 (kq ≤ kj5) ∧ Aside0 (Kd.N k33 33 w' w.heap.size (fun k_ => some k_ ≠ (v9 : Value).ownBlock) v570 t569) ∧ Aside0 (Kd.R (Kd.int .i64) 3 w' w.heap.size (fun _ => True) v9 x9_2) ∧ Aside0 (Kd.V k33 33 w' w.heap.size (fun k_ => some k_ ≠ (v9 : Value).ownBlock) v10 x10_2) ∧ Aside0 (Below w.heap.size w w'))
      case atStart => exact ⟨(([] : List Int)), (t569), (0), (by first | rfl | (simp; done) | (simp [*]; done)), H', ⟨Nat.le_refl _⟩, ⟨by (with_reducible repeat (first | apply Kd.N_alloc | apply Kd.N_drewN | apply Kd.N_drew)); exact Kd.N_mono HO_0.out (fun _ hk => (by simp [Value.ownBlock]))⟩, ⟨by first | exact Kd.R_nil _ _ _ _ _ | exact Kd.N_nil _ _ _ _ _ | exact Kd.V_nil _ _ _ _ _ | exact Kd.Q_nil _ _ _ _ _ | exact Kd.S_nil _ _ _ _ _⟩, ⟨Kd.N_V (by (with_reducible repeat (first | apply Kd.N_alloc | apply Kd.N_drewN | apply Kd.N_drew)); exact Kd.N_mono HO_0.out (fun _ hk => (by simp [Value.ownBlock])))⟩, ⟨by repeat (first | (with_reducible first | exact HB.out | apply below_alloc | apply pw_below_drewN | apply below_drew1) | exact HB.out)⟩⟩
      case round =>
       clear H'
       try clear c1
       try clear c2
       try clear p2
       try clear c3
       try clear c7
       try clear c9
       try clear c19
       try clear c23
       try clear c23b0
       try clear c23b1
       try clear c24
       try clear c24b0
       try clear c24b1
       try clear p2
       obtain ⟨x9_2, x10_2, x42_2, rfl, HA, HK2, HO_0, HO_9, HO_10, HB⟩ := hrel
       cases gk with
       | zero => exact absurd HA.out (by simp [deadboltlaw10_SemaOrder.l0])
       | succ k2 =>
        have H := HA.out
        clear HA
        simp only [deadboltlaw10_SemaOrder.l0] at H
        by_cases c26 : x42_2 < ((l2.take ((ji22) : Int).toNat).length : Int)
        ·rw [if_pos c26] at H
         have c26b0 : decide (x42_2 < ((l2.take ((ji22) : Int).toNat).length : Int)) = true := decide_eq_true c26; (try (have c26b0x : decide (x42_2 < max ji22 0) = true := by (have hq_ := c26; rw [List.length_take] at hq_; have hj_ := hji22; unfold mn at hj_; apply decide_eq_true; split at hj_ <;> omega))); (try (have c26b0y := eq_true (of_decide_eq_true c26b0x))); (try (have c26b0z := eq_false (of_decide_eq_false c26b0x)))
         clear c26
         by_cases c27 : 0 ≤ x42_2
         ·rw [if_pos c27] at H
          have c27b0 : decide (0 ≤ x42_2) = true := decide_eq_true c27
          clear c27
          by_cases c28 : x42_2 < ((l2.take ((ji22) : Int).toNat).length : Int)
          ·rw [if_pos c28] at H
           have c28b0 : decide (x42_2 < ((l2.take ((ji22) : Int).toNat).length : Int)) = true := decide_eq_true c28; (try (have c28b0x : decide (x42_2 < max ji22 0) = true := by (have hq_ := c28; rw [List.length_take] at hq_; have hj_ := hji22; unfold mn at hj_; apply decide_eq_true; split at hj_ <;> omega))); (try (have c28b0y := eq_true (of_decide_eq_true c28b0x))); (try (have c28b0z := eq_false (of_decide_eq_false c28b0x)))
           clear c28
           replace H := Option.bind_eq_some_iff.mp H
           obtain ⟨⟨t582, t585, t586⟩, A290, H⟩ := H
           replace H : (if t586 = 0 then (if t585 = true then (some false) else (if (rd (l2.take ((ji22) : Int).toNat) x42_2) < 0 then (some false) else (if x9_2.length < 17592186044416 then (deadboltlaw10_SemaOrder.l0 k2 t569 a1 a3 (x9_2 ++ [rd (l2.take ((ji22) : Int).toNat) x42_2]) t582 (l2.take ((ji22) : Int).toNat) ((l2.take ((ji22) : Int).toNat).length : Int) (wrap64 (x42_2 + 1))) else (none)))) else (deadboltlaw10_SemaOrder.l0 k2 t569 a1 a3 x9_2 x10_2 (l2.take ((ji22) : Int).toNat) ((l2.take ((ji22) : Int).toNat).length : Int) (wrap64 (x42_2 + 1)))) = some r := H
           have A29 := Aside0.mk A290
           clear A290
           by_cases c30 : t586 = 0
           ·rw [if_pos c30] at H
            have c30b0 : (t586 == 0) = true := beq_iff_eq.mpr c30
            have c30b1 : (t586 != 0) = false := bne_eq_false_iff_eq.mpr c30
            clear c30
            by_cases c31 : t585 = true
            ·subst c31
             have H1 : (some false) = some r := by rw [if_pos rfl] at H; exact H
             clear H
             have H := H1
             clear H1
             obtain rfl := Option.some.inj H
             have p581 : 0 ≤ (x42_2 : Int) := of_decide_eq_true (by first | (with_reducible assumption) | assumption)
             have q581 : x42_2 < ((l2.take ((ji22) : Int).toNat).length : Int) := of_decide_eq_true (by first | (with_reducible assumption) | assumption)
             obtain ⟨ad581, e581, hx581_0⟩ := Kd.at_int HR580.out x42_2 p581 q581
             cases e581
             replace hx581_0 := (HB.out.cell (World.block_lt_of_cell? w _ hx581_0)).trans hx581_0
             replace p581 := eq_true p581
             replace q581 := eq_true q581
             obtain ⟨Ao32, co32, eo32⟩ := Kd.V_slice HO_10.out
             subst eo32
             go_wp2_with (first | ((with_reducible refine gate_callee (f := 30) rfl ?_); refine goesL_ (some 51) rfl rfl Try.func30 (by kernel_rfl) rfl #[.slice Ao32 x10_2.length co32, .int .i64 a1, .int .i64 (rd (l2.take ((ji22) : Int).toNat) x42_2), .bool a3] rfl (by (try simp only [List.map_toArray, List.map_cons, List.map_nil]); first | done | (simp only [hji22]; rfl) | rfl | (simp only [List.length_drop, List.length_take]; rfl)) ?_; (with_reducible refine (sema_Acquire.calls k2 (fun k_ => some k_ ≠ (u9 : Value).ownBlock) _ _ x10_2 a1 (rd (l2.take ((ji22) : Int).toNat) x42_2) a3 t582 true t586 _ ?side1 A29.out).mono ?_); (case side1 => exact HO_10.out); rintro e w33 ⟨v583, rfl, ho0, hb⟩; refine ⟨_, rfl, ?_⟩; have n0_ := Aside0.mk (Kd.N_below (by (with_reducible repeat (first | apply Kd.N_alloc | apply Kd.N_drewN | apply Kd.N_drew)); exact HO_0.out) hb); have n1_ := Aside0.mk (Kd.R_below (by (with_reducible repeat (first | apply Kd.R_alloc | apply Kd.R_drewN | apply Kd.R_drew)); exact HO_9.out) hb); have n2_ := Aside0.mk (Kd.V_below (by (with_reducible repeat (first | apply Kd.V_alloc | apply Kd.V_drewN | apply Kd.V_drew)); exact HO_10.out) hb); have n3_ := Aside0.mk (Kd.V_lower (Kd.V_mono (ok' := fun k_ => some k_ ≠ (u9 : Value).ownBlock) ho0 (fun k_ hk_ => Or.elim hk_ (fun hs_ => hs_) (fun hn_ => (Kd.fresh' (Kd.R_lt (by (with_reducible repeat (first | apply Kd.R_alloc | apply Kd.R_drewN | apply Kd.R_drew)); exact HO_9.out)) k_ hn_)))) (below_size (by repeat (first | (with_reducible first | exact HB.out | apply below_alloc | apply pw_below_drewN | apply below_drew1) | exact HB.out)))); have n4_ := Aside0.mk (below_step (by repeat (first | (with_reducible first | exact HB.out | apply below_alloc | apply pw_below_drewN | apply below_drew1) | exact HB.out)) hb); clear HO_0; clear HO_9; clear HO_10; clear HB; have HO_0 := n0_; have HO_9 := n1_; have HO_10 := n2_; have HO584 := n3_; have HB := n4_; clear n0_ n1_ n2_ n3_ n4_; (try clear hb); (try clear hb2); (try clear hk); (try clear hi); (try clear ho0)))
             go_ret
             exact ⟨by first | rfl | (simp [errW_none, errW_some] <;> rfl) | (simp only [← hji22]; first | rfl | (simp [errW_none, errW_some] <;> rfl)) | (simp [*, errW_none, errW_some] <;> rfl), by repeat (first | (with_reducible first | exact HB.out | apply below_alloc | apply pw_below_drewN | apply below_drew1) | exact HB.out)⟩
            ·replace c31 := Bool.eq_false_iff.mpr c31
             subst c31
             have H1 : (if (rd (l2.take ((ji22) : Int).toNat) x42_2) < 0 then (some false) else (if x9_2.length < 17592186044416 then (deadboltlaw10_SemaOrder.l0 k2 t569 a1 a3 (x9_2 ++ [rd (l2.take ((ji22) : Int).toNat) x42_2]) t582 (l2.take ((ji22) : Int).toNat) ((l2.take ((ji22) : Int).toNat).length : Int) (wrap64 (x42_2 + 1))) else (none))) = some r := by rw [if_neg (show ¬ (false = true) by decide)] at H; exact H
             clear H
             have H := H1
             clear H1
             by_cases c34 : (rd (l2.take ((ji22) : Int).toNat) x42_2) < 0
             ·rw [if_pos c34] at H
              have c34b0 : decide ((rd (l2.take ((ji22) : Int).toNat) x42_2) < 0) = true := decide_eq_true c34
              clear c34
              obtain rfl := Option.some.inj H
              have p581 : 0 ≤ (x42_2 : Int) := of_decide_eq_true (by first | (with_reducible assumption) | assumption)
              have q581 : x42_2 < ((l2.take ((ji22) : Int).toNat).length : Int) := of_decide_eq_true (by first | (with_reducible assumption) | assumption)
              obtain ⟨ad581, e581, hx581_0⟩ := Kd.at_int HR580.out x42_2 p581 q581
              cases e581
              replace hx581_0 := (HB.out.cell (World.block_lt_of_cell? w _ hx581_0)).trans hx581_0
              replace p581 := eq_true p581
              replace q581 := eq_true q581
              obtain ⟨Ao35, co35, eo35⟩ := Kd.V_slice HO_10.out
              subst eo35
              go_wp2_with (first | ((with_reducible refine gate_callee (f := 30) rfl ?_); refine goesL_ (some 51) rfl rfl Try.func30 (by kernel_rfl) rfl #[.slice Ao35 x10_2.length co35, .int .i64 a1, .int .i64 (rd (l2.take ((ji22) : Int).toNat) x42_2), .bool a3] rfl (by (try simp only [List.map_toArray, List.map_cons, List.map_nil]); first | done | (simp only [hji22]; rfl) | rfl | (simp only [List.length_drop, List.length_take]; rfl)) ?_; (with_reducible refine (sema_Acquire.calls k2 (fun k_ => some k_ ≠ (u9 : Value).ownBlock) _ _ x10_2 a1 (rd (l2.take ((ji22) : Int).toNat) x42_2) a3 t582 false t586 _ ?side1 A29.out).mono ?_); (case side1 => exact HO_10.out); rintro e w36 ⟨v583, rfl, ho0, hb⟩; refine ⟨_, rfl, ?_⟩; have n0_ := Aside0.mk (Kd.N_below (by (with_reducible repeat (first | apply Kd.N_alloc | apply Kd.N_drewN | apply Kd.N_drew)); exact HO_0.out) hb); have n1_ := Aside0.mk (Kd.R_below (by (with_reducible repeat (first | apply Kd.R_alloc | apply Kd.R_drewN | apply Kd.R_drew)); exact HO_9.out) hb); have n2_ := Aside0.mk (Kd.V_below (by (with_reducible repeat (first | apply Kd.V_alloc | apply Kd.V_drewN | apply Kd.V_drew)); exact HO_10.out) hb); have n3_ := Aside0.mk (Kd.V_lower (Kd.V_mono (ok' := fun k_ => some k_ ≠ (u9 : Value).ownBlock) ho0 (fun k_ hk_ => Or.elim hk_ (fun hs_ => hs_) (fun hn_ => (Kd.fresh' (Kd.R_lt (by (with_reducible repeat (first | apply Kd.R_alloc | apply Kd.R_drewN | apply Kd.R_drew)); exact HO_9.out)) k_ hn_)))) (below_size (by repeat (first | (with_reducible first | exact HB.out | apply below_alloc | apply pw_below_drewN | apply below_drew1) | exact HB.out)))); have n4_ := Aside0.mk (below_step (by repeat (first | (with_reducible first | exact HB.out | apply below_alloc | apply pw_below_drewN | apply below_drew1) | exact HB.out)) hb); clear HO_0; clear HO_9; clear HO_10; clear HB; have HO_0 := n0_; have HO_9 := n1_; have HO_10 := n2_; have HO584 := n3_; have HB := n4_; clear n0_ n1_ n2_ n3_ n4_; (try clear hb); (try clear hb2); (try clear hk); (try clear hi); (try clear ho0)))
              go_ret
              exact ⟨by first | rfl | (simp [errW_none, errW_some] <;> rfl) | (simp only [← hji22]; first | rfl | (simp [errW_none, errW_some] <;> rfl)) | (simp [*, errW_none, errW_some] <;> rfl), by repeat (first | (with_reducible first | exact HB.out | apply below_alloc | apply pw_below_drewN | apply below_drew1) | exact HB.out)⟩
             ·rw [if_neg c34] at H
              have c34b0 : decide ((rd (l2.take ((ji22) : Int).toNat) x42_2) < 0) = false := decide_eq_false c34
              clear c34
              by_cases c37 : x9_2.length < 17592186044416
              ·rw [if_pos c37] at H
               have LMc37 := Aside0.mk c37
               clear c37
               obtain ⟨y587, hy587⟩ : ∃ y_ : List Int, y_ = (x9_2 ++ [rd (l2.take ((ji22) : Int).toNat) x42_2]) := ⟨_, rfl⟩
               replace H : (deadboltlaw10_SemaOrder.l0 k2 t569 a1 a3 y587 t582 (l2.take ((ji22) : Int).toNat) ((l2.take ((ji22) : Int).toNat).length : Int) (wrap64 (x42_2 + 1))) = some r := by first | (rw [hy587]; with_reducible exact H) | (have H2_ := (Option.bind_some _ _).symm.trans H; rw [hy587]; with_reducible exact H2_) | (have H2_ := (Option.bind_some _ _).symm.trans H; with_reducible exact H2_) | with_reducible exact H | (rw [hy587]; exact H) | exact H
               have Ny587 := Aside0.mk hy587
               clear hy587
               have H' := Aside0.mk H
               clear H
               have p581 : 0 ≤ (x42_2 : Int) := of_decide_eq_true (by first | (with_reducible assumption) | assumption)
               have q581 : x42_2 < ((l2.take ((ji22) : Int).toNat).length : Int) := of_decide_eq_true (by first | (with_reducible assumption) | assumption)
               obtain ⟨ad581, e581, hx581_0⟩ := Kd.at_int HR580.out x42_2 p581 q581
               cases e581
               replace hx581_0 := (HB.out.cell (World.block_lt_of_cell? w _ hx581_0)).trans hx581_0
               replace p581 := eq_true p581
               replace q581 := eq_true q581
               obtain ⟨Ao38, co38, eo38⟩ := Kd.V_slice HO_10.out
               subst eo38
               go_wp2_with (first | ((with_reducible refine gate_callee (f := 30) rfl ?_); refine goesL_ (some 51) rfl rfl Try.func30 (by kernel_rfl) rfl #[.slice Ao38 x10_2.length co38, .int .i64 a1, .int .i64 (rd (l2.take ((ji22) : Int).toNat) x42_2), .bool a3] rfl (by (try simp only [List.map_toArray, List.map_cons, List.map_nil]); first | done | (simp only [hji22]; rfl) | rfl | (simp only [List.length_drop, List.length_take]; rfl)) ?_; (with_reducible refine (sema_Acquire.calls k2 (fun k_ => some k_ ≠ (u9 : Value).ownBlock) _ _ x10_2 a1 (rd (l2.take ((ji22) : Int).toNat) x42_2) a3 t582 false t586 _ ?side1 A29.out).mono ?_); (case side1 => exact HO_10.out); rintro e w39 ⟨v583, rfl, ho0, hb⟩; refine ⟨_, rfl, ?_⟩; have n0_ := Aside0.mk (Kd.N_below (by (with_reducible repeat (first | apply Kd.N_alloc | apply Kd.N_drewN | apply Kd.N_drew)); exact HO_0.out) hb); have n1_ := Aside0.mk (Kd.R_below (by (with_reducible repeat (first | apply Kd.R_alloc | apply Kd.R_drewN | apply Kd.R_drew)); exact HO_9.out) hb); have n2_ := Aside0.mk (Kd.V_below (by (with_reducible repeat (first | apply Kd.V_alloc | apply Kd.V_drewN | apply Kd.V_drew)); exact HO_10.out) hb); have n3_ := Aside0.mk (Kd.V_lower (Kd.V_mono (ok' := fun k_ => some k_ ≠ (u9 : Value).ownBlock) ho0 (fun k_ hk_ => Or.elim hk_ (fun hs_ => hs_) (fun hn_ => (Kd.fresh' (Kd.R_lt (by (with_reducible repeat (first | apply Kd.R_alloc | apply Kd.R_drewN | apply Kd.R_drew)); exact HO_9.out)) k_ hn_)))) (below_size (by repeat (first | (with_reducible first | exact HB.out | apply below_alloc | apply pw_below_drewN | apply below_drew1) | exact HB.out)))); have n4_ := Aside0.mk (below_step (by repeat (first | (with_reducible first | exact HB.out | apply below_alloc | apply pw_below_drewN | apply below_drew1) | exact HB.out)) hb); clear HO_0; clear HO_9; clear HO_10; clear HB; have HO_0 := n0_; have HO_9 := n1_; have HO_10 := n2_; have HO584 := n3_; have HB := n4_; clear n0_ n1_ n2_ n3_ n4_; (try clear hb); (try clear hb2); (try clear hk); (try clear hi); (try clear ho0)) | ((with_reducible refine gate_builtin (b := .append) (xs := #[.tmp 63, .tmp 65]) rfl ?_); at_builtin; refine Kd.R_append (Kd.int .i64) (w0 := w) w.heap.size rfl (.tmp 63) (.tmp 65) 25 3 (.int .i64 0) 8 rfl Try.underlying25 info3 rfl (by decide) (by omega) u9 x9_2 (rd (l2.take ((ji22) : Int).toNat) x42_2) [.int .i64 (rd (l2.take ((ji22) : Int).toNat) x42_2)] (fun _ => True) (fun _ => False) rfl rfl ?aP (fun _ hk => hk.elim) ?aF ?aO ?aB ?aS ?aL ?_; (case aP => exact rfl); (case aB => exact (by repeat (first | (with_reducible first | exact HB.out | apply below_alloc | apply pw_below_drewN | apply below_drew1) | exact HB.out))); (case aF => exact (fun _ _ => trivial)); (case aO => exact (by (with_reducible repeat (first | apply Kd.R_alloc | apply Kd.R_drewN | apply Kd.R_drew)); exact HO_9.out)); (case aS => exact (below_size (by repeat (first | (with_reducible first | exact HB.out | apply below_alloc | apply pw_below_drewN | apply below_drew1) | exact HB.out)))); (case aL => have := LMc37.out; omega); intro v588 w40 ho hb hg hat; rw [← Ny587.out] at ho; have n0_ := Aside0.mk (Kd.N_afterv (ok := (fun _ => True)) (by (with_reducible repeat (first | apply Kd.N_alloc | apply Kd.N_drewN | apply Kd.N_drew)); exact Kd.N_mono HO_0.out (fun _ hk => ⟨trivial, hk⟩)) hg hat); have n1_ := Aside0.mk (Kd.V_afterv (ok := (fun _ => True)) (by (with_reducible repeat (first | apply Kd.V_alloc | apply Kd.V_drewN | apply Kd.V_drew)); exact Kd.V_mono HO_10.out (fun _ hk => ⟨trivial, hk⟩)) hg hat); have n2_ := Aside0.mk (Kd.V_afterv (ok := (fun _ => True)) (by (with_reducible repeat (first | apply Kd.V_alloc | apply Kd.V_drewN | apply Kd.V_drew)); exact Kd.V_mono HO584.out (fun _ hk => ⟨trivial, hk⟩)) hg hat); have n3_ := Aside0.mk (hb); have n4_ := Aside0.mk (ho); clear HO_0; clear HO_10; clear HO584; clear HB; clear HO_9; have HO_0 := n0_; have HO_10 := n1_; have HO584 := n2_; have HB := n3_; have HO589 := n4_; clear n0_ n1_ n2_ n3_ n4_; clear ho hb hg hat))
               go_roundg k2
               case measure => have := HJ5.out; have := HK2.out; omega
               case rel => exact ⟨(y587), (t582), (wrap64 (x42_2 + 1)), (by first | rfl | (simp; done) | (simp [*]; done)), H', ⟨by have := HJ5.out; have := HK2.out; omega⟩, ⟨by (with_reducible repeat (first | apply Kd.N_alloc | apply Kd.N_drewN | apply Kd.N_drew)); exact Kd.N_mono HO_0.out (fun _ hk => hk.2)⟩, ⟨by (with_reducible repeat (first | apply Kd.R_alloc | apply Kd.R_drewN | apply Kd.R_drew)); exact HO589.out⟩, ⟨by (with_reducible repeat (first | apply Kd.V_alloc | apply Kd.V_drewN | apply Kd.V_drew)); exact Kd.V_mono HO584.out (fun _ hk => hk.2)⟩, ⟨by repeat (first | (with_reducible first | exact HB.out | apply below_alloc | apply pw_below_drewN | apply below_drew1) | exact HB.out)⟩⟩
              ·rw [if_neg c37] at H
               exact absurd H (by simp)
           ·rw [if_neg c30] at H
            have c30b0 : (t586 == 0) = false := beq_eq_false_iff_ne.mpr c30
            have c30b1 : (t586 != 0) = true := bne_iff_ne.mpr c30
            have H' := Aside0.mk H
            clear H
            have p581 : 0 ≤ (x42_2 : Int) := of_decide_eq_true (by first | (with_reducible assumption) | assumption)
            have q581 : x42_2 < ((l2.take ((ji22) : Int).toNat).length : Int) := of_decide_eq_true (by first | (with_reducible assumption) | assumption)
            obtain ⟨ad581, e581, hx581_0⟩ := Kd.at_int HR580.out x42_2 p581 q581
            cases e581
            replace hx581_0 := (HB.out.cell (World.block_lt_of_cell? w _ hx581_0)).trans hx581_0
            replace p581 := eq_true p581
            replace q581 := eq_true q581
            obtain ⟨Ao41, co41, eo41⟩ := Kd.V_slice HO_10.out
            subst eo41
            go_wp2_with (first | ((with_reducible refine gate_callee (f := 30) rfl ?_); refine goesL_ (some 51) rfl rfl Try.func30 (by kernel_rfl) rfl #[.slice Ao41 x10_2.length co41, .int .i64 a1, .int .i64 (rd (l2.take ((ji22) : Int).toNat) x42_2), .bool a3] rfl (by (try simp only [List.map_toArray, List.map_cons, List.map_nil]); first | done | (simp only [hji22]; rfl) | rfl | (simp only [List.length_drop, List.length_take]; rfl)) ?_; (with_reducible refine (sema_Acquire.calls k2 (fun k_ => some k_ ≠ (u9 : Value).ownBlock) _ _ x10_2 a1 (rd (l2.take ((ji22) : Int).toNat) x42_2) a3 t582 t585 t586 _ ?side1 A29.out).mono ?_); (case side1 => exact HO_10.out); rintro e w42 ⟨v583, rfl, ho0, hb⟩; refine ⟨_, rfl, ?_⟩; have n0_ := Aside0.mk (Kd.N_below (by (with_reducible repeat (first | apply Kd.N_alloc | apply Kd.N_drewN | apply Kd.N_drew)); exact HO_0.out) hb); have n1_ := Aside0.mk (Kd.R_below (by (with_reducible repeat (first | apply Kd.R_alloc | apply Kd.R_drewN | apply Kd.R_drew)); exact HO_9.out) hb); have n2_ := Aside0.mk (Kd.V_below (by (with_reducible repeat (first | apply Kd.V_alloc | apply Kd.V_drewN | apply Kd.V_drew)); exact HO_10.out) hb); have n3_ := Aside0.mk (Kd.V_lower (Kd.V_mono (ok' := fun k_ => some k_ ≠ (u9 : Value).ownBlock) ho0 (fun k_ hk_ => Or.elim hk_ (fun hs_ => hs_) (fun hn_ => (Kd.fresh' (Kd.R_lt (by (with_reducible repeat (first | apply Kd.R_alloc | apply Kd.R_drewN | apply Kd.R_drew)); exact HO_9.out)) k_ hn_)))) (below_size (by repeat (first | (with_reducible first | exact HB.out | apply below_alloc | apply pw_below_drewN | apply below_drew1) | exact HB.out)))); have n4_ := Aside0.mk (below_step (by repeat (first | (with_reducible first | exact HB.out | apply below_alloc | apply pw_below_drewN | apply below_drew1) | exact HB.out)) hb); clear HO_0; clear HO_9; clear HO_10; clear HB; have HO_0 := n0_; have HO_9 := n1_; have HO_10 := n2_; have HO584 := n3_; have HB := n4_; clear n0_ n1_ n2_ n3_ n4_; (try clear hb); (try clear hb2); (try clear hk); (try clear hi); (try clear ho0)))
            go_roundg k2
            case measure => have := HJ5.out; have := HK2.out; omega
            case rel => exact ⟨(x9_2), (x10_2), (wrap64 (x42_2 + 1)), (by first | rfl | (simp; done) | (simp [*]; done)), H', ⟨by have := HJ5.out; have := HK2.out; omega⟩, ⟨by (with_reducible repeat (first | apply Kd.N_alloc | apply Kd.N_drewN | apply Kd.N_drew)); exact HO_0.out⟩, ⟨by (with_reducible repeat (first | apply Kd.R_alloc | apply Kd.R_drewN | apply Kd.R_drew)); exact HO_9.out⟩, ⟨by (with_reducible repeat (first | apply Kd.V_alloc | apply Kd.V_drewN | apply Kd.V_drew)); exact HO_10.out⟩, ⟨by repeat (first | (with_reducible first | exact HB.out | apply below_alloc | apply pw_below_drewN | apply below_drew1) | exact HB.out)⟩⟩
          ·rw [if_neg c28] at H
           exact absurd H (by simp)
         ·rw [if_neg c27] at H
          exact absurd H (by simp)
        ·rw [if_neg c26] at H
         have c26b0 : decide (x42_2 < ((l2.take ((ji22) : Int).toNat).length : Int)) = false := decide_eq_false c26; (try (have c26b0x : decide (x42_2 < max ji22 0) = false := by (have hq_ := c26; rw [List.length_take] at hq_; have hj_ := hji22; unfold mn at hj_; apply decide_eq_false; split at hj_ <;> omega))); (try (have c26b0y := eq_true (of_decide_eq_true c26b0x))); (try (have c26b0z := eq_false (of_decide_eq_false c26b0x)))
         clear c26
         have H' := Aside0.mk H
         clear H
         obtain ⟨Ao43, co43, eo43⟩ := Kd.R_slice HO_9.out
         subst eo43
         go_wp2
         go_loopg [10, 70] k2 (fun kq v10 v70 w' => ∃ (x10_3 : List (S33)) (x70_3 : Int), v70 = .int .i64 x70_3 ∧ Aside0 (deadboltlaw10_SemaOrder.l1 kq t569 a1 a3 x9_2 x10_3 (x9_2.length : Int) x70_3 = some r) ∧ Aside0 (kq ≤ k2) ∧ Aside0 (Kd.N k33 33 w' w.heap.size (fun k_ => some k_ ≠ ((.slice Ao43 x9_2.length co43) : Value).ownBlock) v570 t569) ∧ Aside0 (Kd.R (Kd.int .i64) 3 w' w.heap.size (fun _ => True) (.slice Ao43 x9_2.length co43) x9_2) ∧ Aside0 (Kd.V k33 33 w' w.heap.size (fun k_ => some k_ ≠ ((.slice Ao43 x9_2.length co43) : Value).ownBlock) v10 x10_3) ∧ Aside0 (Below w.heap.size w w'))
         case atStart => exact ⟨(x10_2), (0), (by first | rfl | (simp; done) | (simp [*]; done)), H', ⟨Nat.le_refl _⟩, ⟨by (with_reducible repeat (first | apply Kd.N_alloc | apply Kd.N_drewN | apply Kd.N_drew)); exact HO_0.out⟩, ⟨by (with_reducible repeat (first | apply Kd.R_alloc | apply Kd.R_drewN | apply Kd.R_drew)); exact HO_9.out⟩, ⟨by (with_reducible repeat (first | apply Kd.V_alloc | apply Kd.V_drewN | apply Kd.V_drew)); exact HO_10.out⟩, ⟨by repeat (first | (with_reducible first | exact HB.out | apply below_alloc | apply pw_below_drewN | apply below_drew1) | exact HB.out)⟩⟩
         case round =>
          clear H'
          try clear c1
          try clear c2
          try clear p2
          try clear c3
          try clear p5
          try clear q5
          try clear hx5
          try clear p6
          try clear c7
          try clear c9
          try clear c19
          try clear c23
          try clear c23b0
          try clear c23b1
          try clear c24
          try clear c24b0
          try clear c24b1
          try clear c26
          try clear c26b0
          try clear c27
          try clear c27b0
          try clear c28
          try clear c28b0
          try clear c30
          try clear c30b0
          try clear c30b1
          try clear c31
          try clear c33
          try clear c34
          try clear c34b0
          try clear c35
          try clear c37
          try clear hx581_0
          try clear p2
          try clear p581
          try clear q581
          obtain ⟨x10_3, x70_3, rfl, HA, HK3, HO_0, HO_9, HO_10, HB⟩ := hrel
          cases gk with
          | zero => exact absurd HA.out (by simp [deadboltlaw10_SemaOrder.l1])
          | succ k3 =>
           have H := HA.out
           clear HA
           simp only [deadboltlaw10_SemaOrder.l1] at H
           by_cases c44 : x70_3 < (x9_2.length : Int)
           ·rw [if_pos c44] at H
            have c44b0 : decide (x70_3 < (x9_2.length : Int)) = true := decide_eq_true c44
            clear c44
            replace H := Option.bind_eq_some_iff.mp H
            obtain ⟨⟨t592, t595, t596⟩, A450, H⟩ := H
            replace H : (if 0 ≤ x70_3 then (if x70_3 < (x9_2.length : Int) then (if a3 = true then (if 0 ≤ (wrap64 ((wrap64 ((x9_2.length : Int) - 1)) - x70_3)) then (if (wrap64 ((wrap64 ((x9_2.length : Int) - 1)) - x70_3)) < (x9_2.length : Int) then (if t596 = 0 then (if t595 = (rd x9_2 (wrap64 ((wrap64 ((x9_2.length : Int) - 1)) - x70_3))) then (deadboltlaw10_SemaOrder.l1 k3 t569 a1 a3 x9_2 t592 (x9_2.length : Int) (wrap64 (x70_3 + 1))) else (some false)) else (some false)) else (none)) else (none)) else (if t596 = 0 then (if t595 = (rd x9_2 x70_3) then (deadboltlaw10_SemaOrder.l1 k3 t569 a1 a3 x9_2 t592 (x9_2.length : Int) (wrap64 (x70_3 + 1))) else (some false)) else (some false))) else (none)) else (none)) = some r := H
            have A45 := Aside0.mk A450
            clear A450
            by_cases c46 : 0 ≤ x70_3
            ·rw [if_pos c46] at H
             have c46b0 : decide (0 ≤ x70_3) = true := decide_eq_true c46
             clear c46
             by_cases c47 : x70_3 < (x9_2.length : Int)
             ·rw [if_pos c47] at H
              have c47b0 : decide (x70_3 < (x9_2.length : Int)) = true := decide_eq_true c47
              clear c47
              by_cases c48 : a3 = true
              ·subst c48
               have H1 : (if 0 ≤ (wrap64 ((wrap64 ((x9_2.length : Int) - 1)) - x70_3)) then (if (wrap64 ((wrap64 ((x9_2.length : Int) - 1)) - x70_3)) < (x9_2.length : Int) then (if t596 = 0 then (if t595 = (rd x9_2 (wrap64 ((wrap64 ((x9_2.length : Int) - 1)) - x70_3))) then (deadboltlaw10_SemaOrder.l1 k3 t569 a1 true x9_2 t592 (x9_2.length : Int) (wrap64 (x70_3 + 1))) else (some false)) else (some false)) else (none)) else (none)) = some r := by rw [if_pos rfl] at H; exact H
               clear H
               have H := H1
               clear H1
               obtain ⟨ji49, hji49⟩ : ∃ j_ : Int, (wrap64 ((wrap64 ((x9_2.length : Int) - 1)) - x70_3)) = j_ := ⟨_, rfl⟩
               replace H : (if 0 ≤ (ji49) then (if (ji49) < (x9_2.length : Int) then (if t596 = 0 then (if t595 = (rd x9_2 (ji49)) then (deadboltlaw10_SemaOrder.l1 k3 t569 a1 true x9_2 t592 (x9_2.length : Int) (wrap64 (x70_3 + 1))) else (some false)) else (some false)) else (none)) else (none)) = some r := by first | (rw [hji49] at H; exact H) | (simp only [hji49] at H ⊢; exact H)
               (try rw [hji49] at A45)
               have hji49w : (IntKind.i64.wrap ((wrap64 ((x9_2.length : Int) - 1)) - x70_3)) = ji49 := (i64_w _).trans hji49
               by_cases c50 : 0 ≤ (ji49)
               ·rw [if_pos c50] at H
                have c50b0 : decide (0 ≤ (ji49)) = true := decide_eq_true c50
                clear c50
                by_cases c51 : (ji49) < (x9_2.length : Int)
                ·rw [if_pos c51] at H
                 have c51b0 : decide ((ji49) < (x9_2.length : Int)) = true := decide_eq_true c51
                 clear c51
                 by_cases c52 : t596 = 0
                 ·rw [if_pos c52] at H
                  have c52b0 : (t596 == 0) = true := beq_iff_eq.mpr c52
                  have c52b1 : (t596 != 0) = false := bne_eq_false_iff_eq.mpr c52
                  clear c52
                  by_cases c53 : t595 = (rd x9_2 (ji49))
                  ·rw [if_pos c53] at H
                   have c53b0 : (t595 == (rd x9_2 (ji49))) = true := beq_iff_eq.mpr c53
                   have c53b1 : (t595 != (rd x9_2 (ji49))) = false := bne_eq_false_iff_eq.mpr c53
                   clear c53
                   have H' := Aside0.mk H
                   clear H
                   obtain ⟨Ao54, co54, eo54⟩ := Kd.V_slice HO_10.out
                   subst eo54
                   go_wp2_with (first | ((with_reducible refine gate_callee (f := 32) rfl ?_); refine goesL_ (some 76) rfl rfl Try.func32 (by kernel_rfl) rfl #[.slice Ao54 x10_3.length co54, .int .i64 a1] rfl (by (try simp only [List.map_toArray, List.map_cons, List.map_nil]); first | done | rfl | (simp only [List.length_drop, List.length_take]; rfl)) ?_; (with_reducible refine (sema_Release.calls (fun k_ => some k_ ≠ (.slice Ao43 x9_2.length co43 : Value).ownBlock) _ _ x10_3 a1 t592 t595 t596 _ ?side1 A45.out).mono ?_); (case side1 => exact HO_10.out); rintro e w55 ⟨v593, rfl, ho0, hb⟩; refine ⟨_, rfl, ?_⟩; have n0_ := Aside0.mk (Kd.N_below (by (with_reducible repeat (first | apply Kd.N_alloc | apply Kd.N_drewN | apply Kd.N_drew)); exact HO_0.out) hb); have n1_ := Aside0.mk (Kd.R_below (by (with_reducible repeat (first | apply Kd.R_alloc | apply Kd.R_drewN | apply Kd.R_drew)); exact HO_9.out) hb); have n2_ := Aside0.mk (Kd.V_below (by (with_reducible repeat (first | apply Kd.V_alloc | apply Kd.V_drewN | apply Kd.V_drew)); exact HO_10.out) hb); have n3_ := Aside0.mk (Kd.V_lower (Kd.V_mono (ok' := fun k_ => some k_ ≠ (.slice Ao43 x9_2.length co43 : Value).ownBlock) ho0 (fun k_ hk_ => Or.elim hk_ (fun hs_ => hs_) (fun hn_ => (Kd.fresh' (Kd.R_lt (by (with_reducible repeat (first | apply Kd.R_alloc | apply Kd.R_drewN | apply Kd.R_drew)); exact HO_9.out)) k_ hn_)))) (below_size (by repeat (first | (with_reducible first | exact HB.out | apply below_alloc | apply pw_below_drewN | apply below_drew1) | exact HB.out)))); have n4_ := Aside0.mk (below_step (by repeat (first | (with_reducible first | exact HB.out | apply below_alloc | apply pw_below_drewN | apply below_drew1) | exact HB.out)) hb); clear HO_0; clear HO_9; clear HO_10; clear HB; have HO_0 := n0_; have HO_9 := n1_; have HO_10 := n2_; have HO594 := n3_; have HB := n4_; clear n0_ n1_ n2_ n3_ n4_; (try clear hb); (try clear hb2); (try clear hk); (try clear hi); (try clear ho0); have p597 : 0 ≤ (x70_3 : Int) := of_decide_eq_true (by first | (with_reducible assumption) | assumption); have q597 : x70_3 < (x9_2.length : Int) := of_decide_eq_true (by first | (with_reducible assumption) | assumption); obtain ⟨ad597, e597, hx597_0⟩ := Kd.at_int (Kd.R_reads' HO_9.out).2.2 x70_3 p597 q597; cases e597; replace p597 := eq_true p597; replace q597 := eq_true q597; have p598 : 0 ≤ ((ji49) : Int) := of_decide_eq_true (by first | (with_reducible assumption) | assumption); have q598 : (ji49) < (x9_2.length : Int) := of_decide_eq_true (by first | (with_reducible assumption) | assumption); obtain ⟨ad598, e598, hx598_0⟩ := Kd.at_int (Kd.R_reads' HO_9.out).2.2 (ji49) p598 q598; obtain rfl : ad597 = ad598 := (by injection e598); replace p598 := eq_true p598; replace q598 := eq_true q598))
                   go_roundg k3
                   case measure => have := HJ5.out; have := HK2.out; have := HK3.out; omega
                   case rel => exact ⟨(t592), (wrap64 (x70_3 + 1)), (by first | rfl | (simp; done) | (simp [*]; done)), H', ⟨by have := HJ5.out; have := HK2.out; have := HK3.out; omega⟩, ⟨by (with_reducible repeat (first | apply Kd.N_alloc | apply Kd.N_drewN | apply Kd.N_drew)); exact HO_0.out⟩, ⟨by (with_reducible repeat (first | apply Kd.R_alloc | apply Kd.R_drewN | apply Kd.R_drew)); exact HO_9.out⟩, ⟨by (with_reducible repeat (first | apply Kd.V_alloc | apply Kd.V_drewN | apply Kd.V_drew)); exact HO594.out⟩, ⟨by repeat (first | (with_reducible first | exact HB.out | apply below_alloc | apply pw_below_drewN | apply below_drew1) | exact HB.out)⟩⟩
                  ·rw [if_neg c53] at H
                   have c53b0 : (t595 == (rd x9_2 (ji49))) = false := beq_eq_false_iff_ne.mpr c53
                   have c53b1 : (t595 != (rd x9_2 (ji49))) = true := bne_iff_ne.mpr c53
                   obtain rfl := Option.some.inj H
                   obtain ⟨Ao56, co56, eo56⟩ := Kd.V_slice HO_10.out
                   subst eo56
                   go_wp2_with (first | ((with_reducible refine gate_callee (f := 32) rfl ?_); refine goesL_ (some 76) rfl rfl Try.func32 (by kernel_rfl) rfl #[.slice Ao56 x10_3.length co56, .int .i64 a1] rfl (by (try simp only [List.map_toArray, List.map_cons, List.map_nil]); first | done | rfl | (simp only [List.length_drop, List.length_take]; rfl)) ?_; (with_reducible refine (sema_Release.calls (fun k_ => some k_ ≠ (.slice Ao43 x9_2.length co43 : Value).ownBlock) _ _ x10_3 a1 t592 t595 t596 _ ?side1 A45.out).mono ?_); (case side1 => exact HO_10.out); rintro e w57 ⟨v593, rfl, ho0, hb⟩; refine ⟨_, rfl, ?_⟩; have n0_ := Aside0.mk (Kd.N_below (by (with_reducible repeat (first | apply Kd.N_alloc | apply Kd.N_drewN | apply Kd.N_drew)); exact HO_0.out) hb); have n1_ := Aside0.mk (Kd.R_below (by (with_reducible repeat (first | apply Kd.R_alloc | apply Kd.R_drewN | apply Kd.R_drew)); exact HO_9.out) hb); have n2_ := Aside0.mk (Kd.V_below (by (with_reducible repeat (first | apply Kd.V_alloc | apply Kd.V_drewN | apply Kd.V_drew)); exact HO_10.out) hb); have n3_ := Aside0.mk (Kd.V_lower (Kd.V_mono (ok' := fun k_ => some k_ ≠ (.slice Ao43 x9_2.length co43 : Value).ownBlock) ho0 (fun k_ hk_ => Or.elim hk_ (fun hs_ => hs_) (fun hn_ => (Kd.fresh' (Kd.R_lt (by (with_reducible repeat (first | apply Kd.R_alloc | apply Kd.R_drewN | apply Kd.R_drew)); exact HO_9.out)) k_ hn_)))) (below_size (by repeat (first | (with_reducible first | exact HB.out | apply below_alloc | apply pw_below_drewN | apply below_drew1) | exact HB.out)))); have n4_ := Aside0.mk (below_step (by repeat (first | (with_reducible first | exact HB.out | apply below_alloc | apply pw_below_drewN | apply below_drew1) | exact HB.out)) hb); clear HO_0; clear HO_9; clear HO_10; clear HB; have HO_0 := n0_; have HO_9 := n1_; have HO_10 := n2_; have HO594 := n3_; have HB := n4_; clear n0_ n1_ n2_ n3_ n4_; (try clear hb); (try clear hb2); (try clear hk); (try clear hi); (try clear ho0); have p597 : 0 ≤ (x70_3 : Int) := of_decide_eq_true (by first | (with_reducible assumption) | assumption); have q597 : x70_3 < (x9_2.length : Int) := of_decide_eq_true (by first | (with_reducible assumption) | assumption); obtain ⟨ad597, e597, hx597_0⟩ := Kd.at_int (Kd.R_reads' HO_9.out).2.2 x70_3 p597 q597; cases e597; replace p597 := eq_true p597; replace q597 := eq_true q597; have p598 : 0 ≤ ((ji49) : Int) := of_decide_eq_true (by first | (with_reducible assumption) | assumption); have q598 : (ji49) < (x9_2.length : Int) := of_decide_eq_true (by first | (with_reducible assumption) | assumption); obtain ⟨ad598, e598, hx598_0⟩ := Kd.at_int (Kd.R_reads' HO_9.out).2.2 (ji49) p598 q598; obtain rfl : ad597 = ad598 := (by injection e598); replace p598 := eq_true p598; replace q598 := eq_true q598))
                   go_ret
                   exact ⟨by first | rfl | (simp [errW_none, errW_some] <;> rfl) | (simp only [← hji22, ← hji49]; first | rfl | (simp [errW_none, errW_some] <;> rfl)) | (simp [*, errW_none, errW_some] <;> rfl), by repeat (first | (with_reducible first | exact HB.out | apply below_alloc | apply pw_below_drewN | apply below_drew1) | exact HB.out)⟩
                 ·rw [if_neg c52] at H
                  have c52b0 : (t596 == 0) = false := beq_eq_false_iff_ne.mpr c52
                  have c52b1 : (t596 != 0) = true := bne_iff_ne.mpr c52
                  obtain rfl := Option.some.inj H
                  obtain ⟨Ao58, co58, eo58⟩ := Kd.V_slice HO_10.out
                  subst eo58
                  go_wp2_with (first | ((with_reducible refine gate_callee (f := 32) rfl ?_); refine goesL_ (some 76) rfl rfl Try.func32 (by kernel_rfl) rfl #[.slice Ao58 x10_3.length co58, .int .i64 a1] rfl (by (try simp only [List.map_toArray, List.map_cons, List.map_nil]); first | done | rfl | (simp only [List.length_drop, List.length_take]; rfl)) ?_; (with_reducible refine (sema_Release.calls (fun k_ => some k_ ≠ (.slice Ao43 x9_2.length co43 : Value).ownBlock) _ _ x10_3 a1 t592 t595 t596 _ ?side1 A45.out).mono ?_); (case side1 => exact HO_10.out); rintro e w59 ⟨v593, rfl, ho0, hb⟩; refine ⟨_, rfl, ?_⟩; have n0_ := Aside0.mk (Kd.N_below (by (with_reducible repeat (first | apply Kd.N_alloc | apply Kd.N_drewN | apply Kd.N_drew)); exact HO_0.out) hb); have n1_ := Aside0.mk (Kd.R_below (by (with_reducible repeat (first | apply Kd.R_alloc | apply Kd.R_drewN | apply Kd.R_drew)); exact HO_9.out) hb); have n2_ := Aside0.mk (Kd.V_below (by (with_reducible repeat (first | apply Kd.V_alloc | apply Kd.V_drewN | apply Kd.V_drew)); exact HO_10.out) hb); have n3_ := Aside0.mk (Kd.V_lower (Kd.V_mono (ok' := fun k_ => some k_ ≠ (.slice Ao43 x9_2.length co43 : Value).ownBlock) ho0 (fun k_ hk_ => Or.elim hk_ (fun hs_ => hs_) (fun hn_ => (Kd.fresh' (Kd.R_lt (by (with_reducible repeat (first | apply Kd.R_alloc | apply Kd.R_drewN | apply Kd.R_drew)); exact HO_9.out)) k_ hn_)))) (below_size (by repeat (first | (with_reducible first | exact HB.out | apply below_alloc | apply pw_below_drewN | apply below_drew1) | exact HB.out)))); have n4_ := Aside0.mk (below_step (by repeat (first | (with_reducible first | exact HB.out | apply below_alloc | apply pw_below_drewN | apply below_drew1) | exact HB.out)) hb); clear HO_0; clear HO_9; clear HO_10; clear HB; have HO_0 := n0_; have HO_9 := n1_; have HO_10 := n2_; have HO594 := n3_; have HB := n4_; clear n0_ n1_ n2_ n3_ n4_; (try clear hb); (try clear hb2); (try clear hk); (try clear hi); (try clear ho0); have p597 : 0 ≤ (x70_3 : Int) := of_decide_eq_true (by first | (with_reducible assumption) | assumption); have q597 : x70_3 < (x9_2.length : Int) := of_decide_eq_true (by first | (with_reducible assumption) | assumption); obtain ⟨ad597, e597, hx597_0⟩ := Kd.at_int (Kd.R_reads' HO_9.out).2.2 x70_3 p597 q597; cases e597; replace p597 := eq_true p597; replace q597 := eq_true q597; have p598 : 0 ≤ ((ji49) : Int) := of_decide_eq_true (by first | (with_reducible assumption) | assumption); have q598 : (ji49) < (x9_2.length : Int) := of_decide_eq_true (by first | (with_reducible assumption) | assumption); obtain ⟨ad598, e598, hx598_0⟩ := Kd.at_int (Kd.R_reads' HO_9.out).2.2 (ji49) p598 q598; obtain rfl : ad597 = ad598 := (by injection e598); replace p598 := eq_true p598; replace q598 := eq_true q598))
                  go_ret
                  exact ⟨by first | rfl | (simp [errW_none, errW_some] <;> rfl) | (simp only [← hji22, ← hji49]; first | rfl | (simp [errW_none, errW_some] <;> rfl)) | (simp [*, errW_none, errW_some] <;> rfl), by repeat (first | (with_reducible first | exact HB.out | apply below_alloc | apply pw_below_drewN | apply below_drew1) | exact HB.out)⟩
                ·rw [if_neg c51] at H
                 exact absurd H (by simp)
               ·rw [if_neg c50] at H
                exact absurd H (by simp)
              ·replace c48 := Bool.eq_false_iff.mpr c48
               subst c48
               have H1 : (if t596 = 0 then (if t595 = (rd x9_2 x70_3) then (deadboltlaw10_SemaOrder.l1 k3 t569 a1 false x9_2 t592 (x9_2.length : Int) (wrap64 (x70_3 + 1))) else (some false)) else (some false)) = some r := by rw [if_neg (show ¬ (false = true) by decide)] at H; exact H
               clear H
               have H := H1
               clear H1
               by_cases c60 : t596 = 0
               ·rw [if_pos c60] at H
                have c60b0 : (t596 == 0) = true := beq_iff_eq.mpr c60
                have c60b1 : (t596 != 0) = false := bne_eq_false_iff_eq.mpr c60
                clear c60
                by_cases c61 : t595 = (rd x9_2 x70_3)
                ·rw [if_pos c61] at H
                 have c61b0 : (t595 == (rd x9_2 x70_3)) = true := beq_iff_eq.mpr c61
                 have c61b1 : (t595 != (rd x9_2 x70_3)) = false := bne_eq_false_iff_eq.mpr c61
                 clear c61
                 have H' := Aside0.mk H
                 clear H
                 obtain ⟨Ao62, co62, eo62⟩ := Kd.V_slice HO_10.out
                 subst eo62
                 go_wp2_with (first | ((with_reducible refine gate_callee (f := 32) rfl ?_); refine goesL_ (some 76) rfl rfl Try.func32 (by kernel_rfl) rfl #[.slice Ao62 x10_3.length co62, .int .i64 a1] rfl (by (try simp only [List.map_toArray, List.map_cons, List.map_nil]); first | done | rfl | (simp only [List.length_drop, List.length_take]; rfl)) ?_; (with_reducible refine (sema_Release.calls (fun k_ => some k_ ≠ (.slice Ao43 x9_2.length co43 : Value).ownBlock) _ _ x10_3 a1 t592 t595 t596 _ ?side1 A45.out).mono ?_); (case side1 => exact HO_10.out); rintro e w63 ⟨v593, rfl, ho0, hb⟩; refine ⟨_, rfl, ?_⟩; have n0_ := Aside0.mk (Kd.N_below (by (with_reducible repeat (first | apply Kd.N_alloc | apply Kd.N_drewN | apply Kd.N_drew)); exact HO_0.out) hb); have n1_ := Aside0.mk (Kd.R_below (by (with_reducible repeat (first | apply Kd.R_alloc | apply Kd.R_drewN | apply Kd.R_drew)); exact HO_9.out) hb); have n2_ := Aside0.mk (Kd.V_below (by (with_reducible repeat (first | apply Kd.V_alloc | apply Kd.V_drewN | apply Kd.V_drew)); exact HO_10.out) hb); have n3_ := Aside0.mk (Kd.V_lower (Kd.V_mono (ok' := fun k_ => some k_ ≠ (.slice Ao43 x9_2.length co43 : Value).ownBlock) ho0 (fun k_ hk_ => Or.elim hk_ (fun hs_ => hs_) (fun hn_ => (Kd.fresh' (Kd.R_lt (by (with_reducible repeat (first | apply Kd.R_alloc | apply Kd.R_drewN | apply Kd.R_drew)); exact HO_9.out)) k_ hn_)))) (below_size (by repeat (first | (with_reducible first | exact HB.out | apply below_alloc | apply pw_below_drewN | apply below_drew1) | exact HB.out)))); have n4_ := Aside0.mk (below_step (by repeat (first | (with_reducible first | exact HB.out | apply below_alloc | apply pw_below_drewN | apply below_drew1) | exact HB.out)) hb); clear HO_0; clear HO_9; clear HO_10; clear HB; have HO_0 := n0_; have HO_9 := n1_; have HO_10 := n2_; have HO594 := n3_; have HB := n4_; clear n0_ n1_ n2_ n3_ n4_; (try clear hb); (try clear hb2); (try clear hk); (try clear hi); (try clear ho0); have p597 : 0 ≤ (x70_3 : Int) := of_decide_eq_true (by first | (with_reducible assumption) | assumption); have q597 : x70_3 < (x9_2.length : Int) := of_decide_eq_true (by first | (with_reducible assumption) | assumption); obtain ⟨ad597, e597, hx597_0⟩ := Kd.at_int (Kd.R_reads' HO_9.out).2.2 x70_3 p597 q597; cases e597; replace p597 := eq_true p597; replace q597 := eq_true q597))
                 go_roundg k3
                 case measure => have := HJ5.out; have := HK2.out; have := HK3.out; omega
                 case rel => exact ⟨(t592), (wrap64 (x70_3 + 1)), (by first | rfl | (simp; done) | (simp [*]; done)), H', ⟨by have := HJ5.out; have := HK2.out; have := HK3.out; omega⟩, ⟨by (with_reducible repeat (first | apply Kd.N_alloc | apply Kd.N_drewN | apply Kd.N_drew)); exact HO_0.out⟩, ⟨by (with_reducible repeat (first | apply Kd.R_alloc | apply Kd.R_drewN | apply Kd.R_drew)); exact HO_9.out⟩, ⟨by (with_reducible repeat (first | apply Kd.V_alloc | apply Kd.V_drewN | apply Kd.V_drew)); exact HO594.out⟩, ⟨by repeat (first | (with_reducible first | exact HB.out | apply below_alloc | apply pw_below_drewN | apply below_drew1) | exact HB.out)⟩⟩
                ·rw [if_neg c61] at H
                 have c61b0 : (t595 == (rd x9_2 x70_3)) = false := beq_eq_false_iff_ne.mpr c61
                 have c61b1 : (t595 != (rd x9_2 x70_3)) = true := bne_iff_ne.mpr c61
                 obtain rfl := Option.some.inj H
                 obtain ⟨Ao64, co64, eo64⟩ := Kd.V_slice HO_10.out
                 subst eo64
                 go_wp2_with (first | ((with_reducible refine gate_callee (f := 32) rfl ?_); refine goesL_ (some 76) rfl rfl Try.func32 (by kernel_rfl) rfl #[.slice Ao64 x10_3.length co64, .int .i64 a1] rfl (by (try simp only [List.map_toArray, List.map_cons, List.map_nil]); first | done | rfl | (simp only [List.length_drop, List.length_take]; rfl)) ?_; (with_reducible refine (sema_Release.calls (fun k_ => some k_ ≠ (.slice Ao43 x9_2.length co43 : Value).ownBlock) _ _ x10_3 a1 t592 t595 t596 _ ?side1 A45.out).mono ?_); (case side1 => exact HO_10.out); rintro e w65 ⟨v593, rfl, ho0, hb⟩; refine ⟨_, rfl, ?_⟩; have n0_ := Aside0.mk (Kd.N_below (by (with_reducible repeat (first | apply Kd.N_alloc | apply Kd.N_drewN | apply Kd.N_drew)); exact HO_0.out) hb); have n1_ := Aside0.mk (Kd.R_below (by (with_reducible repeat (first | apply Kd.R_alloc | apply Kd.R_drewN | apply Kd.R_drew)); exact HO_9.out) hb); have n2_ := Aside0.mk (Kd.V_below (by (with_reducible repeat (first | apply Kd.V_alloc | apply Kd.V_drewN | apply Kd.V_drew)); exact HO_10.out) hb); have n3_ := Aside0.mk (Kd.V_lower (Kd.V_mono (ok' := fun k_ => some k_ ≠ (.slice Ao43 x9_2.length co43 : Value).ownBlock) ho0 (fun k_ hk_ => Or.elim hk_ (fun hs_ => hs_) (fun hn_ => (Kd.fresh' (Kd.R_lt (by (with_reducible repeat (first | apply Kd.R_alloc | apply Kd.R_drewN | apply Kd.R_drew)); exact HO_9.out)) k_ hn_)))) (below_size (by repeat (first | (with_reducible first | exact HB.out | apply below_alloc | apply pw_below_drewN | apply below_drew1) | exact HB.out)))); have n4_ := Aside0.mk (below_step (by repeat (first | (with_reducible first | exact HB.out | apply below_alloc | apply pw_below_drewN | apply below_drew1) | exact HB.out)) hb); clear HO_0; clear HO_9; clear HO_10; clear HB; have HO_0 := n0_; have HO_9 := n1_; have HO_10 := n2_; have HO594 := n3_; have HB := n4_; clear n0_ n1_ n2_ n3_ n4_; (try clear hb); (try clear hb2); (try clear hk); (try clear hi); (try clear ho0); have p597 : 0 ≤ (x70_3 : Int) := of_decide_eq_true (by first | (with_reducible assumption) | assumption); have q597 : x70_3 < (x9_2.length : Int) := of_decide_eq_true (by first | (with_reducible assumption) | assumption); obtain ⟨ad597, e597, hx597_0⟩ := Kd.at_int (Kd.R_reads' HO_9.out).2.2 x70_3 p597 q597; cases e597; replace p597 := eq_true p597; replace q597 := eq_true q597))
                 go_ret
                 exact ⟨by first | rfl | (simp [errW_none, errW_some] <;> rfl) | (simp only [← hji22]; first | rfl | (simp [errW_none, errW_some] <;> rfl)) | (simp [*, errW_none, errW_some] <;> rfl), by repeat (first | (with_reducible first | exact HB.out | apply below_alloc | apply pw_below_drewN | apply below_drew1) | exact HB.out)⟩
               ·rw [if_neg c60] at H
                have c60b0 : (t596 == 0) = false := beq_eq_false_iff_ne.mpr c60
                have c60b1 : (t596 != 0) = true := bne_iff_ne.mpr c60
                obtain rfl := Option.some.inj H
                obtain ⟨Ao66, co66, eo66⟩ := Kd.V_slice HO_10.out
                subst eo66
                go_wp2_with (first | ((with_reducible refine gate_callee (f := 32) rfl ?_); refine goesL_ (some 76) rfl rfl Try.func32 (by kernel_rfl) rfl #[.slice Ao66 x10_3.length co66, .int .i64 a1] rfl (by (try simp only [List.map_toArray, List.map_cons, List.map_nil]); first | done | rfl | (simp only [List.length_drop, List.length_take]; rfl)) ?_; (with_reducible refine (sema_Release.calls (fun k_ => some k_ ≠ (.slice Ao43 x9_2.length co43 : Value).ownBlock) _ _ x10_3 a1 t592 t595 t596 _ ?side1 A45.out).mono ?_); (case side1 => exact HO_10.out); rintro e w67 ⟨v593, rfl, ho0, hb⟩; refine ⟨_, rfl, ?_⟩; have n0_ := Aside0.mk (Kd.N_below (by (with_reducible repeat (first | apply Kd.N_alloc | apply Kd.N_drewN | apply Kd.N_drew)); exact HO_0.out) hb); have n1_ := Aside0.mk (Kd.R_below (by (with_reducible repeat (first | apply Kd.R_alloc | apply Kd.R_drewN | apply Kd.R_drew)); exact HO_9.out) hb); have n2_ := Aside0.mk (Kd.V_below (by (with_reducible repeat (first | apply Kd.V_alloc | apply Kd.V_drewN | apply Kd.V_drew)); exact HO_10.out) hb); have n3_ := Aside0.mk (Kd.V_lower (Kd.V_mono (ok' := fun k_ => some k_ ≠ (.slice Ao43 x9_2.length co43 : Value).ownBlock) ho0 (fun k_ hk_ => Or.elim hk_ (fun hs_ => hs_) (fun hn_ => (Kd.fresh' (Kd.R_lt (by (with_reducible repeat (first | apply Kd.R_alloc | apply Kd.R_drewN | apply Kd.R_drew)); exact HO_9.out)) k_ hn_)))) (below_size (by repeat (first | (with_reducible first | exact HB.out | apply below_alloc | apply pw_below_drewN | apply below_drew1) | exact HB.out)))); have n4_ := Aside0.mk (below_step (by repeat (first | (with_reducible first | exact HB.out | apply below_alloc | apply pw_below_drewN | apply below_drew1) | exact HB.out)) hb); clear HO_0; clear HO_9; clear HO_10; clear HB; have HO_0 := n0_; have HO_9 := n1_; have HO_10 := n2_; have HO594 := n3_; have HB := n4_; clear n0_ n1_ n2_ n3_ n4_; (try clear hb); (try clear hb2); (try clear hk); (try clear hi); (try clear ho0); have p597 : 0 ≤ (x70_3 : Int) := of_decide_eq_true (by first | (with_reducible assumption) | assumption); have q597 : x70_3 < (x9_2.length : Int) := of_decide_eq_true (by first | (with_reducible assumption) | assumption); obtain ⟨ad597, e597, hx597_0⟩ := Kd.at_int (Kd.R_reads' HO_9.out).2.2 x70_3 p597 q597; cases e597; replace p597 := eq_true p597; replace q597 := eq_true q597))
                go_ret
                exact ⟨by first | rfl | (simp [errW_none, errW_some] <;> rfl) | (simp only [← hji22]; first | rfl | (simp [errW_none, errW_some] <;> rfl)) | (simp [*, errW_none, errW_some] <;> rfl), by repeat (first | (with_reducible first | exact HB.out | apply below_alloc | apply pw_below_drewN | apply below_drew1) | exact HB.out)⟩
             ·rw [if_neg c47] at H
              exact absurd H (by simp)
            ·rw [if_neg c46] at H
             exact absurd H (by simp)
           ·rw [if_neg c44] at H
            have c44b0 : decide (x70_3 < (x9_2.length : Int)) = false := decide_eq_false c44
            clear c44
            replace H := Option.bind_eq_some_iff.mp H
            obtain ⟨t590, A680, H⟩ := H
            replace H : (if t590 = true then ((deadboltref09_Same.f k3 x10_3 t569).bind fun t591 => (some t591)) else (some false)) = some r := H
            have A68 := Aside0.mk A680
            clear A680
            by_cases c69 : t590 = true
            ·subst c69
             have H1 : ((deadboltref09_Same.f k3 x10_3 t569).bind fun t591 => (some t591)) = some r := by rw [if_pos rfl] at H; exact H
             clear H
             have H := H1
             clear H1
             replace H := Option.bind_eq_some_iff.mp H
             obtain ⟨t591, A700, H⟩ := H
             replace H : (some t591) = some r := H
             have A70 := Aside0.mk A700
             clear A700
             obtain rfl := Option.some.inj H
             go_wp2_with (first | ((with_reducible refine gate_callee (f := 33) rfl ?_); refine goesL_ (some 102) rfl rfl Try.func33 (by kernel_rfl) rfl #[] rfl (by (try simp only [List.map_toArray, List.map_cons, List.map_nil]); first | done | rfl | (simp only [List.length_drop, List.length_take]; rfl)) ?_; (with_reducible refine (deadboltlaw10_alive.calls k3  true _ A68.out).mono ?_); rintro e w71 ⟨rfl, hb⟩; refine ⟨_, rfl, ?_⟩; have n0_ := Aside0.mk (Kd.N_below (by (with_reducible repeat (first | apply Kd.N_alloc | apply Kd.N_drewN | apply Kd.N_drew)); exact HO_0.out) hb); have n1_ := Aside0.mk (Kd.R_below (by (with_reducible repeat (first | apply Kd.R_alloc | apply Kd.R_drewN | apply Kd.R_drew)); exact HO_9.out) hb); have n2_ := Aside0.mk (Kd.V_below (by (with_reducible repeat (first | apply Kd.V_alloc | apply Kd.V_drewN | apply Kd.V_drew)); exact HO_10.out) hb); have n3_ := Aside0.mk (below_step (by repeat (first | (with_reducible first | exact HB.out | apply below_alloc | apply pw_below_drewN | apply below_drew1) | exact HB.out)) hb); clear HO_0; clear HO_9; clear HO_10; clear HB; have HO_0 := n0_; have HO_9 := n1_; have HO_10 := n2_; have HB := n3_; clear n0_ n1_ n2_ n3_; (try clear hb); (try clear hb2); (try clear hk); (try clear hi); obtain ⟨Ao72, co72, eo72⟩ := Kd.V_slice HO_10.out; subst eo72; obtain ⟨Ao73, co73, eo73⟩ := Kd.N_slice HO_0.out; subst eo73) | (go_at_call 27; (with_reducible refine (deadboltref09_Same.calls k3 _ _ x10_3 _ _ t569 t591 _ ?side1 ?side2 ?side3 ?side4 A70.out).mono ?_); (case side1 => repeat (first | exact (Kd.V_reads' HO_10.out).2.2 | (with_reducible refine Kd.C_alloc ?_ _) | (with_reducible refine Kd.C_drewN ?_ _) | (with_reducible refine Kd.C_drew ?_))); (case side2 => exact (Kd.V_reads' HO_10.out).2.1); (case side3 => repeat (first | exact (Kd.N_reads' HO_0.out).2.2 | (with_reducible refine Kd.C_alloc ?_ _) | (with_reducible refine Kd.C_drewN ?_ _) | (with_reducible refine Kd.C_drew ?_))); (case side4 => exact (Kd.N_reads' HO_0.out).2.1); rintro e w74 ⟨rfl, hb⟩; have n0_ := Aside0.mk (Kd.N_below (by (with_reducible repeat (first | apply Kd.N_alloc | apply Kd.N_drewN | apply Kd.N_drew)); exact HO_0.out) hb); have n1_ := Aside0.mk (Kd.R_below (by (with_reducible repeat (first | apply Kd.R_alloc | apply Kd.R_drewN | apply Kd.R_drew)); exact HO_9.out) hb); have n2_ := Aside0.mk (Kd.V_below (by (with_reducible repeat (first | apply Kd.V_alloc | apply Kd.V_drewN | apply Kd.V_drew)); exact HO_10.out) hb); have n3_ := Aside0.mk (below_step (by repeat (first | (with_reducible first | exact HB.out | apply below_alloc | apply pw_below_drewN | apply below_drew1) | exact HB.out)) hb); clear HO_0; clear HO_9; clear HO_10; clear HB; have HO_0 := n0_; have HO_9 := n1_; have HO_10 := n2_; have HB := n3_; clear n0_ n1_ n2_ n3_; (try clear hb); (try clear hb2); (try clear hk); (try clear hi)))
             go_ret
             exact ⟨by first | rfl | (simp [errW_none, errW_some] <;> rfl) | (simp only [← hji22]; first | rfl | (simp [errW_none, errW_some] <;> rfl)) | (simp [*, errW_none, errW_some] <;> rfl), by repeat (first | (with_reducible first | exact HB.out | apply below_alloc | apply pw_below_drewN | apply below_drew1) | exact HB.out)⟩
            ·replace c69 := Bool.eq_false_iff.mpr c69
             subst c69
             have H1 : (some false) = some r := by rw [if_neg (show ¬ (false = true) by decide)] at H; exact H
             clear H
             have H := H1
             clear H1
             obtain rfl := Option.some.inj H
             go_wp2_with (first | ((with_reducible refine gate_callee (f := 33) rfl ?_); refine goesL_ (some 102) rfl rfl Try.func33 (by kernel_rfl) rfl #[] rfl (by (try simp only [List.map_toArray, List.map_cons, List.map_nil]); first | done | rfl | (simp only [List.length_drop, List.length_take]; rfl)) ?_; (with_reducible refine (deadboltlaw10_alive.calls k3  false _ A68.out).mono ?_); rintro e w75 ⟨rfl, hb⟩; refine ⟨_, rfl, ?_⟩; have n0_ := Aside0.mk (Kd.N_below (by (with_reducible repeat (first | apply Kd.N_alloc | apply Kd.N_drewN | apply Kd.N_drew)); exact HO_0.out) hb); have n1_ := Aside0.mk (Kd.R_below (by (with_reducible repeat (first | apply Kd.R_alloc | apply Kd.R_drewN | apply Kd.R_drew)); exact HO_9.out) hb); have n2_ := Aside0.mk (Kd.V_below (by (with_reducible repeat (first | apply Kd.V_alloc | apply Kd.V_drewN | apply Kd.V_drew)); exact HO_10.out) hb); have n3_ := Aside0.mk (below_step (by repeat (first | (with_reducible first | exact HB.out | apply below_alloc | apply pw_below_drewN | apply below_drew1) | exact HB.out)) hb); clear HO_0; clear HO_9; clear HO_10; clear HB; have HO_0 := n0_; have HO_9 := n1_; have HO_10 := n2_; have HB := n3_; clear n0_ n1_ n2_ n3_; (try clear hb); (try clear hb2); (try clear hk); (try clear hi)))
             go_ret
             exact ⟨by first | rfl | (simp [errW_none, errW_some] <;> rfl) | (simp only [← hji22]; first | rfl | (simp [errW_none, errW_some] <;> rfl)) | (simp [*, errW_none, errW_some] <;> rfl), by repeat (first | (with_reducible first | exact HB.out | apply below_alloc | apply pw_below_drewN | apply below_drew1) | exact HB.out)⟩
     ·rw [if_neg c24] at H
      exact absurd H (by simp)
    ·rw [if_neg c23] at H
     exact absurd H (by simp)

end Go.Proofs.Ytnjnjajgpkmfhaa.PX

/-
 The law SemaOrder, told of its printed form.
-/
namespace Go.Proofs.Ytnjnjajgpkmfhaa.PX
open Go.RowKit Go.Proofs.YtnjnjajgpkmfhaaW.PrintWords Go.Proofs.YtnjnjajgpkmfhaaW.PrintLast Go.Proofs.YtnjnjajgpkmfhaaW.PrintMore
theorem may_f {l : List Sp} (hl : l.length ≤ 1000) (h2 : ∀ s ∈ l, s.f2.length ≤ 1000) (a : Int) {k : Nat} (hk : 3100 ≤ k) : ∃ b, deadboltref10_May.f k l a = some b ∧ (b = true ↔ Tab l ∧ isAddrB a = true) := by
 obtain ⟨b, e1, e2⟩ := refright_f l hl h2 hk
 unfold deadboltref10_May.f
 rw [e1, key_f]
 simp only [Option.bind_some]
 cases b with
 | true => rw [if_pos rfl]; exact ⟨_, rfl, by simp [e2.1 rfl]⟩
 | false => rw [if_neg Bool.false_ne_true]; exact ⟨_, rfl, by simp; exact fun h => by have := e2.2 h; cases this⟩
section
variable {t : List Sp} {a : Int}
/-- A line at the address, in the table. -/
structure AtL (t : List Sp) (a : Int) (ln : List Int) : Prop where
 line : lineB ln = true
 room : (setT t ⟨a, 0, ln⟩).length ≤ 64
theorem AtL.spot (ha : 0 ≤ a ∧ a ≤ 4294967295) {ln : List Int} (h : AtL t a ln) : SpotP ⟨a, 0, ln⟩ := ⟨ha, by simp, h.line, .inl rfl⟩
theorem AtL.tab (hT : Tab t) (ha : 0 ≤ a ∧ a ≤ 4294967295) {ln : List Int} (h : AtL t a ln) : Tab (setT t ⟨a, 0, ln⟩) := tab_set hT (h.spot ha) h.room
theorem AtL.get (hT : Tab t) (ha : 0 ≤ a ∧ a ≤ 4294967295) {ln : List Int} (h : AtL t a ln) : getT (setT t ⟨a, 0, ln⟩) a = ⟨a, 0, ln⟩ := by
 rw [getT_set hT (h.spot ha), if_pos rfl]
theorem AtL.set (hT : Tab t) (ha : 0 ≤ a ∧ a ≤ 4294967295) {ln : List Int} (h : AtL t a ln) {m : List Int} (hm : lineB m = true) : setT (setT t ⟨a, 0, ln⟩) ⟨a, 0, m⟩ = setT t ⟨a, 0, m⟩ :=
 set_set hT (h.spot ha) ⟨ha, by simp, hm, .inl rfl⟩ h.room rfl
/-- Who waits, when they came in this order. -/
def lnOf (b : Bool) (come : List Int) : List Int := if b = true then come.reverse else come
theorem lnOf_push (b : Bool) (come : List Int) (x : Int) : pushL (lnOf b come) x b = lnOf b (come ++ [x]) := by
 cases b <;> simp [pushL, lnOf]
theorem lnOf_len (b : Bool) (come : List Int) : (lnOf b come).length = come.length := by cases b <;> simp [lnOf]
theorem order_l1 (hT : Tab t) (ha : 0 ≤ a ∧ a ≤ 4294967295) (h0 : setT t ⟨a, 0, []⟩ = t) (b : Bool) (come : List Int) (hc : come.length ≤ 20) : ∀ (d i k : Nat) (ln : List Int), i + d = come.length → d + 3000 < k → ln = (lnOf b come).drop i → AtL t a ln →
  deadboltlaw10_SemaOrder.l1 k t a b come (setT t ⟨a, 0, ln⟩) (come.length : Int) (i : Int) = some true := by
 intro d
 induction d with
 | zero =>
  intro i k ln hi hk hln hL
  obtain ⟨k, rfl⟩ : ∃ q, k = q + 1 := ⟨k - 1, by omega⟩
  have hn : ln = [] := by rw [hln]; exact List.drop_eq_nil_of_le (by rw [lnOf_len]; omega)
  have hf := hT.few
  obtain ⟨b, e1, e2⟩ := refsame_f t t (by omega) hT.lens (k := k) (by omega)
  rw [deadboltlaw10_SemaOrder.l1, if_neg (by omega), semalive_ok (by omega), hn, h0]
  simp only [Option.bind_some]
  rw [if_pos trivial, e1, e2.2 rfl]
  rfl
 | succ d ih =>
  intro i k ln hi hk hln hL
  obtain ⟨k, rfl⟩ : ∃ q, k = q + 1 := ⟨k - 1, by omega⟩
  have hlt : i < (lnOf b come).length := by rw [lnOf_len]; omega
  have hcons : ln = (lnOf b come)[i] :: (lnOf b come).drop (i + 1) := by rw [hln, List.drop_eq_getElem_cons hlt]
  generalize hx : (lnOf b come)[i] = x at hcons
  generalize hr : (lnOf b come).drop (i + 1) = r at hcons
  have hg := hL.get hT ha
  have hrl : lineB r = true := by
   obtain ⟨p1, p2, p3⟩ := (lineB_iff _).1 hL.line
   rw [hcons] at p1 p2 p3
   exact (lineB_iff _).2 ⟨(List.nodup_cons.1 p1).2, fun y hy => p2 y (List.mem_cons_of_mem _ hy), by simp at p3 ⊢; omega⟩
  have hroom := pop_room (hL.tab hT ha) (a := a) (x := x) (r := r) (c := 0) (t := r) (by rw [hg]; exact hcons)
  rw [hL.set hT ha hrl] at hroom
  have hrel : sema_Release.f (setT t ⟨a, 0, ln⟩) a = some (setT t ⟨a, 0, r⟩, x, 0) := by
   rw [rel_f (hL.tab hT ha) ha, relT, hg, hcons]
   simp only
   rw [← hcons, hL.set hT ha hrl]
  have hgo := ih (i + 1) k r (by omega) (by omega) hr.symm ⟨hrl, hroom⟩
  rw [deadboltlaw10_SemaOrder.l1, if_pos (by omega), hrel]
  simp only [Option.bind_some]
  rw [if_pos (by omega), if_pos (by omega)]
  cases b with
  | true =>
   have hw : wrap64 (wrap64 ((come.length : Int) - 1) - (i : Int)) = ((come.length - 1 - i : Nat) : Int) := by
    rw [wrap_id (x := (come.length : Int) - 1) (by omega) (by omega), wrap_id (by omega) (by omega)]
    omega
   have hv : come[come.length - 1 - i]? = some x := by
    rw [← hx, List.getElem?_eq_getElem (by omega)]
    simp [lnOf]
   rw [if_pos rfl, hw, if_pos (by omega), if_pos (by omega), if_pos trivial, rd_at hv, if_pos rfl, next_i (by omega)]
   exact hgo
  | false =>
   have hv : come[i]? = some x := by
    rw [← hx, List.getElem?_eq_getElem (by omega)]
    simp [lnOf]
   rw [if_neg Bool.false_ne_true, if_pos trivial, rd_at hv, if_pos rfl, next_i (by omega)]
   exact hgo
theorem order_l0 (hT : Tab t) (ha : 0 ≤ a ∧ a ≤ 4294967295) (h0 : setT t ⟨a, 0, []⟩ = t) (b : Bool) (who : List Int) (hw : who.length ≤ 20) : ∀ (d i k : Nat) (come : List Int), i + d = who.length → d + 4000 < k → come.length ≤ i → AtL t a (lnOf b come) →
  deadboltlaw10_SemaOrder.l0 k t a b come (setT t ⟨a, 0, lnOf b come⟩) who (who.length : Int) (i : Int) = some true := by
 intro d
 induction d with
 | zero =>
  intro i k come hi hk hc hL
  obtain ⟨k, rfl⟩ : ∃ q, k = q + 1 := ⟨k - 1, by omega⟩
  rw [deadboltlaw10_SemaOrder.l0, if_neg (by omega)]
  exact order_l1 hT ha h0 b come (by omega) come.length 0 k _ (by omega) (by omega) (by simp) hL
 | succ d ih =>
  intro i k come hi hk hc hL
  obtain ⟨k, rfl⟩ : ∃ q, k = q + 1 := ⟨k - 1, by omega⟩
  have hv : who[i]? = some who[i] := List.getElem?_eq_getElem (by omega)
  have hT2 := hL.tab hT ha
  have hg := hL.get hT ha
  rw [deadboltlaw10_SemaOrder.l0, if_pos (by omega), if_pos (by omega), if_pos (by omega), rd_at hv]
  generalize who[i] = x
  by_cases hx : x < 0
  ·have := hT2.few
   rw [acq_bad (by omega) hT2.lens (.inr (.inr hx)) (by omega)]
   simp only [Option.bind_some]
   rw [if_neg (by simp), next_i (by omega)]
   exact ih (i + 1) k come (by omega) (by omega) (by omega) hL
  ·have hskip := ih (i + 1) k come (by omega) (by omega) (by omega) hL
   rw [acq_f hT2 ha (by omega) b (by omega), acqT, hg]
   simp only [Option.bind_some]
   by_cases hm : x ∈ lnOf b come
   ·rw [if_pos hm, if_neg (by simp), next_i (by omega)]
    exact hskip
   ·rw [if_neg hm, if_neg (show ¬ ((0 : Int) > 0) by omega), if_neg (show ¬ (lnOf b come).length = 64 by rw [lnOf_len]; omega)]
    have hpl : lineB (pushL (lnOf b come) x b) = true := pushL_line hL.line (by omega) hm (by rw [lnOf_len]; omega)
    rw [setR, hL.set hT ha hpl, lnOf_push]
    rw [lnOf_push] at hpl
    by_cases hq : (setT t ⟨a, 0, lnOf b (come ++ [x])⟩).length > 64
    ·rw [if_pos hq, if_neg (by simp), next_i (by omega)]
     exact hskip
    ·rw [if_neg hq, if_pos rfl, if_neg Bool.false_ne_true, if_neg hx, if_pos (by omega), next_i (by omega)]
     exact ih (i + 1) k (come ++ [x]) (by omega) (by omega) (by simp; omega) ⟨hpl, by omega⟩
end
theorem order_all (l : List Sp) (a : Int) (who : List Int) (b : Bool) : deadboltlaw10_SemaOrder.f 5000 l a who b = some true := by
 have hL : (fewF l).length ≤ 80 := by have := few_len l; omega
 have h2 := few_lens l
 unfold deadboltlaw10_SemaOrder.f
 rw [few10_f l (by omega)]
 simp only [Option.bind_some]
 generalize fewF l = t at *
 obtain ⟨mb, m1, m2⟩ := may_f (l := t) (by omega) h2 a (k := 5000) (by omega)
 have hyes : deadboltlaw10_SemaOrder.j0 5000 t a who b true = some true := by
  rw [deadboltlaw10_SemaOrder.j0, if_pos rfl, semalive_ok (by omega)]
  rfl
 rw [m1]
 simp only [Option.bind_some]
 cases mb with
 | false =>
  rw [if_neg Bool.false_ne_true]
  exact hyes
 | true =>
  obtain ⟨hT, ha'⟩ := m2.1 rfl
  have ha := (addr_iff a).1 ha'
  obtain ⟨eb, e1, e2⟩ := refempty_f (getT t a)
  rw [if_pos rfl, refget_f t a (by omega) (by omega)]
  simp only [Option.bind_some]
  rw [e1]
  simp only [Option.bind_some]
  cases eb with
  | false => exact hyes
  | true =>
   have hE := e2.1 rfl
   have hg : getT t a = ⟨a, 0, []⟩ := by
    have := empty_is hE
    rw [(get_spot hT ha).2] at this
    exact this
   have h0 : setT t ⟨a, 0, []⟩ = t := by rw [← hg]; exact set_get hT ha
   have hm : mn (who.length : Int) 20 = ((min who.length 20 : Nat) : Int) := by unfold mn; split <;> omega
   rw [show (!true) = false from rfl, deadboltlaw10_SemaOrder.j0, if_neg Bool.false_ne_true, hm, if_pos (by omega), if_pos (by omega), Int.toNat_natCast]
   have hf := hT.few
   have := order_l0 hT ha h0 b (who.take (min who.length 20)) (by simp; omega) (who.take (min who.length 20)).length 0 4999 [] (by omega) (by simp; omega) (by simp) ⟨by cases b <;> simp [lnOf, lineB], by cases b <;> simp only [lnOf, Bool.false_eq_true, if_false, if_true, List.reverse_nil] <;> rw [h0] <;> omega⟩
   have hn : lnOf b [] = [] := by cases b <;> rfl
   rw [hn, h0] at this
   exact this
end Go.Proofs.Ytnjnjajgpkmfhaa.PX

/-
 A spot, opened.
-/
namespace Go.Proofs.Ytnjnjajgpkmfhaa.PX
open Go.RowKit Go.Proofs.YtnjnjajgpkmfhaaW.PrintWords
theorem opensP {H : Type} {enc : TypeId × Value → H} {w : World} : Opens enc Try.prog w 33 k33 (fun x => (Lit.int .i64 x.f0).wf = true ∧ (Lit.int .i64 x.f1).wf = true) := by
 intro fuel cs x h
 obtain ⟨a, hk, hw⟩ := Opens.struct (g := fun x : S33 => (x.f0, x.f1, x.f2)) Try.underlying33 (by kernel_rfl) (fun x : Int × Int × List Int => ⟨x.1, x.2.1, x.2.2⟩) (fun _ => rfl)
  (OpensF.cons rfl (by kernel_rfl) (Opens.int Try.underlying3) rfl (OpensF.cons rfl (by kernel_rfl) (Opens.int Try.underlying3) rfl (OpensF.one rfl (by kernel_rfl) (Opens.slice Try.underlying25 (by kernel_rfl) (Opens.int Try.underlying3))))) fuel cs x h
 exact ⟨a, hk, hw.1, hw.2.1⟩
end Go.Proofs.Ytnjnjajgpkmfhaa.PX

/-
 The statement on SemaOrder, out of what its printed form comes to: for every input the call returns true, and each argument reads behind it as it read before.
-/
namespace Go.Proofs.Ytnjnjajgpkmfhaa.semaOrder
open Go.ChangeShapes Go.WideShapes Go.ChangeAt Go.RowKit Go.Proofs.YtnjnjajgpkmfhaaW.PrintWords Go.Proofs.Ytnjnjajgpkmfhaa.PX
set_option linter.unusedVariables false
theorem own : ownKnob Try.prog.godebug = none := by kernel_rfl
set_option maxRecDepth 100000 in
theorem lifted (os : Os) (started : os.Started) (H : Type) (enc : TypeId × Value → H) :
  ReturnsInHanded {} Try.checked os 7 .any (Rows.semaOrderSpec.pre6 enc Try.prog Try.f7 Rows.semaOrderRow.domain false) (Rows.semaOrderSpec.post enc Try.prog Try.f7 false true false false) := by
 refine returnsInHanded_of_change (C := Try.checked) own started (by kernel_rfl) Try.func7
  (ChangeSpec.witness6 (enc := enc) (C := Try.checked) false ⟨#[], #[.slice none 0 0, .int .i64 0, .slice none 0 0, .bool false], []⟩ 8 (by kernel_rfl) (by kernel_rfl) (by kernel_rfl) (by kernel_rfl)) ?_
 intro W base args ds gs before hval0 hW hcnd _
 have hval : ∀ (j : Nat) t v, Try.f7.params[j]? = some t → args[j]? = some v → Value.okWide Try.prog W .any base t v := hval0
 have hW' := hW
 obtain ⟨p, q, hA0, hV, hpq, hfz, hnd⟩ := hW
 have hA : DataW.TrodAll enc Try.prog W 0 (fun _ => true) true Try.f7.params.toList args.toList ds p := hA0
 rw [Try.params7] at hA hval
 obtain ⟨v0, vs0, d0, ds0, p0, q0, hargs, rfl, hp0, h0, r0⟩ := trodAll_cons hA
 obtain ⟨v1, vs1, d1, ds1, p1, q1, rfl, rfl, hp1, h1, r1⟩ := trodAll_cons r0
 obtain ⟨v2, vs2, d2, ds2, p2, q2, rfl, rfl, hp2, h2, r2⟩ := trodAll_cons r1
 obtain ⟨v3, vs3, d3, ds3, p3, q3, rfl, rfl, hp3, h3, r3⟩ := trodAll_cons r2
 obtain ⟨rfl, rfl, _⟩ := trodAll_nil r3
 obtain rfl : args = #[v0, v1, v2, v3] := by cases args; simp_all
 obtain ⟨rfl, _⟩ := trodVars_none hV
 obtain ⟨A0, c0, l0, rfl, hl0, hC0, hw0⟩ := open_C Try.underlying22 (by kernel_rfl) opensP (hval 0 22 v0 rfl rfl) h0
 obtain ⟨a1, rfl, _, _, w1⟩ := open_int Try.underlying3 (hval 1 3 v1 rfl rfl) h1
 obtain ⟨A2, c2, l2, rfl, hl2, hC2, hw2⟩ := open_C Try.underlying25 (by kernel_rfl) (Opens.int Try.underlying3) (hval 2 25 v2 rfl rfl) h2
 obtain ⟨a3, rfl, _⟩ := open_bool Try.underlying4 (hval 3 4 v3 rfl rfl) h3
 refine (deadboltlaw10_SemaOrder.calls 5000 A0 c0 l0 a1 A2 c2 l2 a3 true W hC0 hl0 hC2 hl2 (order_all l0 a1 l2 a3)).mono fun e W' ⟨he, hb⟩ => ?_
 subst he
 exact ⟨_, rfl, law_post (by kernel_rfl) (by kernel_rfl) (by kernel_rfl) Try.underlying4 rfl hW' rfl hb⟩

theorem rowOver : Rows.semaOrderRow.holds Try.pinned (OpenSpec.ofChange Rows.semaOrderSpec) :=
 OpenClaim.holds_of_wide 7 Try.f7 rfl rfl rfl rfl rfl rfl rfl ⟨rfl, rfl, rfl, rfl, rfl⟩ rfl rfl rfl rfl rfl (by kernel_rfl) Try.func7 (by kernel_rfl)
  (of_decide_eq_true (by kernel_rfl)) (by unfold Func.isWrapper; first | (rw [if_pos (by decide +kernel)]; kernel_rfl) | (rw [if_neg (by decide +kernel)]; exact ⟨rfl, rfl⟩))
  (fun os started H enc _ => lifted os started H enc)

theorem proved : Rows.SemaOrderSaid := rowOver
#print axioms proved
end Go.Proofs.Ytnjnjajgpkmfhaa.semaOrder
