/-
  Texts of this claim, one behind the other: PXx8, PXx9, PRoot, PXx10, PSpots, PXx21, PXx16, PXx22, PXx15, PXx17, PXx23, PXx19, PXx20, PXx24, PXx11, PXx12, PXx13. All are cut down to the theorems that the claim leans on; those named W.. and PXx.. were written by the kit's print.
-/
import Derived.Test.YtnjnjajgpkmfhaaBRootTells3
namespace Go.Proofs.Ytnjnjajgpkmfhaa.PX
open Go.RowKit Go.Proofs.YtnjnjajgpkmfhaaW.PrintWords Go.Proofs.YtnjnjajgpkmfhaaW.PrintLast Go.Proofs.YtnjnjajgpkmfhaaW.PrintMore
attribute [local go_sem] max2_int min2_int max_two min_two max_three min_three max_four min_four   -- for this text's walks alone
set_option linter.unusedVariables false
set_option linter.unusedSimpArgs false

/-! ### root_Under: function 12 -/
def root_Under.j0 : Nat → List (S33) → Int → Bool → Option (List Int × Int)
 | 0, _, _, _ => none
 | k + 1, x0, x1, x16 => if x16 = true then (some (([] : List Int), 1)) else ((root_tree.f x0 x1).bind fun bt132 => ((treap_Keys.f bt132.1 bt132.2).bind fun bt136 => (some (bt136.1, bt136.2))))
def root_Under.f (k : Nat) (l0 : List (S33)) (a1 : Int) : Option (List Int × Int) := (root_Right.f k l0).bind fun t131 => (if t131 = true then (if a1 < 0 then (root_Under.j0 k l0 a1 true) else (root_Under.j0 k l0 a1 (decide (a1 ≥ 251)))) else (root_Under.j0 k l0 a1 true))
set_option maxHeartbeats 8000000 in
set_option maxRecDepth 100000 in
theorem root_Under.calls (k : Nat) (A0 : Option Addr) (c0 : Nat) (l0 : List (S33)) (a1 : Int) (r1 : List Int) (r2 : Int) (w : World) (hr0 : Kd.C k33 w A0 l0.length l0) (hc0 : l0.length ≤ c0) (h : root_Under.f k l0 a1 = some (r1, r2)) :
  Calls Try.prog 12 #[.slice A0 l0.length c0, .int .i64 a1] w fun e w' => ∃ v0_ : Value, e = .returned (.tuple #[v0_, .int .i64 r2]) ∧ Kd.R (Kd.int .i64) 3 w' w.heap.size (fun _ => True) v0_ r1 ∧ Below w.heap.size w w' := by
 have HR0 := Aside0.mk hr0
 have HC0 := Aside0.mk hc0
 clear hr0 hc0
 have HB := Aside0.mk (Below.refl w.heap.size w)
 have H : ((root_Right.f k l0).bind fun t131 => (if t131 = true then (if a1 < 0 then (root_Under.j0 k l0 a1 true) else (root_Under.j0 k l0 a1 (decide (a1 ≥ 251)))) else (root_Under.j0 k l0 a1 true))) = some (r1, r2) := h
 clear h
 have HC3 := Aside0.mk H
 clear H
 go_enter Try.func12, Try.ntmps12
 go_upto_region 1 with (fail)
 go_cut [16] (fun v16 wc => ∃ (kq : Nat) (x16_2 : Bool), v16 = .bool x16_2 ∧ Aside0 (root_Under.j0 kq l0 a1 x16_2 = some (r1, r2)) ∧ Aside0 (kq ≤ k) ∧ Aside0 (Below w.heap.size w wc))
 case first =>
  have H := HC3.out
  clear HC3
  replace H := Option.bind_eq_some_iff.mp H
  obtain ⟨t131, A40, H⟩ := H
  replace H : (if t131 = true then (if a1 < 0 then (root_Under.j0 k l0 a1 true) else (root_Under.j0 k l0 a1 (decide (a1 ≥ 251)))) else (root_Under.j0 k l0 a1 true)) = some (r1, r2) := H
  have A4 := Aside0.mk A40
  clear A40
  by_cases c5 : t131 = true
  ·subst c5
   have H1 : (if a1 < 0 then (root_Under.j0 k l0 a1 true) else (root_Under.j0 k l0 a1 (decide (a1 ≥ 251)))) = some (r1, r2) := by rw [if_pos rfl] at H; exact H
   clear H
   have H := H1
   clear H1
   by_cases c6 : a1 < 0
   ·rw [if_pos c6] at H
    have c6b0 : decide (a1 < 0) = true := decide_eq_true c6
    clear c6
    (first | rw [c6b0] | (simp only [i64_w, i32_w]; rw [c6b0]) | skip)
    have H' := Aside0.mk H
    clear H
    go_wp2_with (first | ((with_reducible refine gate_callee (f := 11) rfl ?_); refine goesL_ (some 7) rfl rfl Try.func11 (by kernel_rfl) rfl #[.slice A0 l0.length c0] rfl (by (try simp only [List.map_toArray, List.map_cons, List.map_nil]); first | done | rfl | (simp only [List.length_drop, List.length_take]; rfl)) ?_; (with_reducible refine (root_Right.calls k _ _ l0 true _ ?side1 ?side2 A4.out).mono ?_); (case side1 => repeat (first | exact (Kd.C_below HR0.out HB.out) | (with_reducible refine Kd.C_alloc ?_ _) | (with_reducible refine Kd.C_drewN ?_ _) | (with_reducible refine Kd.C_drew ?_))); (case side2 => exact HC0.out); rintro e w7 ⟨rfl, hb⟩; refine ⟨_, rfl, ?_⟩; have n0_ := Aside0.mk (below_step (by repeat (first | (with_reducible first | exact HB.out | apply below_alloc | apply pw_below_drewN | apply below_drew1) | exact HB.out)) hb); clear HB; have HB := n0_; clear n0_; (try clear hb); (try clear hb2); (try clear hk); (try clear hi)))
    go_meet
    case rel => exact ⟨_, (true), (by first | rfl | (simp; done) | (simp [*]; done)), H', ⟨by first | omega | exact Nat.le_refl _⟩, ⟨by repeat (first | (with_reducible first | exact HB.out | apply below_alloc | apply pw_below_drewN | apply below_drew1) | exact HB.out)⟩⟩
   ·rw [if_neg c6] at H
    have c6b0 : decide (a1 < 0) = false := decide_eq_false c6
    clear c6
    (first | rw [c6b0] | (simp only [i64_w, i32_w]; rw [c6b0]) | skip)
    have H' := Aside0.mk H
    clear H
    go_wp2_with (first | ((with_reducible refine gate_callee (f := 11) rfl ?_); refine goesL_ (some 7) rfl rfl Try.func11 (by kernel_rfl) rfl #[.slice A0 l0.length c0] rfl (by (try simp only [List.map_toArray, List.map_cons, List.map_nil]); first | done | rfl | (simp only [List.length_drop, List.length_take]; rfl)) ?_; (with_reducible refine (root_Right.calls k _ _ l0 true _ ?side1 ?side2 A4.out).mono ?_); (case side1 => repeat (first | exact (Kd.C_below HR0.out HB.out) | (with_reducible refine Kd.C_alloc ?_ _) | (with_reducible refine Kd.C_drewN ?_ _) | (with_reducible refine Kd.C_drew ?_))); (case side2 => exact HC0.out); rintro e w8 ⟨rfl, hb⟩; refine ⟨_, rfl, ?_⟩; have n0_ := Aside0.mk (below_step (by repeat (first | (with_reducible first | exact HB.out | apply below_alloc | apply pw_below_drewN | apply below_drew1) | exact HB.out)) hb); clear HB; have HB := n0_; clear n0_; (try clear hb); (try clear hb2); (try clear hk); (try clear hi)))
    go_meet
    case rel => exact ⟨_, (decide (a1 ≥ 251)), (by first | rfl | (simp; done) | (simp [*]; done)), H', ⟨by first | omega | exact Nat.le_refl _⟩, ⟨by repeat (first | (with_reducible first | exact HB.out | apply below_alloc | apply pw_below_drewN | apply below_drew1) | exact HB.out)⟩⟩
  ·replace c5 := Bool.eq_false_iff.mpr c5
   subst c5
   have H1 : (root_Under.j0 k l0 a1 true) = some (r1, r2) := by rw [if_neg (show ¬ (false = true) by decide)] at H; exact H
   clear H
   have H := H1
   clear H1
   have H' := Aside0.mk H
   clear H
   go_wp2_with (first | ((with_reducible refine gate_callee (f := 11) rfl ?_); refine goesL_ (some 7) rfl rfl Try.func11 (by kernel_rfl) rfl #[.slice A0 l0.length c0] rfl (by (try simp only [List.map_toArray, List.map_cons, List.map_nil]); first | done | rfl | (simp only [List.length_drop, List.length_take]; rfl)) ?_; (with_reducible refine (root_Right.calls k _ _ l0 false _ ?side1 ?side2 A4.out).mono ?_); (case side1 => repeat (first | exact (Kd.C_below HR0.out HB.out) | (with_reducible refine Kd.C_alloc ?_ _) | (with_reducible refine Kd.C_drewN ?_ _) | (with_reducible refine Kd.C_drew ?_))); (case side2 => exact HC0.out); rintro e w9 ⟨rfl, hb⟩; refine ⟨_, rfl, ?_⟩; have n0_ := Aside0.mk (below_step (by repeat (first | (with_reducible first | exact HB.out | apply below_alloc | apply pw_below_drewN | apply below_drew1) | exact HB.out)) hb); clear HB; have HB := n0_; clear n0_; (try clear hb); (try clear hb2); (try clear hk); (try clear hi)))
   go_meet
   case rel => exact ⟨_, (true), (by first | rfl | (simp; done) | (simp [*]; done)), H', ⟨by first | omega | exact Nat.le_refl _⟩, ⟨by repeat (first | (with_reducible first | exact HB.out | apply below_alloc | apply pw_below_drewN | apply below_drew1) | exact HB.out)⟩⟩
 case rest =>
  clear HC3
  try clear c1
  try clear p2
  try clear c5
  try clear c6
  try clear c6b0
  obtain ⟨kq, x16_2, rfl, HA, HJ2, HB⟩ := hcut
  cases kq with
  | zero => exact absurd HA.out (by simp [root_Under.j0])
  | succ kj2 =>
   have H := HA.out
   clear HA
   simp only [root_Under.j0] at H
   by_cases c10 : x16_2 = true
   ·subst c10
    have H1 : (some (([] : List Int), 1)) = some (r1, r2) := by rw [if_pos rfl] at H; exact H
    clear H
    have H := H1
    clear H1
    simp only [Option.some.injEq, Prod.mk.injEq] at H
    obtain ⟨rfl, rfl⟩ := H
    go_wp2
    go_ret2
    exact ⟨_, by first | rfl | (simp [errW_none, errW_some] <;> rfl) | (simp [*, errW_none, errW_some] <;> rfl), by first | exact Kd.R_nil _ _ _ _ _ | exact Kd.N_nil _ _ _ _ _ | exact Kd.V_nil _ _ _ _ _ | exact Kd.Q_nil _ _ _ _ _ | exact Kd.S_nil _ _ _ _ _, by repeat (first | (with_reducible first | exact HB.out | apply below_alloc | apply pw_below_drewN | apply below_drew1) | exact HB.out)⟩
   ·replace c10 := Bool.eq_false_iff.mpr c10
    subst c10
    have H1 : ((root_tree.f l0 a1).bind fun bt132 => ((treap_Keys.f bt132.1 bt132.2).bind fun bt136 => (some (bt136.1, bt136.2)))) = some (r1, r2) := by rw [if_neg (show ¬ (false = true) by decide)] at H; exact H
    clear H
    have H := H1
    clear H1
    replace H := Option.bind_eq_some_iff.mp H
    obtain ⟨⟨t132, t133⟩, A110, H⟩ := H
    replace H : ((treap_Keys.f t132 t133).bind fun bt136 => (some (bt136.1, bt136.2))) = some (r1, r2) := H
    have A11 := Aside0.mk A110
    clear A110
    replace H := Option.bind_eq_some_iff.mp H
    obtain ⟨⟨t136, t139⟩, A120, H⟩ := H
    replace H : (some (t136, t139)) = some (r1, r2) := H
    have A12 := Aside0.mk A120
    clear A120
    simp only [Option.some.injEq, Prod.mk.injEq] at H
    obtain ⟨rfl, rfl⟩ := H
    go_wp2_with (first | ((with_reducible refine gate_callee (f := 44) rfl ?_); refine goesL_ (some 19) rfl rfl Try.func44 (by kernel_rfl) rfl #[.slice A0 l0.length c0, .int .i64 a1] rfl (by (try simp only [List.map_toArray, List.map_cons, List.map_nil]); first | done | rfl | (simp only [List.length_drop, List.length_take]; rfl)) ?_; (with_reducible refine (root_tree.calls _ _ l0 a1 t132 t133 _ ?side1 ?side2 A11.out).mono ?_); (case side1 => repeat (first | exact (Kd.C_below HR0.out HB.out) | (with_reducible refine Kd.C_alloc ?_ _) | (with_reducible refine Kd.C_drewN ?_ _) | (with_reducible refine Kd.C_drew ?_))); (case side2 => exact HC0.out); rintro e w13 ⟨v134, rfl, ho0, hb⟩; refine ⟨_, rfl, ?_⟩; have n0_ := Aside0.mk (Kd.R_lower ho0 (below_size (by repeat (first | (with_reducible first | exact HB.out | apply below_alloc | apply pw_below_drewN | apply below_drew1) | exact HB.out)))); have n1_ := Aside0.mk (below_step (by repeat (first | (with_reducible first | exact HB.out | apply below_alloc | apply pw_below_drewN | apply below_drew1) | exact HB.out)) hb); clear HB; have HO135 := n0_; have HB := n1_; clear n0_ n1_; (try clear hb); (try clear hb2); (try clear hk); (try clear hi); (try clear ho0); obtain ⟨Ao14, co14, eo14⟩ := Kd.R_slice HO135.out; subst eo14) | ((with_reducible refine gate_callee (f := 43) rfl ?_); refine goesL_ (some 20) rfl rfl Try.func43 (by kernel_rfl) rfl #[.agg #[.int .i64 t132, .slice Ao14 t133.length co14]] rfl (by (try simp only [List.map_toArray, List.map_cons, List.map_nil]); first | done | rfl | (simp only [List.length_drop, List.length_take]; rfl)) ?_; (with_reducible refine (treap_Keys.calls t132 _ _ t133 t136 t139 _ ?side1 ?side2 A12.out).mono ?_); (case side1 => repeat (first | exact (Kd.R_reads' HO135.out).2.2 | (with_reducible refine Kd.C_alloc ?_ _) | (with_reducible refine Kd.C_drewN ?_ _) | (with_reducible refine Kd.C_drew ?_))); (case side2 => exact (Kd.R_reads' HO135.out).2.1); rintro e w15 ⟨v137, rfl, ho0, hb⟩; refine ⟨_, rfl, ?_⟩; have n0_ := Aside0.mk (Kd.R_below (by (with_reducible repeat (first | apply Kd.R_alloc | apply Kd.R_drewN | apply Kd.R_drew)); exact HO135.out) hb); have n1_ := Aside0.mk (Kd.R_lower ho0 (below_size (by repeat (first | (with_reducible first | exact HB.out | apply below_alloc | apply pw_below_drewN | apply below_drew1) | exact HB.out)))); have n2_ := Aside0.mk (below_step (by repeat (first | (with_reducible first | exact HB.out | apply below_alloc | apply pw_below_drewN | apply below_drew1) | exact HB.out)) hb); clear HO135; clear HB; have HO135 := n0_; have HO138 := n1_; have HB := n2_; clear n0_ n1_ n2_; (try clear hb); (try clear hb2); (try clear hk); (try clear hi); (try clear ho0)))
    go_ret2
    exact ⟨_, by first | rfl | (simp [errW_none, errW_some] <;> rfl) | (simp [*, errW_none, errW_some] <;> rfl), by (with_reducible repeat (first | apply Kd.R_alloc | apply Kd.R_drewN | apply Kd.R_drew)); exact HO138.out, by repeat (first | (with_reducible first | exact HB.out | apply below_alloc | apply pw_below_drewN | apply below_drew1) | exact HB.out)⟩

end Go.Proofs.Ytnjnjajgpkmfhaa.PX

namespace Go.Proofs.Ytnjnjajgpkmfhaa.PX
open Go.RowKit Go.Proofs.YtnjnjajgpkmfhaaW.PrintWords Go.Proofs.YtnjnjajgpkmfhaaW.PrintLast Go.Proofs.YtnjnjajgpkmfhaaW.PrintMore
attribute [local go_sem] max2_int min2_int max_two min_two max_three min_three max_four min_four   -- for this text's walks alone
set_option linter.unusedVariables false
set_option linter.unusedSimpArgs false

/-! ### deadboltlaw09_alive: function 13 -/
def deadboltlaw09_alive.f  : Option (Bool) := (root_Set.f ([] : List (S33)) 2008 3 ([] : List Int)).bind fun bt140 => ((root_Root.f 2008).bind fun bt144 => (if bt140.2 = 0 then (if bt144.2 = 0 then (if (bt140.1.length : Int) = 1 then (if 0 < (bt140.1.length : Int) then (if ((rd_T33 bt140.1 0).f1) = 3 then (some (bt144.1 == 0)) else (some false)) else (none)) else (some false)) else (some false)) else (some false)))
set_option maxHeartbeats 8000000 in
set_option maxRecDepth 100000 in
theorem deadboltlaw09_alive.calls  (r : Bool) (w : World) (h : deadboltlaw09_alive.f  = some r) :
  Calls Try.prog 13 #[] w fun e w' => e = .returned (.bool r) ∧ Below w.heap.size w w' := by
 have hu33 := Try.underlying33
 have HB := Aside0.mk (Below.refl w.heap.size w)
 have H : ((root_Set.f ([] : List (S33)) 2008 3 ([] : List Int)).bind fun bt140 => ((root_Root.f 2008).bind fun bt144 => (if bt140.2 = 0 then (if bt144.2 = 0 then (if (bt140.1.length : Int) = 1 then (if 0 < (bt140.1.length : Int) then (if ((rd_T33 bt140.1 0).f1) = 3 then (some (bt144.1 == 0)) else (some false)) else (none)) else (some false)) else (some false)) else (some false)))) = some r := h
 clear h
 replace H := Option.bind_eq_some_iff.mp H
 obtain ⟨⟨t140, t143⟩, A10, H⟩ := H
 replace H : ((root_Root.f 2008).bind fun bt144 => (if t143 = 0 then (if bt144.2 = 0 then (if (t140.length : Int) = 1 then (if 0 < (t140.length : Int) then (if ((rd_T33 t140 0).f1) = 3 then (some (bt144.1 == 0)) else (some false)) else (none)) else (some false)) else (some false)) else (some false))) = some r := H
 have A1 := Aside0.mk A10
 clear A10
 replace H := Option.bind_eq_some_iff.mp H
 obtain ⟨⟨t144, t145⟩, A20, H⟩ := H
 replace H : (if t143 = 0 then (if t145 = 0 then (if (t140.length : Int) = 1 then (if 0 < (t140.length : Int) then (if ((rd_T33 t140 0).f1) = 3 then (some (t144 == 0)) else (some false)) else (none)) else (some false)) else (some false)) else (some false)) = some r := H
 have A2 := Aside0.mk A20
 clear A20
 by_cases c3 : t143 = 0
 ·rw [if_pos c3] at H
  have c3b0 : (t143 == 0) = true := beq_iff_eq.mpr c3
  have c3b1 : (t143 != 0) = false := bne_eq_false_iff_eq.mpr c3
  clear c3
  by_cases c4 : t145 = 0
  ·rw [if_pos c4] at H
   have c4b0 : (t145 == 0) = true := beq_iff_eq.mpr c4
   have c4b1 : (t145 != 0) = false := bne_eq_false_iff_eq.mpr c4
   clear c4
   by_cases c5 : (t140.length : Int) = 1
   ·rw [if_pos c5] at H
    have c5b0 : ((t140.length : Int) == 1) = true := beq_iff_eq.mpr c5
    have c5b1 : ((t140.length : Int) != 1) = false := bne_eq_false_iff_eq.mpr c5
    clear c5
    by_cases c6 : 0 < (t140.length : Int)
    ·rw [if_pos c6] at H
     have c6b0 : decide (0 < (t140.length : Int)) = true := decide_eq_true c6
     have c6b1 : decide (0 < t140.length) = true := decide_eq_true (by omega)
     clear c6
     by_cases c7 : ((rd_T33 t140 0).f1) = 3
     ·rw [if_pos c7] at H
      have c7b0 : (((rd_T33 t140 0).f1) == 3) = true := beq_iff_eq.mpr c7
      have c7b1 : (((rd_T33 t140 0).f1) != 3) = false := bne_eq_false_iff_eq.mpr c7
      clear c7
      obtain rfl := Option.some.inj H
      go_enter Try.func13, Try.ntmps13
      go_wp2_with (first | ((with_reducible refine gate_callee (f := 17) rfl ?_); refine goesL_ (some 7) rfl rfl Try.func17 (by kernel_rfl) rfl #[.slice none 0 0, .agg #[.int .i64 2008, .int .i64 3, .slice none 0 0]] rfl (by (try simp only [List.map_toArray, List.map_cons, List.map_nil]); first | done | rfl | (simp only [List.length_drop, List.length_take]; rfl)) ?_; (refine (root_Set.calls (fun k_ => False) _ _ ([] : List (S33)) 2008 3 (fun k_ => False) _ _ ([] : List Int) t140 t143 _ ?side1 ?side2 A1.out).mono ?_); (case side1 => exact Kd.V_nil _ _ _ _ _); (case side2 => exact Kd.V_nil _ _ _ _ _); rintro e w8 ⟨v141, rfl, ho0, hb⟩; refine ⟨_, rfl, ?_⟩; have n0_ := Aside0.mk (Kd.V_lower (Kd.V_mono (ok' := fun k_ => True) ho0 (fun k_ hk_ => trivial)) (below_size (by repeat (first | (with_reducible first | exact HB.out | apply below_alloc | apply pw_below_drewN | apply below_drew1) | exact HB.out)))); have n1_ := Aside0.mk (below_step (by repeat (first | (with_reducible first | exact HB.out | apply below_alloc | apply pw_below_drewN | apply below_drew1) | exact HB.out)) hb); clear HB; have HO142 := n0_; have HB := n1_; clear n0_ n1_; (try clear hb); (try clear hb2); (try clear hk); (try clear hi); (try clear ho0)) | ((with_reducible refine gate_callee (f := 14) rfl ?_); refine goesL_ (some 11) rfl rfl Try.func14 (by kernel_rfl) rfl #[.int .i64 2008] rfl (by (try simp only [List.map_toArray, List.map_cons, List.map_nil]); first | done | rfl | (simp only [List.length_drop, List.length_take]; rfl)) ?_; (with_reducible refine (root_Root.calls 2008 t144 t145 _ A2.out).mono ?_); rintro e w' ⟨rfl, ⟨nd, rfl⟩⟩; refine ⟨_, rfl, ?_⟩; obtain ⟨Ao9, co9, eo9⟩ := Kd.V_slice HO142.out; subst eo9; have p146 : 0 ≤ (0 : Int) := (by omega); have q146 : 0 < (t140.length : Int) := of_decide_eq_true (by first | (with_reducible assumption) | assumption); obtain ⟨ad146, A146_2, c146_2, e146, hx146_0, hx146_1, hx146_2, hl146_2, hi146_2⟩ := at_T33 (Kd.V_reads' HO142.out).2.2 0 p146 q146; cases e146; obtain ⟨ce146, hce146, hMe146, hcc146⟩ := Kd.V_get HO142.out z33 0 p146 (by first | exact q146 | exact of_decide_eq_true (by first | (with_reducible assumption) | assumption) | (have e_ := (Kd.V_reads' HO142.out).1; omega)); obtain ⟨ua146_2, uc146_2, rfl, ul146_2, ge146_2⟩ := k33_openF hMe146; have hv146_2 := hcc146 2 _ rfl; rw [add_field _ _ 2 (by omega)] at hv146_2; replace hv146_2 := Option.some.inj (hv146_2.symm.trans hx146_2); injection hv146_2 with hva_ hvn_ hvc_; rw [hva_] at ge146_2; rw [hvc_] at ul146_2; have HL146_2 := Aside0.mk (show Kd.V (Kd.int .i64) 3 _ w.heap.size _ _ ((rd_T33 t140 0).f2) from Kd.V_mk ul146_2 ge146_2); clear hva_ hvn_ hvc_ ge146_2 ul146_2; clear hcc146 hce146; have qi146 : (0 < t140.length) = True := eq_true (by omega); (try rw [show ((0 : Int)).toNat = 0 from rfl] at hx146_0); (try rw [show 0 * 3 = 0 from rfl] at hx146_0); (try rw [Addr.add_zero'] at hx146_0); (try rw [show ((0 : Int)).toNat = 0 from rfl] at hx146_1); (try rw [show 0 * 3 = 0 from rfl] at hx146_1); (try rw [Addr.add_zero'] at hx146_1); (try rw [show ((0 : Int)).toNat = 0 from rfl] at hx146_2); (try rw [show 0 * 3 = 0 from rfl] at hx146_2); (try rw [Addr.add_zero'] at hx146_2); have HR146_2 := Aside0.mk hi146_2; have HC146_2 := Aside0.mk hl146_2; clear hi146_2 hl146_2; replace p146 := eq_true p146; replace q146 := eq_true q146))
      go_ret
      exact ⟨by first | rfl | (simp [errW_none, errW_some] <;> rfl) | (simp [*, errW_none, errW_some] <;> rfl), by repeat (first | (with_reducible first | exact HB.out | apply below_alloc | apply pw_below_drewN | apply below_drew1) | exact HB.out)⟩
     ·rw [if_neg c7] at H
      have c7b0 : (((rd_T33 t140 0).f1) == 3) = false := beq_eq_false_iff_ne.mpr c7
      have c7b1 : (((rd_T33 t140 0).f1) != 3) = true := bne_iff_ne.mpr c7
      obtain rfl := Option.some.inj H
      go_enter Try.func13, Try.ntmps13
      go_wp2_with (first | ((with_reducible refine gate_callee (f := 17) rfl ?_); refine goesL_ (some 7) rfl rfl Try.func17 (by kernel_rfl) rfl #[.slice none 0 0, .agg #[.int .i64 2008, .int .i64 3, .slice none 0 0]] rfl (by (try simp only [List.map_toArray, List.map_cons, List.map_nil]); first | done | rfl | (simp only [List.length_drop, List.length_take]; rfl)) ?_; (refine (root_Set.calls (fun k_ => False) _ _ ([] : List (S33)) 2008 3 (fun k_ => False) _ _ ([] : List Int) t140 t143 _ ?side1 ?side2 A1.out).mono ?_); (case side1 => exact Kd.V_nil _ _ _ _ _); (case side2 => exact Kd.V_nil _ _ _ _ _); rintro e w10 ⟨v141, rfl, ho0, hb⟩; refine ⟨_, rfl, ?_⟩; have n0_ := Aside0.mk (Kd.V_lower (Kd.V_mono (ok' := fun k_ => True) ho0 (fun k_ hk_ => trivial)) (below_size (by repeat (first | (with_reducible first | exact HB.out | apply below_alloc | apply pw_below_drewN | apply below_drew1) | exact HB.out)))); have n1_ := Aside0.mk (below_step (by repeat (first | (with_reducible first | exact HB.out | apply below_alloc | apply pw_below_drewN | apply below_drew1) | exact HB.out)) hb); clear HB; have HO142 := n0_; have HB := n1_; clear n0_ n1_; (try clear hb); (try clear hb2); (try clear hk); (try clear hi); (try clear ho0)) | ((with_reducible refine gate_callee (f := 14) rfl ?_); refine goesL_ (some 11) rfl rfl Try.func14 (by kernel_rfl) rfl #[.int .i64 2008] rfl (by (try simp only [List.map_toArray, List.map_cons, List.map_nil]); first | done | rfl | (simp only [List.length_drop, List.length_take]; rfl)) ?_; (with_reducible refine (root_Root.calls 2008 t144 t145 _ A2.out).mono ?_); rintro e w' ⟨rfl, ⟨nd, rfl⟩⟩; refine ⟨_, rfl, ?_⟩; obtain ⟨Ao11, co11, eo11⟩ := Kd.V_slice HO142.out; subst eo11; have p146 : 0 ≤ (0 : Int) := (by omega); have q146 : 0 < (t140.length : Int) := of_decide_eq_true (by first | (with_reducible assumption) | assumption); obtain ⟨ad146, A146_2, c146_2, e146, hx146_0, hx146_1, hx146_2, hl146_2, hi146_2⟩ := at_T33 (Kd.V_reads' HO142.out).2.2 0 p146 q146; cases e146; obtain ⟨ce146, hce146, hMe146, hcc146⟩ := Kd.V_get HO142.out z33 0 p146 (by first | exact q146 | exact of_decide_eq_true (by first | (with_reducible assumption) | assumption) | (have e_ := (Kd.V_reads' HO142.out).1; omega)); obtain ⟨ua146_2, uc146_2, rfl, ul146_2, ge146_2⟩ := k33_openF hMe146; have hv146_2 := hcc146 2 _ rfl; rw [add_field _ _ 2 (by omega)] at hv146_2; replace hv146_2 := Option.some.inj (hv146_2.symm.trans hx146_2); injection hv146_2 with hva_ hvn_ hvc_; rw [hva_] at ge146_2; rw [hvc_] at ul146_2; have HL146_2 := Aside0.mk (show Kd.V (Kd.int .i64) 3 _ w.heap.size _ _ ((rd_T33 t140 0).f2) from Kd.V_mk ul146_2 ge146_2); clear hva_ hvn_ hvc_ ge146_2 ul146_2; clear hcc146 hce146; have qi146 : (0 < t140.length) = True := eq_true (by omega); (try rw [show ((0 : Int)).toNat = 0 from rfl] at hx146_0); (try rw [show 0 * 3 = 0 from rfl] at hx146_0); (try rw [Addr.add_zero'] at hx146_0); (try rw [show ((0 : Int)).toNat = 0 from rfl] at hx146_1); (try rw [show 0 * 3 = 0 from rfl] at hx146_1); (try rw [Addr.add_zero'] at hx146_1); (try rw [show ((0 : Int)).toNat = 0 from rfl] at hx146_2); (try rw [show 0 * 3 = 0 from rfl] at hx146_2); (try rw [Addr.add_zero'] at hx146_2); have HR146_2 := Aside0.mk hi146_2; have HC146_2 := Aside0.mk hl146_2; clear hi146_2 hl146_2; replace p146 := eq_true p146; replace q146 := eq_true q146))
      go_ret
      exact ⟨by first | rfl | (simp [errW_none, errW_some] <;> rfl) | (simp [*, errW_none, errW_some] <;> rfl), by repeat (first | (with_reducible first | exact HB.out | apply below_alloc | apply pw_below_drewN | apply below_drew1) | exact HB.out)⟩
    ·rw [if_neg c6] at H
     exact absurd H (by simp)
   ·rw [if_neg c5] at H
    have c5b0 : ((t140.length : Int) == 1) = false := beq_eq_false_iff_ne.mpr c5
    have c5b1 : ((t140.length : Int) != 1) = true := bne_iff_ne.mpr c5
    obtain rfl := Option.some.inj H
    go_enter Try.func13, Try.ntmps13
    go_wp2_with (first | ((with_reducible refine gate_callee (f := 17) rfl ?_); refine goesL_ (some 7) rfl rfl Try.func17 (by kernel_rfl) rfl #[.slice none 0 0, .agg #[.int .i64 2008, .int .i64 3, .slice none 0 0]] rfl (by (try simp only [List.map_toArray, List.map_cons, List.map_nil]); first | done | rfl | (simp only [List.length_drop, List.length_take]; rfl)) ?_; (refine (root_Set.calls (fun k_ => False) _ _ ([] : List (S33)) 2008 3 (fun k_ => False) _ _ ([] : List Int) t140 t143 _ ?side1 ?side2 A1.out).mono ?_); (case side1 => exact Kd.V_nil _ _ _ _ _); (case side2 => exact Kd.V_nil _ _ _ _ _); rintro e w12 ⟨v141, rfl, ho0, hb⟩; refine ⟨_, rfl, ?_⟩; have n0_ := Aside0.mk (Kd.V_lower (Kd.V_mono (ok' := fun k_ => True) ho0 (fun k_ hk_ => trivial)) (below_size (by repeat (first | (with_reducible first | exact HB.out | apply below_alloc | apply pw_below_drewN | apply below_drew1) | exact HB.out)))); have n1_ := Aside0.mk (below_step (by repeat (first | (with_reducible first | exact HB.out | apply below_alloc | apply pw_below_drewN | apply below_drew1) | exact HB.out)) hb); clear HB; have HO142 := n0_; have HB := n1_; clear n0_ n1_; (try clear hb); (try clear hb2); (try clear hk); (try clear hi); (try clear ho0)) | ((with_reducible refine gate_callee (f := 14) rfl ?_); refine goesL_ (some 11) rfl rfl Try.func14 (by kernel_rfl) rfl #[.int .i64 2008] rfl (by (try simp only [List.map_toArray, List.map_cons, List.map_nil]); first | done | rfl | (simp only [List.length_drop, List.length_take]; rfl)) ?_; (with_reducible refine (root_Root.calls 2008 t144 t145 _ A2.out).mono ?_); rintro e w' ⟨rfl, ⟨nd, rfl⟩⟩; refine ⟨_, rfl, ?_⟩; obtain ⟨Ao13, co13, eo13⟩ := Kd.V_slice HO142.out; subst eo13))
    go_ret
    exact ⟨by first | rfl | (simp [errW_none, errW_some] <;> rfl) | (simp [*, errW_none, errW_some] <;> rfl), by repeat (first | (with_reducible first | exact HB.out | apply below_alloc | apply pw_below_drewN | apply below_drew1) | exact HB.out)⟩
  ·rw [if_neg c4] at H
   have c4b0 : (t145 == 0) = false := beq_eq_false_iff_ne.mpr c4
   have c4b1 : (t145 != 0) = true := bne_iff_ne.mpr c4
   obtain rfl := Option.some.inj H
   go_enter Try.func13, Try.ntmps13
   go_wp2_with (first | ((with_reducible refine gate_callee (f := 17) rfl ?_); refine goesL_ (some 7) rfl rfl Try.func17 (by kernel_rfl) rfl #[.slice none 0 0, .agg #[.int .i64 2008, .int .i64 3, .slice none 0 0]] rfl (by (try simp only [List.map_toArray, List.map_cons, List.map_nil]); first | done | rfl | (simp only [List.length_drop, List.length_take]; rfl)) ?_; (refine (root_Set.calls (fun k_ => False) _ _ ([] : List (S33)) 2008 3 (fun k_ => False) _ _ ([] : List Int) t140 t143 _ ?side1 ?side2 A1.out).mono ?_); (case side1 => exact Kd.V_nil _ _ _ _ _); (case side2 => exact Kd.V_nil _ _ _ _ _); rintro e w14 ⟨v141, rfl, ho0, hb⟩; refine ⟨_, rfl, ?_⟩; have n0_ := Aside0.mk (Kd.V_lower (Kd.V_mono (ok' := fun k_ => True) ho0 (fun k_ hk_ => trivial)) (below_size (by repeat (first | (with_reducible first | exact HB.out | apply below_alloc | apply pw_below_drewN | apply below_drew1) | exact HB.out)))); have n1_ := Aside0.mk (below_step (by repeat (first | (with_reducible first | exact HB.out | apply below_alloc | apply pw_below_drewN | apply below_drew1) | exact HB.out)) hb); clear HB; have HO142 := n0_; have HB := n1_; clear n0_ n1_; (try clear hb); (try clear hb2); (try clear hk); (try clear hi); (try clear ho0)) | ((with_reducible refine gate_callee (f := 14) rfl ?_); refine goesL_ (some 11) rfl rfl Try.func14 (by kernel_rfl) rfl #[.int .i64 2008] rfl (by (try simp only [List.map_toArray, List.map_cons, List.map_nil]); first | done | rfl | (simp only [List.length_drop, List.length_take]; rfl)) ?_; (with_reducible refine (root_Root.calls 2008 t144 t145 _ A2.out).mono ?_); rintro e w' ⟨rfl, ⟨nd, rfl⟩⟩; refine ⟨_, rfl, ?_⟩))
   go_ret
   exact ⟨by first | rfl | (simp [errW_none, errW_some] <;> rfl) | (simp [*, errW_none, errW_some] <;> rfl), by repeat (first | (with_reducible first | exact HB.out | apply below_alloc | apply pw_below_drewN | apply below_drew1) | exact HB.out)⟩
 ·rw [if_neg c3] at H
  have c3b0 : (t143 == 0) = false := beq_eq_false_iff_ne.mpr c3
  have c3b1 : (t143 != 0) = true := bne_iff_ne.mpr c3
  obtain rfl := Option.some.inj H
  go_enter Try.func13, Try.ntmps13
  go_wp2_with (first | ((with_reducible refine gate_callee (f := 17) rfl ?_); refine goesL_ (some 7) rfl rfl Try.func17 (by kernel_rfl) rfl #[.slice none 0 0, .agg #[.int .i64 2008, .int .i64 3, .slice none 0 0]] rfl (by (try simp only [List.map_toArray, List.map_cons, List.map_nil]); first | done | rfl | (simp only [List.length_drop, List.length_take]; rfl)) ?_; (refine (root_Set.calls (fun k_ => False) _ _ ([] : List (S33)) 2008 3 (fun k_ => False) _ _ ([] : List Int) t140 t143 _ ?side1 ?side2 A1.out).mono ?_); (case side1 => exact Kd.V_nil _ _ _ _ _); (case side2 => exact Kd.V_nil _ _ _ _ _); rintro e w15 ⟨v141, rfl, ho0, hb⟩; refine ⟨_, rfl, ?_⟩; have n0_ := Aside0.mk (Kd.V_lower (Kd.V_mono (ok' := fun k_ => True) ho0 (fun k_ hk_ => trivial)) (below_size (by repeat (first | (with_reducible first | exact HB.out | apply below_alloc | apply pw_below_drewN | apply below_drew1) | exact HB.out)))); have n1_ := Aside0.mk (below_step (by repeat (first | (with_reducible first | exact HB.out | apply below_alloc | apply pw_below_drewN | apply below_drew1) | exact HB.out)) hb); clear HB; have HO142 := n0_; have HB := n1_; clear n0_ n1_; (try clear hb); (try clear hb2); (try clear hk); (try clear hi); (try clear ho0)) | ((with_reducible refine gate_callee (f := 14) rfl ?_); refine goesL_ (some 11) rfl rfl Try.func14 (by kernel_rfl) rfl #[.int .i64 2008] rfl (by (try simp only [List.map_toArray, List.map_cons, List.map_nil]); first | done | rfl | (simp only [List.length_drop, List.length_take]; rfl)) ?_; (with_reducible refine (root_Root.calls 2008 t144 t145 _ A2.out).mono ?_); rintro e w' ⟨rfl, ⟨nd, rfl⟩⟩; refine ⟨_, rfl, ?_⟩))
  go_ret
  exact ⟨by first | rfl | (simp [errW_none, errW_some] <;> rfl) | (simp [*, errW_none, errW_some] <;> rfl), by repeat (first | (with_reducible first | exact HB.out | apply below_alloc | apply pw_below_drewN | apply below_drew1) | exact HB.out)⟩

end Go.Proofs.Ytnjnjajgpkmfhaa.PX

/-
 The plain side of layer 9: what a table is, told of the printed functions; the addresses under a root.
-/
namespace Go.Proofs.Ytnjnjajgpkmfhaa.PX
open Go.RowKit Go.Proofs.YtnjnjajgpkmfhaaW.PrintWords Go.Proofs.YtnjnjajgpkmfhaaW.PrintLast Go.Proofs.YtnjnjajgpkmfhaaW.PrintMore
abbrev Sp := S33
theorem wrap_id {x : Int} (h1 : -9223372036854775808 ≤ x) (h2 : x ≤ 9223372036854775807) : wrap64 x = x := by unfold wrap64; omega
theorem rd_sp {l : List Sp} {i : Nat} {x : Sp} (h : l[i]? = some x) : rd_T33 l (i : Int) = x := by
 unfold rd_T33
 rw [Int.toNat_natCast, List.getD_eq_getElem?_getD, h]
 rfl
def cut70 (s : Sp) : Sp := ⟨s.f0, s.f1, s.f2.take 70⟩
def fewF (l : List Sp) : List Sp := (l.take 70).map cut70
theorem few_l0 (l : List Sp) (hl : l.length ≤ 1000) : ∀ (d i : Nat) (k : Nat) (out : List Sp), i + d = l.length → d < k → out.length ≤ 1000 + i → deadboltlaw09_few.l0 k out l (l.length : Int) (i : Int) = some (out ++ (l.drop i).map cut70) := by
 intro d
 induction d with
 | zero =>
  intro i k out h1 h2 h3
  obtain ⟨k, rfl⟩ : ∃ q, k = q + 1 := ⟨k - 1, by omega⟩
  rw [deadboltlaw09_few.l0, if_neg (by omega), List.drop_eq_nil_of_le (by omega)]
  simp
 | succ d ih =>
  intro i k out h1 h2 h3
  obtain ⟨k, rfl⟩ : ∃ q, k = q + 1 := ⟨k - 1, by omega⟩
  have hx : l[i]? = some l[i] := List.getElem?_eq_getElem (by omega)
  rw [deadboltlaw09_few.l0, if_pos (by omega), if_pos (by omega), if_pos (by omega), rd_sp hx]
  unfold deadboltlaw09_cut.f
  simp only [Option.bind_some]
  rw [if_pos (by omega), wrap_id (by omega) (by omega), show (i : Int) + 1 = ((i + 1 : Nat) : Int) by omega, ih (i + 1) k _ (by omega) (by omega) (by simp; omega)]
  rw [List.drop_eq_getElem_cons (show i < l.length by omega), List.map_cons, List.append_assoc]
  rfl
theorem few_f (l : List Sp) (k : Nat) (hk : 80 ≤ k) : deadboltlaw09_few.f k l = some (fewF l) := by
 unfold deadboltlaw09_few.f
 have hm : mn (l.length : Int) 70 = ((min l.length 70 : Nat) : Int) := by unfold mn; split <;> omega
 rw [hm, if_pos (by omega), if_pos (by omega), Int.toNat_natCast]
 simp only [Option.bind_some]
 have hl : (l.take (min l.length 70)).length ≤ 70 := by simp; omega
 have e : l.take (min l.length 70) = l.take 70 := by rw [Nat.min_comm, ← List.take_eq_take_min]
 rw [e] at hl ⊢
 have := few_l0 (l.take 70) (by omega) (l.take 70).length 0 k [] (by omega) (by omega) (by simp)
 rw [List.drop_zero, List.nil_append] at this
 exact this
/-- May a spot be. -/
def SpotP (s : Sp) : Prop := (0 ≤ s.f0 ∧ s.f0 ≤ 4294967295) ∧ (0 ≤ s.f1 ∧ s.f1 ≤ 2147483647) ∧ lineB s.f2 = true ∧ (s.f1 = 0 ∨ s.f2 = [])
theorem spot_f (s : Sp) (hl : s.f2.length ≤ 1000) : ∃ b, root_isSpot.f s.f0 s.f1 s.f2 = some b ∧ (b = true ↔ SpotP s) := by
 unfold root_isSpot.f
 rw [isAddr_f]
 simp only [Option.bind_some]
 unfold line_Right.f
 rw [if_pos hl]
 simp only [Option.bind_some]
 by_cases h0 : isAddrB s.f0 = true
 ·have h0' : 0 ≤ s.f0 ∧ s.f0 ≤ 4294967295 := by simpa [isAddrB] using h0
  rw [if_pos h0]
  by_cases h1 : s.f1 ≥ 0
  ·rw [if_pos h1]
   by_cases h2 : s.f1 ≤ 2147483647
   ·rw [if_pos h2]
    by_cases h3 : lineB s.f2 = true
    ·rw [if_pos h3]
     by_cases h4 : s.f1 = 0
     ·rw [if_pos h4]
      exact ⟨true, rfl, by simp [SpotP, h0', h3, h4]⟩
     ·rw [if_neg h4]
      refine ⟨_, rfl, ?_⟩
      have h1' : 0 ≤ s.f1 := h1
      simp only [SpotP, h0', h1', h2, h3, h4, true_and, and_true, false_or]
      cases s.f2 <;> simp; omega
    ·rw [if_neg h3]
     exact ⟨false, rfl, by simp [SpotP, h3]⟩
   ·rw [if_neg h2]
    exact ⟨false, rfl, by simp [SpotP, h2]⟩
  ·rw [if_neg h1]
   exact ⟨false, rfl, by simp only [SpotP]; constructor <;> intro h <;> first | (cases h; done) | omega⟩
 ·rw [if_neg h0]
  refine ⟨false, rfl, ?_⟩
  simp only [isAddrB, decide_eq_true_eq] at h0
  constructor
  ·intro h; cases h
  ·intro h; exact absurd h.1 h0
def EmptyP (s : Sp) : Prop := s.f1 = 0 ∧ s.f2 = []
theorem empty_f (s : Sp) : ∃ b, root_isEmpty.f s.f0 s.f1 s.f2 = some b ∧ (b = true ↔ EmptyP s) := by
 unfold root_isEmpty.f EmptyP
 by_cases h : s.f1 = 0
 ·rw [if_pos h]
  refine ⟨_, rfl, ?_⟩
  cases s.f2 <;> simp [h]; omega
 ·rw [if_neg h]
  exact ⟨false, rfl, by simp [h]⟩
/-- Which of two addresses comes first. -/
def LessP (a b : Int) : Prop := rootI a < rootI b ∨ rootI a = rootI b ∧ a < b
theorem rootI_bd (a : Int) : 0 ≤ rootI a ∧ rootI a < 251 := by
 unfold rootI
 split
 ·rename_i h
  rw [Int.tmod_eq_emod_of_nonneg (by omega)]
  omega
 ·omega
theorem order_less {a b : Int} (ha : 0 ≤ a ∧ a ≤ 4294967295) (hb : 0 ≤ b ∧ b ≤ 4294967295) : (orderI a b < 0 ↔ LessP a b) ∧ (orderI a b > 0 ↔ LessP b a) := by
 obtain ⟨e1, h1⟩ := root_f a
 obtain ⟨e2, h2⟩ := root_f b
 have p1 := rootI_bd a
 have p2 := rootI_bd b
 unfold orderI root_order.f LessP
 rw [h1, h2]
 simp only [Option.bind_some]
 split
 ·rename_i h
  simp only [Option.getD_some]
  rw [wrap_id (by omega) (by omega)]
  omega
 ·rename_i h
  simp only [Option.getD_some]
  rw [wrap_id (by omega) (by omega)]
  omega
/-- A table that may be. -/
structure Tab (l : List Sp) : Prop where
 spot : ∀ s ∈ l, SpotP s ∧ ¬ EmptyP s
 up : (l.map (·.f0)).Pairwise LessP
 few : l.length ≤ 64
theorem less_trans {a b c : Int} (h : LessP a b) (k : LessP b c) : LessP a c := by unfold LessP at *; omega
theorem right_l0 (l : List Sp) (hl : l.length ≤ 1000) (h2 : ∀ s ∈ l, s.f2.length ≤ 1000) : ∀ (d i : Nat) (k : Nat), i + d = l.length → d < k → (∀ j s, j < i → l[j]? = some s → SpotP s ∧ ¬ EmptyP s) → ((l.take i).map (·.f0)).Pairwise LessP →
  ∃ b, root_Right.l0 k l l (l.length : Int) (i : Int) = some b ∧ (b = true ↔ Tab l) := by
 intro d
 induction d with
 | zero =>
  intro i k h1 hk hs hp
  obtain ⟨k, rfl⟩ : ∃ q, k = q + 1 := ⟨k - 1, by omega⟩
  rw [root_Right.l0, if_neg (by omega)]
  refine ⟨_, rfl, ?_⟩
  rw [List.take_of_length_le (by omega)] at hp
  have hs' : ∀ s ∈ l, SpotP s ∧ ¬ EmptyP s := fun s h => by
   obtain ⟨j, hj, rfl⟩ := List.mem_iff_getElem.1 h
   exact hs j _ (by omega) (List.getElem?_eq_getElem hj)
  constructor
  ·intro h
   exact ⟨hs', hp, by have := of_decide_eq_true h; omega⟩
  ·intro h
   exact decide_eq_true (by have := h.few; omega)
 | succ d ih =>
  intro i k h1 hk hs hp
  obtain ⟨k, rfl⟩ : ∃ q, k = q + 1 := ⟨k - 1, by omega⟩
  have hx : l[i]? = some l[i] := List.getElem?_eq_getElem (by omega)
  have hmem : l[i] ∈ l := List.getElem_mem (by omega)
  obtain ⟨sb, e1, e2⟩ := spot_f l[i] (h2 _ hmem)
  obtain ⟨eb, e3, e4⟩ := empty_f l[i]
  rw [root_Right.l0, if_pos (by omega), if_pos (by omega), if_pos (by omega), rd_sp hx, e1]
  simp only [Option.bind_some]
  cases sb with
  | false =>
   refine ⟨false, by simp, ?_⟩
   constructor
   ·intro h; cases h
   ·intro h
    have := e2.2 (h.spot _ hmem).1
    cases this
  | true =>
   rw [if_pos rfl, e3]
   simp only [Option.bind_some]
   cases eb with
   | true =>
    refine ⟨false, by simp, ?_⟩
    constructor
    ·intro h; cases h
    ·intro h
     exact absurd (e4.1 rfl) (h.spot _ hmem).2
   | false =>
    rw [if_neg (by simp)]
    have hS := e2.1 rfl
    have hE : ¬ EmptyP l[i] := fun h => by have := e4.2 h; cases this
    have hs2 : ∀ j s, j < i + 1 → l[j]? = some s → SpotP s ∧ ¬ EmptyP s := fun j s hj hjs => by
     rcases Nat.lt_or_eq_of_le (Nat.le_of_lt_succ hj) with h | h
     ·exact hs j s h hjs
     ·rw [h, hx] at hjs
      obtain rfl := Option.some.inj hjs
      exact ⟨hS, hE⟩
    rcases Nat.eq_zero_or_pos i with h0 | h0
    ·subst h0
     rw [if_neg (by simp)]
     rw [wrap_id (by omega) (by omega), show (((0 : Nat) : Int) + 1) = ((0 + 1 : Nat) : Int) by omega]
     refine ih (0 + 1) k (by omega) (by omega) hs2 ?_
     rw [List.take_add_one, hx]
     simp
    ·have hy : l[i - 1]? = some l[i - 1] := List.getElem?_eq_getElem (by omega)
     have hyS := (hs (i - 1) _ (by omega) hy).1
     rw [if_pos (by omega), wrap_id (by omega) (by omega), show (i : Int) - 1 = ((i - 1 : Nat) : Int) by omega, if_pos (by omega), if_pos (by omega), rd_sp hy, order_is]
     simp only [Option.bind_some]
     have hord := (order_less hyS.1 hS.1).1
     by_cases hlt : orderI l[i - 1].f0 l[i].f0 ≥ 0
     ·rw [if_pos hlt]
      refine ⟨false, rfl, ?_⟩
      constructor
      ·intro h; cases h
      ·intro h
       have h3 := List.pairwise_iff_getElem.1 h.up (i - 1) i (by simp; omega) (by simp; omega) (by omega)
       simp only [List.getElem_map] at h3
       have := hord.2 h3
       omega
     ·rw [if_neg hlt, wrap_id (by omega) (by omega), show (i : Int) + 1 = ((i + 1 : Nat) : Int) by omega]
      refine ih (i + 1) k (by omega) (by omega) hs2 ?_
      have hL := hord.1 (by omega)
      rw [List.take_add_one, hx, List.map_append]
      refine List.pairwise_append.2 ⟨hp, by simp, fun a ha b hb => ?_⟩
      simp at hb
      subst hb
      obtain ⟨j, hj, rfl⟩ := List.mem_iff_getElem.1 ha
      simp only [List.length_map, List.length_take] at hj
      simp only [List.getElem_map, List.getElem_take]
      rcases Nat.lt_or_eq_of_le (show j ≤ i - 1 by omega) with h | h
      ·have h3 := List.pairwise_iff_getElem.1 hp j (i - 1) (by simp; omega) (by simp; omega) h
       simp only [List.getElem_map, List.getElem_take] at h3
       exact less_trans h3 hL
      ·subst h
       exact hL
theorem right_f (l : List Sp) (hl : l.length ≤ 1000) (h2 : ∀ s ∈ l, s.f2.length ≤ 1000) (k : Nat) (hk : l.length < k) : ∃ b, root_Right.f k l = some b ∧ (b = true ↔ Tab l) :=
 right_l0 l hl h2 l.length 0 k (by omega) hk (fun j s hj => absurd hj (by omega)) (by simp)
end Go.Proofs.Ytnjnjajgpkmfhaa.PX

namespace Go.Proofs.Ytnjnjajgpkmfhaa.PX
open Go.RowKit Go.Proofs.YtnjnjajgpkmfhaaW.PrintWords Go.Proofs.YtnjnjajgpkmfhaaW.PrintLast Go.Proofs.YtnjnjajgpkmfhaaW.PrintMore
attribute [local go_sem] max2_int min2_int max_two min_two max_three min_three max_four min_four   -- for this text's walks alone
set_option linter.unusedVariables false
set_option linter.unusedSimpArgs false

/-! ### deadboltlaw09_RootSpots: function 3 -/
mutual
def deadboltlaw09_RootSpots.l0 : Nat → List (S33) → Int → Int → Option (Bool)
 | 0, _, _, _ => none
 | k + 1, x0, x5, x33 => if x33 < 251 then ((root_Under.f k x0 x33).bind fun bt157 => (if bt157.2 = 0 then (deadboltlaw09_RootSpots.l1 k x0 x5 x33 x33 bt157.1 (bt157.1.length : Int) 0) else (some false))) else ((deadboltlaw09_alive.f).bind fun t156 => (if t156 = true then (some (x5 == (x0.length : Int))) else (some false)))
def deadboltlaw09_RootSpots.l1 : Nat → List (S33) → Int → Int → Int → List Int → Int → Int → Option (Bool)
 | 0, _, _, _, _, _, _, _ => none
 | k + 1, x0, x5, x6, x33, x44, x45, x46 => if x46 < x45 then (if 0 ≤ x46 then (if x46 < (x44.length : Int) then ((root_Root.f (rd x44 x46)).bind fun bt162 => (if bt162.2 = 0 then (if bt162.1 = x6 then (if x5 ≥ (x0.length : Int) then (some false) else (if 0 ≤ x5 then (if x5 < (x0.length : Int) then (if ((rd_T33 x0 x5).f0) = (rd x44 x46) then (deadboltlaw09_RootSpots.l1 k x0 (wrap64 (x5 + 1)) x6 x33 x44 x45 (wrap64 (x46 + 1))) else (some false)) else (none)) else (none))) else (some false)) else (some false))) else (none)) else (none)) else (deadboltlaw09_RootSpots.l0 k x0 x5 (wrap64 (x33 + 1)))
end
def deadboltlaw09_RootSpots.f (k : Nat) (l0 : List (S33)) : Option (Bool) := (deadboltlaw09_few.f k l0).bind fun t147 => ((root_Right.f k t147).bind fun t150 => (if t150 = true then (deadboltlaw09_RootSpots.l0 k t147 0 0) else ((root_Under.f k t147 0).bind fun bt151 => ((deadboltlaw09_alive.f).bind fun t155 => (if t155 = true then (if bt151.2 = 1 then (some ((bt151.1.length : Int) == 0)) else (some false)) else (some false))))))
end Go.Proofs.Ytnjnjajgpkmfhaa.PX

/-
 The addresses under a root; all roots together have all spots, each once, rising.
-/
namespace Go.Proofs.Ytnjnjajgpkmfhaa.PX
open Go.RowKit Go.Proofs.YtnjnjajgpkmfhaaW.PrintWords Go.Proofs.YtnjnjajgpkmfhaaW.PrintLast Go.Proofs.YtnjnjajgpkmfhaaW.PrintMore
/-- What has root n. -/
def isAt (n : Int) (s : Sp) : Bool := decide (rootI s.f0 = n)
theorem at_up {l : List Sp} (h : Tab l) (n : Int) : ((l.filter (isAt n)).map (·.f0)).Pairwise (· < ·) := by
 rw [List.pairwise_map]
 have h1 := List.pairwise_map.1 h.up
 have h2 : (l.filter (isAt n)).Pairwise (fun a b => LessP a.f0 b.f0) := h1.sublist List.filter_sublist
 refine h2.imp_of_mem fun {a b} ha hb hl => ?_
 have ea := (List.mem_filter.1 ha).2
 have eb := (List.mem_filter.1 hb).2
 simp only [isAt, decide_eq_true_eq] at ea eb
 unfold LessP at hl
 omega
theorem map_nd (ns : List Treap.Nd) : (ns.map ofNd).map toNd = ns := by
 rw [List.map_map]
 conv => rhs; rw [← List.map_id ns]
 exact List.map_congr_left fun _ _ => rfl
theorem under_f {l : List Sp} (h : Tab l) {n : Int} (h0 : 0 ≤ n) (h1 : n < 251) (h2 : ∀ s ∈ l, s.f2.length ≤ 1000) {k : Nat} (hk : 100 ≤ k) : root_Under.f k l n = some ((l.filter (isAt n)).map (·.f0), 0) := by
 have hf := h.few
 obtain ⟨b, e1, e2⟩ := right_f l (by omega) h2 k (by omega)
 obtain rfl := e2.2 h
 obtain ⟨k, rfl⟩ : ∃ q, k = q + 1 := ⟨k - 1, by omega⟩
 unfold root_Under.f
 rw [e1]
 simp only [Option.bind_some]
 rw [if_pos trivial, if_neg (by omega), root_Under.j0, if_neg (by simp; omega)]
 unfold root_tree.f
 rw [if_pos (by omega)]
 simp only [Option.bind_some]
 have hlen : ((l.filter (isAt n)).map (·.f0)).length ≤ 64 := by
  have := List.length_filter_le (isAt n) l
  rw [List.length_map]
  omega
 obtain ⟨g1, t, hg, ht⟩ := treeOf_good ((l.filter (isAt n)).map (·.f0)) hlen (fun a ha => by
  obtain ⟨s, hs, rfl⟩ := List.mem_map.1 ha
  have := (h.spot s (List.mem_filter.1 hs).1).1.1
  simpa [Treap.isKey] using this) (at_up h n)
 have hE : (fun s : Sp => decide (rootI s.f0 = n)) = isAt n := rfl
 rw [hE]
 generalize treeOf ((l.filter (isAt n)).map (·.f0)) = T at g1 hg ht ⊢
 unfold treap_Keys.f Treap.keysF
 rw [map_nd, if_pos (by rw [List.length_map]; omega), if_pos (hg.right (by omega))]
 simp only [Option.bind_some]
 rw [hg.keysL, ht]
theorem under_bad {l : List Sp} (h : ¬ Tab l) (hl : l.length ≤ 80) (h2 : ∀ s ∈ l, s.f2.length ≤ 1000) {n : Int} {k : Nat} (hk : 100 ≤ k) : root_Under.f k l n = some ([], 1) := by
 obtain ⟨b, e1, e2⟩ := right_f l (by omega) h2 k (by omega)
 obtain ⟨k, rfl⟩ : ∃ q, k = q + 1 := ⟨k - 1, by omega⟩
 unfold root_Under.f
 rw [e1]
 simp only [Option.bind_some]
 rw [if_neg (fun hb => h (e2.1 hb)), root_Under.j0, if_pos rfl]
def upto (n : Int) (s : Sp) : Bool := decide (rootI s.f0 < n)
theorem root_ok {a : Int} (h : 0 ≤ a ∧ a ≤ 4294967295) : root_Root.f a = some (rootI a, 0) := by
 unfold root_Root.f root_isAddr.f rootI
 simp [h.1, h.2]
theorem alive_ok : deadboltlaw09_alive.f = some true := by decide +kernel
end Go.Proofs.Ytnjnjajgpkmfhaa.PX

namespace Go.Proofs.Ytnjnjajgpkmfhaa.PX
open Go.RowKit Go.Proofs.YtnjnjajgpkmfhaaW.PrintWords Go.Proofs.YtnjnjajgpkmfhaaW.PrintLast Go.Proofs.YtnjnjajgpkmfhaaW.PrintMore
attribute [local go_sem] max2_int min2_int max_two min_two max_three min_three max_four min_four   -- for this text's walks alone
set_option linter.unusedVariables false
set_option linter.unusedSimpArgs false

/-! ### deadboltref09_Get: function 22 -/
def deadboltref09_Get.l0 : Nat → Int → List (S33) → Int → Int → Option (Int × Int × List Int)
 | 0, _, _, _, _ => none
 | k + 1, x1, x7, x8, x9 => if x9 < x8 then (if 0 ≤ x9 then (if x9 < (x7.length : Int) then (if ((rd_T33 x7 x9).f0) = x1 then (some ((rd_T33 x7 x9).f0, (rd_T33 x7 x9).f1, (rd_T33 x7 x9).f2)) else (deadboltref09_Get.l0 k x1 x7 x8 (wrap64 (x9 + 1)))) else (none)) else (none)) else (some (x1, 0, ([] : List Int)))
def deadboltref09_Get.f (k : Nat) (l0 : List (S33)) (a1 : Int) : Option (Int × Int × List Int) := deadboltref09_Get.l0 k a1 l0 (l0.length : Int) 0
set_option maxHeartbeats 8000000 in
set_option maxRecDepth 100000 in
theorem deadboltref09_Get.calls (k : Nat) (P0_ : Nat → Prop) (A0 : Option Addr) (c0 : Nat) (l0 : List (S33)) (a1 : Int) (r1 : Int) (r2 : Int) (r3 : List Int) (w : World) (hs0 : Kd.V k33 33 w w.heap.size (fun k_ => P0_ k_) (.slice A0 l0.length c0) l0) (h : deadboltref09_Get.f k l0 a1 = some (r1, r2, r3)) :
  Calls Try.prog 22 #[.slice A0 l0.length c0, .int .i64 a1] w fun e w' => ∃ v2_ : Value, e = .returned (.agg #[.int .i64 r1, .int .i64 r2, v2_]) ∧ Kd.V (Kd.int .i64) 3 w' w.heap.size (fun k_ => (P0_ k_ ∨ w.heap.size ≤ k_)) v2_ r3 ∧ Below w.heap.size w w' := by
 have hu33 := Try.underlying33
 have HO0 := Aside0.mk (show Kd.V k33 33 w w.heap.size (fun k_ => (P0_ k_ ∨ w.heap.size ≤ k_)) (.slice A0 l0.length c0) l0 from Kd.V_mono hs0 (fun k_ hk => .inl hk))
 have HB := Aside0.mk (Below.refl w.heap.size w)
 have H : (deadboltref09_Get.l0 k a1 l0 (l0.length : Int) 0) = some (r1, r2, r3) := h
 clear h
 have H' := Aside0.mk H
 clear H
 go_enter Try.func22, Try.ntmps22
 go_wp2_with (first | ((with_reducible refine gate_dst (N := 4) rfl ?_); refine box_event ?hg (N := 4) ?hd (cs := #[.int .i64 0, .int .i64 0, .slice none 0 0]) (t := 33) ?hr ?_; (case hd => rfl); (case hg => rfl); (case hr => first | (go_simp; done) | (go_simp; rfl)); intro gb188 hg w3 hbox hb; have n0_ := Aside0.mk (Kd.V_below (Kd.V_elderB (by (with_reducible repeat (first | apply Kd.V_alloc | apply Kd.V_drewN | apply Kd.V_drew)); exact HO0.out) gb188 (Nat.le_of_eq hg.symm)) hb); have n1_ := Aside0.mk (below_step (by repeat (first | (with_reducible first | exact HB.out | apply below_alloc | apply pw_below_drewN | apply below_drew1) | exact HB.out)) hb); have n2_ := Aside0.mk (hbox); have n3_ := Aside0.mk ((by rw [hg]; exact (below_size (by repeat (first | (with_reducible first | exact HB.out | apply below_alloc | apply pw_below_drewN | apply below_drew1) | exact HB.out))) : w.heap.size ≤ gb188)); have n4_ := Aside0.mk ((by rw [hg]; exact (below_size (by repeat (first | (with_reducible first | exact HB.out | apply below_alloc | apply pw_below_drewN | apply below_drew1) | exact HB.out))) : w.heap.size ≤ gb188)); clear HO0; clear HB; have HO0 := n0_; have HB := n1_; have BK188 := n2_; have GW188 := n3_; have GE188 := n4_; clear n0_ n1_ n2_ n3_ n4_; clear hb hbox hg))
 go_loopg [9] k (fun kq v9 w' => ∃ (x9_1 : Int) (x189000_1 : Int) (x189001_1 : Int), v9 = .int .i64 x9_1 ∧ Aside0 (deadboltref09_Get.l0 kq a1 l0 (l0.length : Int) x9_1 = some (r1, r2, r3)) ∧ Aside0 (kq ≤ k) ∧ Aside0 (Kd.V k33 33 w' w.heap.size (fun k_ => (P0_ k_ ∨ w.heap.size ≤ k_) ∧ k_ ≠ gb188) (.slice A0 l0.length c0) l0) ∧ Aside0 (w'.heap[gb188]? = some (.cells #[.int .i64 x189000_1, .int .i64 x189001_1, (.slice none 0 0)] 33 (0, 0))) ∧ Aside0 (Below w.heap.size w w'))
 case atStart => exact ⟨(0), (0), (0), (by first | rfl | (simp; done) | (simp [*]; done)), H', ⟨Nat.le_refl _⟩, ⟨by (with_reducible repeat (first | apply Kd.V_alloc | apply Kd.V_drewN | apply Kd.V_drew)); exact HO0.out⟩, ⟨by (with_reducible repeat (first | refine blk_drewN ?_ _ | refine blk_drew ?_ | refine blk_alloc ?_ _)); exact BK188.out⟩, ⟨by repeat (first | (with_reducible first | exact HB.out | apply below_alloc | apply pw_below_drewN | apply below_drew1 | refine below_set ?_ GE188.out) | exact HB.out)⟩⟩
 case round =>
  clear H'
  try clear c2
  try clear p2
  obtain ⟨x9_1, x189000_1, x189001_1, rfl, HA, HK1, HO_7, BK188, HB⟩ := hrel
  cases gk with
  | zero => exact absurd HA.out (by simp [deadboltref09_Get.l0])
  | succ k1 =>
   have H := HA.out
   clear HA
   simp only [deadboltref09_Get.l0] at H
   by_cases c4 : x9_1 < (l0.length : Int)
   ·rw [if_pos c4] at H
    have c4b0 : decide (x9_1 < (l0.length : Int)) = true := decide_eq_true c4
    clear c4
    by_cases c5 : 0 ≤ x9_1
    ·rw [if_pos c5] at H
     have c5b0 : decide (0 ≤ x9_1) = true := decide_eq_true c5
     clear c5
     by_cases c6 : x9_1 < (l0.length : Int)
     ·rw [if_pos c6] at H
      have c6b0 : decide (x9_1 < (l0.length : Int)) = true := decide_eq_true c6
      clear c6
      by_cases c7 : ((rd_T33 l0 x9_1).f0) = a1
      ·rw [if_pos c7] at H
       have c7b0 : (((rd_T33 l0 x9_1).f0) == a1) = true := beq_iff_eq.mpr c7
       have c7b1 : (((rd_T33 l0 x9_1).f0) != a1) = false := bne_eq_false_iff_eq.mpr c7
       clear c7
       simp only [Option.some.injEq, Prod.mk.injEq] at H
       obtain ⟨rfl, rfl, rfl⟩ := H
       have p189 : 0 ≤ (x9_1 : Int) := of_decide_eq_true (by first | (with_reducible assumption) | assumption)
       have q189 : x9_1 < (l0.length : Int) := of_decide_eq_true (by first | (with_reducible assumption) | assumption)
       obtain ⟨ad189, A189_2, c189_2, e189, hx189_0, hx189_1, hx189_2, hl189_2, hi189_2⟩ := at_T33 (Kd.V_reads' HO_7.out).2.2 x9_1 p189 q189
       cases e189
       obtain ⟨ce189, hce189, hMe189, hcc189⟩ := Kd.V_get HO_7.out z33 x9_1 p189 (by first | exact q189 | exact of_decide_eq_true (by first | (with_reducible assumption) | assumption) | (have e_ := (Kd.V_reads' HO_7.out).1; omega))
       obtain ⟨ua189_2, uc189_2, rfl, ul189_2, ge189_2⟩ := k33_openF hMe189
       have hv189_2 := hcc189 2 _ rfl
       rw [add_field _ _ 2 (by omega)] at hv189_2
       replace hv189_2 := Option.some.inj (hv189_2.symm.trans hx189_2)
       injection hv189_2 with hva_ hvn_ hvc_
       rw [hva_] at ge189_2
       rw [hvc_] at ul189_2
       have HL189_2 := Aside0.mk (show Kd.V (Kd.int .i64) 3 _ w.heap.size _ _ ((rd_T33 l0 x9_1).f2) from Kd.V_mk ul189_2 ge189_2)
       clear hva_ hvn_ hvc_ ge189_2 ul189_2
       clear hcc189 hce189
       have HR189_2 := Aside0.mk hi189_2
       have HC189_2 := Aside0.mk hl189_2
       clear hi189_2 hl189_2
       replace p189 := eq_true p189
       replace q189 := eq_true q189
       go_wp2_with (first | ((with_reducible refine gate_dst (N := 6) rfl ?_); refine box_event ?hg (N := 6) ?hd (cs := #[.int .i64 0, .int .i64 0, .slice none 0 0]) (t := 33) ?hr ?_; (case hd => rfl); (case hg => rfl); (case hr => first | (go_simp; done) | (go_simp; rfl)); intro gb190 hg w8 hbox hb; have n0_ := Aside0.mk (Kd.V_below (Kd.V_elderB (by (with_reducible repeat (first | apply Kd.V_alloc | apply Kd.V_drewN | apply Kd.V_drew)); exact HO_7.out) gb190 (Nat.le_of_eq hg.symm)) hb); have n1_ := Aside0.mk (Kd.V_below (Kd.V_elderB (by (with_reducible repeat (first | apply Kd.V_alloc | apply Kd.V_drewN | apply Kd.V_drew)); exact HL189_2.out) gb190 (Nat.le_of_eq hg.symm)) hb); have n2_ := Aside0.mk (blk_below (g := gb188) (o := .cells #[.int .i64 x189000_1, .int .i64 x189001_1, .slice none 0 0] 33 (0, 0)) (by (with_reducible repeat (first | refine blk_drewN ?_ _ | refine blk_drew ?_ | refine blk_alloc ?_ _)); exact BK188.out) hb); (first | have n3_ := Aside0.mk (Kd.C_below (by repeat (first | (with_reducible exact HR189_2.out) | (with_reducible refine Kd.C_alloc ?_ _) | (with_reducible refine Kd.C_drewN ?_ _) | (with_reducible refine Kd.C_drew ?_) | exact HR189_2.out)) hb) | have n3_ := Aside0.mk True.intro); have n4_ := Aside0.mk (below_step (by repeat (first | (with_reducible first | exact HB.out | apply below_alloc | apply pw_below_drewN | apply below_drew1 | refine below_set ?_ GE188.out) | exact HB.out)) hb); have n5_ := Aside0.mk (hbox); have n6_ := Aside0.mk ((by rw [hg]; exact (below_size (by repeat (first | (with_reducible first | exact HB.out | apply below_alloc | apply pw_below_drewN | apply below_drew1 | refine below_set ?_ GE188.out) | exact HB.out))) : w.heap.size ≤ gb190)); have n7_ := Aside0.mk ((by rw [hg]; exact (below_size (by repeat (first | (with_reducible first | exact HB.out | apply below_alloc | apply pw_below_drewN | apply below_drew1 | refine below_set ?_ GE188.out) | exact HB.out))) : w.heap.size ≤ gb190)); have n8_ := Aside0.mk ((by rw [hg]; exact Nat.ne_of_lt (blk_lt (g := gb188) (o := .cells #[.int .i64 x189000_1, .int .i64 x189001_1, .slice none 0 0] 33 (0, 0)) (by (with_reducible repeat (first | refine blk_drewN ?_ _ | refine blk_drew ?_ | refine blk_alloc ?_ _)); exact BK188.out)) : gb188 ≠ gb190)); have n9_ := Aside0.mk ((by rw [hg]; exact Nat.ne_of_gt (blk_lt (g := gb188) (o := .cells #[.int .i64 x189000_1, .int .i64 x189001_1, .slice none 0 0] 33 (0, 0)) (by (with_reducible repeat (first | refine blk_drewN ?_ _ | refine blk_drew ?_ | refine blk_alloc ?_ _)); exact BK188.out)) : gb190 ≠ gb188)); clear HO_7; clear HL189_2; clear BK188; clear HR189_2; clear HB; have HO_7 := n0_; have HL189_2 := n1_; have BK188 := n2_; have HR189_2 := n3_; have HB := n4_; have BK190 := n5_; have GW190 := n6_; have GE190 := n7_; have NB188_190 := n8_; have NB190_188 := n9_; clear n0_ n1_ n2_ n3_ n4_ n5_ n6_ n7_ n8_ n9_; clear hb hbox hg; have hnb9 := NB190_188.out; have hnc9 := NB188_190.out; have hcz10_0 : w8.cell? ⟨gb190, 0, none⟩ = some (.int .i64 0) := (blk_cell BK190.out 0).trans rfl; have hcz10_1 : w8.cell? ⟨gb190, 1, none⟩ = some (.int .i64 0) := (blk_cell BK190.out 1).trans rfl; have hcz10_2 : w8.cell? ⟨gb190, 2, none⟩ = some (.slice none 0 0) := (blk_cell BK190.out 2).trans rfl; have hfz10_0 := blk_frozen BK190.out 0; have hfz10_1 := blk_frozen BK190.out 1; have hfz10_2 := blk_frozen BK190.out 2; have hcz11_0 : w8.cell? ⟨gb188, 0, none⟩ = some (.int .i64 x189000_1) := (blk_cell BK188.out 0).trans rfl; have hcz11_1 : w8.cell? ⟨gb188, 1, none⟩ = some (.int .i64 x189001_1) := (blk_cell BK188.out 1).trans rfl; have hcz11_2 : w8.cell? ⟨gb188, 2, none⟩ = some (.slice none 0 0) := (blk_cell BK188.out 2).trans rfl; have hfz11_0 := blk_frozen BK188.out 0; have hfz11_1 := blk_frozen BK188.out 1; have hfz11_2 := blk_frozen BK188.out 2))
       refine bodyPost_ret (results_cell_row rfl _ _ gb188 33 #[.int .i64 ((rd_T33 l0 x9_1).f0), .int .i64 ((rd_T33 l0 x9_1).f1), .slice A189_2 ((rd_T33 l0 x9_1).f2).length c189_2] (0, 0) _ rfl (by (with_reducible repeat (first | refine blk_drewN ?_ _ | refine blk_drew ?_ | refine blk_alloc ?_ _)); refine blk_put (cs := #[.int .i64 ((rd_T33 l0 x9_1).f0), .int .i64 ((rd_T33 l0 x9_1).f1), .slice none 0 0]) ?_ 2 _ rfl; (with_reducible repeat (first | refine blk_drewN ?_ _ | refine blk_drew ?_ | refine blk_alloc ?_ _)); refine blk_put (cs := #[.int .i64 ((rd_T33 l0 x9_1).f0), .int .i64 x189001_1, .slice none 0 0]) ?_ 1 _ rfl; (with_reducible repeat (first | refine blk_drewN ?_ _ | refine blk_drew ?_ | refine blk_alloc ?_ _)); refine blk_put (cs := #[.int .i64 x189000_1, .int .i64 x189001_1, .slice none 0 0]) ?_ 0 _ rfl; (with_reducible repeat (first | refine blk_drewN ?_ _ | refine blk_drew ?_ | refine blk_alloc ?_ _)); refine blk_far ?_ NB188_190.out _; (with_reducible repeat (first | refine blk_drewN ?_ _ | refine blk_drew ?_ | refine blk_alloc ?_ _)); refine blk_far ?_ NB188_190.out _; (with_reducible repeat (first | refine blk_drewN ?_ _ | refine blk_drew ?_ | refine blk_alloc ?_ _)); refine blk_far ?_ NB188_190.out _; (with_reducible repeat (first | refine blk_drewN ?_ _ | refine blk_drew ?_ | refine blk_alloc ?_ _)); exact BK188.out) Try.underlying33 rfl (by kernel_rfl)) rfl ?_
       exact ⟨_, by first | rfl | (simp [errW_none, errW_some] <;> rfl) | (simp [*, errW_none, errW_some] <;> rfl), by (with_reducible repeat (first | apply Kd.V_alloc | apply Kd.V_drewN | apply Kd.V_drew)); exact Kd.V_mono (Kd.V_far (p := ⟨gb188, 2, none⟩) (Kd.V_far (p := ⟨gb188, 1, none⟩) (Kd.V_far (p := ⟨gb188, 0, none⟩) (Kd.V_far (p := ⟨gb190, 2, none⟩) (Kd.V_far (p := ⟨gb190, 1, none⟩) (Kd.V_far (p := ⟨gb190, 0, none⟩) (Kd.V_mono (Kd.V_mono HL189_2.out (fun k_ hk => (⟨hk, hk.2⟩ : _ ∧ k_ ≠ gb190))) (fun k_ hk => (⟨hk, hk.1.1.2⟩ : _ ∧ k_ ≠ gb188))) (fun _ hk => hk.1.2) (.int .i64 ((rd_T33 l0 x9_1).f0))) (fun _ hk => hk.1.2) (.int .i64 ((rd_T33 l0 x9_1).f1))) (fun _ hk => hk.1.2) (.slice A189_2 ((rd_T33 l0 x9_1).f2).length c189_2)) (fun _ hk => hk.2) (.int .i64 ((rd_T33 l0 x9_1).f0))) (fun _ hk => hk.2) (.int .i64 ((rd_T33 l0 x9_1).f1))) (fun _ hk => hk.2) (.slice A189_2 ((rd_T33 l0 x9_1).f2).length c189_2)) (fun _ hk => hk.1.1.1.1), by repeat (first | (with_reducible first | exact HB.out | apply below_alloc | apply pw_below_drewN | apply below_drew1 | refine below_set ?_ GE188.out | refine below_set ?_ GE190.out) | exact HB.out)⟩
      ·rw [if_neg c7] at H
       have c7b0 : (((rd_T33 l0 x9_1).f0) == a1) = false := beq_eq_false_iff_ne.mpr c7
       have c7b1 : (((rd_T33 l0 x9_1).f0) != a1) = true := bne_iff_ne.mpr c7
       have H' := Aside0.mk H
       clear H
       have p189 : 0 ≤ (x9_1 : Int) := of_decide_eq_true (by first | (with_reducible assumption) | assumption)
       have q189 : x9_1 < (l0.length : Int) := of_decide_eq_true (by first | (with_reducible assumption) | assumption)
       obtain ⟨ad189, A189_2, c189_2, e189, hx189_0, hx189_1, hx189_2, hl189_2, hi189_2⟩ := at_T33 (Kd.V_reads' HO_7.out).2.2 x9_1 p189 q189
       cases e189
       obtain ⟨ce189, hce189, hMe189, hcc189⟩ := Kd.V_get HO_7.out z33 x9_1 p189 (by first | exact q189 | exact of_decide_eq_true (by first | (with_reducible assumption) | assumption) | (have e_ := (Kd.V_reads' HO_7.out).1; omega))
       obtain ⟨ua189_2, uc189_2, rfl, ul189_2, ge189_2⟩ := k33_openF hMe189
       have hv189_2 := hcc189 2 _ rfl
       rw [add_field _ _ 2 (by omega)] at hv189_2
       replace hv189_2 := Option.some.inj (hv189_2.symm.trans hx189_2)
       injection hv189_2 with hva_ hvn_ hvc_
       rw [hva_] at ge189_2
       rw [hvc_] at ul189_2
       have HL189_2 := Aside0.mk (show Kd.V (Kd.int .i64) 3 _ w.heap.size _ _ ((rd_T33 l0 x9_1).f2) from Kd.V_mk ul189_2 ge189_2)
       clear hva_ hvn_ hvc_ ge189_2 ul189_2
       clear hcc189 hce189
       have HR189_2 := Aside0.mk hi189_2
       have HC189_2 := Aside0.mk hl189_2
       clear hi189_2 hl189_2
       replace p189 := eq_true p189
       replace q189 := eq_true q189
       go_wp2_with (first | ((with_reducible refine gate_dst (N := 6) rfl ?_); refine box_event ?hg (N := 6) ?hd (cs := #[.int .i64 0, .int .i64 0, .slice none 0 0]) (t := 33) ?hr ?_; (case hd => rfl); (case hg => rfl); (case hr => first | (go_simp; done) | (go_simp; rfl)); intro gb190 hg w12 hbox hb; have n0_ := Aside0.mk (Kd.V_below (Kd.V_elderB (by (with_reducible repeat (first | apply Kd.V_alloc | apply Kd.V_drewN | apply Kd.V_drew)); exact HO_7.out) gb190 (Nat.le_of_eq hg.symm)) hb); have n1_ := Aside0.mk (Kd.V_below (Kd.V_elderB (by (with_reducible repeat (first | apply Kd.V_alloc | apply Kd.V_drewN | apply Kd.V_drew)); exact HL189_2.out) gb190 (Nat.le_of_eq hg.symm)) hb); have n2_ := Aside0.mk (blk_below (g := gb188) (o := .cells #[.int .i64 x189000_1, .int .i64 x189001_1, .slice none 0 0] 33 (0, 0)) (by (with_reducible repeat (first | refine blk_drewN ?_ _ | refine blk_drew ?_ | refine blk_alloc ?_ _)); exact BK188.out) hb); (first | have n3_ := Aside0.mk (Kd.C_below (by repeat (first | (with_reducible exact HR189_2.out) | (with_reducible refine Kd.C_alloc ?_ _) | (with_reducible refine Kd.C_drewN ?_ _) | (with_reducible refine Kd.C_drew ?_) | exact HR189_2.out)) hb) | have n3_ := Aside0.mk True.intro); have n4_ := Aside0.mk (below_step (by repeat (first | (with_reducible first | exact HB.out | apply below_alloc | apply pw_below_drewN | apply below_drew1 | refine below_set ?_ GE188.out) | exact HB.out)) hb); have n5_ := Aside0.mk (hbox); have n6_ := Aside0.mk ((by rw [hg]; exact (below_size (by repeat (first | (with_reducible first | exact HB.out | apply below_alloc | apply pw_below_drewN | apply below_drew1 | refine below_set ?_ GE188.out) | exact HB.out))) : w.heap.size ≤ gb190)); have n7_ := Aside0.mk ((by rw [hg]; exact (below_size (by repeat (first | (with_reducible first | exact HB.out | apply below_alloc | apply pw_below_drewN | apply below_drew1 | refine below_set ?_ GE188.out) | exact HB.out))) : w.heap.size ≤ gb190)); have n8_ := Aside0.mk ((by rw [hg]; exact Nat.ne_of_lt (blk_lt (g := gb188) (o := .cells #[.int .i64 x189000_1, .int .i64 x189001_1, .slice none 0 0] 33 (0, 0)) (by (with_reducible repeat (first | refine blk_drewN ?_ _ | refine blk_drew ?_ | refine blk_alloc ?_ _)); exact BK188.out)) : gb188 ≠ gb190)); have n9_ := Aside0.mk ((by rw [hg]; exact Nat.ne_of_gt (blk_lt (g := gb188) (o := .cells #[.int .i64 x189000_1, .int .i64 x189001_1, .slice none 0 0] 33 (0, 0)) (by (with_reducible repeat (first | refine blk_drewN ?_ _ | refine blk_drew ?_ | refine blk_alloc ?_ _)); exact BK188.out)) : gb190 ≠ gb188)); clear HO_7; clear HL189_2; clear BK188; clear HR189_2; clear HB; have HO_7 := n0_; have HL189_2 := n1_; have BK188 := n2_; have HR189_2 := n3_; have HB := n4_; have BK190 := n5_; have GW190 := n6_; have GE190 := n7_; have NB188_190 := n8_; have NB190_188 := n9_; clear n0_ n1_ n2_ n3_ n4_ n5_ n6_ n7_ n8_ n9_; clear hb hbox hg; have hnb13 := NB190_188.out; have hnc13 := NB188_190.out; have hcz14_0 : w12.cell? ⟨gb190, 0, none⟩ = some (.int .i64 0) := (blk_cell BK190.out 0).trans rfl; have hcz14_1 : w12.cell? ⟨gb190, 1, none⟩ = some (.int .i64 0) := (blk_cell BK190.out 1).trans rfl; have hcz14_2 : w12.cell? ⟨gb190, 2, none⟩ = some (.slice none 0 0) := (blk_cell BK190.out 2).trans rfl; have hfz14_0 := blk_frozen BK190.out 0; have hfz14_1 := blk_frozen BK190.out 1; have hfz14_2 := blk_frozen BK190.out 2))
       go_roundg k1
       case measure => have := HK1.out; omega
       case rel => exact ⟨(wrap64 (x9_1 + 1)), (x189000_1), (x189001_1), (by first | rfl | (simp; done) | (simp [*]; done)), H', ⟨by have := HK1.out; omega⟩, ⟨by (with_reducible repeat (first | apply Kd.V_alloc | apply Kd.V_drewN | apply Kd.V_drew)); exact Kd.V_mono (Kd.V_far (p := ⟨gb190, 2, none⟩) (Kd.V_far (p := ⟨gb190, 1, none⟩) (Kd.V_far (p := ⟨gb190, 0, none⟩) (Kd.V_mono HO_7.out (fun k_ hk => (⟨hk, hk.2⟩ : _ ∧ k_ ≠ gb190))) (fun _ hk => hk.2) (.int .i64 ((rd_T33 l0 x9_1).f0))) (fun _ hk => hk.2) (.int .i64 ((rd_T33 l0 x9_1).f1))) (fun _ hk => hk.2) (.slice A189_2 ((rd_T33 l0 x9_1).f2).length c189_2)) (fun _ hk => ⟨hk.1.1.1, hk.1.1.2⟩)⟩, ⟨by (with_reducible repeat (first | refine blk_drewN ?_ _ | refine blk_drew ?_ | refine blk_alloc ?_ _)); refine blk_far ?_ NB188_190.out _; (with_reducible repeat (first | refine blk_drewN ?_ _ | refine blk_drew ?_ | refine blk_alloc ?_ _)); refine blk_far ?_ NB188_190.out _; (with_reducible repeat (first | refine blk_drewN ?_ _ | refine blk_drew ?_ | refine blk_alloc ?_ _)); refine blk_far ?_ NB188_190.out _; (with_reducible repeat (first | refine blk_drewN ?_ _ | refine blk_drew ?_ | refine blk_alloc ?_ _)); exact BK188.out⟩, ⟨by repeat (first | (with_reducible first | exact HB.out | apply below_alloc | apply pw_below_drewN | apply below_drew1 | refine below_set ?_ GE188.out | refine below_set ?_ GE190.out) | exact HB.out)⟩⟩
     ·rw [if_neg c6] at H
      exact absurd H (by simp)
    ·rw [if_neg c5] at H
     exact absurd H (by simp)
   ·rw [if_neg c4] at H
    have c4b0 : decide (x9_1 < (l0.length : Int)) = false := decide_eq_false c4
    clear c4
    simp only [Option.some.injEq, Prod.mk.injEq] at H
    obtain ⟨rfl, rfl, rfl⟩ := H
    have hcz15_0 : wr.cell? ⟨gb188, 0, none⟩ = some (.int .i64 x189000_1) := (blk_cell BK188.out 0).trans rfl
    have hcz15_1 : wr.cell? ⟨gb188, 1, none⟩ = some (.int .i64 x189001_1) := (blk_cell BK188.out 1).trans rfl
    have hcz15_2 : wr.cell? ⟨gb188, 2, none⟩ = some (.slice none 0 0) := (blk_cell BK188.out 2).trans rfl
    have hfz15_0 := blk_frozen BK188.out 0
    have hfz15_1 := blk_frozen BK188.out 1
    have hfz15_2 := blk_frozen BK188.out 2
    go_wp2
    refine bodyPost_ret (results_cell_row rfl _ _ gb188 33 #[.int .i64 a1, .int .i64 0, .slice none 0 0] (0, 0) _ rfl (by (with_reducible repeat (first | refine blk_drewN ?_ _ | refine blk_drew ?_ | refine blk_alloc ?_ _)); refine blk_put (cs := #[.int .i64 a1, .int .i64 0, .slice none 0 0]) ?_ 2 _ rfl; (with_reducible repeat (first | refine blk_drewN ?_ _ | refine blk_drew ?_ | refine blk_alloc ?_ _)); refine blk_put (cs := #[.int .i64 a1, .int .i64 x189001_1, .slice none 0 0]) ?_ 1 _ rfl; (with_reducible repeat (first | refine blk_drewN ?_ _ | refine blk_drew ?_ | refine blk_alloc ?_ _)); refine blk_put (cs := #[.int .i64 x189000_1, .int .i64 x189001_1, .slice none 0 0]) ?_ 0 _ rfl; (with_reducible repeat (first | refine blk_drewN ?_ _ | refine blk_drew ?_ | refine blk_alloc ?_ _)); exact BK188.out) Try.underlying33 rfl (by kernel_rfl)) rfl ?_
    exact ⟨_, by first | rfl | (simp [errW_none, errW_some] <;> rfl) | (simp [*, errW_none, errW_some] <;> rfl), Kd.V_mono (Kd.R_V (by first | exact Kd.R_nil _ _ _ 0 (fun k_ => w.heap.size ≤ k_) | exact Kd.R_nil _ _ _ _ _ | exact Kd.N_nil _ _ _ _ _ | exact Kd.V_nil _ _ _ _ _ | exact Kd.Q_nil _ _ _ _ _ | exact Kd.S_nil _ _ _ _ _)) (fun k_ hk => by first | exact ⟨(.inr (hk.1)), hk.2⟩ | exact (.inr (hk))), by repeat (first | (with_reducible first | exact HB.out | apply below_alloc | apply pw_below_drewN | apply below_drew1 | refine below_set ?_ GE188.out) | exact HB.out)⟩

end Go.Proofs.Ytnjnjajgpkmfhaa.PX

namespace Go.Proofs.Ytnjnjajgpkmfhaa.PX
open Go.RowKit Go.Proofs.YtnjnjajgpkmfhaaW.PrintWords Go.Proofs.YtnjnjajgpkmfhaaW.PrintLast Go.Proofs.YtnjnjajgpkmfhaaW.PrintMore
attribute [local go_sem] max2_int min2_int max_two min_two max_three min_three max_four min_four   -- for this text's walks alone
set_option linter.unusedVariables false
set_option linter.unusedSimpArgs false

/-! ### deadboltref09_Root: function 20 -/
def deadboltref09_Root.f (a0 : Int) : Option (Int) := some (Int.tmod (wrap64 (Int.tdiv a0 8)) 251)
set_option maxHeartbeats 8000000 in
set_option maxRecDepth 100000 in
theorem deadboltref09_Root.calls (a0 : Int) (r : Int) (w : World) (h : deadboltref09_Root.f a0 = some r) :
  Calls Try.prog 20 #[.int .i64 a0] w fun e w' => e = .returned (.int .i64 r) ∧ Drawn0 w w' := by
 have H : (some (Int.tmod (wrap64 (Int.tdiv a0 8)) 251)) = some r := h
 clear h
 obtain rfl := Option.some.inj H
 go_enter Try.func20, Try.ntmps20
 go_wp2
 go_ret
 exact ⟨by first | rfl | (simp; done) | (simp [*]; done), by repeat (first | exact Drawn0.refl _ | apply Drawn0.step)⟩

end Go.Proofs.Ytnjnjajgpkmfhaa.PX

namespace Go.Proofs.Ytnjnjajgpkmfhaa.PX
open Go.RowKit Go.Proofs.YtnjnjajgpkmfhaaW.PrintWords Go.Proofs.YtnjnjajgpkmfhaaW.PrintLast Go.Proofs.YtnjnjajgpkmfhaaW.PrintMore
attribute [local go_sem] max2_int min2_int max_two min_two max_three min_three max_four min_four   -- for this text's walks alone
set_option linter.unusedVariables false
set_option linter.unusedSimpArgs false

/-! ### deadboltref09_Under: function 24 -/
def deadboltref09_Under.l0 : Nat → Int → List Int → List (S33) → Int → Int → Option (List Int)
 | 0, _, _, _, _, _ => none
 | k + 1, x1, x5, x9, x10, x11 => if x11 < x10 then (if 0 ≤ x11 then (if x11 < (x9.length : Int) then ((deadboltref09_Root.f ((rd_T33 x9 x11).f0)).bind fun t196 => (if t196 = x1 then (if x5.length < 17592186044416 then (deadboltref09_Under.l0 k x1 (x5 ++ [(rd_T33 x9 x11).f0]) x9 x10 (wrap64 (x11 + 1))) else (none)) else (deadboltref09_Under.l0 k x1 x5 x9 x10 (wrap64 (x11 + 1))))) else (none)) else (none)) else (some x5)
def deadboltref09_Under.f (k : Nat) (l0 : List (S33)) (a1 : Int) : Option (List Int) := deadboltref09_Under.l0 k a1 (([] : List Int)) l0 (l0.length : Int) 0
set_option maxHeartbeats 8000000 in
set_option maxRecDepth 100000 in
theorem deadboltref09_Under.calls (k : Nat) (A0 : Option Addr) (c0 : Nat) (l0 : List (S33)) (a1 : Int) (r : List Int) (w : World) (hr0 : Kd.C k33 w A0 l0.length l0) (hc0 : l0.length ≤ c0) (h : deadboltref09_Under.f k l0 a1 = some r) :
  Calls Try.prog 24 #[.slice A0 l0.length c0, .int .i64 a1] w fun e w' => ∃ v0_ : Value, e = .returned (v0_) ∧ Kd.R (Kd.int .i64) 3 w' w.heap.size (fun _ => True) v0_ r ∧ Below w.heap.size w w' := by
 have hu33 := Try.underlying33
 have HR0 := Aside0.mk hr0
 have HC0 := Aside0.mk hc0
 clear hr0 hc0
 have HB := Aside0.mk (Below.refl w.heap.size w)
 have H : (deadboltref09_Under.l0 k a1 (([] : List Int)) l0 (l0.length : Int) 0) = some r := h
 clear h
 obtain ⟨y191, hy191⟩ : ∃ y_ : List Int, y_ = (([] : List Int)) := ⟨_, rfl⟩
 replace H : (deadboltref09_Under.l0 k a1 y191 l0 (l0.length : Int) 0) = some r := by first | (rw [hy191]; with_reducible exact H) | (have H2_ := (Option.bind_some _ _).symm.trans H; rw [hy191]; with_reducible exact H2_) | (have H2_ := (Option.bind_some _ _).symm.trans H; with_reducible exact H2_) | with_reducible exact H | (rw [hy191]; exact H) | exact H
 have Ny191 := Aside0.mk hy191
 clear hy191
 have H' := Aside0.mk H
 clear H
 go_enter Try.func24, Try.ntmps24
 go_wp2_with (first | ((with_reducible refine gate_dst (N := 8) rfl ?_); refine Kd.R_lit (Kd.int .i64) _ 3 ?hg (N := 8) ?hd (xs := ([] : List Int)) (inner := []) (ok := fun _ => True) (okp := fun _ => True) ?hr ?hp (fun _ hk => hk) trivial (Below.refl _ _) (Nat.le_refl _) (by simp) ?_; (case hd => rfl); (case hg => rfl); (case hr => first | (go_simp; done) | (go_simp; rfl)); (case hp => exact (Reps.none _ _)); intro v192 w3 ho4 hb hg_ hnew_; clear hg_ hnew_; (first | rw [← Ny191.out] at ho4 | (simp only [Int.reduceToNat] at ho4; rw [← Ny191.out] at ho4)); have n0_ := Aside0.mk (Kd.R_lower ho4 (below_size (by repeat (first | (with_reducible first | exact HB.out | apply below_alloc | apply pw_below_drewN | apply below_drew1) | exact HB.out)))); have n1_ := Aside0.mk (below_step (by repeat (first | (with_reducible first | exact HB.out | apply below_alloc | apply pw_below_drewN | apply below_drew1) | exact HB.out)) hb); clear HB; have HO193 := n0_; have HB := n1_; clear n0_ n1_; clear hb ho4))
 go_loopg [5, 11] k (fun kq v5 v11 w' => ∃ (x5_1 : List Int) (x11_1 : Int), v11 = .int .i64 x11_1 ∧ Aside0 (deadboltref09_Under.l0 kq a1 x5_1 l0 (l0.length : Int) x11_1 = some r) ∧ Aside0 (kq ≤ k) ∧ Aside0 (Kd.R (Kd.int .i64) 3 w' w.heap.size (fun _ => True) v5 x5_1) ∧ Aside0 (Below w.heap.size w w'))
 case atStart => exact ⟨(y191), (0), (by first | rfl | (simp; done) | (simp [*]; done)), H', ⟨Nat.le_refl _⟩, ⟨by (with_reducible repeat (first | apply Kd.R_alloc | apply Kd.R_drewN | apply Kd.R_drew)); exact HO193.out⟩, ⟨by repeat (first | (with_reducible first | exact HB.out | apply below_alloc | apply pw_below_drewN | apply below_drew1) | exact HB.out)⟩⟩
 case round =>
  clear H'
  try clear c2
  try clear p2
  obtain ⟨x5_1, x11_1, rfl, HA, HK1, HO_5, HB⟩ := hrel
  cases gk with
  | zero => exact absurd HA.out (by simp [deadboltref09_Under.l0])
  | succ k1 =>
   have H := HA.out
   clear HA
   simp only [deadboltref09_Under.l0] at H
   by_cases c5 : x11_1 < (l0.length : Int)
   ·rw [if_pos c5] at H
    have c5b0 : decide (x11_1 < (l0.length : Int)) = true := decide_eq_true c5
    clear c5
    by_cases c6 : 0 ≤ x11_1
    ·rw [if_pos c6] at H
     have c6b0 : decide (0 ≤ x11_1) = true := decide_eq_true c6
     clear c6
     by_cases c7 : x11_1 < (l0.length : Int)
     ·rw [if_pos c7] at H
      have c7b0 : decide (x11_1 < (l0.length : Int)) = true := decide_eq_true c7
      clear c7
      replace H := Option.bind_eq_some_iff.mp H
      obtain ⟨t196, A80, H⟩ := H
      replace H : (if t196 = a1 then (if x5_1.length < 17592186044416 then (deadboltref09_Under.l0 k1 a1 (x5_1 ++ [(rd_T33 l0 x11_1).f0]) l0 (l0.length : Int) (wrap64 (x11_1 + 1))) else (none)) else (deadboltref09_Under.l0 k1 a1 x5_1 l0 (l0.length : Int) (wrap64 (x11_1 + 1)))) = some r := H
      have A8 := Aside0.mk A80
      clear A80
      by_cases c9 : t196 = a1
      ·rw [if_pos c9] at H
       have c9b0 : (t196 == a1) = true := beq_iff_eq.mpr c9
       have c9b1 : (t196 != a1) = false := bne_eq_false_iff_eq.mpr c9
       clear c9
       by_cases c10 : x5_1.length < 17592186044416
       ·rw [if_pos c10] at H
        have LMc10 := Aside0.mk c10
        clear c10
        obtain ⟨y197, hy197⟩ : ∃ y_ : List Int, y_ = (x5_1 ++ [(rd_T33 l0 x11_1).f0]) := ⟨_, rfl⟩
        replace H : (deadboltref09_Under.l0 k1 a1 y197 l0 (l0.length : Int) (wrap64 (x11_1 + 1))) = some r := by first | (rw [hy197]; with_reducible exact H) | (have H2_ := (Option.bind_some _ _).symm.trans H; rw [hy197]; with_reducible exact H2_) | (have H2_ := (Option.bind_some _ _).symm.trans H; with_reducible exact H2_) | with_reducible exact H | (rw [hy197]; exact H) | exact H
        have Ny197 := Aside0.mk hy197
        clear hy197
        have H' := Aside0.mk H
        clear H
        have p194 : 0 ≤ (x11_1 : Int) := of_decide_eq_true (by first | (with_reducible assumption) | assumption)
        have q194 : x11_1 < (l0.length : Int) := of_decide_eq_true (by first | (with_reducible assumption) | assumption)
        obtain ⟨ad194, A194_2, c194_2, e194, hx194_0, hx194_1, hx194_2, hl194_2, hi194_2⟩ := at_T33 HR0.out x11_1 p194 q194
        cases e194
        replace hx194_0 := (HB.out.cell (World.block_lt_of_cell? w _ hx194_0)).trans hx194_0
        replace hx194_1 := (HB.out.cell (World.block_lt_of_cell? w _ hx194_1)).trans hx194_1
        replace hx194_2 := (HB.out.cell (World.block_lt_of_cell? w _ hx194_2)).trans hx194_2
        have HR194_2 := Aside0.mk hi194_2
        have HC194_2 := Aside0.mk hl194_2
        clear hi194_2 hl194_2
        replace p194 := eq_true p194
        replace q194 := eq_true q194
        go_wp2_with (first | ((with_reducible refine gate_dst (N := 7) rfl ?_); refine box_event ?hg (N := 7) ?hd (cs := #[.int .i64 0, .int .i64 0, .slice none 0 0]) (t := 33) ?hr ?_; (case hd => rfl); (case hg => rfl); (case hr => first | (go_simp; done) | (go_simp; rfl)); intro gb195 hg w11 hbox hb; have n0_ := Aside0.mk (Kd.R_below (by (with_reducible repeat (first | apply Kd.R_alloc | apply Kd.R_drewN | apply Kd.R_drew)); exact HO_5.out) hb); have n1_ := Aside0.mk (below_step (by repeat (first | (with_reducible first | exact HB.out | apply below_alloc | apply pw_below_drewN | apply below_drew1) | exact HB.out)) hb); have n2_ := Aside0.mk (hbox); have n3_ := Aside0.mk ((by rw [hg]; exact (below_size (by repeat (first | (with_reducible first | exact HB.out | apply below_alloc | apply pw_below_drewN | apply below_drew1) | exact HB.out))) : w.heap.size ≤ gb195)); have n4_ := Aside0.mk ((by rw [hg]; exact (below_size (by repeat (first | (with_reducible first | exact HB.out | apply below_alloc | apply pw_below_drewN | apply below_drew1) | exact HB.out))) : w.heap.size ≤ gb195)); clear HO_5; clear HB; have HO_5 := n0_; have HB := n1_; have BK195 := n2_; have GW195 := n3_; have GE195 := n4_; clear n0_ n1_ n2_ n3_ n4_; clear hb hbox hg; have hcz12_0 : w11.cell? ⟨gb195, 0, none⟩ = some (.int .i64 0) := (blk_cell BK195.out 0).trans rfl; have hcz12_1 : w11.cell? ⟨gb195, 1, none⟩ = some (.int .i64 0) := (blk_cell BK195.out 1).trans rfl; have hcz12_2 : w11.cell? ⟨gb195, 2, none⟩ = some (.slice none 0 0) := (blk_cell BK195.out 2).trans rfl; have hfz12_0 := blk_frozen BK195.out 0; have hfz12_1 := blk_frozen BK195.out 1; have hfz12_2 := blk_frozen BK195.out 2) | ((with_reducible refine gate_callee (f := 20) rfl ?_); refine goesL_ (some 17) rfl rfl Try.func20 (by kernel_rfl) rfl #[.int .i64 ((rd_T33 l0 x11_1).f0)] rfl (by (try simp only [List.map_toArray, List.map_cons, List.map_nil]); first | done | rfl | (simp only [List.length_drop, List.length_take]; rfl)) ?_; (with_reducible refine (deadboltref09_Root.calls ((rd_T33 l0 x11_1).f0) t196 _ A8.out).mono ?_); rintro e w' ⟨rfl, ⟨nd, rfl⟩⟩; refine ⟨_, rfl, ?_⟩) | ((with_reducible refine gate_builtin (b := .append) (xs := #[.tmp 20, .tmp 23]) rfl ?_); at_builtin; refine Kd.R_append (Kd.int .i64) (w0 := w) w.heap.size rfl (.tmp 20) (.tmp 23) 25 3 (.int .i64 0) 8 rfl Try.underlying25 info3 rfl (by decide) (by omega) u5 x5_1 ((rd_T33 l0 x11_1).f0) [.int .i64 ((rd_T33 l0 x11_1).f0)] (fun _ => True) (fun _ => False) rfl (by first | (go_simp; done) | (go_simp; rfl)) ?aP (fun _ hk => hk.elim) ?aF ?aO ?aB ?aS ?aL ?_; (case aP => exact rfl); (case aB => exact (by repeat (first | (with_reducible first | exact HB.out | apply below_alloc | apply pw_below_drewN | apply below_drew1 | refine below_set ?_ GE195.out) | exact HB.out))); (case aF => exact (fun _ _ => trivial)); (case aO => exact (by (with_reducible repeat (first | apply Kd.R_alloc | apply Kd.R_drewN | apply Kd.R_drew)); exact Kd.R_mono (Kd.R_far (p := ⟨gb195, 2, none⟩) (Kd.R_far (p := ⟨gb195, 1, none⟩) (Kd.R_far (p := ⟨gb195, 0, none⟩) (Kd.R_types HO_5.out BK195.out (by decide)) (fun _ hk => hk.2) (.int .i64 ((rd_T33 l0 x11_1).f0))) (fun _ hk => hk.2) (.int .i64 ((rd_T33 l0 x11_1).f1))) (fun _ hk => hk.2) (.slice A194_2 ((rd_T33 l0 x11_1).f2).length c194_2)) (fun _ hk => trivial))); (case aS => exact (below_size (by repeat (first | (with_reducible first | exact HB.out | apply below_alloc | apply pw_below_drewN | apply below_drew1 | refine below_set ?_ GE195.out) | exact HB.out)))); (case aL => have := LMc10.out; omega); intro v198 w13 ho hb hg hat; rw [← Ny197.out] at ho; have n0_ := Aside0.mk (blk_grown (g := gb195) (o := .cells #[.int .i64 ((rd_T33 l0 x11_1).f0), .int .i64 ((rd_T33 l0 x11_1).f1), .slice A194_2 ((rd_T33 l0 x11_1).f2).length c194_2] 33 (0, 0)) (by (with_reducible repeat (first | refine blk_drewN ?_ _ | refine blk_drew ?_ | refine blk_alloc ?_ _)); refine blk_put (cs := #[.int .i64 ((rd_T33 l0 x11_1).f0), .int .i64 ((rd_T33 l0 x11_1).f1), .slice none 0 0]) ?_ 2 _ rfl; (with_reducible repeat (first | refine blk_drewN ?_ _ | refine blk_drew ?_ | refine blk_alloc ?_ _)); refine blk_put (cs := #[.int .i64 ((rd_T33 l0 x11_1).f0), .int .i64 0, .slice none 0 0]) ?_ 1 _ rfl; (with_reducible repeat (first | refine blk_drewN ?_ _ | refine blk_drew ?_ | refine blk_alloc ?_ _)); refine blk_put (cs := #[.int .i64 0, .int .i64 0, .slice none 0 0]) ?_ 0 _ rfl; (with_reducible repeat (first | refine blk_drewN ?_ _ | refine blk_drew ?_ | refine blk_alloc ?_ _)); exact BK195.out) hg (Kd.R_ne HO_5.out BK195.out (by decide))); have n1_ := Aside0.mk (hb); have n2_ := Aside0.mk (ho); clear BK195; clear HB; clear HO_5; have BK195 := n0_; have HB := n1_; have HO199 := n2_; clear n0_ n1_ n2_; clear ho hb hg hat))
        go_roundg k1
        case measure => have := HK1.out; omega
        case rel => exact ⟨(y197), (wrap64 (x11_1 + 1)), (by first | rfl | (simp; done) | (simp [*]; done)), H', ⟨by have := HK1.out; omega⟩, ⟨by (with_reducible repeat (first | apply Kd.R_alloc | apply Kd.R_drewN | apply Kd.R_drew)); exact HO199.out⟩, ⟨by repeat (first | (with_reducible first | exact HB.out | apply below_alloc | apply pw_below_drewN | apply below_drew1 | refine below_set ?_ GE195.out) | exact HB.out)⟩⟩
       ·rw [if_neg c10] at H
        exact absurd H (by simp)
      ·rw [if_neg c9] at H
       have c9b0 : (t196 == a1) = false := beq_eq_false_iff_ne.mpr c9
       have c9b1 : (t196 != a1) = true := bne_iff_ne.mpr c9
       have H' := Aside0.mk H
       clear H
       have p194 : 0 ≤ (x11_1 : Int) := of_decide_eq_true (by first | (with_reducible assumption) | assumption)
       have q194 : x11_1 < (l0.length : Int) := of_decide_eq_true (by first | (with_reducible assumption) | assumption)
       obtain ⟨ad194, A194_2, c194_2, e194, hx194_0, hx194_1, hx194_2, hl194_2, hi194_2⟩ := at_T33 HR0.out x11_1 p194 q194
       cases e194
       replace hx194_0 := (HB.out.cell (World.block_lt_of_cell? w _ hx194_0)).trans hx194_0
       replace hx194_1 := (HB.out.cell (World.block_lt_of_cell? w _ hx194_1)).trans hx194_1
       replace hx194_2 := (HB.out.cell (World.block_lt_of_cell? w _ hx194_2)).trans hx194_2
       have HR194_2 := Aside0.mk hi194_2
       have HC194_2 := Aside0.mk hl194_2
       clear hi194_2 hl194_2
       replace p194 := eq_true p194
       replace q194 := eq_true q194
       go_wp2_with (first | ((with_reducible refine gate_dst (N := 7) rfl ?_); refine box_event ?hg (N := 7) ?hd (cs := #[.int .i64 0, .int .i64 0, .slice none 0 0]) (t := 33) ?hr ?_; (case hd => rfl); (case hg => rfl); (case hr => first | (go_simp; done) | (go_simp; rfl)); intro gb195 hg w14 hbox hb; have n0_ := Aside0.mk (Kd.R_below (by (with_reducible repeat (first | apply Kd.R_alloc | apply Kd.R_drewN | apply Kd.R_drew)); exact HO_5.out) hb); have n1_ := Aside0.mk (below_step (by repeat (first | (with_reducible first | exact HB.out | apply below_alloc | apply pw_below_drewN | apply below_drew1) | exact HB.out)) hb); have n2_ := Aside0.mk (hbox); have n3_ := Aside0.mk ((by rw [hg]; exact (below_size (by repeat (first | (with_reducible first | exact HB.out | apply below_alloc | apply pw_below_drewN | apply below_drew1) | exact HB.out))) : w.heap.size ≤ gb195)); have n4_ := Aside0.mk ((by rw [hg]; exact (below_size (by repeat (first | (with_reducible first | exact HB.out | apply below_alloc | apply pw_below_drewN | apply below_drew1) | exact HB.out))) : w.heap.size ≤ gb195)); clear HO_5; clear HB; have HO_5 := n0_; have HB := n1_; have BK195 := n2_; have GW195 := n3_; have GE195 := n4_; clear n0_ n1_ n2_ n3_ n4_; clear hb hbox hg; have hcz15_0 : w14.cell? ⟨gb195, 0, none⟩ = some (.int .i64 0) := (blk_cell BK195.out 0).trans rfl; have hcz15_1 : w14.cell? ⟨gb195, 1, none⟩ = some (.int .i64 0) := (blk_cell BK195.out 1).trans rfl; have hcz15_2 : w14.cell? ⟨gb195, 2, none⟩ = some (.slice none 0 0) := (blk_cell BK195.out 2).trans rfl; have hfz15_0 := blk_frozen BK195.out 0; have hfz15_1 := blk_frozen BK195.out 1; have hfz15_2 := blk_frozen BK195.out 2) | ((with_reducible refine gate_callee (f := 20) rfl ?_); refine goesL_ (some 17) rfl rfl Try.func20 (by kernel_rfl) rfl #[.int .i64 ((rd_T33 l0 x11_1).f0)] rfl (by (try simp only [List.map_toArray, List.map_cons, List.map_nil]); first | done | rfl | (simp only [List.length_drop, List.length_take]; rfl)) ?_; (with_reducible refine (deadboltref09_Root.calls ((rd_T33 l0 x11_1).f0) t196 _ A8.out).mono ?_); rintro e w' ⟨rfl, ⟨nd, rfl⟩⟩; refine ⟨_, rfl, ?_⟩))
       go_roundg k1
       case measure => have := HK1.out; omega
       case rel => exact ⟨(x5_1), (wrap64 (x11_1 + 1)), (by first | rfl | (simp; done) | (simp [*]; done)), H', ⟨by have := HK1.out; omega⟩, ⟨by (with_reducible repeat (first | apply Kd.R_alloc | apply Kd.R_drewN | apply Kd.R_drew)); exact Kd.R_mono (Kd.R_far (p := ⟨gb195, 2, none⟩) (Kd.R_far (p := ⟨gb195, 1, none⟩) (Kd.R_far (p := ⟨gb195, 0, none⟩) (Kd.R_types HO_5.out BK195.out (by decide)) (fun _ hk => hk.2) (.int .i64 ((rd_T33 l0 x11_1).f0))) (fun _ hk => hk.2) (.int .i64 ((rd_T33 l0 x11_1).f1))) (fun _ hk => hk.2) (.slice A194_2 ((rd_T33 l0 x11_1).f2).length c194_2)) (fun _ hk => trivial)⟩, ⟨by repeat (first | (with_reducible first | exact HB.out | apply below_alloc | apply pw_below_drewN | apply below_drew1 | refine below_set ?_ GE195.out) | exact HB.out)⟩⟩
     ·rw [if_neg c7] at H
      exact absurd H (by simp)
    ·rw [if_neg c6] at H
     exact absurd H (by simp)
   ·rw [if_neg c5] at H
    have c5b0 : decide (x11_1 < (l0.length : Int)) = false := decide_eq_false c5
    clear c5
    obtain rfl := Option.some.inj H
    go_wp2
    go_ret
    exact ⟨_, by first | rfl | (simp [errW_none, errW_some] <;> rfl) | (simp [*, errW_none, errW_some] <;> rfl), by (with_reducible repeat (first | apply Kd.R_alloc | apply Kd.R_drewN | apply Kd.R_drew)); exact HO_5.out, by repeat (first | (with_reducible first | exact HB.out | apply below_alloc | apply pw_below_drewN | apply below_drew1) | exact HB.out)⟩

end Go.Proofs.Ytnjnjajgpkmfhaa.PX

namespace Go.Proofs.Ytnjnjajgpkmfhaa.PX
open Go.RowKit Go.Proofs.YtnjnjajgpkmfhaaW.PrintWords Go.Proofs.YtnjnjajgpkmfhaaW.PrintLast Go.Proofs.YtnjnjajgpkmfhaaW.PrintMore
attribute [local go_sem] max2_int min2_int max_two min_two max_three min_three max_four min_four   -- for this text's walks alone
set_option linter.unusedVariables false
set_option linter.unusedSimpArgs false

/-! ### deadboltref09_Empty: function 29 -/
def deadboltref09_Empty.f (a0_0 : Int) (a0_1 : Int) (l0_2 : List Int) : Option (Bool) := if a0_1 = 0 then (some ((l0_2.length : Int) == 0)) else (some false)
set_option maxHeartbeats 8000000 in
set_option maxRecDepth 100000 in
theorem deadboltref09_Empty.calls (a0_0 : Int) (a0_1 : Int) (A0_2 : Option Addr) (c0_2 : Nat) (l0_2 : List Int) (r : Bool) (w : World) (hr0_2 : Kd.C (Kd.int .i64) w A0_2 l0_2.length l0_2) (hc0_2 : l0_2.length ≤ c0_2) (h : deadboltref09_Empty.f a0_0 a0_1 l0_2 = some r) :
  Calls Try.prog 29 #[.agg #[.int .i64 a0_0, .int .i64 a0_1, .slice A0_2 l0_2.length c0_2]] w fun e w' => e = .returned (.bool r) ∧ Below w.heap.size w w' := by
 have hu33 := Try.underlying33
 have HR0_2 := Aside0.mk hr0_2
 have HC0_2 := Aside0.mk hc0_2
 clear hr0_2 hc0_2
 have HB := Aside0.mk (Below.refl w.heap.size w)
 have H : (if a0_1 = 0 then (some ((l0_2.length : Int) == 0)) else (some false)) = some r := h
 clear h
 by_cases c2 : a0_1 = 0
 ·rw [if_pos c2] at H
  have c2b0 : (a0_1 == 0) = true := beq_iff_eq.mpr c2
  have c2b1 : (a0_1 != 0) = false := bne_eq_false_iff_eq.mpr c2
  clear c2
  obtain rfl := Option.some.inj H
  go_enter Try.func29, Try.ntmps29
  go_wp2_with (first | ((with_reducible refine gate_dst (N := 1) rfl ?_); (try (refine gate_guard (by rfl) ?_; dsimp only)); refine box_event ?hg (N := 1) ?hd (cs := #[.int .i64 a0_0, .int .i64 a0_1, .slice A0_2 l0_2.length c0_2]) (t := 33) ?hr ?_; (case hd => rfl); (case hg => rfl); (case hr => first | (go_simp; done) | (go_simp; rfl)); intro gb172 hg w3 hbox hb; have n0_ := Aside0.mk (below_step (by repeat (first | (with_reducible first | exact HB.out | apply below_alloc | apply pw_below_drewN | apply below_drew1) | exact HB.out)) hb); have n1_ := Aside0.mk (hbox); have n2_ := Aside0.mk ((by rw [hg]; exact (below_size (by repeat (first | (with_reducible first | exact HB.out | apply below_alloc | apply pw_below_drewN | apply below_drew1) | exact HB.out))) : w.heap.size ≤ gb172)); have n3_ := Aside0.mk ((by rw [hg]; exact (below_size (by repeat (first | (with_reducible first | exact HB.out | apply below_alloc | apply pw_below_drewN | apply below_drew1) | exact HB.out))) : w.heap.size ≤ gb172)); clear HB; have HB := n0_; have BK172 := n1_; have GW172 := n2_; have GE172 := n3_; clear n0_ n1_ n2_ n3_; clear hb hbox hg; have hcz4_0 : w3.cell? ⟨gb172, 0, none⟩ = some (.int .i64 a0_0) := (blk_cell BK172.out 0).trans rfl; have hcz4_1 : w3.cell? ⟨gb172, 1, none⟩ = some (.int .i64 a0_1) := (blk_cell BK172.out 1).trans rfl; have hcz4_2 : w3.cell? ⟨gb172, 2, none⟩ = some (.slice A0_2 l0_2.length c0_2) := (blk_cell BK172.out 2).trans rfl; have hfz4_0 := blk_frozen BK172.out 0; have hfz4_1 := blk_frozen BK172.out 1; have hfz4_2 := blk_frozen BK172.out 2))
  go_ret
  exact ⟨by first | rfl | (simp [errW_none, errW_some] <;> rfl) | (simp [*, errW_none, errW_some] <;> rfl), by repeat (first | (with_reducible first | exact HB.out | apply below_alloc | apply pw_below_drewN | apply below_drew1 | refine below_set ?_ GE172.out) | exact HB.out)⟩
 ·rw [if_neg c2] at H
  have c2b0 : (a0_1 == 0) = false := beq_eq_false_iff_ne.mpr c2
  have c2b1 : (a0_1 != 0) = true := bne_iff_ne.mpr c2
  obtain rfl := Option.some.inj H
  go_enter Try.func29, Try.ntmps29
  go_wp2_with (first | ((with_reducible refine gate_dst (N := 1) rfl ?_); (try (refine gate_guard (by rfl) ?_; dsimp only)); refine box_event ?hg (N := 1) ?hd (cs := #[.int .i64 a0_0, .int .i64 a0_1, .slice A0_2 l0_2.length c0_2]) (t := 33) ?hr ?_; (case hd => rfl); (case hg => rfl); (case hr => first | (go_simp; done) | (go_simp; rfl)); intro gb172 hg w5 hbox hb; have n0_ := Aside0.mk (below_step (by repeat (first | (with_reducible first | exact HB.out | apply below_alloc | apply pw_below_drewN | apply below_drew1) | exact HB.out)) hb); have n1_ := Aside0.mk (hbox); have n2_ := Aside0.mk ((by rw [hg]; exact (below_size (by repeat (first | (with_reducible first | exact HB.out | apply below_alloc | apply pw_below_drewN | apply below_drew1) | exact HB.out))) : w.heap.size ≤ gb172)); have n3_ := Aside0.mk ((by rw [hg]; exact (below_size (by repeat (first | (with_reducible first | exact HB.out | apply below_alloc | apply pw_below_drewN | apply below_drew1) | exact HB.out))) : w.heap.size ≤ gb172)); clear HB; have HB := n0_; have BK172 := n1_; have GW172 := n2_; have GE172 := n3_; clear n0_ n1_ n2_ n3_; clear hb hbox hg; have hcz6_0 : w5.cell? ⟨gb172, 0, none⟩ = some (.int .i64 a0_0) := (blk_cell BK172.out 0).trans rfl; have hcz6_1 : w5.cell? ⟨gb172, 1, none⟩ = some (.int .i64 a0_1) := (blk_cell BK172.out 1).trans rfl; have hcz6_2 : w5.cell? ⟨gb172, 2, none⟩ = some (.slice A0_2 l0_2.length c0_2) := (blk_cell BK172.out 2).trans rfl; have hfz6_0 := blk_frozen BK172.out 0; have hfz6_1 := blk_frozen BK172.out 1; have hfz6_2 := blk_frozen BK172.out 2))
  go_ret
  exact ⟨by first | rfl | (simp [errW_none, errW_some] <;> rfl) | (simp [*, errW_none, errW_some] <;> rfl), by repeat (first | (with_reducible first | exact HB.out | apply below_alloc | apply pw_below_drewN | apply below_drew1 | refine below_set ?_ GE172.out) | exact HB.out)⟩

end Go.Proofs.Ytnjnjajgpkmfhaa.PX

namespace Go.Proofs.Ytnjnjajgpkmfhaa.PX
open Go.RowKit Go.Proofs.YtnjnjajgpkmfhaaW.PrintWords Go.Proofs.YtnjnjajgpkmfhaaW.PrintLast Go.Proofs.YtnjnjajgpkmfhaaW.PrintMore
attribute [local go_sem] max2_int min2_int max_two min_two max_three min_three max_four min_four   -- for this text's walks alone
set_option linter.unusedVariables false
set_option linter.unusedSimpArgs false

/-! ### deadboltref09_less: function 54 -/
def deadboltref09_less.f (a0 : Int) (a1 : Int) : Option (Bool) := (deadboltref09_Root.f a0).bind fun t173 => ((deadboltref09_Root.f a1).bind fun t174 => (if t173 < t174 then (some true) else ((deadboltref09_Root.f a0).bind fun t175 => ((deadboltref09_Root.f a1).bind fun t176 => (if t175 = t176 then (some (decide (a0 < a1))) else (some false))))))
set_option maxHeartbeats 8000000 in
set_option maxRecDepth 100000 in
theorem deadboltref09_less.calls (a0 : Int) (a1 : Int) (r : Bool) (w : World) (h : deadboltref09_less.f a0 a1 = some r) :
  Calls Try.prog 54 #[.int .i64 a0, .int .i64 a1] w fun e w' => e = .returned (.bool r) ∧ Drawn0 w w' := by
 have H : ((deadboltref09_Root.f a0).bind fun t173 => ((deadboltref09_Root.f a1).bind fun t174 => (if t173 < t174 then (some true) else ((deadboltref09_Root.f a0).bind fun t175 => ((deadboltref09_Root.f a1).bind fun t176 => (if t175 = t176 then (some (decide (a0 < a1))) else (some false))))))) = some r := h
 clear h
 replace H := Option.bind_eq_some_iff.mp H
 obtain ⟨t173, A30, H⟩ := H
 replace H : ((deadboltref09_Root.f a1).bind fun t174 => (if t173 < t174 then (some true) else ((deadboltref09_Root.f a0).bind fun t175 => ((deadboltref09_Root.f a1).bind fun t176 => (if t175 = t176 then (some (decide (a0 < a1))) else (some false)))))) = some r := H
 have A3 := Aside0.mk A30
 clear A30
 replace H := Option.bind_eq_some_iff.mp H
 obtain ⟨t174, A40, H⟩ := H
 replace H : (if t173 < t174 then (some true) else ((deadboltref09_Root.f a0).bind fun t175 => ((deadboltref09_Root.f a1).bind fun t176 => (if t175 = t176 then (some (decide (a0 < a1))) else (some false))))) = some r := H
 have A4 := Aside0.mk A40
 clear A40
 by_cases c5 : t173 < t174
 ·rw [if_pos c5] at H
  have c5b0 : decide (t173 < t174) = true := decide_eq_true c5
  clear c5
  obtain rfl := Option.some.inj H
  go_enter Try.func54, Try.ntmps54
  go_wp2_with (first | ((with_reducible refine gate_callee (f := 20) rfl ?_); refine goesL_ (some 6) rfl rfl Try.func20 (by kernel_rfl) rfl #[.int .i64 a0] rfl (by (try simp only [List.map_toArray, List.map_cons, List.map_nil]); first | done | rfl | (simp only [List.length_drop, List.length_take]; rfl)) ?_; (with_reducible refine (deadboltref09_Root.calls a0 t173 _ A3.out).mono ?_); rintro e w' ⟨rfl, ⟨nd, rfl⟩⟩; refine ⟨_, rfl, ?_⟩) | ((with_reducible refine gate_callee (f := 20) rfl ?_); refine goesL_ (some 8) rfl rfl Try.func20 (by kernel_rfl) rfl #[.int .i64 a1] rfl (by (try simp only [List.map_toArray, List.map_cons, List.map_nil]); first | done | rfl | (simp only [List.length_drop, List.length_take]; rfl)) ?_; (with_reducible refine (deadboltref09_Root.calls a1 t174 _ A4.out).mono ?_); rintro e w' ⟨rfl, ⟨nd, rfl⟩⟩; refine ⟨_, rfl, ?_⟩))
  go_ret
  exact ⟨by first | rfl | (simp; done) | (simp [*]; done), by repeat (first | exact Drawn0.refl _ | apply Drawn0.step)⟩
 ·rw [if_neg c5] at H
  have c5b0 : decide (t173 < t174) = false := decide_eq_false c5
  clear c5
  replace H := Option.bind_eq_some_iff.mp H
  obtain ⟨t175, A60, H⟩ := H
  replace H : ((deadboltref09_Root.f a1).bind fun t176 => (if t175 = t176 then (some (decide (a0 < a1))) else (some false))) = some r := H
  have A6 := Aside0.mk A60
  clear A60
  replace H := Option.bind_eq_some_iff.mp H
  obtain ⟨t176, A70, H⟩ := H
  replace H : (if t175 = t176 then (some (decide (a0 < a1))) else (some false)) = some r := H
  have A7 := Aside0.mk A70
  clear A70
  by_cases c8 : t175 = t176
  ·rw [if_pos c8] at H
   have c8b0 : (t175 == t176) = true := beq_iff_eq.mpr c8
   have c8b1 : (t175 != t176) = false := bne_eq_false_iff_eq.mpr c8
   clear c8
   obtain rfl := Option.some.inj H
   go_enter Try.func54, Try.ntmps54
   go_wp2_with (first | ((with_reducible refine gate_callee (f := 20) rfl ?_); refine goesL_ (some 6) rfl rfl Try.func20 (by kernel_rfl) rfl #[.int .i64 a0] rfl (by (try simp only [List.map_toArray, List.map_cons, List.map_nil]); first | done | rfl | (simp only [List.length_drop, List.length_take]; rfl)) ?_; (with_reducible refine (deadboltref09_Root.calls a0 t173 _ A3.out).mono ?_); rintro e w' ⟨rfl, ⟨nd, rfl⟩⟩; refine ⟨_, rfl, ?_⟩) | ((with_reducible refine gate_callee (f := 20) rfl ?_); refine goesL_ (some 8) rfl rfl Try.func20 (by kernel_rfl) rfl #[.int .i64 a1] rfl (by (try simp only [List.map_toArray, List.map_cons, List.map_nil]); first | done | rfl | (simp only [List.length_drop, List.length_take]; rfl)) ?_; (with_reducible refine (deadboltref09_Root.calls a1 t174 _ A4.out).mono ?_); rintro e w' ⟨rfl, ⟨nd, rfl⟩⟩; refine ⟨_, rfl, ?_⟩) | (go_at_call 20; (with_reducible refine (deadboltref09_Root.calls a0 t175 _ A6.out).mono ?_); rintro e w' ⟨rfl, ⟨nd, rfl⟩⟩) | (go_at_call 20; (with_reducible refine (deadboltref09_Root.calls a1 t176 _ A7.out).mono ?_); rintro e w' ⟨rfl, ⟨nd, rfl⟩⟩))
   go_ret
   exact ⟨by first | rfl | (simp; done) | (simp [*]; done), by repeat (first | exact Drawn0.refl _ | apply Drawn0.step)⟩
  ·rw [if_neg c8] at H
   have c8b0 : (t175 == t176) = false := beq_eq_false_iff_ne.mpr c8
   have c8b1 : (t175 != t176) = true := bne_iff_ne.mpr c8
   obtain rfl := Option.some.inj H
   go_enter Try.func54, Try.ntmps54
   go_wp2_with (first | ((with_reducible refine gate_callee (f := 20) rfl ?_); refine goesL_ (some 6) rfl rfl Try.func20 (by kernel_rfl) rfl #[.int .i64 a0] rfl (by (try simp only [List.map_toArray, List.map_cons, List.map_nil]); first | done | rfl | (simp only [List.length_drop, List.length_take]; rfl)) ?_; (with_reducible refine (deadboltref09_Root.calls a0 t173 _ A3.out).mono ?_); rintro e w' ⟨rfl, ⟨nd, rfl⟩⟩; refine ⟨_, rfl, ?_⟩) | ((with_reducible refine gate_callee (f := 20) rfl ?_); refine goesL_ (some 8) rfl rfl Try.func20 (by kernel_rfl) rfl #[.int .i64 a1] rfl (by (try simp only [List.map_toArray, List.map_cons, List.map_nil]); first | done | rfl | (simp only [List.length_drop, List.length_take]; rfl)) ?_; (with_reducible refine (deadboltref09_Root.calls a1 t174 _ A4.out).mono ?_); rintro e w' ⟨rfl, ⟨nd, rfl⟩⟩; refine ⟨_, rfl, ?_⟩) | (go_at_call 20; (with_reducible refine (deadboltref09_Root.calls a0 t175 _ A6.out).mono ?_); rintro e w' ⟨rfl, ⟨nd, rfl⟩⟩) | (go_at_call 20; (with_reducible refine (deadboltref09_Root.calls a1 t176 _ A7.out).mono ?_); rintro e w' ⟨rfl, ⟨nd, rfl⟩⟩))
   go_ret
   exact ⟨by first | rfl | (simp; done) | (simp [*]; done), by repeat (first | exact Drawn0.refl _ | apply Drawn0.step)⟩

end Go.Proofs.Ytnjnjajgpkmfhaa.PX

namespace Go.Proofs.Ytnjnjajgpkmfhaa.PX
open Go.RowKit Go.Proofs.YtnjnjajgpkmfhaaW.PrintWords Go.Proofs.YtnjnjajgpkmfhaaW.PrintLast Go.Proofs.YtnjnjajgpkmfhaaW.PrintMore
attribute [local go_sem] max2_int min2_int max_two min_two max_three min_three max_four min_four   -- for this text's walks alone
set_option linter.unusedVariables false
set_option linter.unusedSimpArgs false

/-! ### deadboltref09_Set: function 26 -/
def deadboltref09_Set.l0 : Nat → List (S33) → Bool → List (S33) → Int → Int → Int → Int → List Int → Option ((List (S33)))
 | 0, _, _, _, _, _, _, _, _ => none
 | k + 1, x5, x6, x12, x13, x14, x201000, x201001, x201002 => if x14 < x13 then (if 0 ≤ x14 then (if x14 < (x12.length : Int) then (if ((rd_T33 x12 x14).f0) = x201000 then (deadboltref09_Set.l0 k x5 x6 x12 x13 (wrap64 (x14 + 1)) x201000 x201001 x201002) else (if x6 = true then (if x5.length < 3518437208883 then (deadboltref09_Set.l0 k (x5 ++ [(⟨(rd_T33 x12 x14).f0, (rd_T33 x12 x14).f1, (rd_T33 x12 x14).f2⟩ : S33)]) x6 x12 x13 (wrap64 (x14 + 1)) x201000 x201001 x201002) else (none)) else ((deadboltref09_less.f x201000 ((rd_T33 x12 x14).f0)).bind fun t213 => (if t213 = true then (if x5.length < 3518437208883 then ((some (x5 ++ [(⟨x201000, x201001, x201002⟩ : S33)] : List (S33))).bind fun y214 => (if y214.length < 3518437208883 then (deadboltref09_Set.l0 k (y214 ++ [(⟨(rd_T33 x12 x14).f0, (rd_T33 x12 x14).f1, (rd_T33 x12 x14).f2⟩ : S33)]) true x12 x13 (wrap64 (x14 + 1)) x201000 x201001 x201002) else (none))) else (none)) else (if x5.length < 3518437208883 then (deadboltref09_Set.l0 k (x5 ++ [(⟨(rd_T33 x12 x14).f0, (rd_T33 x12 x14).f1, (rd_T33 x12 x14).f2⟩ : S33)]) x6 x12 x13 (wrap64 (x14 + 1)) x201000 x201001 x201002) else (none)))))) else (none)) else (none)) else (if x6 = true then (some x5) else (if x5.length < 3518437208883 then (some (x5 ++ [(⟨x201000, x201001, x201002⟩ : S33)])) else (none)))
def deadboltref09_Set.f (k : Nat) (l0 : List (S33)) (a1_0 : Int) (a1_1 : Int) (l1_2 : List Int) : Option ((List (S33))) := (deadboltref09_Empty.f a1_0 a1_1 l1_2).bind fun t204 => (deadboltref09_Set.l0 k (([] : List (S33))) t204 l0 (l0.length : Int) 0 a1_0 a1_1 l1_2)
set_option maxHeartbeats 8000000 in
set_option maxRecDepth 100000 in
theorem deadboltref09_Set.calls (k : Nat) (P0_ : Nat → Prop) (A0 : Option Addr) (c0 : Nat) (l0 : List (S33)) (a1_0 : Int) (a1_1 : Int) (P1_2_ : Nat → Prop) (A1_2 : Option Addr) (c1_2 : Nat) (l1_2 : List Int) (r : List (S33)) (w : World) (hs0 : Kd.V k33 33 w w.heap.size (fun k_ => P0_ k_) (.slice A0 l0.length c0) l0) (hs1_2 : Kd.V (Kd.int .i64) 3 w w.heap.size (fun k_ => P1_2_ k_) (.slice A1_2 l1_2.length c1_2) l1_2) (h : deadboltref09_Set.f k l0 a1_0 a1_1 l1_2 = some r) :
  Calls Try.prog 26 #[.slice A0 l0.length c0, .agg #[.int .i64 a1_0, .int .i64 a1_1, .slice A1_2 l1_2.length c1_2]] w fun e w' => ∃ v0_ : Value, e = .returned (v0_) ∧ Kd.N k33 33 w' w.heap.size (fun k_ => ((P0_ k_ ∨ P1_2_ k_) ∨ w.heap.size ≤ k_)) v0_ r ∧ Below w.heap.size w w' := by
 have hu33 := Try.underlying33
 have HO0 := Aside0.mk (show Kd.V k33 33 w w.heap.size (fun k_ => ((P0_ k_ ∨ P1_2_ k_) ∨ w.heap.size ≤ k_)) (.slice A0 l0.length c0) l0 from Kd.V_mono hs0 (fun k_ hk => .inl (.inl hk)))
 have HO1_2 := Aside0.mk (show Kd.V (Kd.int .i64) 3 w w.heap.size (fun k_ => ((P0_ k_ ∨ P1_2_ k_) ∨ w.heap.size ≤ k_)) (.slice A1_2 l1_2.length c1_2) l1_2 from Kd.V_mono hs1_2 (fun k_ hk => .inl (.inr hk)))
 have HB := Aside0.mk (Below.refl w.heap.size w)
 have H : ((deadboltref09_Empty.f a1_0 a1_1 l1_2).bind fun t204 => (deadboltref09_Set.l0 k (([] : List (S33))) t204 l0 (l0.length : Int) 0 a1_0 a1_1 l1_2)) = some r := h
 clear h
 obtain ⟨y201, hy201⟩ : ∃ y_ : List (S33), y_ = (([] : List (S33))) := ⟨_, rfl⟩
 replace H : ((deadboltref09_Empty.f a1_0 a1_1 l1_2).bind fun t204 => (deadboltref09_Set.l0 k y201 t204 l0 (l0.length : Int) 0 a1_0 a1_1 l1_2)) = some r := by first | (rw [hy201]; with_reducible exact H) | (have H2_ := (Option.bind_some _ _).symm.trans H; rw [hy201]; with_reducible exact H2_) | (have H2_ := (Option.bind_some _ _).symm.trans H; with_reducible exact H2_) | with_reducible exact H | (rw [hy201]; exact H) | exact H
 have Ny201 := Aside0.mk hy201
 clear hy201
 replace H := Option.bind_eq_some_iff.mp H
 obtain ⟨t204, A30, H⟩ := H
 replace H : (deadboltref09_Set.l0 k y201 t204 l0 (l0.length : Int) 0 a1_0 a1_1 l1_2) = some r := H
 have A3 := Aside0.mk A30
 clear A30
 have H' := Aside0.mk H
 clear H
 go_enter Try.func26, Try.ntmps26
 go_wp2_with (first | ((with_reducible refine gate_dst (N := 3) rfl ?_); refine box_event ?hg (N := 3) ?hd (cs := #[.int .i64 a1_0, .int .i64 a1_1, .slice A1_2 l1_2.length c1_2]) (t := 33) ?hr ?_; (case hd => rfl); (case hg => rfl); (case hr => first | (go_simp; done) | (go_simp; rfl)); intro gb200 hg w4 hbox hb; have n0_ := Aside0.mk (Kd.V_below (Kd.V_elderB (by (with_reducible repeat (first | apply Kd.V_alloc | apply Kd.V_drewN | apply Kd.V_drew)); exact HO0.out) gb200 (Nat.le_of_eq hg.symm)) hb); have n1_ := Aside0.mk (Kd.V_below (Kd.V_elderB (by (with_reducible repeat (first | apply Kd.V_alloc | apply Kd.V_drewN | apply Kd.V_drew)); exact HO1_2.out) gb200 (Nat.le_of_eq hg.symm)) hb); have n2_ := Aside0.mk (below_step (by repeat (first | (with_reducible first | exact HB.out | apply below_alloc | apply pw_below_drewN | apply below_drew1) | exact HB.out)) hb); have n3_ := Aside0.mk (hbox); have n4_ := Aside0.mk ((by rw [hg]; exact (below_size (by repeat (first | (with_reducible first | exact HB.out | apply below_alloc | apply pw_below_drewN | apply below_drew1) | exact HB.out))) : w.heap.size ≤ gb200)); have n5_ := Aside0.mk ((by rw [hg]; exact (below_size (by repeat (first | (with_reducible first | exact HB.out | apply below_alloc | apply pw_below_drewN | apply below_drew1) | exact HB.out))) : w.heap.size ≤ gb200)); clear HO0; clear HO1_2; clear HB; have HO0 := n0_; have HO1_2 := n1_; have HB := n2_; have BK200 := n3_; have GW200 := n4_; have GE200 := n5_; clear n0_ n1_ n2_ n3_ n4_ n5_; clear hb hbox hg) | ((with_reducible refine gate_dst (N := 9) rfl ?_); refine Kd.N_lit k33 _ 33 ?hg (N' := 9) ?hd (xs := ([] : List (S33))) (inner := []) (ok := (fun k_ => ((P0_ k_ ∨ P1_2_ k_) ∨ w.heap.size ≤ k_) ∧ k_ ≠ gb200)) (okp := (fun k_ => ((P0_ k_ ∨ P1_2_ k_) ∨ w.heap.size ≤ k_) ∧ k_ ≠ gb200)) ?hr ?hp (fun _ hk => hk) ((show ∀ k_, w4.heap.size ≤ k_ → (fun k_ => ((P0_ k_ ∨ P1_2_ k_) ∨ w.heap.size ≤ k_) ∧ k_ ≠ gb200) k_ from fun k_ hk => ⟨(.inr (Nat.le_trans (below_size (by repeat (first | (with_reducible first | exact HB.out | apply below_alloc | apply pw_below_drewN | apply below_drew1 | refine below_set ?_ GE200.out) | exact HB.out))) hk)), Kd.freshB (g := gb200) (o := .cells #[.int .i64 a1_0, .int .i64 a1_1, .slice A1_2 l1_2.length c1_2] 33 (0, 0)) (by (with_reducible repeat (first | refine blk_drewN ?_ _ | refine blk_drew ?_ | refine blk_alloc ?_ _)); exact BK200.out) k_ hk⟩) _ (Nat.le_refl _)) (Below.refl _ _) (Nat.le_refl _) (by simp) ?_; (case hd => rfl); (case hg => rfl); (case hr => first | (go_simp; done) | (go_simp; rfl)); (case hp => exact (Reps.none _ _)); intro v202 w5 ho6 hb hg_ hnew_; clear hg_ hnew_; (first | rw [← Ny201.out] at ho6 | (simp only [Int.reduceToNat] at ho6; rw [← Ny201.out] at ho6)); have n0_ := Aside0.mk (Kd.V_elder' (by (with_reducible repeat (first | apply Kd.V_alloc | apply Kd.V_drewN | apply Kd.V_drew)); exact HO0.out) (Kd.N_base ho6) hb); have n1_ := Aside0.mk (Kd.V_elder' (by (with_reducible repeat (first | apply Kd.V_alloc | apply Kd.V_drewN | apply Kd.V_drew)); exact HO1_2.out) (Kd.N_base ho6) hb); have n2_ := Aside0.mk (Kd.N_lower ho6 (below_size (by repeat (first | (with_reducible first | exact HB.out | apply below_alloc | apply pw_below_drewN | apply below_drew1 | refine below_set ?_ GE200.out) | exact HB.out)))); have n3_ := Aside0.mk (blk_below (g := gb200) (o := .cells #[.int .i64 a1_0, .int .i64 a1_1, .slice A1_2 l1_2.length c1_2] 33 (0, 0)) (by (with_reducible repeat (first | refine blk_drewN ?_ _ | refine blk_drew ?_ | refine blk_alloc ?_ _)); exact BK200.out) hb); have n4_ := Aside0.mk (below_step (by repeat (first | (with_reducible first | exact HB.out | apply below_alloc | apply pw_below_drewN | apply below_drew1 | refine below_set ?_ GE200.out) | exact HB.out)) hb); clear HO0; clear HO1_2; clear BK200; clear HB; have HO0 := n0_; have HO1_2 := n1_; have HO203 := n2_; have BK200 := n3_; have HB := n4_; clear n0_ n1_ n2_ n3_ n4_; clear hb ho6; have hcz7_0 : w5.cell? ⟨gb200, 0, none⟩ = some (.int .i64 a1_0) := (blk_cell BK200.out 0).trans rfl; have hcz7_1 : w5.cell? ⟨gb200, 1, none⟩ = some (.int .i64 a1_1) := (blk_cell BK200.out 1).trans rfl; have hcz7_2 : w5.cell? ⟨gb200, 2, none⟩ = some (.slice A1_2 l1_2.length c1_2) := (blk_cell BK200.out 2).trans rfl; have hfz7_0 := blk_frozen BK200.out 0; have hfz7_1 := blk_frozen BK200.out 1; have hfz7_2 := blk_frozen BK200.out 2) | ((with_reducible refine gate_callee (f := 29) rfl ?_); refine goesL_ (some 11) rfl rfl Try.func29 (by kernel_rfl) rfl #[.agg #[.int .i64 a1_0, .int .i64 a1_1, .slice A1_2 l1_2.length c1_2]] rfl (by (try simp only [List.map_toArray, List.map_cons, List.map_nil]); first | done | rfl | (simp only [List.length_drop, List.length_take]; rfl)) ?_; (with_reducible refine (deadboltref09_Empty.calls a1_0 a1_1 _ _ l1_2 t204 _ ?side1 ?side2 A3.out).mono ?_); (case side1 => repeat (first | exact (Kd.V_reads' HO1_2.out).2.2 | (with_reducible refine Kd.C_alloc ?_ _) | (with_reducible refine Kd.C_drewN ?_ _) | (with_reducible refine Kd.C_drew ?_))); (case side2 => exact (Kd.V_reads' HO1_2.out).2.1); rintro e w8 ⟨rfl, hb⟩; refine ⟨_, rfl, ?_⟩; have n0_ := Aside0.mk (Kd.V_below (by (with_reducible repeat (first | apply Kd.V_alloc | apply Kd.V_drewN | apply Kd.V_drew)); exact HO0.out) hb); have n1_ := Aside0.mk (Kd.V_below (by (with_reducible repeat (first | apply Kd.V_alloc | apply Kd.V_drewN | apply Kd.V_drew)); exact HO1_2.out) hb); have n2_ := Aside0.mk (Kd.N_below (by (with_reducible repeat (first | apply Kd.N_alloc | apply Kd.N_drewN | apply Kd.N_drew)); exact HO203.out) hb); have n3_ := Aside0.mk (blk_below (g := gb200) (o := .cells #[.int .i64 a1_0, .int .i64 a1_1, .slice A1_2 l1_2.length c1_2] 33 (0, 0)) (by (with_reducible repeat (first | refine blk_drewN ?_ _ | refine blk_drew ?_ | refine blk_alloc ?_ _)); exact BK200.out) hb); have n4_ := Aside0.mk (below_step (by repeat (first | (with_reducible first | exact HB.out | apply below_alloc | apply pw_below_drewN | apply below_drew1 | refine below_set ?_ GE200.out) | exact HB.out)) hb); clear HO0; clear HO1_2; clear HO203; clear BK200; clear HB; have HO0 := n0_; have HO1_2 := n1_; have HO203 := n2_; have BK200 := n3_; have HB := n4_; clear n0_ n1_ n2_ n3_ n4_; (try clear hb); (try clear hb2); (try clear hk); (try clear hi)))
 go_loopg [5, 6, 14] k (fun kq v5 v6 v14 w' => ∃ (x5_1 : List (S33)) (x6_1 : Bool) (x14_1 : Int), v6 = .bool x6_1 ∧ v14 = .int .i64 x14_1 ∧ Aside0 (deadboltref09_Set.l0 kq x5_1 x6_1 l0 (l0.length : Int) x14_1 a1_0 a1_1 l1_2 = some r) ∧ Aside0 (kq ≤ k) ∧ Aside0 (Kd.N k33 33 w' w.heap.size (fun k_ => ((P0_ k_ ∨ P1_2_ k_) ∨ w.heap.size ≤ k_) ∧ k_ ≠ gb200) v5 x5_1) ∧ Aside0 (Kd.V k33 33 w' w.heap.size (fun k_ => ((P0_ k_ ∨ P1_2_ k_) ∨ w.heap.size ≤ k_) ∧ some k_ ≠ (v5 : Value).ownBlock ∧ k_ ≠ gb200) (.slice A0 l0.length c0) l0) ∧ Aside0 (Kd.V (Kd.int .i64) 3 w' w.heap.size (fun k_ => ((P0_ k_ ∨ P1_2_ k_) ∨ w.heap.size ≤ k_) ∧ some k_ ≠ (v5 : Value).ownBlock ∧ k_ ≠ gb200) (.slice A1_2 l1_2.length c1_2) l1_2) ∧ Aside0 (w'.heap[gb200]? = some (.cells #[.int .i64 a1_0, .int .i64 a1_1, (.slice A1_2 l1_2.length c1_2)] 33 (0, 0))) ∧ Aside0 (Below w.heap.size w w'))
 case atStart => exact ⟨(y201), (t204), (0), (by first | rfl | (simp; done) | (simp [*]; done)), (by first | rfl | (simp; done) | (simp [*]; done)), H', ⟨Nat.le_refl _⟩, ⟨by (with_reducible repeat (first | apply Kd.N_alloc | apply Kd.N_drewN | apply Kd.N_drew)); exact HO203.out⟩, ⟨by (with_reducible repeat (first | apply Kd.V_alloc | apply Kd.V_drewN | apply Kd.V_drew)); exact Kd.V_mono HO0.out (fun _ hk => ⟨hk.1.1, ⟨hk.2, hk.1.2⟩⟩)⟩, ⟨by (with_reducible repeat (first | apply Kd.V_alloc | apply Kd.V_drewN | apply Kd.V_drew)); exact Kd.V_mono HO1_2.out (fun _ hk => ⟨hk.1.1, ⟨hk.2, hk.1.2⟩⟩)⟩, ⟨by (with_reducible repeat (first | refine blk_drewN ?_ _ | refine blk_drew ?_ | refine blk_alloc ?_ _)); exact BK200.out⟩, ⟨by repeat (first | (with_reducible first | exact HB.out | apply below_alloc | apply pw_below_drewN | apply below_drew1 | refine below_set ?_ GE200.out) | exact HB.out)⟩⟩
 case round =>
  clear H'
  try clear c1
  try clear c2
  try clear p2
  try clear hcz7_0
  try clear hcz7_1
  try clear hcz7_2
  try clear hfz7_0
  try clear hfz7_1
  try clear hfz7_2
  obtain ⟨x5_1, x6_1, x14_1, rfl, rfl, HA, HK1, HO_5, HO_12, HO_201002, BK200, HB⟩ := hrel
  cases gk with
  | zero => exact absurd HA.out (by simp [deadboltref09_Set.l0])
  | succ k1 =>
   have H := HA.out
   clear HA
   simp only [deadboltref09_Set.l0] at H
   by_cases c9 : x14_1 < (l0.length : Int)
   ·rw [if_pos c9] at H
    have c9b0 : decide (x14_1 < (l0.length : Int)) = true := decide_eq_true c9
    clear c9
    by_cases c10 : 0 ≤ x14_1
    ·rw [if_pos c10] at H
     have c10b0 : decide (0 ≤ x14_1) = true := decide_eq_true c10
     clear c10
     by_cases c11 : x14_1 < (l0.length : Int)
     ·rw [if_pos c11] at H
      have c11b0 : decide (x14_1 < (l0.length : Int)) = true := decide_eq_true c11
      clear c11
      by_cases c12 : ((rd_T33 l0 x14_1).f0) = a1_0
      ·rw [if_pos c12] at H
       have c12b0 : (((rd_T33 l0 x14_1).f0) == a1_0) = true := beq_iff_eq.mpr c12
       have c12b1 : (((rd_T33 l0 x14_1).f0) != a1_0) = false := bne_eq_false_iff_eq.mpr c12
       clear c12
       have H' := Aside0.mk H
       clear H
       have p208 : 0 ≤ (x14_1 : Int) := of_decide_eq_true (by first | (with_reducible assumption) | assumption)
       have q208 : x14_1 < (l0.length : Int) := of_decide_eq_true (by first | (with_reducible assumption) | assumption)
       obtain ⟨ad208, A208_2, c208_2, e208, hx208_0, hx208_1, hx208_2, hl208_2, hi208_2⟩ := at_T33 (Kd.V_reads' HO_12.out).2.2 x14_1 p208 q208
       cases e208
       obtain ⟨ce208, hce208, hMe208, hcc208⟩ := Kd.V_get HO_12.out z33 x14_1 p208 (by first | exact q208 | exact of_decide_eq_true (by first | (with_reducible assumption) | assumption) | (have e_ := (Kd.V_reads' HO_12.out).1; omega))
       obtain ⟨ua208_2, uc208_2, rfl, ul208_2, ge208_2⟩ := k33_openF hMe208
       have hv208_2 := hcc208 2 _ rfl
       rw [add_field _ _ 2 (by omega)] at hv208_2
       replace hv208_2 := Option.some.inj (hv208_2.symm.trans hx208_2)
       injection hv208_2 with hva_ hvn_ hvc_
       rw [hva_] at ge208_2
       rw [hvc_] at ul208_2
       have HL208_2 := Aside0.mk (show Kd.V (Kd.int .i64) 3 _ w.heap.size _ _ ((rd_T33 l0 x14_1).f2) from Kd.V_mk ul208_2 ge208_2)
       clear hva_ hvn_ hvc_ ge208_2 ul208_2
       clear hcc208 hce208
       have HR208_2 := Aside0.mk hi208_2
       have HC208_2 := Aside0.mk hl208_2
       clear hi208_2 hl208_2
       replace p208 := eq_true p208
       replace q208 := eq_true q208
       go_wp2_with (first | ((with_reducible refine gate_dst (N := 8) rfl ?_); refine box_event ?hg (N := 8) ?hd (cs := #[.int .i64 0, .int .i64 0, .slice none 0 0]) (t := 33) ?hr ?_; (case hd => rfl); (case hg => rfl); (case hr => first | (go_simp; done) | (go_simp; rfl)); intro gb209 hg w13 hbox hb; have n0_ := Aside0.mk (Kd.N_below (Kd.N_elderB (by (with_reducible repeat (first | apply Kd.N_alloc | apply Kd.N_drewN | apply Kd.N_drew)); exact HO_5.out) gb209 (Nat.le_of_eq hg.symm)) hb); have n1_ := Aside0.mk (Kd.V_below (Kd.V_elderB (by (with_reducible repeat (first | apply Kd.V_alloc | apply Kd.V_drewN | apply Kd.V_drew)); exact HO_12.out) gb209 (Nat.le_of_eq hg.symm)) hb); have n2_ := Aside0.mk (Kd.V_below (Kd.V_elderB (by (with_reducible repeat (first | apply Kd.V_alloc | apply Kd.V_drewN | apply Kd.V_drew)); exact HO_201002.out) gb209 (Nat.le_of_eq hg.symm)) hb); have n3_ := Aside0.mk (Kd.V_below (Kd.V_elderB (by (with_reducible repeat (first | apply Kd.V_alloc | apply Kd.V_drewN | apply Kd.V_drew)); exact HL208_2.out) gb209 (Nat.le_of_eq hg.symm)) hb); have n4_ := Aside0.mk (blk_below (g := gb200) (o := .cells #[.int .i64 a1_0, .int .i64 a1_1, .slice A1_2 l1_2.length c1_2] 33 (0, 0)) (by (with_reducible repeat (first | refine blk_drewN ?_ _ | refine blk_drew ?_ | refine blk_alloc ?_ _)); exact BK200.out) hb); (first | have n5_ := Aside0.mk (Kd.C_below (by repeat (first | (with_reducible exact HR208_2.out) | (with_reducible refine Kd.C_alloc ?_ _) | (with_reducible refine Kd.C_drewN ?_ _) | (with_reducible refine Kd.C_drew ?_) | exact HR208_2.out)) hb) | have n5_ := Aside0.mk True.intro); have n6_ := Aside0.mk (below_step (by repeat (first | (with_reducible first | exact HB.out | apply below_alloc | apply pw_below_drewN | apply below_drew1 | refine below_set ?_ GE200.out) | exact HB.out)) hb); have n7_ := Aside0.mk (hbox); have n8_ := Aside0.mk ((by rw [hg]; exact (below_size (by repeat (first | (with_reducible first | exact HB.out | apply below_alloc | apply pw_below_drewN | apply below_drew1 | refine below_set ?_ GE200.out) | exact HB.out))) : w.heap.size ≤ gb209)); have n9_ := Aside0.mk ((by rw [hg]; exact (below_size (by repeat (first | (with_reducible first | exact HB.out | apply below_alloc | apply pw_below_drewN | apply below_drew1 | refine below_set ?_ GE200.out) | exact HB.out))) : w.heap.size ≤ gb209)); have n10_ := Aside0.mk ((by rw [hg]; exact Nat.ne_of_lt (blk_lt (g := gb200) (o := .cells #[.int .i64 a1_0, .int .i64 a1_1, .slice A1_2 l1_2.length c1_2] 33 (0, 0)) (by (with_reducible repeat (first | refine blk_drewN ?_ _ | refine blk_drew ?_ | refine blk_alloc ?_ _)); exact BK200.out)) : gb200 ≠ gb209)); have n11_ := Aside0.mk ((by rw [hg]; exact Nat.ne_of_gt (blk_lt (g := gb200) (o := .cells #[.int .i64 a1_0, .int .i64 a1_1, .slice A1_2 l1_2.length c1_2] 33 (0, 0)) (by (with_reducible repeat (first | refine blk_drewN ?_ _ | refine blk_drew ?_ | refine blk_alloc ?_ _)); exact BK200.out)) : gb209 ≠ gb200)); clear HO_5; clear HO_12; clear HO_201002; clear HL208_2; clear BK200; clear HR208_2; clear HB; have HO_5 := n0_; have HO_12 := n1_; have HO_201002 := n2_; have HL208_2 := n3_; have BK200 := n4_; have HR208_2 := n5_; have HB := n6_; have BK209 := n7_; have GW209 := n8_; have GE209 := n9_; have NB200_209 := n10_; have NB209_200 := n11_; clear n0_ n1_ n2_ n3_ n4_ n5_ n6_ n7_ n8_ n9_ n10_ n11_; clear hb hbox hg; have hnb14 := NB209_200.out; have hnc14 := NB200_209.out; have hcz15_0 : w13.cell? ⟨gb209, 0, none⟩ = some (.int .i64 0) := (blk_cell BK209.out 0).trans rfl; have hcz15_1 : w13.cell? ⟨gb209, 1, none⟩ = some (.int .i64 0) := (blk_cell BK209.out 1).trans rfl; have hcz15_2 : w13.cell? ⟨gb209, 2, none⟩ = some (.slice none 0 0) := (blk_cell BK209.out 2).trans rfl; have hfz15_0 := blk_frozen BK209.out 0; have hfz15_1 := blk_frozen BK209.out 1; have hfz15_2 := blk_frozen BK209.out 2; have hcz16_0 : w13.cell? ⟨gb200, 0, none⟩ = some (.int .i64 a1_0) := (blk_cell BK200.out 0).trans rfl; have hcz16_1 : w13.cell? ⟨gb200, 1, none⟩ = some (.int .i64 a1_1) := (blk_cell BK200.out 1).trans rfl; have hcz16_2 : w13.cell? ⟨gb200, 2, none⟩ = some (.slice A1_2 l1_2.length c1_2) := (blk_cell BK200.out 2).trans rfl; have hfz16_0 := blk_frozen BK200.out 0; have hfz16_1 := blk_frozen BK200.out 1; have hfz16_2 := blk_frozen BK200.out 2))
       go_roundg k1
       case measure => have := HK1.out; omega
       case rel => exact ⟨(x5_1), (x6_1), (wrap64 (x14_1 + 1)), (by first | rfl | (simp; done) | (simp [*]; done)), (by first | rfl | (simp; done) | (simp [*]; done)), H', ⟨by have := HK1.out; omega⟩, ⟨by (with_reducible repeat (first | apply Kd.N_alloc | apply Kd.N_drewN | apply Kd.N_drew)); exact Kd.N_mono (Kd.N_far (p := ⟨gb209, 2, none⟩) (Kd.N_far (p := ⟨gb209, 1, none⟩) (Kd.N_far (p := ⟨gb209, 0, none⟩) (Kd.N_mono HO_5.out (fun k_ hk => (⟨hk, hk.2⟩ : _ ∧ k_ ≠ gb209))) (fun _ hk => hk.2) (.int .i64 ((rd_T33 l0 x14_1).f0))) (fun _ hk => hk.2) (.int .i64 ((rd_T33 l0 x14_1).f1))) (fun _ hk => hk.2) (.slice A208_2 ((rd_T33 l0 x14_1).f2).length c208_2)) (fun _ hk => ⟨hk.1.1.1, hk.1.1.2⟩)⟩, ⟨by (with_reducible repeat (first | apply Kd.V_alloc | apply Kd.V_drewN | apply Kd.V_drew)); exact Kd.V_mono (Kd.V_far (p := ⟨gb209, 2, none⟩) (Kd.V_far (p := ⟨gb209, 1, none⟩) (Kd.V_far (p := ⟨gb209, 0, none⟩) (Kd.V_mono HO_12.out (fun k_ hk => (⟨hk, hk.2⟩ : _ ∧ k_ ≠ gb209))) (fun _ hk => hk.2) (.int .i64 ((rd_T33 l0 x14_1).f0))) (fun _ hk => hk.2) (.int .i64 ((rd_T33 l0 x14_1).f1))) (fun _ hk => hk.2) (.slice A208_2 ((rd_T33 l0 x14_1).f2).length c208_2)) (fun _ hk => ⟨hk.1.1.1, ⟨hk.1.1.2.1, hk.1.1.2.2⟩⟩)⟩, ⟨by (with_reducible repeat (first | apply Kd.V_alloc | apply Kd.V_drewN | apply Kd.V_drew)); exact Kd.V_mono (Kd.V_far (p := ⟨gb209, 2, none⟩) (Kd.V_far (p := ⟨gb209, 1, none⟩) (Kd.V_far (p := ⟨gb209, 0, none⟩) (Kd.V_mono HO_201002.out (fun k_ hk => (⟨hk, hk.2⟩ : _ ∧ k_ ≠ gb209))) (fun _ hk => hk.2) (.int .i64 ((rd_T33 l0 x14_1).f0))) (fun _ hk => hk.2) (.int .i64 ((rd_T33 l0 x14_1).f1))) (fun _ hk => hk.2) (.slice A208_2 ((rd_T33 l0 x14_1).f2).length c208_2)) (fun _ hk => ⟨hk.1.1.1, ⟨hk.1.1.2.1, hk.1.1.2.2⟩⟩)⟩, ⟨by (with_reducible repeat (first | refine blk_drewN ?_ _ | refine blk_drew ?_ | refine blk_alloc ?_ _)); refine blk_far ?_ NB200_209.out _; (with_reducible repeat (first | refine blk_drewN ?_ _ | refine blk_drew ?_ | refine blk_alloc ?_ _)); refine blk_far ?_ NB200_209.out _; (with_reducible repeat (first | refine blk_drewN ?_ _ | refine blk_drew ?_ | refine blk_alloc ?_ _)); refine blk_far ?_ NB200_209.out _; (with_reducible repeat (first | refine blk_drewN ?_ _ | refine blk_drew ?_ | refine blk_alloc ?_ _)); exact BK200.out⟩, ⟨by repeat (first | (with_reducible first | exact HB.out | apply below_alloc | apply pw_below_drewN | apply below_drew1 | refine below_set ?_ GE200.out | refine below_set ?_ GE209.out) | exact HB.out)⟩⟩
      ·rw [if_neg c12] at H
       have c12b0 : (((rd_T33 l0 x14_1).f0) == a1_0) = false := beq_eq_false_iff_ne.mpr c12
       have c12b1 : (((rd_T33 l0 x14_1).f0) != a1_0) = true := bne_iff_ne.mpr c12
       by_cases c17 : x6_1 = true
       ·subst c17
        have H1 : (if x5_1.length < 3518437208883 then (deadboltref09_Set.l0 k1 (x5_1 ++ [(⟨(rd_T33 l0 x14_1).f0, (rd_T33 l0 x14_1).f1, (rd_T33 l0 x14_1).f2⟩ : S33)]) true l0 (l0.length : Int) (wrap64 (x14_1 + 1)) a1_0 a1_1 l1_2) else (none)) = some r := by rw [if_pos rfl] at H; exact H
        clear H
        have H := H1
        clear H1
        by_cases c18 : x5_1.length < 3518437208883
        ·rw [if_pos c18] at H
         have LMc18 := Aside0.mk c18
         clear c18
         obtain ⟨y210, hy210⟩ : ∃ y_ : List (S33), y_ = (x5_1 ++ [(⟨(rd_T33 l0 x14_1).f0, (rd_T33 l0 x14_1).f1, (rd_T33 l0 x14_1).f2⟩ : S33)]) := ⟨_, rfl⟩
         replace H : (deadboltref09_Set.l0 k1 y210 true l0 (l0.length : Int) (wrap64 (x14_1 + 1)) a1_0 a1_1 l1_2) = some r := by first | (rw [hy210]; with_reducible exact H) | (have H2_ := (Option.bind_some _ _).symm.trans H; rw [hy210]; with_reducible exact H2_) | (have H2_ := (Option.bind_some _ _).symm.trans H; with_reducible exact H2_) | with_reducible exact H | (rw [hy210]; exact H) | exact H
         have Ny210 := Aside0.mk hy210
         clear hy210
         have H' := Aside0.mk H
         clear H
         have p208 : 0 ≤ (x14_1 : Int) := of_decide_eq_true (by first | (with_reducible assumption) | assumption)
         have q208 : x14_1 < (l0.length : Int) := of_decide_eq_true (by first | (with_reducible assumption) | assumption)
         obtain ⟨ad208, A208_2, c208_2, e208, hx208_0, hx208_1, hx208_2, hl208_2, hi208_2⟩ := at_T33 (Kd.V_reads' HO_12.out).2.2 x14_1 p208 q208
         cases e208
         obtain ⟨ce208, hce208, hMe208, hcc208⟩ := Kd.V_get HO_12.out z33 x14_1 p208 (by first | exact q208 | exact of_decide_eq_true (by first | (with_reducible assumption) | assumption) | (have e_ := (Kd.V_reads' HO_12.out).1; omega))
         obtain ⟨ua208_2, uc208_2, rfl, ul208_2, ge208_2⟩ := k33_openF hMe208
         have hv208_2 := hcc208 2 _ rfl
         rw [add_field _ _ 2 (by omega)] at hv208_2
         replace hv208_2 := Option.some.inj (hv208_2.symm.trans hx208_2)
         injection hv208_2 with hva_ hvn_ hvc_
         rw [hva_] at ge208_2
         rw [hvc_] at ul208_2
         have HL208_2 := Aside0.mk (show Kd.V (Kd.int .i64) 3 _ w.heap.size _ _ ((rd_T33 l0 x14_1).f2) from Kd.V_mk ul208_2 ge208_2)
         clear hva_ hvn_ hvc_ ge208_2 ul208_2
         clear hcc208 hce208
         have HR208_2 := Aside0.mk hi208_2
         have HC208_2 := Aside0.mk hl208_2
         clear hi208_2 hl208_2
         replace p208 := eq_true p208
         replace q208 := eq_true q208
         go_wp2_with (first | ((with_reducible refine gate_dst (N := 8) rfl ?_); refine box_event ?hg (N := 8) ?hd (cs := #[.int .i64 0, .int .i64 0, .slice none 0 0]) (t := 33) ?hr ?_; (case hd => rfl); (case hg => rfl); (case hr => first | (go_simp; done) | (go_simp; rfl)); intro gb209 hg w19 hbox hb; have n0_ := Aside0.mk (Kd.N_below (Kd.N_elderB (by (with_reducible repeat (first | apply Kd.N_alloc | apply Kd.N_drewN | apply Kd.N_drew)); exact HO_5.out) gb209 (Nat.le_of_eq hg.symm)) hb); have n1_ := Aside0.mk (Kd.V_below (Kd.V_elderB (by (with_reducible repeat (first | apply Kd.V_alloc | apply Kd.V_drewN | apply Kd.V_drew)); exact HO_12.out) gb209 (Nat.le_of_eq hg.symm)) hb); have n2_ := Aside0.mk (Kd.V_below (Kd.V_elderB (by (with_reducible repeat (first | apply Kd.V_alloc | apply Kd.V_drewN | apply Kd.V_drew)); exact HO_201002.out) gb209 (Nat.le_of_eq hg.symm)) hb); have n3_ := Aside0.mk (Kd.V_below (Kd.V_elderB (by (with_reducible repeat (first | apply Kd.V_alloc | apply Kd.V_drewN | apply Kd.V_drew)); exact HL208_2.out) gb209 (Nat.le_of_eq hg.symm)) hb); have n4_ := Aside0.mk (blk_below (g := gb200) (o := .cells #[.int .i64 a1_0, .int .i64 a1_1, .slice A1_2 l1_2.length c1_2] 33 (0, 0)) (by (with_reducible repeat (first | refine blk_drewN ?_ _ | refine blk_drew ?_ | refine blk_alloc ?_ _)); exact BK200.out) hb); (first | have n5_ := Aside0.mk (Kd.C_below (by repeat (first | (with_reducible exact HR208_2.out) | (with_reducible refine Kd.C_alloc ?_ _) | (with_reducible refine Kd.C_drewN ?_ _) | (with_reducible refine Kd.C_drew ?_) | exact HR208_2.out)) hb) | have n5_ := Aside0.mk True.intro); have n6_ := Aside0.mk (below_step (by repeat (first | (with_reducible first | exact HB.out | apply below_alloc | apply pw_below_drewN | apply below_drew1 | refine below_set ?_ GE200.out) | exact HB.out)) hb); have n7_ := Aside0.mk (hbox); have n8_ := Aside0.mk ((by rw [hg]; exact (below_size (by repeat (first | (with_reducible first | exact HB.out | apply below_alloc | apply pw_below_drewN | apply below_drew1 | refine below_set ?_ GE200.out) | exact HB.out))) : w.heap.size ≤ gb209)); have n9_ := Aside0.mk ((by rw [hg]; exact (below_size (by repeat (first | (with_reducible first | exact HB.out | apply below_alloc | apply pw_below_drewN | apply below_drew1 | refine below_set ?_ GE200.out) | exact HB.out))) : w.heap.size ≤ gb209)); have n10_ := Aside0.mk ((by rw [hg]; exact Nat.ne_of_lt (blk_lt (g := gb200) (o := .cells #[.int .i64 a1_0, .int .i64 a1_1, .slice A1_2 l1_2.length c1_2] 33 (0, 0)) (by (with_reducible repeat (first | refine blk_drewN ?_ _ | refine blk_drew ?_ | refine blk_alloc ?_ _)); exact BK200.out)) : gb200 ≠ gb209)); have n11_ := Aside0.mk ((by rw [hg]; exact Nat.ne_of_gt (blk_lt (g := gb200) (o := .cells #[.int .i64 a1_0, .int .i64 a1_1, .slice A1_2 l1_2.length c1_2] 33 (0, 0)) (by (with_reducible repeat (first | refine blk_drewN ?_ _ | refine blk_drew ?_ | refine blk_alloc ?_ _)); exact BK200.out)) : gb209 ≠ gb200)); clear HO_5; clear HO_12; clear HO_201002; clear HL208_2; clear BK200; clear HR208_2; clear HB; have HO_5 := n0_; have HO_12 := n1_; have HO_201002 := n2_; have HL208_2 := n3_; have BK200 := n4_; have HR208_2 := n5_; have HB := n6_; have BK209 := n7_; have GW209 := n8_; have GE209 := n9_; have NB200_209 := n10_; have NB209_200 := n11_; clear n0_ n1_ n2_ n3_ n4_ n5_ n6_ n7_ n8_ n9_ n10_ n11_; clear hb hbox hg; have hnb20 := NB209_200.out; have hnc20 := NB200_209.out; have hcz21_0 : w19.cell? ⟨gb209, 0, none⟩ = some (.int .i64 0) := (blk_cell BK209.out 0).trans rfl; have hcz21_1 : w19.cell? ⟨gb209, 1, none⟩ = some (.int .i64 0) := (blk_cell BK209.out 1).trans rfl; have hcz21_2 : w19.cell? ⟨gb209, 2, none⟩ = some (.slice none 0 0) := (blk_cell BK209.out 2).trans rfl; have hfz21_0 := blk_frozen BK209.out 0; have hfz21_1 := blk_frozen BK209.out 1; have hfz21_2 := blk_frozen BK209.out 2) | ((with_reducible refine gate_store (t := 33) (p := 8) rfl ?_); refine store_event (t := 33) (p := 8) (v := ?vo_w22) (w1 := (((w19.setCell ⟨gb209, 0, none⟩ (.int .i64 ((rd_T33 l0 x14_1).f0))).setCell ⟨gb209, 1, none⟩ (.int .i64 ((rd_T33 l0 x14_1).f1))).setCell ⟨gb209, 2, none⟩ (.slice A208_2 ((rd_T33 l0 x14_1).f2).length c208_2))) ?hg ?ho ?hn ?hr ?_; (case ho => rfl); (case hg => rfl); (case hn => rfl); (case hr => first | (go_simp; done) | (go_simp; rfl)); intro w22 hw; have n0_ : Aside0 (Kd.N k33 33 w22 w.heap.size (fun k_ => ((P0_ k_ ∨ P1_2_ k_) ∨ w.heap.size ≤ k_) ∧ k_ ≠ gb200 ∧ k_ ≠ gb209) u5 x5_1) := ⟨(by rw [hw]; exact (by (with_reducible repeat (first | apply Kd.N_alloc | apply Kd.N_drewN | apply Kd.N_drew)); exact Kd.N_mono (Kd.N_far (p := ⟨gb209, 2, none⟩) (Kd.N_far (p := ⟨gb209, 1, none⟩) (Kd.N_far (p := ⟨gb209, 0, none⟩) (Kd.N_mono HO_5.out (fun k_ hk => (⟨hk, hk.2⟩ : _ ∧ k_ ≠ gb209))) (fun _ hk => hk.2) (.int .i64 ((rd_T33 l0 x14_1).f0))) (fun _ hk => hk.2) (.int .i64 ((rd_T33 l0 x14_1).f1))) (fun _ hk => hk.2) (.slice A208_2 ((rd_T33 l0 x14_1).f2).length c208_2)) (fun _ hk => ⟨hk.1.1.1, ⟨hk.1.1.2, hk.1.2⟩⟩)))⟩; have n1_ : Aside0 (Kd.V k33 33 w22 w.heap.size (fun k_ => ((P0_ k_ ∨ P1_2_ k_) ∨ w.heap.size ≤ k_) ∧ some k_ ≠ (u5 : Value).ownBlock ∧ k_ ≠ gb200 ∧ k_ ≠ gb209) (.slice (some ad208) l0.length c0) l0) := ⟨(by rw [hw]; exact (by (with_reducible repeat (first | apply Kd.V_alloc | apply Kd.V_drewN | apply Kd.V_drew)); exact Kd.V_mono (Kd.V_far (p := ⟨gb209, 2, none⟩) (Kd.V_far (p := ⟨gb209, 1, none⟩) (Kd.V_far (p := ⟨gb209, 0, none⟩) (Kd.V_mono HO_12.out (fun k_ hk => (⟨hk, hk.2⟩ : _ ∧ k_ ≠ gb209))) (fun _ hk => hk.2) (.int .i64 ((rd_T33 l0 x14_1).f0))) (fun _ hk => hk.2) (.int .i64 ((rd_T33 l0 x14_1).f1))) (fun _ hk => hk.2) (.slice A208_2 ((rd_T33 l0 x14_1).f2).length c208_2)) (fun _ hk => ⟨hk.1.1.1, ⟨hk.1.1.2.1, ⟨hk.1.1.2.2, hk.1.2⟩⟩⟩)))⟩; have n2_ : Aside0 (Kd.V (Kd.int .i64) 3 w22 w.heap.size (fun k_ => ((P0_ k_ ∨ P1_2_ k_) ∨ w.heap.size ≤ k_) ∧ some k_ ≠ (u5 : Value).ownBlock ∧ k_ ≠ gb200 ∧ k_ ≠ gb209) (.slice A1_2 l1_2.length c1_2) l1_2) := ⟨(by rw [hw]; exact (by (with_reducible repeat (first | apply Kd.V_alloc | apply Kd.V_drewN | apply Kd.V_drew)); exact Kd.V_mono (Kd.V_far (p := ⟨gb209, 2, none⟩) (Kd.V_far (p := ⟨gb209, 1, none⟩) (Kd.V_far (p := ⟨gb209, 0, none⟩) (Kd.V_mono HO_201002.out (fun k_ hk => (⟨hk, hk.2⟩ : _ ∧ k_ ≠ gb209))) (fun _ hk => hk.2) (.int .i64 ((rd_T33 l0 x14_1).f0))) (fun _ hk => hk.2) (.int .i64 ((rd_T33 l0 x14_1).f1))) (fun _ hk => hk.2) (.slice A208_2 ((rd_T33 l0 x14_1).f2).length c208_2)) (fun _ hk => ⟨hk.1.1.1, ⟨hk.1.1.2.1, ⟨hk.1.1.2.2, hk.1.2⟩⟩⟩)))⟩; have n3_ : Aside0 (Kd.V (Kd.int .i64) 3 w22 w.heap.size (fun k_ => ((P0_ k_ ∨ P1_2_ k_) ∨ w.heap.size ≤ k_) ∧ some k_ ≠ (u5 : Value).ownBlock ∧ k_ ≠ gb200 ∧ k_ ≠ gb209) (.slice A208_2 ((rd_T33 l0 x14_1).f2).length c208_2) ((rd_T33 l0 x14_1).f2)) := ⟨(by rw [hw]; exact (by (with_reducible repeat (first | apply Kd.V_alloc | apply Kd.V_drewN | apply Kd.V_drew)); exact Kd.V_mono (Kd.V_far (p := ⟨gb209, 2, none⟩) (Kd.V_far (p := ⟨gb209, 1, none⟩) (Kd.V_far (p := ⟨gb209, 0, none⟩) (Kd.V_mono HL208_2.out (fun k_ hk => (⟨hk, hk.2⟩ : _ ∧ k_ ≠ gb209))) (fun _ hk => hk.2) (.int .i64 ((rd_T33 l0 x14_1).f0))) (fun _ hk => hk.2) (.int .i64 ((rd_T33 l0 x14_1).f1))) (fun _ hk => hk.2) (.slice A208_2 ((rd_T33 l0 x14_1).f2).length c208_2)) (fun _ hk => ⟨hk.1.1.1, ⟨hk.1.1.2.1, ⟨hk.1.1.2.2, hk.1.2⟩⟩⟩)))⟩; have n4_ : Aside0 (w22.heap[gb200]? = some (.cells #[.int .i64 a1_0, .int .i64 a1_1, .slice A1_2 l1_2.length c1_2] 33 (0, 0))) := ⟨(by rw [hw]; exact (by (with_reducible repeat (first | refine blk_drewN ?_ _ | refine blk_drew ?_ | refine blk_alloc ?_ _)); refine blk_far ?_ NB200_209.out _; (with_reducible repeat (first | refine blk_drewN ?_ _ | refine blk_drew ?_ | refine blk_alloc ?_ _)); refine blk_far ?_ NB200_209.out _; (with_reducible repeat (first | refine blk_drewN ?_ _ | refine blk_drew ?_ | refine blk_alloc ?_ _)); refine blk_far ?_ NB200_209.out _; (with_reducible repeat (first | refine blk_drewN ?_ _ | refine blk_drew ?_ | refine blk_alloc ?_ _)); exact BK200.out))⟩; have n5_ : Aside0 (w22.heap[gb209]? = some (.cells #[.int .i64 ((rd_T33 l0 x14_1).f0), .int .i64 ((rd_T33 l0 x14_1).f1), .slice A208_2 ((rd_T33 l0 x14_1).f2).length c208_2] 33 (0, 0))) := ⟨(by rw [hw]; exact (by (with_reducible repeat (first | refine blk_drewN ?_ _ | refine blk_drew ?_ | refine blk_alloc ?_ _)); refine blk_put (cs := #[.int .i64 ((rd_T33 l0 x14_1).f0), .int .i64 ((rd_T33 l0 x14_1).f1), .slice none 0 0]) ?_ 2 _ rfl; (with_reducible repeat (first | refine blk_drewN ?_ _ | refine blk_drew ?_ | refine blk_alloc ?_ _)); refine blk_put (cs := #[.int .i64 ((rd_T33 l0 x14_1).f0), .int .i64 0, .slice none 0 0]) ?_ 1 _ rfl; (with_reducible repeat (first | refine blk_drewN ?_ _ | refine blk_drew ?_ | refine blk_alloc ?_ _)); refine blk_put (cs := #[.int .i64 0, .int .i64 0, .slice none 0 0]) ?_ 0 _ rfl; (with_reducible repeat (first | refine blk_drewN ?_ _ | refine blk_drew ?_ | refine blk_alloc ?_ _)); exact BK209.out))⟩; have n6_ : Aside0 (Below w.heap.size w w22) := ⟨(by rw [hw]; exact (by repeat (first | (with_reducible first | exact HB.out | apply below_alloc | apply pw_below_drewN | apply below_drew1 | refine below_set ?_ GE200.out | refine below_set ?_ GE209.out) | exact HB.out)))⟩; clear hw; clear HO_5; clear HO_12; clear HO_201002; clear HL208_2; clear BK200; clear BK209; clear HB; have HO_5 := n0_; have HO_12 := n1_; have HO_201002 := n2_; have HL208_2 := n3_; have BK200 := n4_; have BK209 := n5_; have HB := n6_; clear n0_ n1_ n2_ n3_ n4_ n5_ n6_; have hcz23_0 : w22.cell? ⟨gb209, 0, none⟩ = some (.int .i64 ((rd_T33 l0 x14_1).f0)) := (blk_cell BK209.out 0).trans rfl; have hcz23_1 : w22.cell? ⟨gb209, 1, none⟩ = some (.int .i64 ((rd_T33 l0 x14_1).f1)) := (blk_cell BK209.out 1).trans rfl; have hcz23_2 : w22.cell? ⟨gb209, 2, none⟩ = some (.slice A208_2 ((rd_T33 l0 x14_1).f2).length c208_2) := (blk_cell BK209.out 2).trans rfl; have hfz23_0 := blk_frozen BK209.out 0; have hfz23_1 := blk_frozen BK209.out 1; have hfz23_2 := blk_frozen BK209.out 2; have hcz24_0 : w22.cell? ⟨gb200, 0, none⟩ = some (.int .i64 a1_0) := (blk_cell BK200.out 0).trans rfl; have hcz24_1 : w22.cell? ⟨gb200, 1, none⟩ = some (.int .i64 a1_1) := (blk_cell BK200.out 1).trans rfl; have hcz24_2 : w22.cell? ⟨gb200, 2, none⟩ = some (.slice A1_2 l1_2.length c1_2) := (blk_cell BK200.out 2).trans rfl; have hfz24_0 := blk_frozen BK200.out 0; have hfz24_1 := blk_frozen BK200.out 1; have hfz24_2 := blk_frozen BK200.out 2) | ((with_reducible refine gate_builtin (b := .append) (xs := #[.tmp 36, .tmp 38]) rfl ?_); at_builtin; refine Kd.N_append k33 (w0 := w) w.heap.size rfl (.tmp 36) (.tmp 38) 22 33 (.agg #[(.int .i64 0), (.int .i64 0), (.slice none 0 0)]) 40 rfl Try.underlying22 info33 rfl (by decide) (by omega) u5 x5_1 (⟨(rd_T33 l0 x14_1).f0, (rd_T33 l0 x14_1).f1, (rd_T33 l0 x14_1).f2⟩ : S33) [.int .i64 ((rd_T33 l0 x14_1).f0), .int .i64 ((rd_T33 l0 x14_1).f1), .slice A208_2 ((rd_T33 l0 x14_1).f2).length c208_2] (fun k_ => ((P0_ k_ ∨ P1_2_ k_) ∨ w.heap.size ≤ k_) ∧ k_ ≠ gb200 ∧ k_ ≠ gb209) (fun k_ => ((fun k_ => ((P0_ k_ ∨ P1_2_ k_) ∨ w.heap.size ≤ k_) ∧ k_ ≠ gb200 ∧ k_ ≠ gb209)) k_ ∧ some k_ ≠ (u5 : Value).ownBlock) rfl rfl ?aP (fun _ hk => hk) ?aF ?aO ?aB ?aS ?aL ?_; (case aP => first | exact (k33_mkF _ _ (⟨(rd_T33 l0 x14_1).f0, (rd_T33 l0 x14_1).f1, (rd_T33 l0 x14_1).f2⟩ : S33) (Kd.V_reads' (Kd.V_mono (ok' := (fun k_ => ((fun k_ => ((P0_ k_ ∨ P1_2_ k_) ∨ w.heap.size ≤ k_) ∧ k_ ≠ gb200 ∧ k_ ≠ gb209)) k_ ∧ some k_ ≠ (u5 : Value).ownBlock)) (HL208_2.out) (fun k_ hk => ⟨⟨hk.1, ⟨hk.2.2.1, hk.2.2.2⟩⟩, hk.2.1⟩))).2.1 (Kd.V_F (Kd.V_mono (ok' := (fun k_ => ((fun k_ => ((P0_ k_ ∨ P1_2_ k_) ∨ w.heap.size ≤ k_) ∧ k_ ≠ gb200 ∧ k_ ≠ gb209)) k_ ∧ some k_ ≠ (u5 : Value).ownBlock)) (HL208_2.out) (fun k_ hk => ⟨⟨hk.1, ⟨hk.2.2.1, hk.2.2.2⟩⟩, hk.2.1⟩)))) | exact (k33_mkF _ _ (⟨(rd_T33 l0 x14_1).f0, (rd_T33 l0 x14_1).f1, (rd_T33 l0 x14_1).f2⟩ : S33) (Kd.V_reads' (Kd.V_mono (ok' := (fun k_ => ((fun k_ => ((P0_ k_ ∨ P1_2_ k_) ∨ w.heap.size ≤ k_) ∧ k_ ≠ gb200 ∧ k_ ≠ gb209)) k_ ∧ some k_ ≠ (u5 : Value).ownBlock)) (HL208_2.out) (fun k_ hk => ⟨⟨hk.1, ⟨hk.2.2.1, hk.2.2.2⟩⟩, hk.2.1⟩))).2.1 (Kd.V_F (Kd.V_mono (ok' := (fun k_ => ((fun k_ => ((P0_ k_ ∨ P1_2_ k_) ∨ w.heap.size ≤ k_) ∧ k_ ≠ gb200 ∧ k_ ≠ gb209)) k_ ∧ some k_ ≠ (u5 : Value).ownBlock)) (Kd.V_drewN HL208_2.out _) (fun k_ hk => ⟨⟨hk.1, ⟨hk.2.2.1, hk.2.2.2⟩⟩, hk.2.1⟩))))); (case aB => exact (by repeat (first | (with_reducible first | exact HB.out | apply below_alloc | apply pw_below_drewN | apply below_drew1 | refine below_set ?_ GE200.out | refine below_set ?_ GE209.out) | exact HB.out))); (case aF => exact (fun k_ hk => ⟨(.inr (Nat.le_trans (below_size (by repeat (first | (with_reducible first | exact HB.out | apply below_alloc | apply pw_below_drewN | apply below_drew1 | refine below_set ?_ GE200.out | refine below_set ?_ GE209.out) | exact HB.out))) hk)), Kd.freshB (g := gb200) (o := .cells #[.int .i64 a1_0, .int .i64 a1_1, .slice A1_2 l1_2.length c1_2] 33 (0, 0)) (by (with_reducible repeat (first | refine blk_drewN ?_ _ | refine blk_drew ?_ | refine blk_alloc ?_ _)); exact BK200.out) k_ hk, Kd.freshB (g := gb209) (o := .cells #[.int .i64 ((rd_T33 l0 x14_1).f0), .int .i64 ((rd_T33 l0 x14_1).f1), .slice A208_2 ((rd_T33 l0 x14_1).f2).length c208_2] 33 (0, 0)) (by (with_reducible repeat (first | refine blk_drewN ?_ _ | refine blk_drew ?_ | refine blk_alloc ?_ _)); exact BK209.out) k_ hk⟩)); (case aO => exact (by (with_reducible repeat (first | apply Kd.N_alloc | apply Kd.N_drewN | apply Kd.N_drew)); exact HO_5.out)); (case aS => exact (below_size (by repeat (first | (with_reducible first | exact HB.out | apply below_alloc | apply pw_below_drewN | apply below_drew1 | refine below_set ?_ GE200.out | refine below_set ?_ GE209.out) | exact HB.out)))); (case aL => have := LMc18.out; omega); intro v211 w25 ho hb hg hat; rw [← Ny210.out] at ho; have n0_ := Aside0.mk (Kd.V_afterv (ok := (fun k_ => ((P0_ k_ ∨ P1_2_ k_) ∨ w.heap.size ≤ k_) ∧ k_ ≠ gb200 ∧ k_ ≠ gb209)) (by (with_reducible repeat (first | apply Kd.V_alloc | apply Kd.V_drewN | apply Kd.V_drew)); exact Kd.V_mono HO_12.out (fun _ hk => ⟨⟨hk.1, ⟨hk.2.2.1, hk.2.2.2⟩⟩, hk.2.1⟩)) hg hat); have n1_ := Aside0.mk (Kd.V_afterv (ok := (fun k_ => ((P0_ k_ ∨ P1_2_ k_) ∨ w.heap.size ≤ k_) ∧ k_ ≠ gb200 ∧ k_ ≠ gb209)) (by (with_reducible repeat (first | apply Kd.V_alloc | apply Kd.V_drewN | apply Kd.V_drew)); exact Kd.V_mono HO_201002.out (fun _ hk => ⟨⟨hk.1, ⟨hk.2.2.1, hk.2.2.2⟩⟩, hk.2.1⟩)) hg hat); have n2_ := Aside0.mk (blk_grown (g := gb200) (o := .cells #[.int .i64 a1_0, .int .i64 a1_1, .slice A1_2 l1_2.length c1_2] 33 (0, 0)) (by (with_reducible repeat (first | refine blk_drewN ?_ _ | refine blk_drew ?_ | refine blk_alloc ?_ _)); exact BK200.out) hg (Kd.N_away HO_5.out (fun _ hk => hk.2.1))); have n3_ := Aside0.mk (Kd.V_afterv (ok := (fun k_ => ((P0_ k_ ∨ P1_2_ k_) ∨ w.heap.size ≤ k_) ∧ k_ ≠ gb200 ∧ k_ ≠ gb209)) (by (with_reducible repeat (first | apply Kd.V_alloc | apply Kd.V_drewN | apply Kd.V_drew)); exact Kd.V_mono HL208_2.out (fun _ hk => ⟨⟨hk.1, ⟨hk.2.2.1, hk.2.2.2⟩⟩, hk.2.1⟩)) hg hat); have n4_ := Aside0.mk (blk_grown (g := gb209) (o := .cells #[.int .i64 ((rd_T33 l0 x14_1).f0), .int .i64 ((rd_T33 l0 x14_1).f1), .slice A208_2 ((rd_T33 l0 x14_1).f2).length c208_2] 33 (0, 0)) (by (with_reducible repeat (first | refine blk_drewN ?_ _ | refine blk_drew ?_ | refine blk_alloc ?_ _)); exact BK209.out) hg (Kd.N_away HO_5.out (fun _ hk => hk.2.2))); have n5_ := Aside0.mk (hb); have n6_ := Aside0.mk (ho); clear HO_12; clear HO_201002; clear BK200; clear HL208_2; clear BK209; clear HB; clear HO_5; have HO_12 := n0_; have HO_201002 := n1_; have BK200 := n2_; have HL208_2 := n3_; have BK209 := n4_; have HB := n5_; have HO212 := n6_; clear n0_ n1_ n2_ n3_ n4_ n5_ n6_; clear ho hb hg hat))
         go_roundg k1
         case measure => have := HK1.out; omega
         case rel => exact ⟨(y210), (true), (wrap64 (x14_1 + 1)), (by first | rfl | (simp; done) | (simp [*]; done)), (by first | rfl | (simp; done) | (simp [*]; done)), H', ⟨by have := HK1.out; omega⟩, ⟨by (with_reducible repeat (first | apply Kd.N_alloc | apply Kd.N_drewN | apply Kd.N_drew)); exact Kd.N_mono HO212.out (fun _ hk => ⟨hk.1, hk.2.1⟩)⟩, ⟨by (with_reducible repeat (first | apply Kd.V_alloc | apply Kd.V_drewN | apply Kd.V_drew)); exact Kd.V_mono HO_12.out (fun _ hk => ⟨hk.1.1, ⟨hk.2, hk.1.2.1⟩⟩)⟩, ⟨by (with_reducible repeat (first | apply Kd.V_alloc | apply Kd.V_drewN | apply Kd.V_drew)); exact Kd.V_mono HO_201002.out (fun _ hk => ⟨hk.1.1, ⟨hk.2, hk.1.2.1⟩⟩)⟩, ⟨by (with_reducible repeat (first | refine blk_drewN ?_ _ | refine blk_drew ?_ | refine blk_alloc ?_ _)); exact BK200.out⟩, ⟨by repeat (first | (with_reducible first | exact HB.out | apply below_alloc | apply pw_below_drewN | apply below_drew1 | refine below_set ?_ GE200.out | refine below_set ?_ GE209.out) | exact HB.out)⟩⟩
        ·rw [if_neg c18] at H
         exact absurd H (by simp)
       ·replace c17 := Bool.eq_false_iff.mpr c17
        subst c17
        have H1 : ((deadboltref09_less.f a1_0 ((rd_T33 l0 x14_1).f0)).bind fun t213 => (if t213 = true then (if x5_1.length < 3518437208883 then ((some (x5_1 ++ [(⟨a1_0, a1_1, l1_2⟩ : S33)] : List (S33))).bind fun y214 => (if y214.length < 3518437208883 then (deadboltref09_Set.l0 k1 (y214 ++ [(⟨(rd_T33 l0 x14_1).f0, (rd_T33 l0 x14_1).f1, (rd_T33 l0 x14_1).f2⟩ : S33)]) true l0 (l0.length : Int) (wrap64 (x14_1 + 1)) a1_0 a1_1 l1_2) else (none))) else (none)) else (if x5_1.length < 3518437208883 then (deadboltref09_Set.l0 k1 (x5_1 ++ [(⟨(rd_T33 l0 x14_1).f0, (rd_T33 l0 x14_1).f1, (rd_T33 l0 x14_1).f2⟩ : S33)]) false l0 (l0.length : Int) (wrap64 (x14_1 + 1)) a1_0 a1_1 l1_2) else (none)))) = some r := by rw [if_neg (show ¬ (false = true) by decide)] at H; exact H
        clear H
        have H := H1
        clear H1
        replace H := Option.bind_eq_some_iff.mp H
        obtain ⟨t213, A260, H⟩ := H
        replace H : (if t213 = true then (if x5_1.length < 3518437208883 then ((some (x5_1 ++ [(⟨a1_0, a1_1, l1_2⟩ : S33)] : List (S33))).bind fun y214 => (if y214.length < 3518437208883 then (deadboltref09_Set.l0 k1 (y214 ++ [(⟨(rd_T33 l0 x14_1).f0, (rd_T33 l0 x14_1).f1, (rd_T33 l0 x14_1).f2⟩ : S33)]) true l0 (l0.length : Int) (wrap64 (x14_1 + 1)) a1_0 a1_1 l1_2) else (none))) else (none)) else (if x5_1.length < 3518437208883 then (deadboltref09_Set.l0 k1 (x5_1 ++ [(⟨(rd_T33 l0 x14_1).f0, (rd_T33 l0 x14_1).f1, (rd_T33 l0 x14_1).f2⟩ : S33)]) false l0 (l0.length : Int) (wrap64 (x14_1 + 1)) a1_0 a1_1 l1_2) else (none))) = some r := H
        have A26 := Aside0.mk A260
        clear A260
        by_cases c27 : t213 = true
        ·subst c27
         have H1 : (if x5_1.length < 3518437208883 then ((some (x5_1 ++ [(⟨a1_0, a1_1, l1_2⟩ : S33)] : List (S33))).bind fun y214 => (if y214.length < 3518437208883 then (deadboltref09_Set.l0 k1 (y214 ++ [(⟨(rd_T33 l0 x14_1).f0, (rd_T33 l0 x14_1).f1, (rd_T33 l0 x14_1).f2⟩ : S33)]) true l0 (l0.length : Int) (wrap64 (x14_1 + 1)) a1_0 a1_1 l1_2) else (none))) else (none)) = some r := by rw [if_pos rfl] at H; exact H
         clear H
         have H := H1
         clear H1
         by_cases c28 : x5_1.length < 3518437208883
         ·rw [if_pos c28] at H
          have LMc28 := Aside0.mk c28
          clear c28
          obtain ⟨y214, hy214⟩ : ∃ y_ : List (S33), y_ = (x5_1 ++ [(⟨a1_0, a1_1, l1_2⟩ : S33)]) := ⟨_, rfl⟩
          replace H : (if y214.length < 3518437208883 then (deadboltref09_Set.l0 k1 (y214 ++ [(⟨(rd_T33 l0 x14_1).f0, (rd_T33 l0 x14_1).f1, (rd_T33 l0 x14_1).f2⟩ : S33)]) true l0 (l0.length : Int) (wrap64 (x14_1 + 1)) a1_0 a1_1 l1_2) else (none)) = some r := by first | (rw [hy214]; with_reducible exact H) | (have H2_ := (Option.bind_some _ _).symm.trans H; rw [hy214]; with_reducible exact H2_) | (have H2_ := (Option.bind_some _ _).symm.trans H; with_reducible exact H2_) | with_reducible exact H | (rw [hy214]; exact H) | exact H
          have Ny214 := Aside0.mk hy214
          clear hy214
          by_cases c29 : y214.length < 3518437208883
          ·rw [if_pos c29] at H
           have LMc29 := Aside0.mk c29
           clear c29
           obtain ⟨y217, hy217⟩ : ∃ y_ : List (S33), y_ = (y214 ++ [(⟨(rd_T33 l0 x14_1).f0, (rd_T33 l0 x14_1).f1, (rd_T33 l0 x14_1).f2⟩ : S33)]) := ⟨_, rfl⟩
           replace H : (deadboltref09_Set.l0 k1 y217 true l0 (l0.length : Int) (wrap64 (x14_1 + 1)) a1_0 a1_1 l1_2) = some r := by first | (rw [hy217]; with_reducible exact H) | (have H2_ := (Option.bind_some _ _).symm.trans H; rw [hy217]; with_reducible exact H2_) | (have H2_ := (Option.bind_some _ _).symm.trans H; with_reducible exact H2_) | with_reducible exact H | (rw [hy217]; exact H) | exact H
           have Ny217 := Aside0.mk hy217
           clear hy217
           have H' := Aside0.mk H
           clear H
           have p208 : 0 ≤ (x14_1 : Int) := of_decide_eq_true (by first | (with_reducible assumption) | assumption)
           have q208 : x14_1 < (l0.length : Int) := of_decide_eq_true (by first | (with_reducible assumption) | assumption)
           obtain ⟨ad208, A208_2, c208_2, e208, hx208_0, hx208_1, hx208_2, hl208_2, hi208_2⟩ := at_T33 (Kd.V_reads' HO_12.out).2.2 x14_1 p208 q208
           cases e208
           obtain ⟨ce208, hce208, hMe208, hcc208⟩ := Kd.V_get HO_12.out z33 x14_1 p208 (by first | exact q208 | exact of_decide_eq_true (by first | (with_reducible assumption) | assumption) | (have e_ := (Kd.V_reads' HO_12.out).1; omega))
           obtain ⟨ua208_2, uc208_2, rfl, ul208_2, ge208_2⟩ := k33_openF hMe208
           have hv208_2 := hcc208 2 _ rfl
           rw [add_field _ _ 2 (by omega)] at hv208_2
           replace hv208_2 := Option.some.inj (hv208_2.symm.trans hx208_2)
           injection hv208_2 with hva_ hvn_ hvc_
           rw [hva_] at ge208_2
           rw [hvc_] at ul208_2
           have HL208_2 := Aside0.mk (show Kd.V (Kd.int .i64) 3 _ w.heap.size _ _ ((rd_T33 l0 x14_1).f2) from Kd.V_mk ul208_2 ge208_2)
           clear hva_ hvn_ hvc_ ge208_2 ul208_2
           clear hcc208 hce208
           have HR208_2 := Aside0.mk hi208_2
           have HC208_2 := Aside0.mk hl208_2
           clear hi208_2 hl208_2
           replace p208 := eq_true p208
           replace q208 := eq_true q208
           go_wp2_with (first | ((with_reducible refine gate_dst (N := 8) rfl ?_); refine box_event ?hg (N := 8) ?hd (cs := #[.int .i64 0, .int .i64 0, .slice none 0 0]) (t := 33) ?hr ?_; (case hd => rfl); (case hg => rfl); (case hr => first | (go_simp; done) | (go_simp; rfl)); intro gb209 hg w30 hbox hb; have n0_ := Aside0.mk (Kd.N_below (Kd.N_elderB (by (with_reducible repeat (first | apply Kd.N_alloc | apply Kd.N_drewN | apply Kd.N_drew)); exact HO_5.out) gb209 (Nat.le_of_eq hg.symm)) hb); have n1_ := Aside0.mk (Kd.V_below (Kd.V_elderB (by (with_reducible repeat (first | apply Kd.V_alloc | apply Kd.V_drewN | apply Kd.V_drew)); exact HO_12.out) gb209 (Nat.le_of_eq hg.symm)) hb); have n2_ := Aside0.mk (Kd.V_below (Kd.V_elderB (by (with_reducible repeat (first | apply Kd.V_alloc | apply Kd.V_drewN | apply Kd.V_drew)); exact HO_201002.out) gb209 (Nat.le_of_eq hg.symm)) hb); have n3_ := Aside0.mk (Kd.V_below (Kd.V_elderB (by (with_reducible repeat (first | apply Kd.V_alloc | apply Kd.V_drewN | apply Kd.V_drew)); exact HL208_2.out) gb209 (Nat.le_of_eq hg.symm)) hb); have n4_ := Aside0.mk (blk_below (g := gb200) (o := .cells #[.int .i64 a1_0, .int .i64 a1_1, .slice A1_2 l1_2.length c1_2] 33 (0, 0)) (by (with_reducible repeat (first | refine blk_drewN ?_ _ | refine blk_drew ?_ | refine blk_alloc ?_ _)); exact BK200.out) hb); (first | have n5_ := Aside0.mk (Kd.C_below (by repeat (first | (with_reducible exact HR208_2.out) | (with_reducible refine Kd.C_alloc ?_ _) | (with_reducible refine Kd.C_drewN ?_ _) | (with_reducible refine Kd.C_drew ?_) | exact HR208_2.out)) hb) | have n5_ := Aside0.mk True.intro); have n6_ := Aside0.mk (below_step (by repeat (first | (with_reducible first | exact HB.out | apply below_alloc | apply pw_below_drewN | apply below_drew1 | refine below_set ?_ GE200.out) | exact HB.out)) hb); have n7_ := Aside0.mk (hbox); have n8_ := Aside0.mk ((by rw [hg]; exact (below_size (by repeat (first | (with_reducible first | exact HB.out | apply below_alloc | apply pw_below_drewN | apply below_drew1 | refine below_set ?_ GE200.out) | exact HB.out))) : w.heap.size ≤ gb209)); have n9_ := Aside0.mk ((by rw [hg]; exact (below_size (by repeat (first | (with_reducible first | exact HB.out | apply below_alloc | apply pw_below_drewN | apply below_drew1 | refine below_set ?_ GE200.out) | exact HB.out))) : w.heap.size ≤ gb209)); have n10_ := Aside0.mk ((by rw [hg]; exact Nat.ne_of_lt (blk_lt (g := gb200) (o := .cells #[.int .i64 a1_0, .int .i64 a1_1, .slice A1_2 l1_2.length c1_2] 33 (0, 0)) (by (with_reducible repeat (first | refine blk_drewN ?_ _ | refine blk_drew ?_ | refine blk_alloc ?_ _)); exact BK200.out)) : gb200 ≠ gb209)); have n11_ := Aside0.mk ((by rw [hg]; exact Nat.ne_of_gt (blk_lt (g := gb200) (o := .cells #[.int .i64 a1_0, .int .i64 a1_1, .slice A1_2 l1_2.length c1_2] 33 (0, 0)) (by (with_reducible repeat (first | refine blk_drewN ?_ _ | refine blk_drew ?_ | refine blk_alloc ?_ _)); exact BK200.out)) : gb209 ≠ gb200)); clear HO_5; clear HO_12; clear HO_201002; clear HL208_2; clear BK200; clear HR208_2; clear HB; have HO_5 := n0_; have HO_12 := n1_; have HO_201002 := n2_; have HL208_2 := n3_; have BK200 := n4_; have HR208_2 := n5_; have HB := n6_; have BK209 := n7_; have GW209 := n8_; have GE209 := n9_; have NB200_209 := n10_; have NB209_200 := n11_; clear n0_ n1_ n2_ n3_ n4_ n5_ n6_ n7_ n8_ n9_ n10_ n11_; clear hb hbox hg; have hnb31 := NB209_200.out; have hnc31 := NB200_209.out; have hcz32_0 : w30.cell? ⟨gb209, 0, none⟩ = some (.int .i64 0) := (blk_cell BK209.out 0).trans rfl; have hcz32_1 : w30.cell? ⟨gb209, 1, none⟩ = some (.int .i64 0) := (blk_cell BK209.out 1).trans rfl; have hcz32_2 : w30.cell? ⟨gb209, 2, none⟩ = some (.slice none 0 0) := (blk_cell BK209.out 2).trans rfl; have hfz32_0 := blk_frozen BK209.out 0; have hfz32_1 := blk_frozen BK209.out 1; have hfz32_2 := blk_frozen BK209.out 2) | ((with_reducible refine gate_store (t := 33) (p := 8) rfl ?_); refine store_event (t := 33) (p := 8) (v := ?vo_w33) (w1 := (((w30.setCell ⟨gb209, 0, none⟩ (.int .i64 ((rd_T33 l0 x14_1).f0))).setCell ⟨gb209, 1, none⟩ (.int .i64 ((rd_T33 l0 x14_1).f1))).setCell ⟨gb209, 2, none⟩ (.slice A208_2 ((rd_T33 l0 x14_1).f2).length c208_2))) ?hg ?ho ?hn ?hr ?_; (case ho => rfl); (case hg => rfl); (case hn => rfl); (case hr => first | (go_simp; done) | (go_simp; rfl)); intro w33 hw; have n0_ : Aside0 (Kd.N k33 33 w33 w.heap.size (fun k_ => ((P0_ k_ ∨ P1_2_ k_) ∨ w.heap.size ≤ k_) ∧ k_ ≠ gb200 ∧ k_ ≠ gb209) u5 x5_1) := ⟨(by rw [hw]; exact (by (with_reducible repeat (first | apply Kd.N_alloc | apply Kd.N_drewN | apply Kd.N_drew)); exact Kd.N_mono (Kd.N_far (p := ⟨gb209, 2, none⟩) (Kd.N_far (p := ⟨gb209, 1, none⟩) (Kd.N_far (p := ⟨gb209, 0, none⟩) (Kd.N_mono HO_5.out (fun k_ hk => (⟨hk, hk.2⟩ : _ ∧ k_ ≠ gb209))) (fun _ hk => hk.2) (.int .i64 ((rd_T33 l0 x14_1).f0))) (fun _ hk => hk.2) (.int .i64 ((rd_T33 l0 x14_1).f1))) (fun _ hk => hk.2) (.slice A208_2 ((rd_T33 l0 x14_1).f2).length c208_2)) (fun _ hk => ⟨hk.1.1.1, ⟨hk.1.1.2, hk.1.2⟩⟩)))⟩; have n1_ : Aside0 (Kd.V k33 33 w33 w.heap.size (fun k_ => ((P0_ k_ ∨ P1_2_ k_) ∨ w.heap.size ≤ k_) ∧ some k_ ≠ (u5 : Value).ownBlock ∧ k_ ≠ gb200 ∧ k_ ≠ gb209) (.slice (some ad208) l0.length c0) l0) := ⟨(by rw [hw]; exact (by (with_reducible repeat (first | apply Kd.V_alloc | apply Kd.V_drewN | apply Kd.V_drew)); exact Kd.V_mono (Kd.V_far (p := ⟨gb209, 2, none⟩) (Kd.V_far (p := ⟨gb209, 1, none⟩) (Kd.V_far (p := ⟨gb209, 0, none⟩) (Kd.V_mono HO_12.out (fun k_ hk => (⟨hk, hk.2⟩ : _ ∧ k_ ≠ gb209))) (fun _ hk => hk.2) (.int .i64 ((rd_T33 l0 x14_1).f0))) (fun _ hk => hk.2) (.int .i64 ((rd_T33 l0 x14_1).f1))) (fun _ hk => hk.2) (.slice A208_2 ((rd_T33 l0 x14_1).f2).length c208_2)) (fun _ hk => ⟨hk.1.1.1, ⟨hk.1.1.2.1, ⟨hk.1.1.2.2, hk.1.2⟩⟩⟩)))⟩; have n2_ : Aside0 (Kd.V (Kd.int .i64) 3 w33 w.heap.size (fun k_ => ((P0_ k_ ∨ P1_2_ k_) ∨ w.heap.size ≤ k_) ∧ some k_ ≠ (u5 : Value).ownBlock ∧ k_ ≠ gb200 ∧ k_ ≠ gb209) (.slice A1_2 l1_2.length c1_2) l1_2) := ⟨(by rw [hw]; exact (by (with_reducible repeat (first | apply Kd.V_alloc | apply Kd.V_drewN | apply Kd.V_drew)); exact Kd.V_mono (Kd.V_far (p := ⟨gb209, 2, none⟩) (Kd.V_far (p := ⟨gb209, 1, none⟩) (Kd.V_far (p := ⟨gb209, 0, none⟩) (Kd.V_mono HO_201002.out (fun k_ hk => (⟨hk, hk.2⟩ : _ ∧ k_ ≠ gb209))) (fun _ hk => hk.2) (.int .i64 ((rd_T33 l0 x14_1).f0))) (fun _ hk => hk.2) (.int .i64 ((rd_T33 l0 x14_1).f1))) (fun _ hk => hk.2) (.slice A208_2 ((rd_T33 l0 x14_1).f2).length c208_2)) (fun _ hk => ⟨hk.1.1.1, ⟨hk.1.1.2.1, ⟨hk.1.1.2.2, hk.1.2⟩⟩⟩)))⟩; have n3_ : Aside0 (Kd.V (Kd.int .i64) 3 w33 w.heap.size (fun k_ => ((P0_ k_ ∨ P1_2_ k_) ∨ w.heap.size ≤ k_) ∧ some k_ ≠ (u5 : Value).ownBlock ∧ k_ ≠ gb200 ∧ k_ ≠ gb209) (.slice A208_2 ((rd_T33 l0 x14_1).f2).length c208_2) ((rd_T33 l0 x14_1).f2)) := ⟨(by rw [hw]; exact (by (with_reducible repeat (first | apply Kd.V_alloc | apply Kd.V_drewN | apply Kd.V_drew)); exact Kd.V_mono (Kd.V_far (p := ⟨gb209, 2, none⟩) (Kd.V_far (p := ⟨gb209, 1, none⟩) (Kd.V_far (p := ⟨gb209, 0, none⟩) (Kd.V_mono HL208_2.out (fun k_ hk => (⟨hk, hk.2⟩ : _ ∧ k_ ≠ gb209))) (fun _ hk => hk.2) (.int .i64 ((rd_T33 l0 x14_1).f0))) (fun _ hk => hk.2) (.int .i64 ((rd_T33 l0 x14_1).f1))) (fun _ hk => hk.2) (.slice A208_2 ((rd_T33 l0 x14_1).f2).length c208_2)) (fun _ hk => ⟨hk.1.1.1, ⟨hk.1.1.2.1, ⟨hk.1.1.2.2, hk.1.2⟩⟩⟩)))⟩; have n4_ : Aside0 (w33.heap[gb200]? = some (.cells #[.int .i64 a1_0, .int .i64 a1_1, .slice A1_2 l1_2.length c1_2] 33 (0, 0))) := ⟨(by rw [hw]; exact (by (with_reducible repeat (first | refine blk_drewN ?_ _ | refine blk_drew ?_ | refine blk_alloc ?_ _)); refine blk_far ?_ NB200_209.out _; (with_reducible repeat (first | refine blk_drewN ?_ _ | refine blk_drew ?_ | refine blk_alloc ?_ _)); refine blk_far ?_ NB200_209.out _; (with_reducible repeat (first | refine blk_drewN ?_ _ | refine blk_drew ?_ | refine blk_alloc ?_ _)); refine blk_far ?_ NB200_209.out _; (with_reducible repeat (first | refine blk_drewN ?_ _ | refine blk_drew ?_ | refine blk_alloc ?_ _)); exact BK200.out))⟩; have n5_ : Aside0 (w33.heap[gb209]? = some (.cells #[.int .i64 ((rd_T33 l0 x14_1).f0), .int .i64 ((rd_T33 l0 x14_1).f1), .slice A208_2 ((rd_T33 l0 x14_1).f2).length c208_2] 33 (0, 0))) := ⟨(by rw [hw]; exact (by (with_reducible repeat (first | refine blk_drewN ?_ _ | refine blk_drew ?_ | refine blk_alloc ?_ _)); refine blk_put (cs := #[.int .i64 ((rd_T33 l0 x14_1).f0), .int .i64 ((rd_T33 l0 x14_1).f1), .slice none 0 0]) ?_ 2 _ rfl; (with_reducible repeat (first | refine blk_drewN ?_ _ | refine blk_drew ?_ | refine blk_alloc ?_ _)); refine blk_put (cs := #[.int .i64 ((rd_T33 l0 x14_1).f0), .int .i64 0, .slice none 0 0]) ?_ 1 _ rfl; (with_reducible repeat (first | refine blk_drewN ?_ _ | refine blk_drew ?_ | refine blk_alloc ?_ _)); refine blk_put (cs := #[.int .i64 0, .int .i64 0, .slice none 0 0]) ?_ 0 _ rfl; (with_reducible repeat (first | refine blk_drewN ?_ _ | refine blk_drew ?_ | refine blk_alloc ?_ _)); exact BK209.out))⟩; have n6_ : Aside0 (Below w.heap.size w w33) := ⟨(by rw [hw]; exact (by repeat (first | (with_reducible first | exact HB.out | apply below_alloc | apply pw_below_drewN | apply below_drew1 | refine below_set ?_ GE200.out | refine below_set ?_ GE209.out) | exact HB.out)))⟩; clear hw; clear HO_5; clear HO_12; clear HO_201002; clear HL208_2; clear BK200; clear BK209; clear HB; have HO_5 := n0_; have HO_12 := n1_; have HO_201002 := n2_; have HL208_2 := n3_; have BK200 := n4_; have BK209 := n5_; have HB := n6_; clear n0_ n1_ n2_ n3_ n4_ n5_ n6_; have hcz34_0 : w33.cell? ⟨gb209, 0, none⟩ = some (.int .i64 ((rd_T33 l0 x14_1).f0)) := (blk_cell BK209.out 0).trans rfl; have hcz34_1 : w33.cell? ⟨gb209, 1, none⟩ = some (.int .i64 ((rd_T33 l0 x14_1).f1)) := (blk_cell BK209.out 1).trans rfl; have hcz34_2 : w33.cell? ⟨gb209, 2, none⟩ = some (.slice A208_2 ((rd_T33 l0 x14_1).f2).length c208_2) := (blk_cell BK209.out 2).trans rfl; have hfz34_0 := blk_frozen BK209.out 0; have hfz34_1 := blk_frozen BK209.out 1; have hfz34_2 := blk_frozen BK209.out 2; have hcz35_0 : w33.cell? ⟨gb200, 0, none⟩ = some (.int .i64 a1_0) := (blk_cell BK200.out 0).trans rfl; have hcz35_1 : w33.cell? ⟨gb200, 1, none⟩ = some (.int .i64 a1_1) := (blk_cell BK200.out 1).trans rfl; have hcz35_2 : w33.cell? ⟨gb200, 2, none⟩ = some (.slice A1_2 l1_2.length c1_2) := (blk_cell BK200.out 2).trans rfl; have hfz35_0 := blk_frozen BK200.out 0; have hfz35_1 := blk_frozen BK200.out 1; have hfz35_2 := blk_frozen BK200.out 2) | (go_at_call 54; (with_reducible refine (deadboltref09_less.calls a1_0 ((rd_T33 l0 x14_1).f0) true _ A26.out).mono ?_); rintro e w' ⟨rfl, ⟨nd, rfl⟩⟩) | ((with_reducible refine gate_builtin (b := .append) (xs := #[.tmp 32, .tmp 34]) rfl ?_); at_builtin; refine Kd.N_append k33 (w0 := w) w.heap.size rfl (.tmp 32) (.tmp 34) 22 33 (.agg #[(.int .i64 0), (.int .i64 0), (.slice none 0 0)]) 40 rfl Try.underlying22 info33 rfl (by decide) (by omega) u5 x5_1 (⟨a1_0, a1_1, l1_2⟩ : S33) [.int .i64 a1_0, .int .i64 a1_1, .slice A1_2 l1_2.length c1_2] (fun k_ => ((P0_ k_ ∨ P1_2_ k_) ∨ w.heap.size ≤ k_) ∧ k_ ≠ gb200 ∧ k_ ≠ gb209) (fun k_ => ((fun k_ => ((P0_ k_ ∨ P1_2_ k_) ∨ w.heap.size ≤ k_) ∧ k_ ≠ gb200 ∧ k_ ≠ gb209)) k_ ∧ some k_ ≠ (u5 : Value).ownBlock) rfl rfl ?aP (fun _ hk => hk) ?aF ?aO ?aB ?aS ?aL ?_; (case aP => first | exact (k33_mkF _ _ (⟨a1_0, a1_1, l1_2⟩ : S33) (Kd.V_reads' (Kd.V_mono (ok' := (fun k_ => ((fun k_ => ((P0_ k_ ∨ P1_2_ k_) ∨ w.heap.size ≤ k_) ∧ k_ ≠ gb200 ∧ k_ ≠ gb209)) k_ ∧ some k_ ≠ (u5 : Value).ownBlock)) (HO_201002.out) (fun k_ hk => ⟨⟨hk.1, ⟨hk.2.2.1, hk.2.2.2⟩⟩, hk.2.1⟩))).2.1 (Kd.V_F (Kd.V_mono (ok' := (fun k_ => ((fun k_ => ((P0_ k_ ∨ P1_2_ k_) ∨ w.heap.size ≤ k_) ∧ k_ ≠ gb200 ∧ k_ ≠ gb209)) k_ ∧ some k_ ≠ (u5 : Value).ownBlock)) (HO_201002.out) (fun k_ hk => ⟨⟨hk.1, ⟨hk.2.2.1, hk.2.2.2⟩⟩, hk.2.1⟩)))) | exact (k33_mkF _ _ (⟨a1_0, a1_1, l1_2⟩ : S33) (Kd.V_reads' (Kd.V_mono (ok' := (fun k_ => ((fun k_ => ((P0_ k_ ∨ P1_2_ k_) ∨ w.heap.size ≤ k_) ∧ k_ ≠ gb200 ∧ k_ ≠ gb209)) k_ ∧ some k_ ≠ (u5 : Value).ownBlock)) (HO_201002.out) (fun k_ hk => ⟨⟨hk.1, ⟨hk.2.2.1, hk.2.2.2⟩⟩, hk.2.1⟩))).2.1 (Kd.V_F (Kd.V_mono (ok' := (fun k_ => ((fun k_ => ((P0_ k_ ∨ P1_2_ k_) ∨ w.heap.size ≤ k_) ∧ k_ ≠ gb200 ∧ k_ ≠ gb209)) k_ ∧ some k_ ≠ (u5 : Value).ownBlock)) (Kd.V_drewN HO_201002.out _) (fun k_ hk => ⟨⟨hk.1, ⟨hk.2.2.1, hk.2.2.2⟩⟩, hk.2.1⟩))))); (case aB => exact (by repeat (first | (with_reducible first | exact HB.out | apply below_alloc | apply pw_below_drewN | apply below_drew1 | refine below_set ?_ GE200.out | refine below_set ?_ GE209.out) | exact HB.out))); (case aF => exact (fun k_ hk => ⟨(.inr (Nat.le_trans (below_size (by repeat (first | (with_reducible first | exact HB.out | apply below_alloc | apply pw_below_drewN | apply below_drew1 | refine below_set ?_ GE200.out | refine below_set ?_ GE209.out) | exact HB.out))) hk)), Kd.freshB (g := gb200) (o := .cells #[.int .i64 a1_0, .int .i64 a1_1, .slice A1_2 l1_2.length c1_2] 33 (0, 0)) (by (with_reducible repeat (first | refine blk_drewN ?_ _ | refine blk_drew ?_ | refine blk_alloc ?_ _)); exact BK200.out) k_ hk, Kd.freshB (g := gb209) (o := .cells #[.int .i64 ((rd_T33 l0 x14_1).f0), .int .i64 ((rd_T33 l0 x14_1).f1), .slice A208_2 ((rd_T33 l0 x14_1).f2).length c208_2] 33 (0, 0)) (by (with_reducible repeat (first | refine blk_drewN ?_ _ | refine blk_drew ?_ | refine blk_alloc ?_ _)); exact BK209.out) k_ hk⟩)); (case aO => exact (by (with_reducible repeat (first | apply Kd.N_alloc | apply Kd.N_drewN | apply Kd.N_drew)); exact HO_5.out)); (case aS => exact (below_size (by repeat (first | (with_reducible first | exact HB.out | apply below_alloc | apply pw_below_drewN | apply below_drew1 | refine below_set ?_ GE200.out | refine below_set ?_ GE209.out) | exact HB.out)))); (case aL => have := LMc28.out; omega); intro v215 w36 ho hb hg hat; rw [← Ny214.out] at ho; have n0_ := Aside0.mk (Kd.V_afterv (ok := (fun k_ => ((P0_ k_ ∨ P1_2_ k_) ∨ w.heap.size ≤ k_) ∧ k_ ≠ gb200 ∧ k_ ≠ gb209)) (by (with_reducible repeat (first | apply Kd.V_alloc | apply Kd.V_drewN | apply Kd.V_drew)); exact Kd.V_mono HO_12.out (fun _ hk => ⟨⟨hk.1, ⟨hk.2.2.1, hk.2.2.2⟩⟩, hk.2.1⟩)) hg hat); have n1_ := Aside0.mk (Kd.V_afterv (ok := (fun k_ => ((P0_ k_ ∨ P1_2_ k_) ∨ w.heap.size ≤ k_) ∧ k_ ≠ gb200 ∧ k_ ≠ gb209)) (by (with_reducible repeat (first | apply Kd.V_alloc | apply Kd.V_drewN | apply Kd.V_drew)); exact Kd.V_mono HO_201002.out (fun _ hk => ⟨⟨hk.1, ⟨hk.2.2.1, hk.2.2.2⟩⟩, hk.2.1⟩)) hg hat); have n2_ := Aside0.mk (blk_grown (g := gb200) (o := .cells #[.int .i64 a1_0, .int .i64 a1_1, .slice A1_2 l1_2.length c1_2] 33 (0, 0)) (by (with_reducible repeat (first | refine blk_drewN ?_ _ | refine blk_drew ?_ | refine blk_alloc ?_ _)); exact BK200.out) hg (Kd.N_away HO_5.out (fun _ hk => hk.2.1))); have n3_ := Aside0.mk (Kd.V_afterv (ok := (fun k_ => ((P0_ k_ ∨ P1_2_ k_) ∨ w.heap.size ≤ k_) ∧ k_ ≠ gb200 ∧ k_ ≠ gb209)) (by (with_reducible repeat (first | apply Kd.V_alloc | apply Kd.V_drewN | apply Kd.V_drew)); exact Kd.V_mono HL208_2.out (fun _ hk => ⟨⟨hk.1, ⟨hk.2.2.1, hk.2.2.2⟩⟩, hk.2.1⟩)) hg hat); have n4_ := Aside0.mk (blk_grown (g := gb209) (o := .cells #[.int .i64 ((rd_T33 l0 x14_1).f0), .int .i64 ((rd_T33 l0 x14_1).f1), .slice A208_2 ((rd_T33 l0 x14_1).f2).length c208_2] 33 (0, 0)) (by (with_reducible repeat (first | refine blk_drewN ?_ _ | refine blk_drew ?_ | refine blk_alloc ?_ _)); exact BK209.out) hg (Kd.N_away HO_5.out (fun _ hk => hk.2.2))); have n5_ := Aside0.mk (hb); have n6_ := Aside0.mk (ho); clear HO_12; clear HO_201002; clear BK200; clear HL208_2; clear BK209; clear HB; clear HO_5; have HO_12 := n0_; have HO_201002 := n1_; have BK200 := n2_; have HL208_2 := n3_; have BK209 := n4_; have HB := n5_; have HO216 := n6_; clear n0_ n1_ n2_ n3_ n4_ n5_ n6_; clear ho hb hg hat; have hcz37_0 : w36.cell? ⟨gb209, 0, none⟩ = some (.int .i64 ((rd_T33 l0 x14_1).f0)) := (blk_cell BK209.out 0).trans rfl; have hcz37_1 : w36.cell? ⟨gb209, 1, none⟩ = some (.int .i64 ((rd_T33 l0 x14_1).f1)) := (blk_cell BK209.out 1).trans rfl; have hcz37_2 : w36.cell? ⟨gb209, 2, none⟩ = some (.slice A208_2 ((rd_T33 l0 x14_1).f2).length c208_2) := (blk_cell BK209.out 2).trans rfl; have hfz37_0 := blk_frozen BK209.out 0; have hfz37_1 := blk_frozen BK209.out 1; have hfz37_2 := blk_frozen BK209.out 2) | ((with_reducible refine gate_builtin (b := .append) (xs := #[.tmp 36, .tmp 38]) rfl ?_); at_builtin; refine Kd.N_append k33 (w0 := w) w.heap.size rfl (.tmp 36) (.tmp 38) 22 33 (.agg #[(.int .i64 0), (.int .i64 0), (.slice none 0 0)]) 40 rfl Try.underlying22 info33 rfl (by decide) (by omega) v215 y214 (⟨(rd_T33 l0 x14_1).f0, (rd_T33 l0 x14_1).f1, (rd_T33 l0 x14_1).f2⟩ : S33) [.int .i64 ((rd_T33 l0 x14_1).f0), .int .i64 ((rd_T33 l0 x14_1).f1), .slice A208_2 ((rd_T33 l0 x14_1).f2).length c208_2] (fun k_ => ((P0_ k_ ∨ P1_2_ k_) ∨ w.heap.size ≤ k_) ∧ k_ ≠ gb200 ∧ k_ ≠ gb209) (fun k_ => ((fun k_ => ((P0_ k_ ∨ P1_2_ k_) ∨ w.heap.size ≤ k_) ∧ k_ ≠ gb200 ∧ k_ ≠ gb209)) k_ ∧ some k_ ≠ (v215 : Value).ownBlock) rfl rfl ?aP (fun _ hk => hk) ?aF ?aO ?aB ?aS ?aL ?_; (case aP => first | exact (k33_mkF _ _ (⟨(rd_T33 l0 x14_1).f0, (rd_T33 l0 x14_1).f1, (rd_T33 l0 x14_1).f2⟩ : S33) (Kd.V_reads' (Kd.V_mono (ok' := (fun k_ => ((fun k_ => ((P0_ k_ ∨ P1_2_ k_) ∨ w.heap.size ≤ k_) ∧ k_ ≠ gb200 ∧ k_ ≠ gb209)) k_ ∧ some k_ ≠ (v215 : Value).ownBlock)) (HL208_2.out) (fun k_ hk => ⟨⟨hk.1.1, ⟨hk.1.2.1, hk.1.2.2⟩⟩, hk.2⟩))).2.1 (Kd.V_F (Kd.V_mono (ok' := (fun k_ => ((fun k_ => ((P0_ k_ ∨ P1_2_ k_) ∨ w.heap.size ≤ k_) ∧ k_ ≠ gb200 ∧ k_ ≠ gb209)) k_ ∧ some k_ ≠ (v215 : Value).ownBlock)) (HL208_2.out) (fun k_ hk => ⟨⟨hk.1.1, ⟨hk.1.2.1, hk.1.2.2⟩⟩, hk.2⟩)))) | exact (k33_mkF _ _ (⟨(rd_T33 l0 x14_1).f0, (rd_T33 l0 x14_1).f1, (rd_T33 l0 x14_1).f2⟩ : S33) (Kd.V_reads' (Kd.V_mono (ok' := (fun k_ => ((fun k_ => ((P0_ k_ ∨ P1_2_ k_) ∨ w.heap.size ≤ k_) ∧ k_ ≠ gb200 ∧ k_ ≠ gb209)) k_ ∧ some k_ ≠ (v215 : Value).ownBlock)) (HL208_2.out) (fun k_ hk => ⟨⟨hk.1.1, ⟨hk.1.2.1, hk.1.2.2⟩⟩, hk.2⟩))).2.1 (Kd.V_F (Kd.V_mono (ok' := (fun k_ => ((fun k_ => ((P0_ k_ ∨ P1_2_ k_) ∨ w.heap.size ≤ k_) ∧ k_ ≠ gb200 ∧ k_ ≠ gb209)) k_ ∧ some k_ ≠ (v215 : Value).ownBlock)) (Kd.V_drewN HL208_2.out _) (fun k_ hk => ⟨⟨hk.1.1, ⟨hk.1.2.1, hk.1.2.2⟩⟩, hk.2⟩))))); (case aB => exact (by repeat (first | (with_reducible first | exact HB.out | apply below_alloc | apply pw_below_drewN | apply below_drew1 | refine below_set ?_ GE200.out | refine below_set ?_ GE209.out) | exact HB.out))); (case aF => exact (fun k_ hk => ⟨(.inr (Nat.le_trans (below_size (by repeat (first | (with_reducible first | exact HB.out | apply below_alloc | apply pw_below_drewN | apply below_drew1 | refine below_set ?_ GE200.out | refine below_set ?_ GE209.out) | exact HB.out))) hk)), Kd.freshB (g := gb200) (o := .cells #[.int .i64 a1_0, .int .i64 a1_1, .slice A1_2 l1_2.length c1_2] 33 (0, 0)) (by (with_reducible repeat (first | refine blk_drewN ?_ _ | refine blk_drew ?_ | refine blk_alloc ?_ _)); exact BK200.out) k_ hk, Kd.freshB (g := gb209) (o := .cells #[.int .i64 ((rd_T33 l0 x14_1).f0), .int .i64 ((rd_T33 l0 x14_1).f1), .slice A208_2 ((rd_T33 l0 x14_1).f2).length c208_2] 33 (0, 0)) (by (with_reducible repeat (first | refine blk_drewN ?_ _ | refine blk_drew ?_ | refine blk_alloc ?_ _)); exact BK209.out) k_ hk⟩)); (case aO => exact (by (with_reducible repeat (first | apply Kd.N_alloc | apply Kd.N_drewN | apply Kd.N_drew)); exact HO216.out)); (case aS => exact (below_size (by repeat (first | (with_reducible first | exact HB.out | apply below_alloc | apply pw_below_drewN | apply below_drew1 | refine below_set ?_ GE200.out | refine below_set ?_ GE209.out) | exact HB.out)))); (case aL => have := LMc29.out; omega); intro v218 w38 ho hb hg hat; rw [← Ny217.out] at ho; have n0_ := Aside0.mk (Kd.V_afterv (ok := (fun k_ => ((P0_ k_ ∨ P1_2_ k_) ∨ w.heap.size ≤ k_) ∧ k_ ≠ gb200 ∧ k_ ≠ gb209)) (by (with_reducible repeat (first | apply Kd.V_alloc | apply Kd.V_drewN | apply Kd.V_drew)); exact HO_12.out) hg hat); have n1_ := Aside0.mk (Kd.V_afterv (ok := (fun k_ => ((P0_ k_ ∨ P1_2_ k_) ∨ w.heap.size ≤ k_) ∧ k_ ≠ gb200 ∧ k_ ≠ gb209)) (by (with_reducible repeat (first | apply Kd.V_alloc | apply Kd.V_drewN | apply Kd.V_drew)); exact HO_201002.out) hg hat); have n2_ := Aside0.mk (blk_grown (g := gb200) (o := .cells #[.int .i64 a1_0, .int .i64 a1_1, .slice A1_2 l1_2.length c1_2] 33 (0, 0)) (by (with_reducible repeat (first | refine blk_drewN ?_ _ | refine blk_drew ?_ | refine blk_alloc ?_ _)); exact BK200.out) hg (Kd.N_away HO216.out (fun _ hk => hk.2.1))); have n3_ := Aside0.mk (Kd.V_afterv (ok := (fun k_ => ((P0_ k_ ∨ P1_2_ k_) ∨ w.heap.size ≤ k_) ∧ k_ ≠ gb200 ∧ k_ ≠ gb209)) (by (with_reducible repeat (first | apply Kd.V_alloc | apply Kd.V_drewN | apply Kd.V_drew)); exact HL208_2.out) hg hat); have n4_ := Aside0.mk (blk_grown (g := gb209) (o := .cells #[.int .i64 ((rd_T33 l0 x14_1).f0), .int .i64 ((rd_T33 l0 x14_1).f1), .slice A208_2 ((rd_T33 l0 x14_1).f2).length c208_2] 33 (0, 0)) (by (with_reducible repeat (first | refine blk_drewN ?_ _ | refine blk_drew ?_ | refine blk_alloc ?_ _)); exact BK209.out) hg (Kd.N_away HO216.out (fun _ hk => hk.2.2))); have n5_ := Aside0.mk (hb); have n6_ := Aside0.mk (ho); clear HO_12; clear HO_201002; clear BK200; clear HL208_2; clear BK209; clear HB; clear HO216; have HO_12 := n0_; have HO_201002 := n1_; have BK200 := n2_; have HL208_2 := n3_; have BK209 := n4_; have HB := n5_; have HO219 := n6_; clear n0_ n1_ n2_ n3_ n4_ n5_ n6_; clear ho hb hg hat))
           go_roundg k1
           case measure => have := HK1.out; omega
           case rel => exact ⟨(y217), (true), (wrap64 (x14_1 + 1)), (by first | rfl | (simp; done) | (simp [*]; done)), (by first | rfl | (simp; done) | (simp [*]; done)), H', ⟨by have := HK1.out; omega⟩, ⟨by (with_reducible repeat (first | apply Kd.N_alloc | apply Kd.N_drewN | apply Kd.N_drew)); exact Kd.N_mono HO219.out (fun _ hk => ⟨hk.1, hk.2.1⟩)⟩, ⟨by (with_reducible repeat (first | apply Kd.V_alloc | apply Kd.V_drewN | apply Kd.V_drew)); exact Kd.V_mono HO_12.out (fun _ hk => ⟨hk.1.1, ⟨hk.2, hk.1.2.1⟩⟩)⟩, ⟨by (with_reducible repeat (first | apply Kd.V_alloc | apply Kd.V_drewN | apply Kd.V_drew)); exact Kd.V_mono HO_201002.out (fun _ hk => ⟨hk.1.1, ⟨hk.2, hk.1.2.1⟩⟩)⟩, ⟨by (with_reducible repeat (first | refine blk_drewN ?_ _ | refine blk_drew ?_ | refine blk_alloc ?_ _)); exact BK200.out⟩, ⟨by repeat (first | (with_reducible first | exact HB.out | apply below_alloc | apply pw_below_drewN | apply below_drew1 | refine below_set ?_ GE200.out | refine below_set ?_ GE209.out) | exact HB.out)⟩⟩
          ·rw [if_neg c29] at H
           exact absurd H (by simp)
         ·rw [if_neg c28] at H
          exact absurd H (by simp)
        ·replace c27 := Bool.eq_false_iff.mpr c27
         subst c27
         have H1 : (if x5_1.length < 3518437208883 then (deadboltref09_Set.l0 k1 (x5_1 ++ [(⟨(rd_T33 l0 x14_1).f0, (rd_T33 l0 x14_1).f1, (rd_T33 l0 x14_1).f2⟩ : S33)]) false l0 (l0.length : Int) (wrap64 (x14_1 + 1)) a1_0 a1_1 l1_2) else (none)) = some r := by rw [if_neg (show ¬ (false = true) by decide)] at H; exact H
         clear H
         have H := H1
         clear H1
         by_cases c39 : x5_1.length < 3518437208883
         ·rw [if_pos c39] at H
          have LMc39 := Aside0.mk c39
          clear c39
          obtain ⟨y220, hy220⟩ : ∃ y_ : List (S33), y_ = (x5_1 ++ [(⟨(rd_T33 l0 x14_1).f0, (rd_T33 l0 x14_1).f1, (rd_T33 l0 x14_1).f2⟩ : S33)]) := ⟨_, rfl⟩
          replace H : (deadboltref09_Set.l0 k1 y220 false l0 (l0.length : Int) (wrap64 (x14_1 + 1)) a1_0 a1_1 l1_2) = some r := by first | (rw [hy220]; with_reducible exact H) | (have H2_ := (Option.bind_some _ _).symm.trans H; rw [hy220]; with_reducible exact H2_) | (have H2_ := (Option.bind_some _ _).symm.trans H; with_reducible exact H2_) | with_reducible exact H | (rw [hy220]; exact H) | exact H
          have Ny220 := Aside0.mk hy220
          clear hy220
          have H' := Aside0.mk H
          clear H
          have p208 : 0 ≤ (x14_1 : Int) := of_decide_eq_true (by first | (with_reducible assumption) | assumption)
          have q208 : x14_1 < (l0.length : Int) := of_decide_eq_true (by first | (with_reducible assumption) | assumption)
          obtain ⟨ad208, A208_2, c208_2, e208, hx208_0, hx208_1, hx208_2, hl208_2, hi208_2⟩ := at_T33 (Kd.V_reads' HO_12.out).2.2 x14_1 p208 q208
          cases e208
          obtain ⟨ce208, hce208, hMe208, hcc208⟩ := Kd.V_get HO_12.out z33 x14_1 p208 (by first | exact q208 | exact of_decide_eq_true (by first | (with_reducible assumption) | assumption) | (have e_ := (Kd.V_reads' HO_12.out).1; omega))
          obtain ⟨ua208_2, uc208_2, rfl, ul208_2, ge208_2⟩ := k33_openF hMe208
          have hv208_2 := hcc208 2 _ rfl
          rw [add_field _ _ 2 (by omega)] at hv208_2
          replace hv208_2 := Option.some.inj (hv208_2.symm.trans hx208_2)
          injection hv208_2 with hva_ hvn_ hvc_
          rw [hva_] at ge208_2
          rw [hvc_] at ul208_2
          have HL208_2 := Aside0.mk (show Kd.V (Kd.int .i64) 3 _ w.heap.size _ _ ((rd_T33 l0 x14_1).f2) from Kd.V_mk ul208_2 ge208_2)
          clear hva_ hvn_ hvc_ ge208_2 ul208_2
          clear hcc208 hce208
          have HR208_2 := Aside0.mk hi208_2
          have HC208_2 := Aside0.mk hl208_2
          clear hi208_2 hl208_2
          replace p208 := eq_true p208
          replace q208 := eq_true q208
          go_wp2_with (first | ((with_reducible refine gate_dst (N := 8) rfl ?_); refine box_event ?hg (N := 8) ?hd (cs := #[.int .i64 0, .int .i64 0, .slice none 0 0]) (t := 33) ?hr ?_; (case hd => rfl); (case hg => rfl); (case hr => first | (go_simp; done) | (go_simp; rfl)); intro gb209 hg w40 hbox hb; have n0_ := Aside0.mk (Kd.N_below (Kd.N_elderB (by (with_reducible repeat (first | apply Kd.N_alloc | apply Kd.N_drewN | apply Kd.N_drew)); exact HO_5.out) gb209 (Nat.le_of_eq hg.symm)) hb); have n1_ := Aside0.mk (Kd.V_below (Kd.V_elderB (by (with_reducible repeat (first | apply Kd.V_alloc | apply Kd.V_drewN | apply Kd.V_drew)); exact HO_12.out) gb209 (Nat.le_of_eq hg.symm)) hb); have n2_ := Aside0.mk (Kd.V_below (Kd.V_elderB (by (with_reducible repeat (first | apply Kd.V_alloc | apply Kd.V_drewN | apply Kd.V_drew)); exact HO_201002.out) gb209 (Nat.le_of_eq hg.symm)) hb); have n3_ := Aside0.mk (Kd.V_below (Kd.V_elderB (by (with_reducible repeat (first | apply Kd.V_alloc | apply Kd.V_drewN | apply Kd.V_drew)); exact HL208_2.out) gb209 (Nat.le_of_eq hg.symm)) hb); have n4_ := Aside0.mk (blk_below (g := gb200) (o := .cells #[.int .i64 a1_0, .int .i64 a1_1, .slice A1_2 l1_2.length c1_2] 33 (0, 0)) (by (with_reducible repeat (first | refine blk_drewN ?_ _ | refine blk_drew ?_ | refine blk_alloc ?_ _)); exact BK200.out) hb); (first | have n5_ := Aside0.mk (Kd.C_below (by repeat (first | (with_reducible exact HR208_2.out) | (with_reducible refine Kd.C_alloc ?_ _) | (with_reducible refine Kd.C_drewN ?_ _) | (with_reducible refine Kd.C_drew ?_) | exact HR208_2.out)) hb) | have n5_ := Aside0.mk True.intro); have n6_ := Aside0.mk (below_step (by repeat (first | (with_reducible first | exact HB.out | apply below_alloc | apply pw_below_drewN | apply below_drew1 | refine below_set ?_ GE200.out) | exact HB.out)) hb); have n7_ := Aside0.mk (hbox); have n8_ := Aside0.mk ((by rw [hg]; exact (below_size (by repeat (first | (with_reducible first | exact HB.out | apply below_alloc | apply pw_below_drewN | apply below_drew1 | refine below_set ?_ GE200.out) | exact HB.out))) : w.heap.size ≤ gb209)); have n9_ := Aside0.mk ((by rw [hg]; exact (below_size (by repeat (first | (with_reducible first | exact HB.out | apply below_alloc | apply pw_below_drewN | apply below_drew1 | refine below_set ?_ GE200.out) | exact HB.out))) : w.heap.size ≤ gb209)); have n10_ := Aside0.mk ((by rw [hg]; exact Nat.ne_of_lt (blk_lt (g := gb200) (o := .cells #[.int .i64 a1_0, .int .i64 a1_1, .slice A1_2 l1_2.length c1_2] 33 (0, 0)) (by (with_reducible repeat (first | refine blk_drewN ?_ _ | refine blk_drew ?_ | refine blk_alloc ?_ _)); exact BK200.out)) : gb200 ≠ gb209)); have n11_ := Aside0.mk ((by rw [hg]; exact Nat.ne_of_gt (blk_lt (g := gb200) (o := .cells #[.int .i64 a1_0, .int .i64 a1_1, .slice A1_2 l1_2.length c1_2] 33 (0, 0)) (by (with_reducible repeat (first | refine blk_drewN ?_ _ | refine blk_drew ?_ | refine blk_alloc ?_ _)); exact BK200.out)) : gb209 ≠ gb200)); clear HO_5; clear HO_12; clear HO_201002; clear HL208_2; clear BK200; clear HR208_2; clear HB; have HO_5 := n0_; have HO_12 := n1_; have HO_201002 := n2_; have HL208_2 := n3_; have BK200 := n4_; have HR208_2 := n5_; have HB := n6_; have BK209 := n7_; have GW209 := n8_; have GE209 := n9_; have NB200_209 := n10_; have NB209_200 := n11_; clear n0_ n1_ n2_ n3_ n4_ n5_ n6_ n7_ n8_ n9_ n10_ n11_; clear hb hbox hg; have hnb41 := NB209_200.out; have hnc41 := NB200_209.out; have hcz42_0 : w40.cell? ⟨gb209, 0, none⟩ = some (.int .i64 0) := (blk_cell BK209.out 0).trans rfl; have hcz42_1 : w40.cell? ⟨gb209, 1, none⟩ = some (.int .i64 0) := (blk_cell BK209.out 1).trans rfl; have hcz42_2 : w40.cell? ⟨gb209, 2, none⟩ = some (.slice none 0 0) := (blk_cell BK209.out 2).trans rfl; have hfz42_0 := blk_frozen BK209.out 0; have hfz42_1 := blk_frozen BK209.out 1; have hfz42_2 := blk_frozen BK209.out 2) | ((with_reducible refine gate_store (t := 33) (p := 8) rfl ?_); refine store_event (t := 33) (p := 8) (v := ?vo_w43) (w1 := (((w40.setCell ⟨gb209, 0, none⟩ (.int .i64 ((rd_T33 l0 x14_1).f0))).setCell ⟨gb209, 1, none⟩ (.int .i64 ((rd_T33 l0 x14_1).f1))).setCell ⟨gb209, 2, none⟩ (.slice A208_2 ((rd_T33 l0 x14_1).f2).length c208_2))) ?hg ?ho ?hn ?hr ?_; (case ho => rfl); (case hg => rfl); (case hn => rfl); (case hr => first | (go_simp; done) | (go_simp; rfl)); intro w43 hw; have n0_ : Aside0 (Kd.N k33 33 w43 w.heap.size (fun k_ => ((P0_ k_ ∨ P1_2_ k_) ∨ w.heap.size ≤ k_) ∧ k_ ≠ gb200 ∧ k_ ≠ gb209) u5 x5_1) := ⟨(by rw [hw]; exact (by (with_reducible repeat (first | apply Kd.N_alloc | apply Kd.N_drewN | apply Kd.N_drew)); exact Kd.N_mono (Kd.N_far (p := ⟨gb209, 2, none⟩) (Kd.N_far (p := ⟨gb209, 1, none⟩) (Kd.N_far (p := ⟨gb209, 0, none⟩) (Kd.N_mono HO_5.out (fun k_ hk => (⟨hk, hk.2⟩ : _ ∧ k_ ≠ gb209))) (fun _ hk => hk.2) (.int .i64 ((rd_T33 l0 x14_1).f0))) (fun _ hk => hk.2) (.int .i64 ((rd_T33 l0 x14_1).f1))) (fun _ hk => hk.2) (.slice A208_2 ((rd_T33 l0 x14_1).f2).length c208_2)) (fun _ hk => ⟨hk.1.1.1, ⟨hk.1.1.2, hk.1.2⟩⟩)))⟩; have n1_ : Aside0 (Kd.V k33 33 w43 w.heap.size (fun k_ => ((P0_ k_ ∨ P1_2_ k_) ∨ w.heap.size ≤ k_) ∧ some k_ ≠ (u5 : Value).ownBlock ∧ k_ ≠ gb200 ∧ k_ ≠ gb209) (.slice (some ad208) l0.length c0) l0) := ⟨(by rw [hw]; exact (by (with_reducible repeat (first | apply Kd.V_alloc | apply Kd.V_drewN | apply Kd.V_drew)); exact Kd.V_mono (Kd.V_far (p := ⟨gb209, 2, none⟩) (Kd.V_far (p := ⟨gb209, 1, none⟩) (Kd.V_far (p := ⟨gb209, 0, none⟩) (Kd.V_mono HO_12.out (fun k_ hk => (⟨hk, hk.2⟩ : _ ∧ k_ ≠ gb209))) (fun _ hk => hk.2) (.int .i64 ((rd_T33 l0 x14_1).f0))) (fun _ hk => hk.2) (.int .i64 ((rd_T33 l0 x14_1).f1))) (fun _ hk => hk.2) (.slice A208_2 ((rd_T33 l0 x14_1).f2).length c208_2)) (fun _ hk => ⟨hk.1.1.1, ⟨hk.1.1.2.1, ⟨hk.1.1.2.2, hk.1.2⟩⟩⟩)))⟩; have n2_ : Aside0 (Kd.V (Kd.int .i64) 3 w43 w.heap.size (fun k_ => ((P0_ k_ ∨ P1_2_ k_) ∨ w.heap.size ≤ k_) ∧ some k_ ≠ (u5 : Value).ownBlock ∧ k_ ≠ gb200 ∧ k_ ≠ gb209) (.slice A1_2 l1_2.length c1_2) l1_2) := ⟨(by rw [hw]; exact (by (with_reducible repeat (first | apply Kd.V_alloc | apply Kd.V_drewN | apply Kd.V_drew)); exact Kd.V_mono (Kd.V_far (p := ⟨gb209, 2, none⟩) (Kd.V_far (p := ⟨gb209, 1, none⟩) (Kd.V_far (p := ⟨gb209, 0, none⟩) (Kd.V_mono HO_201002.out (fun k_ hk => (⟨hk, hk.2⟩ : _ ∧ k_ ≠ gb209))) (fun _ hk => hk.2) (.int .i64 ((rd_T33 l0 x14_1).f0))) (fun _ hk => hk.2) (.int .i64 ((rd_T33 l0 x14_1).f1))) (fun _ hk => hk.2) (.slice A208_2 ((rd_T33 l0 x14_1).f2).length c208_2)) (fun _ hk => ⟨hk.1.1.1, ⟨hk.1.1.2.1, ⟨hk.1.1.2.2, hk.1.2⟩⟩⟩)))⟩; have n3_ : Aside0 (Kd.V (Kd.int .i64) 3 w43 w.heap.size (fun k_ => ((P0_ k_ ∨ P1_2_ k_) ∨ w.heap.size ≤ k_) ∧ some k_ ≠ (u5 : Value).ownBlock ∧ k_ ≠ gb200 ∧ k_ ≠ gb209) (.slice A208_2 ((rd_T33 l0 x14_1).f2).length c208_2) ((rd_T33 l0 x14_1).f2)) := ⟨(by rw [hw]; exact (by (with_reducible repeat (first | apply Kd.V_alloc | apply Kd.V_drewN | apply Kd.V_drew)); exact Kd.V_mono (Kd.V_far (p := ⟨gb209, 2, none⟩) (Kd.V_far (p := ⟨gb209, 1, none⟩) (Kd.V_far (p := ⟨gb209, 0, none⟩) (Kd.V_mono HL208_2.out (fun k_ hk => (⟨hk, hk.2⟩ : _ ∧ k_ ≠ gb209))) (fun _ hk => hk.2) (.int .i64 ((rd_T33 l0 x14_1).f0))) (fun _ hk => hk.2) (.int .i64 ((rd_T33 l0 x14_1).f1))) (fun _ hk => hk.2) (.slice A208_2 ((rd_T33 l0 x14_1).f2).length c208_2)) (fun _ hk => ⟨hk.1.1.1, ⟨hk.1.1.2.1, ⟨hk.1.1.2.2, hk.1.2⟩⟩⟩)))⟩; have n4_ : Aside0 (w43.heap[gb200]? = some (.cells #[.int .i64 a1_0, .int .i64 a1_1, .slice A1_2 l1_2.length c1_2] 33 (0, 0))) := ⟨(by rw [hw]; exact (by (with_reducible repeat (first | refine blk_drewN ?_ _ | refine blk_drew ?_ | refine blk_alloc ?_ _)); refine blk_far ?_ NB200_209.out _; (with_reducible repeat (first | refine blk_drewN ?_ _ | refine blk_drew ?_ | refine blk_alloc ?_ _)); refine blk_far ?_ NB200_209.out _; (with_reducible repeat (first | refine blk_drewN ?_ _ | refine blk_drew ?_ | refine blk_alloc ?_ _)); refine blk_far ?_ NB200_209.out _; (with_reducible repeat (first | refine blk_drewN ?_ _ | refine blk_drew ?_ | refine blk_alloc ?_ _)); exact BK200.out))⟩; have n5_ : Aside0 (w43.heap[gb209]? = some (.cells #[.int .i64 ((rd_T33 l0 x14_1).f0), .int .i64 ((rd_T33 l0 x14_1).f1), .slice A208_2 ((rd_T33 l0 x14_1).f2).length c208_2] 33 (0, 0))) := ⟨(by rw [hw]; exact (by (with_reducible repeat (first | refine blk_drewN ?_ _ | refine blk_drew ?_ | refine blk_alloc ?_ _)); refine blk_put (cs := #[.int .i64 ((rd_T33 l0 x14_1).f0), .int .i64 ((rd_T33 l0 x14_1).f1), .slice none 0 0]) ?_ 2 _ rfl; (with_reducible repeat (first | refine blk_drewN ?_ _ | refine blk_drew ?_ | refine blk_alloc ?_ _)); refine blk_put (cs := #[.int .i64 ((rd_T33 l0 x14_1).f0), .int .i64 0, .slice none 0 0]) ?_ 1 _ rfl; (with_reducible repeat (first | refine blk_drewN ?_ _ | refine blk_drew ?_ | refine blk_alloc ?_ _)); refine blk_put (cs := #[.int .i64 0, .int .i64 0, .slice none 0 0]) ?_ 0 _ rfl; (with_reducible repeat (first | refine blk_drewN ?_ _ | refine blk_drew ?_ | refine blk_alloc ?_ _)); exact BK209.out))⟩; have n6_ : Aside0 (Below w.heap.size w w43) := ⟨(by rw [hw]; exact (by repeat (first | (with_reducible first | exact HB.out | apply below_alloc | apply pw_below_drewN | apply below_drew1 | refine below_set ?_ GE200.out | refine below_set ?_ GE209.out) | exact HB.out)))⟩; clear hw; clear HO_5; clear HO_12; clear HO_201002; clear HL208_2; clear BK200; clear BK209; clear HB; have HO_5 := n0_; have HO_12 := n1_; have HO_201002 := n2_; have HL208_2 := n3_; have BK200 := n4_; have BK209 := n5_; have HB := n6_; clear n0_ n1_ n2_ n3_ n4_ n5_ n6_; have hcz44_0 : w43.cell? ⟨gb209, 0, none⟩ = some (.int .i64 ((rd_T33 l0 x14_1).f0)) := (blk_cell BK209.out 0).trans rfl; have hcz44_1 : w43.cell? ⟨gb209, 1, none⟩ = some (.int .i64 ((rd_T33 l0 x14_1).f1)) := (blk_cell BK209.out 1).trans rfl; have hcz44_2 : w43.cell? ⟨gb209, 2, none⟩ = some (.slice A208_2 ((rd_T33 l0 x14_1).f2).length c208_2) := (blk_cell BK209.out 2).trans rfl; have hfz44_0 := blk_frozen BK209.out 0; have hfz44_1 := blk_frozen BK209.out 1; have hfz44_2 := blk_frozen BK209.out 2; have hcz45_0 : w43.cell? ⟨gb200, 0, none⟩ = some (.int .i64 a1_0) := (blk_cell BK200.out 0).trans rfl; have hcz45_1 : w43.cell? ⟨gb200, 1, none⟩ = some (.int .i64 a1_1) := (blk_cell BK200.out 1).trans rfl; have hcz45_2 : w43.cell? ⟨gb200, 2, none⟩ = some (.slice A1_2 l1_2.length c1_2) := (blk_cell BK200.out 2).trans rfl; have hfz45_0 := blk_frozen BK200.out 0; have hfz45_1 := blk_frozen BK200.out 1; have hfz45_2 := blk_frozen BK200.out 2) | (go_at_call 54; (with_reducible refine (deadboltref09_less.calls a1_0 ((rd_T33 l0 x14_1).f0) false _ A26.out).mono ?_); rintro e w' ⟨rfl, ⟨nd, rfl⟩⟩) | ((with_reducible refine gate_builtin (b := .append) (xs := #[.tmp 36, .tmp 38]) rfl ?_); at_builtin; refine Kd.N_append k33 (w0 := w) w.heap.size rfl (.tmp 36) (.tmp 38) 22 33 (.agg #[(.int .i64 0), (.int .i64 0), (.slice none 0 0)]) 40 rfl Try.underlying22 info33 rfl (by decide) (by omega) u5 x5_1 (⟨(rd_T33 l0 x14_1).f0, (rd_T33 l0 x14_1).f1, (rd_T33 l0 x14_1).f2⟩ : S33) [.int .i64 ((rd_T33 l0 x14_1).f0), .int .i64 ((rd_T33 l0 x14_1).f1), .slice A208_2 ((rd_T33 l0 x14_1).f2).length c208_2] (fun k_ => ((P0_ k_ ∨ P1_2_ k_) ∨ w.heap.size ≤ k_) ∧ k_ ≠ gb200 ∧ k_ ≠ gb209) (fun k_ => ((fun k_ => ((P0_ k_ ∨ P1_2_ k_) ∨ w.heap.size ≤ k_) ∧ k_ ≠ gb200 ∧ k_ ≠ gb209)) k_ ∧ some k_ ≠ (u5 : Value).ownBlock) rfl rfl ?aP (fun _ hk => hk) ?aF ?aO ?aB ?aS ?aL ?_; (case aP => first | exact (k33_mkF _ _ (⟨(rd_T33 l0 x14_1).f0, (rd_T33 l0 x14_1).f1, (rd_T33 l0 x14_1).f2⟩ : S33) (Kd.V_reads' (Kd.V_mono (ok' := (fun k_ => ((fun k_ => ((P0_ k_ ∨ P1_2_ k_) ∨ w.heap.size ≤ k_) ∧ k_ ≠ gb200 ∧ k_ ≠ gb209)) k_ ∧ some k_ ≠ (u5 : Value).ownBlock)) (HL208_2.out) (fun k_ hk => ⟨⟨hk.1, ⟨hk.2.2.1, hk.2.2.2⟩⟩, hk.2.1⟩))).2.1 (Kd.V_F (Kd.V_mono (ok' := (fun k_ => ((fun k_ => ((P0_ k_ ∨ P1_2_ k_) ∨ w.heap.size ≤ k_) ∧ k_ ≠ gb200 ∧ k_ ≠ gb209)) k_ ∧ some k_ ≠ (u5 : Value).ownBlock)) (HL208_2.out) (fun k_ hk => ⟨⟨hk.1, ⟨hk.2.2.1, hk.2.2.2⟩⟩, hk.2.1⟩)))) | exact (k33_mkF _ _ (⟨(rd_T33 l0 x14_1).f0, (rd_T33 l0 x14_1).f1, (rd_T33 l0 x14_1).f2⟩ : S33) (Kd.V_reads' (Kd.V_mono (ok' := (fun k_ => ((fun k_ => ((P0_ k_ ∨ P1_2_ k_) ∨ w.heap.size ≤ k_) ∧ k_ ≠ gb200 ∧ k_ ≠ gb209)) k_ ∧ some k_ ≠ (u5 : Value).ownBlock)) (HL208_2.out) (fun k_ hk => ⟨⟨hk.1, ⟨hk.2.2.1, hk.2.2.2⟩⟩, hk.2.1⟩))).2.1 (Kd.V_F (Kd.V_mono (ok' := (fun k_ => ((fun k_ => ((P0_ k_ ∨ P1_2_ k_) ∨ w.heap.size ≤ k_) ∧ k_ ≠ gb200 ∧ k_ ≠ gb209)) k_ ∧ some k_ ≠ (u5 : Value).ownBlock)) (Kd.V_drewN HL208_2.out _) (fun k_ hk => ⟨⟨hk.1, ⟨hk.2.2.1, hk.2.2.2⟩⟩, hk.2.1⟩))))); (case aB => exact (by repeat (first | (with_reducible first | exact HB.out | apply below_alloc | apply pw_below_drewN | apply below_drew1 | refine below_set ?_ GE200.out | refine below_set ?_ GE209.out) | exact HB.out))); (case aF => exact (fun k_ hk => ⟨(.inr (Nat.le_trans (below_size (by repeat (first | (with_reducible first | exact HB.out | apply below_alloc | apply pw_below_drewN | apply below_drew1 | refine below_set ?_ GE200.out | refine below_set ?_ GE209.out) | exact HB.out))) hk)), Kd.freshB (g := gb200) (o := .cells #[.int .i64 a1_0, .int .i64 a1_1, .slice A1_2 l1_2.length c1_2] 33 (0, 0)) (by (with_reducible repeat (first | refine blk_drewN ?_ _ | refine blk_drew ?_ | refine blk_alloc ?_ _)); exact BK200.out) k_ hk, Kd.freshB (g := gb209) (o := .cells #[.int .i64 ((rd_T33 l0 x14_1).f0), .int .i64 ((rd_T33 l0 x14_1).f1), .slice A208_2 ((rd_T33 l0 x14_1).f2).length c208_2] 33 (0, 0)) (by (with_reducible repeat (first | refine blk_drewN ?_ _ | refine blk_drew ?_ | refine blk_alloc ?_ _)); exact BK209.out) k_ hk⟩)); (case aO => exact (by (with_reducible repeat (first | apply Kd.N_alloc | apply Kd.N_drewN | apply Kd.N_drew)); exact HO_5.out)); (case aS => exact (below_size (by repeat (first | (with_reducible first | exact HB.out | apply below_alloc | apply pw_below_drewN | apply below_drew1 | refine below_set ?_ GE200.out | refine below_set ?_ GE209.out) | exact HB.out)))); (case aL => have := LMc39.out; omega); intro v221 w46 ho hb hg hat; rw [← Ny220.out] at ho; have n0_ := Aside0.mk (Kd.V_afterv (ok := (fun k_ => ((P0_ k_ ∨ P1_2_ k_) ∨ w.heap.size ≤ k_) ∧ k_ ≠ gb200 ∧ k_ ≠ gb209)) (by (with_reducible repeat (first | apply Kd.V_alloc | apply Kd.V_drewN | apply Kd.V_drew)); exact Kd.V_mono HO_12.out (fun _ hk => ⟨⟨hk.1, ⟨hk.2.2.1, hk.2.2.2⟩⟩, hk.2.1⟩)) hg hat); have n1_ := Aside0.mk (Kd.V_afterv (ok := (fun k_ => ((P0_ k_ ∨ P1_2_ k_) ∨ w.heap.size ≤ k_) ∧ k_ ≠ gb200 ∧ k_ ≠ gb209)) (by (with_reducible repeat (first | apply Kd.V_alloc | apply Kd.V_drewN | apply Kd.V_drew)); exact Kd.V_mono HO_201002.out (fun _ hk => ⟨⟨hk.1, ⟨hk.2.2.1, hk.2.2.2⟩⟩, hk.2.1⟩)) hg hat); have n2_ := Aside0.mk (blk_grown (g := gb200) (o := .cells #[.int .i64 a1_0, .int .i64 a1_1, .slice A1_2 l1_2.length c1_2] 33 (0, 0)) (by (with_reducible repeat (first | refine blk_drewN ?_ _ | refine blk_drew ?_ | refine blk_alloc ?_ _)); exact BK200.out) hg (Kd.N_away HO_5.out (fun _ hk => hk.2.1))); have n3_ := Aside0.mk (Kd.V_afterv (ok := (fun k_ => ((P0_ k_ ∨ P1_2_ k_) ∨ w.heap.size ≤ k_) ∧ k_ ≠ gb200 ∧ k_ ≠ gb209)) (by (with_reducible repeat (first | apply Kd.V_alloc | apply Kd.V_drewN | apply Kd.V_drew)); exact Kd.V_mono HL208_2.out (fun _ hk => ⟨⟨hk.1, ⟨hk.2.2.1, hk.2.2.2⟩⟩, hk.2.1⟩)) hg hat); have n4_ := Aside0.mk (blk_grown (g := gb209) (o := .cells #[.int .i64 ((rd_T33 l0 x14_1).f0), .int .i64 ((rd_T33 l0 x14_1).f1), .slice A208_2 ((rd_T33 l0 x14_1).f2).length c208_2] 33 (0, 0)) (by (with_reducible repeat (first | refine blk_drewN ?_ _ | refine blk_drew ?_ | refine blk_alloc ?_ _)); exact BK209.out) hg (Kd.N_away HO_5.out (fun _ hk => hk.2.2))); have n5_ := Aside0.mk (hb); have n6_ := Aside0.mk (ho); clear HO_12; clear HO_201002; clear BK200; clear HL208_2; clear BK209; clear HB; clear HO_5; have HO_12 := n0_; have HO_201002 := n1_; have BK200 := n2_; have HL208_2 := n3_; have BK209 := n4_; have HB := n5_; have HO222 := n6_; clear n0_ n1_ n2_ n3_ n4_ n5_ n6_; clear ho hb hg hat))
          go_roundg k1
          case measure => have := HK1.out; omega
          case rel => exact ⟨(y220), (false), (wrap64 (x14_1 + 1)), (by first | rfl | (simp; done) | (simp [*]; done)), (by first | rfl | (simp; done) | (simp [*]; done)), H', ⟨by have := HK1.out; omega⟩, ⟨by (with_reducible repeat (first | apply Kd.N_alloc | apply Kd.N_drewN | apply Kd.N_drew)); exact Kd.N_mono HO222.out (fun _ hk => ⟨hk.1, hk.2.1⟩)⟩, ⟨by (with_reducible repeat (first | apply Kd.V_alloc | apply Kd.V_drewN | apply Kd.V_drew)); exact Kd.V_mono HO_12.out (fun _ hk => ⟨hk.1.1, ⟨hk.2, hk.1.2.1⟩⟩)⟩, ⟨by (with_reducible repeat (first | apply Kd.V_alloc | apply Kd.V_drewN | apply Kd.V_drew)); exact Kd.V_mono HO_201002.out (fun _ hk => ⟨hk.1.1, ⟨hk.2, hk.1.2.1⟩⟩)⟩, ⟨by (with_reducible repeat (first | refine blk_drewN ?_ _ | refine blk_drew ?_ | refine blk_alloc ?_ _)); exact BK200.out⟩, ⟨by repeat (first | (with_reducible first | exact HB.out | apply below_alloc | apply pw_below_drewN | apply below_drew1 | refine below_set ?_ GE200.out | refine below_set ?_ GE209.out) | exact HB.out)⟩⟩
         ·rw [if_neg c39] at H
          exact absurd H (by simp)
     ·rw [if_neg c11] at H
      exact absurd H (by simp)
    ·rw [if_neg c10] at H
     exact absurd H (by simp)
   ·rw [if_neg c9] at H
    have c9b0 : decide (x14_1 < (l0.length : Int)) = false := decide_eq_false c9
    clear c9
    by_cases c47 : x6_1 = true
    ·subst c47
     have H1 : (some x5_1) = some r := by rw [if_pos rfl] at H; exact H
     clear H
     have H := H1
     clear H1
     obtain rfl := Option.some.inj H
     go_wp2
     go_ret
     exact ⟨_, by first | rfl | (simp [errW_none, errW_some] <;> rfl) | (simp [*, errW_none, errW_some] <;> rfl), by (with_reducible repeat (first | apply Kd.N_alloc | apply Kd.N_drewN | apply Kd.N_drew)); exact Kd.N_mono HO_5.out (fun _ hk => hk.1), by repeat (first | (with_reducible first | exact HB.out | apply below_alloc | apply pw_below_drewN | apply below_drew1 | refine below_set ?_ GE200.out) | exact HB.out)⟩
    ·replace c47 := Bool.eq_false_iff.mpr c47
     subst c47
     have H1 : (if x5_1.length < 3518437208883 then (some (x5_1 ++ [(⟨a1_0, a1_1, l1_2⟩ : S33)])) else (none)) = some r := by rw [if_neg (show ¬ (false = true) by decide)] at H; exact H
     clear H
     have H := H1
     clear H1
     by_cases c48 : x5_1.length < 3518437208883
     ·rw [if_pos c48] at H
      have LMc48 := Aside0.mk c48
      clear c48
      obtain ⟨y205, hy205⟩ : ∃ y_ : List (S33), y_ = (x5_1 ++ [(⟨a1_0, a1_1, l1_2⟩ : S33)]) := ⟨_, rfl⟩
      replace H : (some y205) = some r := by first | (rw [hy205]; with_reducible exact H) | (have H2_ := (Option.bind_some _ _).symm.trans H; rw [hy205]; with_reducible exact H2_) | (have H2_ := (Option.bind_some _ _).symm.trans H; with_reducible exact H2_) | with_reducible exact H | (rw [hy205]; exact H) | exact H
      have Ny205 := Aside0.mk hy205
      clear hy205
      obtain rfl := Option.some.inj H
      have hcz49_0 : wr.cell? ⟨gb200, 0, none⟩ = some (.int .i64 a1_0) := (blk_cell BK200.out 0).trans rfl
      have hcz49_1 : wr.cell? ⟨gb200, 1, none⟩ = some (.int .i64 a1_1) := (blk_cell BK200.out 1).trans rfl
      have hcz49_2 : wr.cell? ⟨gb200, 2, none⟩ = some (.slice A1_2 l1_2.length c1_2) := (blk_cell BK200.out 2).trans rfl
      have hfz49_0 := blk_frozen BK200.out 0
      have hfz49_1 := blk_frozen BK200.out 1
      have hfz49_2 := blk_frozen BK200.out 2
      go_wp2_with (first | ((with_reducible refine gate_builtin (b := .append) (xs := #[.tmp 43, .tmp 45]) rfl ?_); at_builtin; refine Kd.N_append k33 (w0 := w) w.heap.size rfl (.tmp 43) (.tmp 45) 22 33 (.agg #[(.int .i64 0), (.int .i64 0), (.slice none 0 0)]) 40 rfl Try.underlying22 info33 rfl (by decide) (by omega) u5 x5_1 (⟨a1_0, a1_1, l1_2⟩ : S33) [.int .i64 a1_0, .int .i64 a1_1, .slice A1_2 l1_2.length c1_2] (fun k_ => ((P0_ k_ ∨ P1_2_ k_) ∨ w.heap.size ≤ k_) ∧ k_ ≠ gb200) (fun k_ => ((fun k_ => ((P0_ k_ ∨ P1_2_ k_) ∨ w.heap.size ≤ k_) ∧ k_ ≠ gb200)) k_ ∧ some k_ ≠ (u5 : Value).ownBlock) rfl rfl ?aP (fun _ hk => hk) ?aF ?aO ?aB ?aS ?aL ?_; (case aP => first | exact (k33_mkF _ _ (⟨a1_0, a1_1, l1_2⟩ : S33) (Kd.V_reads' (Kd.V_mono (ok' := (fun k_ => ((fun k_ => ((P0_ k_ ∨ P1_2_ k_) ∨ w.heap.size ≤ k_) ∧ k_ ≠ gb200)) k_ ∧ some k_ ≠ (u5 : Value).ownBlock)) (HO_201002.out) (fun k_ hk => ⟨⟨hk.1, hk.2.2⟩, hk.2.1⟩))).2.1 (Kd.V_F (Kd.V_mono (ok' := (fun k_ => ((fun k_ => ((P0_ k_ ∨ P1_2_ k_) ∨ w.heap.size ≤ k_) ∧ k_ ≠ gb200)) k_ ∧ some k_ ≠ (u5 : Value).ownBlock)) (HO_201002.out) (fun k_ hk => ⟨⟨hk.1, hk.2.2⟩, hk.2.1⟩)))) | exact (k33_mkF _ _ (⟨a1_0, a1_1, l1_2⟩ : S33) (Kd.V_reads' (Kd.V_mono (ok' := (fun k_ => ((fun k_ => ((P0_ k_ ∨ P1_2_ k_) ∨ w.heap.size ≤ k_) ∧ k_ ≠ gb200)) k_ ∧ some k_ ≠ (u5 : Value).ownBlock)) (HO_201002.out) (fun k_ hk => ⟨⟨hk.1, hk.2.2⟩, hk.2.1⟩))).2.1 (Kd.V_F (Kd.V_mono (ok' := (fun k_ => ((fun k_ => ((P0_ k_ ∨ P1_2_ k_) ∨ w.heap.size ≤ k_) ∧ k_ ≠ gb200)) k_ ∧ some k_ ≠ (u5 : Value).ownBlock)) (Kd.V_drewN HO_201002.out _) (fun k_ hk => ⟨⟨hk.1, hk.2.2⟩, hk.2.1⟩))))); (case aB => exact (by repeat (first | (with_reducible first | exact HB.out | apply below_alloc | apply pw_below_drewN | apply below_drew1 | refine below_set ?_ GE200.out) | exact HB.out))); (case aF => exact (fun k_ hk => ⟨(.inr (Nat.le_trans (below_size (by repeat (first | (with_reducible first | exact HB.out | apply below_alloc | apply pw_below_drewN | apply below_drew1 | refine below_set ?_ GE200.out) | exact HB.out))) hk)), Kd.freshB (g := gb200) (o := .cells #[.int .i64 a1_0, .int .i64 a1_1, .slice A1_2 l1_2.length c1_2] 33 (0, 0)) (by (with_reducible repeat (first | refine blk_drewN ?_ _ | refine blk_drew ?_ | refine blk_alloc ?_ _)); exact BK200.out) k_ hk⟩)); (case aO => exact (by (with_reducible repeat (first | apply Kd.N_alloc | apply Kd.N_drewN | apply Kd.N_drew)); exact HO_5.out)); (case aS => exact (below_size (by repeat (first | (with_reducible first | exact HB.out | apply below_alloc | apply pw_below_drewN | apply below_drew1 | refine below_set ?_ GE200.out) | exact HB.out)))); (case aL => have := LMc48.out; omega); intro v206 w50 ho hb hg hat; rw [← Ny205.out] at ho; have n0_ := Aside0.mk (Kd.V_afterv (ok := (fun k_ => ((P0_ k_ ∨ P1_2_ k_) ∨ w.heap.size ≤ k_) ∧ k_ ≠ gb200)) (by (with_reducible repeat (first | apply Kd.V_alloc | apply Kd.V_drewN | apply Kd.V_drew)); exact Kd.V_mono HO_12.out (fun _ hk => ⟨⟨hk.1, hk.2.2⟩, hk.2.1⟩)) hg hat); have n1_ := Aside0.mk (Kd.V_afterv (ok := (fun k_ => ((P0_ k_ ∨ P1_2_ k_) ∨ w.heap.size ≤ k_) ∧ k_ ≠ gb200)) (by (with_reducible repeat (first | apply Kd.V_alloc | apply Kd.V_drewN | apply Kd.V_drew)); exact Kd.V_mono HO_201002.out (fun _ hk => ⟨⟨hk.1, hk.2.2⟩, hk.2.1⟩)) hg hat); have n2_ := Aside0.mk (blk_grown (g := gb200) (o := .cells #[.int .i64 a1_0, .int .i64 a1_1, .slice A1_2 l1_2.length c1_2] 33 (0, 0)) (by (with_reducible repeat (first | refine blk_drewN ?_ _ | refine blk_drew ?_ | refine blk_alloc ?_ _)); exact BK200.out) hg (Kd.N_away HO_5.out (fun _ hk => hk.2))); have n3_ := Aside0.mk (hb); have n4_ := Aside0.mk (ho); clear HO_12; clear HO_201002; clear BK200; clear HB; clear HO_5; have HO_12 := n0_; have HO_201002 := n1_; have BK200 := n2_; have HB := n3_; have HO207 := n4_; clear n0_ n1_ n2_ n3_ n4_; clear ho hb hg hat))
      go_ret
      exact ⟨_, by first | rfl | (simp [errW_none, errW_some] <;> rfl) | (simp [*, errW_none, errW_some] <;> rfl), by (with_reducible repeat (first | apply Kd.N_alloc | apply Kd.N_drewN | apply Kd.N_drew)); exact Kd.N_mono HO207.out (fun _ hk => hk.1), by repeat (first | (with_reducible first | exact HB.out | apply below_alloc | apply pw_below_drewN | apply below_drew1 | refine below_set ?_ GE200.out) | exact HB.out)⟩
     ·rw [if_neg c48] at H
      exact absurd H (by simp)

end Go.Proofs.Ytnjnjajgpkmfhaa.PX

namespace Go.Proofs.Ytnjnjajgpkmfhaa.PX
open Go.RowKit Go.Proofs.YtnjnjajgpkmfhaaW.PrintWords Go.Proofs.YtnjnjajgpkmfhaaW.PrintLast Go.Proofs.YtnjnjajgpkmfhaaW.PrintMore
attribute [local go_sem] max2_int min2_int max_two min_two max_three min_three max_four min_four   -- for this text's walks alone
set_option linter.unusedVariables false
set_option linter.unusedSimpArgs false

/-! ### deadboltref07_Same: function 23 -/
def deadboltref07_Same.l0 : Nat → List Int → List Int → Int → Int → Option (Bool)
 | 0, _, _, _, _ => none
 | k + 1, x0, x1, x12, x13 => if x13 < x12 then (if 0 ≤ x13 then (if x13 < (x0.length : Int) then (if x13 < (x1.length : Int) then (if (rd x0 x13) = (rd x1 x13) then (deadboltref07_Same.l0 k x0 x1 x12 (wrap64 (x13 + 1))) else (some false)) else (none)) else (none)) else (none)) else (some true)
def deadboltref07_Same.f (k : Nat) (l0 : List Int) (l1 : List Int) : Option (Bool) := if (l0.length : Int) = (l1.length : Int) then (deadboltref07_Same.l0 k l0 l1 (l0.length : Int) 0) else (some false)
set_option maxHeartbeats 8000000 in
set_option maxRecDepth 100000 in
theorem deadboltref07_Same.calls (k : Nat) (A0 : Option Addr) (c0 : Nat) (l0 : List Int) (A1 : Option Addr) (c1 : Nat) (l1 : List Int) (r : Bool) (w : World) (hr0 : Kd.C (Kd.int .i64) w A0 l0.length l0) (hc0 : l0.length ≤ c0) (hr1 : Kd.C (Kd.int .i64) w A1 l1.length l1) (hc1 : l1.length ≤ c1) (h : deadboltref07_Same.f k l0 l1 = some r) :
  Calls Try.prog 23 #[.slice A0 l0.length c0, .slice A1 l1.length c1] w fun e w' => e = .returned (.bool r) ∧ Drawn0 w w' := by
 have HR0 := Aside0.mk hr0
 have HC0 := Aside0.mk hc0
 clear hr0 hc0
 have HR1 := Aside0.mk hr1
 have HC1 := Aside0.mk hc1
 clear hr1 hc1
 have H : (if (l0.length : Int) = (l1.length : Int) then (deadboltref07_Same.l0 k l0 l1 (l0.length : Int) 0) else (some false)) = some r := h
 clear h
 by_cases c3 : (l0.length : Int) = (l1.length : Int)
 ·rw [if_pos c3] at H
  have c3b0 : ((l0.length : Int) == (l1.length : Int)) = true := beq_iff_eq.mpr c3
  have c3b1 : ((l0.length : Int) != (l1.length : Int)) = false := bne_eq_false_iff_eq.mpr c3
  have c3b2 : (l0.length == l1.length) = true := by first | simpa using c3 | (simp at c3 ⊢; omega)
  clear c3
  have H' := Aside0.mk H
  clear H
  go_enter Try.func23, Try.ntmps23
  go_wp2
  repeat (go_quiet (fail); try go_wp2)
  go_loopg [13] k (fun kq v13 w' => ∃ (x13_1 : Int), v13 = .int .i64 x13_1 ∧ Aside0 (deadboltref07_Same.l0 kq l0 l1 (l0.length : Int) x13_1 = some r) ∧ Aside0 (kq ≤ k) ∧ Drawn0 w w')
  case atStart => exact ⟨(0), (by first | rfl | (simp; done) | (simp [*]; done)), H', ⟨Nat.le_refl _⟩, by repeat (first | exact Drawn0.refl _ | apply Drawn0.step)⟩
  case round =>
   clear H'
   try clear c1
   try clear c2
   try clear p2
   try clear c3
   try clear c3b0
   try clear c3b1
   try clear c3b2
   obtain ⟨x13_1, rfl, HA, HK1, ⟨m1, rfl⟩⟩ := hrel
   cases gk with
   | zero => exact absurd HA.out (by simp [deadboltref07_Same.l0])
   | succ k1 =>
    have H := HA.out
    clear HA
    simp only [deadboltref07_Same.l0] at H
    by_cases c4 : x13_1 < (l0.length : Int)
    ·rw [if_pos c4] at H
     have c4b0 : decide (x13_1 < (l0.length : Int)) = true := decide_eq_true c4
     clear c4
     by_cases c5 : 0 ≤ x13_1
     ·rw [if_pos c5] at H
      have c5b0 : decide (0 ≤ x13_1) = true := decide_eq_true c5
      clear c5
      by_cases c6 : x13_1 < (l0.length : Int)
      ·rw [if_pos c6] at H
       have c6b0 : decide (x13_1 < (l0.length : Int)) = true := decide_eq_true c6
       clear c6
       by_cases c7 : x13_1 < (l1.length : Int)
       ·rw [if_pos c7] at H
        have c7b0 : decide (x13_1 < (l1.length : Int)) = true := decide_eq_true c7
        clear c7
        by_cases c8 : (rd l0 x13_1) = (rd l1 x13_1)
        ·rw [if_pos c8] at H
         have c8b0 : ((rd l0 x13_1) == (rd l1 x13_1)) = true := beq_iff_eq.mpr c8
         have c8b1 : ((rd l0 x13_1) != (rd l1 x13_1)) = false := bne_eq_false_iff_eq.mpr c8
         clear c8
         have H' := Aside0.mk H
         clear H
         have p183 : 0 ≤ (x13_1 : Int) := of_decide_eq_true (by first | (with_reducible assumption) | assumption)
         have q183 : x13_1 < (l0.length : Int) := of_decide_eq_true (by first | (with_reducible assumption) | assumption)
         obtain ⟨ad183, e183, hx183_0⟩ := Kd.at_int HR0.out x13_1 p183 q183
         cases e183
         replace p183 := eq_true p183
         replace q183 := eq_true q183
         have p184 : 0 ≤ (x13_1 : Int) := of_decide_eq_true (by first | (with_reducible assumption) | assumption)
         have q184 : x13_1 < (l1.length : Int) := of_decide_eq_true (by first | (with_reducible assumption) | assumption)
         obtain ⟨ad184, e184, hx184_0⟩ := Kd.at_int HR1.out x13_1 p184 q184
         cases e184
         replace p184 := eq_true p184
         replace q184 := eq_true q184
         go_wp2
         repeat (go_quiet (fail); try go_wp2)
         go_roundg k1
         case measure => have := HK1.out; omega
         case rel => exact ⟨(wrap64 (x13_1 + 1)), (by first | rfl | (simp; done) | (simp [*]; done)), H', ⟨by have := HK1.out; omega⟩, by repeat (first | exact Drawn0.refl _ | apply Drawn0.step)⟩
        ·rw [if_neg c8] at H
         have c8b0 : ((rd l0 x13_1) == (rd l1 x13_1)) = false := beq_eq_false_iff_ne.mpr c8
         have c8b1 : ((rd l0 x13_1) != (rd l1 x13_1)) = true := bne_iff_ne.mpr c8
         obtain rfl := Option.some.inj H
         have p183 : 0 ≤ (x13_1 : Int) := of_decide_eq_true (by first | (with_reducible assumption) | assumption)
         have q183 : x13_1 < (l0.length : Int) := of_decide_eq_true (by first | (with_reducible assumption) | assumption)
         obtain ⟨ad183, e183, hx183_0⟩ := Kd.at_int HR0.out x13_1 p183 q183
         cases e183
         replace p183 := eq_true p183
         replace q183 := eq_true q183
         have p184 : 0 ≤ (x13_1 : Int) := of_decide_eq_true (by first | (with_reducible assumption) | assumption)
         have q184 : x13_1 < (l1.length : Int) := of_decide_eq_true (by first | (with_reducible assumption) | assumption)
         obtain ⟨ad184, e184, hx184_0⟩ := Kd.at_int HR1.out x13_1 p184 q184
         cases e184
         replace p184 := eq_true p184
         replace q184 := eq_true q184
         go_wp2
         repeat (go_quiet (fail); try go_wp2)
         go_ret
         exact ⟨by first | rfl | (simp; done) | (simp [*]; done), by repeat (first | exact Drawn0.refl _ | apply Drawn0.step)⟩
       ·rw [if_neg c7] at H
        exact absurd H (by simp)
      ·rw [if_neg c6] at H
       exact absurd H (by simp)
     ·rw [if_neg c5] at H
      exact absurd H (by simp)
    ·rw [if_neg c4] at H
     have c4b0 : decide (x13_1 < (l0.length : Int)) = false := decide_eq_false c4
     clear c4
     obtain rfl := Option.some.inj H
     go_wp2
     repeat (go_quiet (fail); try go_wp2)
     go_ret
     exact ⟨by first | rfl | (simp; done) | (simp [*]; done), by repeat (first | exact Drawn0.refl _ | apply Drawn0.step)⟩
 ·rw [if_neg c3] at H
  have c3b0 : ((l0.length : Int) == (l1.length : Int)) = false := beq_eq_false_iff_ne.mpr c3
  have c3b1 : ((l0.length : Int) != (l1.length : Int)) = true := bne_iff_ne.mpr c3
  have c3b2 : (l0.length == l1.length) = false := by first | simpa using c3 | (simp at c3 ⊢; omega)
  obtain rfl := Option.some.inj H
  go_enter Try.func23, Try.ntmps23
  go_wp2
  repeat (go_quiet (fail); try go_wp2)
  go_ret
  exact ⟨by first | rfl | (simp; done) | (simp [*]; done), by repeat (first | exact Drawn0.refl _ | apply Drawn0.step)⟩

end Go.Proofs.Ytnjnjajgpkmfhaa.PX

namespace Go.Proofs.Ytnjnjajgpkmfhaa.PX
open Go.RowKit Go.Proofs.YtnjnjajgpkmfhaaW.PrintWords Go.Proofs.YtnjnjajgpkmfhaaW.PrintLast Go.Proofs.YtnjnjajgpkmfhaaW.PrintMore
attribute [local go_sem] max2_int min2_int max_two min_two max_three min_three max_four min_four   -- for this text's walks alone
set_option linter.unusedVariables false
set_option linter.unusedSimpArgs false

/-! ### deadboltref09_Spots: function 21 -/
def deadboltref09_Spots.f (k : Nat) (a0_0 : Int) (a0_1 : Int) (l0_2 : List Int) (a1_0 : Int) (a1_1 : Int) (l1_2 : List Int) : Option (Bool) := if a0_0 = a1_0 then (if a0_1 = a1_1 then ((deadboltref07_Same.f k l0_2 l1_2).bind fun t187 => (some t187)) else (some false)) else (some false)
set_option maxHeartbeats 8000000 in
set_option maxRecDepth 100000 in
theorem deadboltref09_Spots.calls (k : Nat) (a0_0 : Int) (a0_1 : Int) (A0_2 : Option Addr) (c0_2 : Nat) (l0_2 : List Int) (a1_0 : Int) (a1_1 : Int) (A1_2 : Option Addr) (c1_2 : Nat) (l1_2 : List Int) (r : Bool) (w : World) (hr0_2 : Kd.C (Kd.int .i64) w A0_2 l0_2.length l0_2) (hc0_2 : l0_2.length ≤ c0_2) (hr1_2 : Kd.C (Kd.int .i64) w A1_2 l1_2.length l1_2) (hc1_2 : l1_2.length ≤ c1_2) (h : deadboltref09_Spots.f k a0_0 a0_1 l0_2 a1_0 a1_1 l1_2 = some r) :
  Calls Try.prog 21 #[.agg #[.int .i64 a0_0, .int .i64 a0_1, .slice A0_2 l0_2.length c0_2], .agg #[.int .i64 a1_0, .int .i64 a1_1, .slice A1_2 l1_2.length c1_2]] w fun e w' => e = .returned (.bool r) ∧ Below w.heap.size w w' := by
 have hu33 := Try.underlying33
 have HR0_2 := Aside0.mk hr0_2
 have HC0_2 := Aside0.mk hc0_2
 clear hr0_2 hc0_2
 have HR1_2 := Aside0.mk hr1_2
 have HC1_2 := Aside0.mk hc1_2
 clear hr1_2 hc1_2
 have HB := Aside0.mk (Below.refl w.heap.size w)
 have H : (if a0_0 = a1_0 then (if a0_1 = a1_1 then ((deadboltref07_Same.f k l0_2 l1_2).bind fun t187 => (some t187)) else (some false)) else (some false)) = some r := h
 clear h
 by_cases c3 : a0_0 = a1_0
 ·rw [if_pos c3] at H
  have c3b0 : (a0_0 == a1_0) = true := beq_iff_eq.mpr c3
  have c3b1 : (a0_0 != a1_0) = false := bne_eq_false_iff_eq.mpr c3
  clear c3
  by_cases c4 : a0_1 = a1_1
  ·rw [if_pos c4] at H
   have c4b0 : (a0_1 == a1_1) = true := beq_iff_eq.mpr c4
   have c4b1 : (a0_1 != a1_1) = false := bne_eq_false_iff_eq.mpr c4
   clear c4
   replace H := Option.bind_eq_some_iff.mp H
   obtain ⟨t187, A50, H⟩ := H
   replace H : (some t187) = some r := H
   have A5 := Aside0.mk A50
   clear A50
   obtain rfl := Option.some.inj H
   go_enter Try.func21, Try.ntmps21
   go_wp2_with (first | ((with_reducible refine gate_dst (N := 2) rfl ?_); refine box_event ?hg (N := 2) ?hd (cs := #[.int .i64 a0_0, .int .i64 a0_1, .slice A0_2 l0_2.length c0_2]) (t := 33) ?hr ?_; (case hd => rfl); (case hg => rfl); (case hr => first | (go_simp; done) | (go_simp; rfl)); intro gb185 hg w6 hbox hb; have n0_ := Aside0.mk (below_step (by repeat (first | (with_reducible first | exact HB.out | apply below_alloc | apply pw_below_drewN | apply below_drew1) | exact HB.out)) hb); have n1_ := Aside0.mk (hbox); have n2_ := Aside0.mk ((by rw [hg]; exact (below_size (by repeat (first | (with_reducible first | exact HB.out | apply below_alloc | apply pw_below_drewN | apply below_drew1) | exact HB.out))) : w.heap.size ≤ gb185)); have n3_ := Aside0.mk ((by rw [hg]; exact (below_size (by repeat (first | (with_reducible first | exact HB.out | apply below_alloc | apply pw_below_drewN | apply below_drew1) | exact HB.out))) : w.heap.size ≤ gb185)); clear HB; have HB := n0_; have BK185 := n1_; have GW185 := n2_; have GE185 := n3_; clear n0_ n1_ n2_ n3_; clear hb hbox hg) | ((with_reducible refine gate_dst (N := 3) rfl ?_); refine box_event ?hg (N := 3) ?hd (cs := #[.int .i64 a1_0, .int .i64 a1_1, .slice A1_2 l1_2.length c1_2]) (t := 33) ?hr ?_; (case hd => rfl); (case hg => rfl); (case hr => first | (go_simp; done) | (go_simp; rfl)); intro gb186 hg w7 hbox hb; have n0_ := Aside0.mk (blk_below (g := gb185) (o := .cells #[.int .i64 a0_0, .int .i64 a0_1, .slice A0_2 l0_2.length c0_2] 33 (0, 0)) (by (with_reducible repeat (first | refine blk_drewN ?_ _ | refine blk_drew ?_ | refine blk_alloc ?_ _)); exact BK185.out) hb); have n1_ := Aside0.mk (below_step (by repeat (first | (with_reducible first | exact HB.out | apply below_alloc | apply pw_below_drewN | apply below_drew1 | refine below_set ?_ GE185.out) | exact HB.out)) hb); have n2_ := Aside0.mk (hbox); have n3_ := Aside0.mk ((by rw [hg]; exact (below_size (by repeat (first | (with_reducible first | exact HB.out | apply below_alloc | apply pw_below_drewN | apply below_drew1 | refine below_set ?_ GE185.out) | exact HB.out))) : w.heap.size ≤ gb186)); have n4_ := Aside0.mk ((by rw [hg]; exact (below_size (by repeat (first | (with_reducible first | exact HB.out | apply below_alloc | apply pw_below_drewN | apply below_drew1 | refine below_set ?_ GE185.out) | exact HB.out))) : w.heap.size ≤ gb186)); have n5_ := Aside0.mk ((by rw [hg]; exact Nat.ne_of_lt (blk_lt (g := gb185) (o := .cells #[.int .i64 a0_0, .int .i64 a0_1, .slice A0_2 l0_2.length c0_2] 33 (0, 0)) (by (with_reducible repeat (first | refine blk_drewN ?_ _ | refine blk_drew ?_ | refine blk_alloc ?_ _)); exact BK185.out)) : gb185 ≠ gb186)); have n6_ := Aside0.mk ((by rw [hg]; exact Nat.ne_of_gt (blk_lt (g := gb185) (o := .cells #[.int .i64 a0_0, .int .i64 a0_1, .slice A0_2 l0_2.length c0_2] 33 (0, 0)) (by (with_reducible repeat (first | refine blk_drewN ?_ _ | refine blk_drew ?_ | refine blk_alloc ?_ _)); exact BK185.out)) : gb186 ≠ gb185)); clear BK185; clear HB; have BK185 := n0_; have HB := n1_; have BK186 := n2_; have GW186 := n3_; have GE186 := n4_; have NB185_186 := n5_; have NB186_185 := n6_; clear n0_ n1_ n2_ n3_ n4_ n5_ n6_; clear hb hbox hg; have hnb8 := NB185_186.out; have hnc8 := NB186_185.out; have hcz9_0 : w7.cell? ⟨gb185, 0, none⟩ = some (.int .i64 a0_0) := (blk_cell BK185.out 0).trans rfl; have hcz9_1 : w7.cell? ⟨gb185, 1, none⟩ = some (.int .i64 a0_1) := (blk_cell BK185.out 1).trans rfl; have hcz9_2 : w7.cell? ⟨gb185, 2, none⟩ = some (.slice A0_2 l0_2.length c0_2) := (blk_cell BK185.out 2).trans rfl; have hfz9_0 := blk_frozen BK185.out 0; have hfz9_1 := blk_frozen BK185.out 1; have hfz9_2 := blk_frozen BK185.out 2; have hcz10_0 : w7.cell? ⟨gb186, 0, none⟩ = some (.int .i64 a1_0) := (blk_cell BK186.out 0).trans rfl; have hcz10_1 : w7.cell? ⟨gb186, 1, none⟩ = some (.int .i64 a1_1) := (blk_cell BK186.out 1).trans rfl; have hcz10_2 : w7.cell? ⟨gb186, 2, none⟩ = some (.slice A1_2 l1_2.length c1_2) := (blk_cell BK186.out 2).trans rfl; have hfz10_0 := blk_frozen BK186.out 0; have hfz10_1 := blk_frozen BK186.out 1; have hfz10_2 := blk_frozen BK186.out 2) | (go_at_call 23; (with_reducible refine (deadboltref07_Same.calls k _ _ l0_2 _ _ l1_2 t187 _ ?side1 ?side2 ?side3 ?side4 A5.out).mono ?_); (case side1 => repeat (first | exact (Kd.C_below HR0_2.out HB.out) | (with_reducible refine Kd.C_alloc ?_ _) | (with_reducible refine Kd.C_drewN ?_ _) | (with_reducible refine Kd.C_drew ?_))); (case side2 => exact HC0_2.out); (case side3 => repeat (first | exact (Kd.C_below HR1_2.out HB.out) | (with_reducible refine Kd.C_alloc ?_ _) | (with_reducible refine Kd.C_drewN ?_ _) | (with_reducible refine Kd.C_drew ?_))); (case side4 => exact HC1_2.out); rintro e w' ⟨rfl, ⟨nd, rfl⟩⟩))
   go_ret
   exact ⟨by first | rfl | (simp [errW_none, errW_some] <;> rfl) | (simp [*, errW_none, errW_some] <;> rfl), by repeat (first | (with_reducible first | exact HB.out | apply below_alloc | apply pw_below_drewN | apply below_drew1 | refine below_set ?_ GE185.out | refine below_set ?_ GE186.out) | exact HB.out)⟩
  ·rw [if_neg c4] at H
   have c4b0 : (a0_1 == a1_1) = false := beq_eq_false_iff_ne.mpr c4
   have c4b1 : (a0_1 != a1_1) = true := bne_iff_ne.mpr c4
   obtain rfl := Option.some.inj H
   go_enter Try.func21, Try.ntmps21
   go_wp2_with (first | ((with_reducible refine gate_dst (N := 2) rfl ?_); refine box_event ?hg (N := 2) ?hd (cs := #[.int .i64 a0_0, .int .i64 a0_1, .slice A0_2 l0_2.length c0_2]) (t := 33) ?hr ?_; (case hd => rfl); (case hg => rfl); (case hr => first | (go_simp; done) | (go_simp; rfl)); intro gb185 hg w11 hbox hb; have n0_ := Aside0.mk (below_step (by repeat (first | (with_reducible first | exact HB.out | apply below_alloc | apply pw_below_drewN | apply below_drew1) | exact HB.out)) hb); have n1_ := Aside0.mk (hbox); have n2_ := Aside0.mk ((by rw [hg]; exact (below_size (by repeat (first | (with_reducible first | exact HB.out | apply below_alloc | apply pw_below_drewN | apply below_drew1) | exact HB.out))) : w.heap.size ≤ gb185)); have n3_ := Aside0.mk ((by rw [hg]; exact (below_size (by repeat (first | (with_reducible first | exact HB.out | apply below_alloc | apply pw_below_drewN | apply below_drew1) | exact HB.out))) : w.heap.size ≤ gb185)); clear HB; have HB := n0_; have BK185 := n1_; have GW185 := n2_; have GE185 := n3_; clear n0_ n1_ n2_ n3_; clear hb hbox hg) | ((with_reducible refine gate_dst (N := 3) rfl ?_); refine box_event ?hg (N := 3) ?hd (cs := #[.int .i64 a1_0, .int .i64 a1_1, .slice A1_2 l1_2.length c1_2]) (t := 33) ?hr ?_; (case hd => rfl); (case hg => rfl); (case hr => first | (go_simp; done) | (go_simp; rfl)); intro gb186 hg w12 hbox hb; have n0_ := Aside0.mk (blk_below (g := gb185) (o := .cells #[.int .i64 a0_0, .int .i64 a0_1, .slice A0_2 l0_2.length c0_2] 33 (0, 0)) (by (with_reducible repeat (first | refine blk_drewN ?_ _ | refine blk_drew ?_ | refine blk_alloc ?_ _)); exact BK185.out) hb); have n1_ := Aside0.mk (below_step (by repeat (first | (with_reducible first | exact HB.out | apply below_alloc | apply pw_below_drewN | apply below_drew1 | refine below_set ?_ GE185.out) | exact HB.out)) hb); have n2_ := Aside0.mk (hbox); have n3_ := Aside0.mk ((by rw [hg]; exact (below_size (by repeat (first | (with_reducible first | exact HB.out | apply below_alloc | apply pw_below_drewN | apply below_drew1 | refine below_set ?_ GE185.out) | exact HB.out))) : w.heap.size ≤ gb186)); have n4_ := Aside0.mk ((by rw [hg]; exact (below_size (by repeat (first | (with_reducible first | exact HB.out | apply below_alloc | apply pw_below_drewN | apply below_drew1 | refine below_set ?_ GE185.out) | exact HB.out))) : w.heap.size ≤ gb186)); have n5_ := Aside0.mk ((by rw [hg]; exact Nat.ne_of_lt (blk_lt (g := gb185) (o := .cells #[.int .i64 a0_0, .int .i64 a0_1, .slice A0_2 l0_2.length c0_2] 33 (0, 0)) (by (with_reducible repeat (first | refine blk_drewN ?_ _ | refine blk_drew ?_ | refine blk_alloc ?_ _)); exact BK185.out)) : gb185 ≠ gb186)); have n6_ := Aside0.mk ((by rw [hg]; exact Nat.ne_of_gt (blk_lt (g := gb185) (o := .cells #[.int .i64 a0_0, .int .i64 a0_1, .slice A0_2 l0_2.length c0_2] 33 (0, 0)) (by (with_reducible repeat (first | refine blk_drewN ?_ _ | refine blk_drew ?_ | refine blk_alloc ?_ _)); exact BK185.out)) : gb186 ≠ gb185)); clear BK185; clear HB; have BK185 := n0_; have HB := n1_; have BK186 := n2_; have GW186 := n3_; have GE186 := n4_; have NB185_186 := n5_; have NB186_185 := n6_; clear n0_ n1_ n2_ n3_ n4_ n5_ n6_; clear hb hbox hg; have hnb13 := NB185_186.out; have hnc13 := NB186_185.out; have hcz14_0 : w12.cell? ⟨gb185, 0, none⟩ = some (.int .i64 a0_0) := (blk_cell BK185.out 0).trans rfl; have hcz14_1 : w12.cell? ⟨gb185, 1, none⟩ = some (.int .i64 a0_1) := (blk_cell BK185.out 1).trans rfl; have hcz14_2 : w12.cell? ⟨gb185, 2, none⟩ = some (.slice A0_2 l0_2.length c0_2) := (blk_cell BK185.out 2).trans rfl; have hfz14_0 := blk_frozen BK185.out 0; have hfz14_1 := blk_frozen BK185.out 1; have hfz14_2 := blk_frozen BK185.out 2; have hcz15_0 : w12.cell? ⟨gb186, 0, none⟩ = some (.int .i64 a1_0) := (blk_cell BK186.out 0).trans rfl; have hcz15_1 : w12.cell? ⟨gb186, 1, none⟩ = some (.int .i64 a1_1) := (blk_cell BK186.out 1).trans rfl; have hcz15_2 : w12.cell? ⟨gb186, 2, none⟩ = some (.slice A1_2 l1_2.length c1_2) := (blk_cell BK186.out 2).trans rfl; have hfz15_0 := blk_frozen BK186.out 0; have hfz15_1 := blk_frozen BK186.out 1; have hfz15_2 := blk_frozen BK186.out 2))
   go_ret
   exact ⟨by first | rfl | (simp [errW_none, errW_some] <;> rfl) | (simp [*, errW_none, errW_some] <;> rfl), by repeat (first | (with_reducible first | exact HB.out | apply below_alloc | apply pw_below_drewN | apply below_drew1 | refine below_set ?_ GE185.out | refine below_set ?_ GE186.out) | exact HB.out)⟩
 ·rw [if_neg c3] at H
  have c3b0 : (a0_0 == a1_0) = false := beq_eq_false_iff_ne.mpr c3
  have c3b1 : (a0_0 != a1_0) = true := bne_iff_ne.mpr c3
  obtain rfl := Option.some.inj H
  go_enter Try.func21, Try.ntmps21
  go_wp2_with (first | ((with_reducible refine gate_dst (N := 2) rfl ?_); refine box_event ?hg (N := 2) ?hd (cs := #[.int .i64 a0_0, .int .i64 a0_1, .slice A0_2 l0_2.length c0_2]) (t := 33) ?hr ?_; (case hd => rfl); (case hg => rfl); (case hr => first | (go_simp; done) | (go_simp; rfl)); intro gb185 hg w16 hbox hb; have n0_ := Aside0.mk (below_step (by repeat (first | (with_reducible first | exact HB.out | apply below_alloc | apply pw_below_drewN | apply below_drew1) | exact HB.out)) hb); have n1_ := Aside0.mk (hbox); have n2_ := Aside0.mk ((by rw [hg]; exact (below_size (by repeat (first | (with_reducible first | exact HB.out | apply below_alloc | apply pw_below_drewN | apply below_drew1) | exact HB.out))) : w.heap.size ≤ gb185)); have n3_ := Aside0.mk ((by rw [hg]; exact (below_size (by repeat (first | (with_reducible first | exact HB.out | apply below_alloc | apply pw_below_drewN | apply below_drew1) | exact HB.out))) : w.heap.size ≤ gb185)); clear HB; have HB := n0_; have BK185 := n1_; have GW185 := n2_; have GE185 := n3_; clear n0_ n1_ n2_ n3_; clear hb hbox hg) | ((with_reducible refine gate_dst (N := 3) rfl ?_); refine box_event ?hg (N := 3) ?hd (cs := #[.int .i64 a1_0, .int .i64 a1_1, .slice A1_2 l1_2.length c1_2]) (t := 33) ?hr ?_; (case hd => rfl); (case hg => rfl); (case hr => first | (go_simp; done) | (go_simp; rfl)); intro gb186 hg w17 hbox hb; have n0_ := Aside0.mk (blk_below (g := gb185) (o := .cells #[.int .i64 a0_0, .int .i64 a0_1, .slice A0_2 l0_2.length c0_2] 33 (0, 0)) (by (with_reducible repeat (first | refine blk_drewN ?_ _ | refine blk_drew ?_ | refine blk_alloc ?_ _)); exact BK185.out) hb); have n1_ := Aside0.mk (below_step (by repeat (first | (with_reducible first | exact HB.out | apply below_alloc | apply pw_below_drewN | apply below_drew1 | refine below_set ?_ GE185.out) | exact HB.out)) hb); have n2_ := Aside0.mk (hbox); have n3_ := Aside0.mk ((by rw [hg]; exact (below_size (by repeat (first | (with_reducible first | exact HB.out | apply below_alloc | apply pw_below_drewN | apply below_drew1 | refine below_set ?_ GE185.out) | exact HB.out))) : w.heap.size ≤ gb186)); have n4_ := Aside0.mk ((by rw [hg]; exact (below_size (by repeat (first | (with_reducible first | exact HB.out | apply below_alloc | apply pw_below_drewN | apply below_drew1 | refine below_set ?_ GE185.out) | exact HB.out))) : w.heap.size ≤ gb186)); have n5_ := Aside0.mk ((by rw [hg]; exact Nat.ne_of_lt (blk_lt (g := gb185) (o := .cells #[.int .i64 a0_0, .int .i64 a0_1, .slice A0_2 l0_2.length c0_2] 33 (0, 0)) (by (with_reducible repeat (first | refine blk_drewN ?_ _ | refine blk_drew ?_ | refine blk_alloc ?_ _)); exact BK185.out)) : gb185 ≠ gb186)); have n6_ := Aside0.mk ((by rw [hg]; exact Nat.ne_of_gt (blk_lt (g := gb185) (o := .cells #[.int .i64 a0_0, .int .i64 a0_1, .slice A0_2 l0_2.length c0_2] 33 (0, 0)) (by (with_reducible repeat (first | refine blk_drewN ?_ _ | refine blk_drew ?_ | refine blk_alloc ?_ _)); exact BK185.out)) : gb186 ≠ gb185)); clear BK185; clear HB; have BK185 := n0_; have HB := n1_; have BK186 := n2_; have GW186 := n3_; have GE186 := n4_; have NB185_186 := n5_; have NB186_185 := n6_; clear n0_ n1_ n2_ n3_ n4_ n5_ n6_; clear hb hbox hg; have hnb18 := NB185_186.out; have hnc18 := NB186_185.out; have hcz19_0 : w17.cell? ⟨gb185, 0, none⟩ = some (.int .i64 a0_0) := (blk_cell BK185.out 0).trans rfl; have hcz19_1 : w17.cell? ⟨gb185, 1, none⟩ = some (.int .i64 a0_1) := (blk_cell BK185.out 1).trans rfl; have hcz19_2 : w17.cell? ⟨gb185, 2, none⟩ = some (.slice A0_2 l0_2.length c0_2) := (blk_cell BK185.out 2).trans rfl; have hfz19_0 := blk_frozen BK185.out 0; have hfz19_1 := blk_frozen BK185.out 1; have hfz19_2 := blk_frozen BK185.out 2; have hcz20_0 : w17.cell? ⟨gb186, 0, none⟩ = some (.int .i64 a1_0) := (blk_cell BK186.out 0).trans rfl; have hcz20_1 : w17.cell? ⟨gb186, 1, none⟩ = some (.int .i64 a1_1) := (blk_cell BK186.out 1).trans rfl; have hcz20_2 : w17.cell? ⟨gb186, 2, none⟩ = some (.slice A1_2 l1_2.length c1_2) := (blk_cell BK186.out 2).trans rfl; have hfz20_0 := blk_frozen BK186.out 0; have hfz20_1 := blk_frozen BK186.out 1; have hfz20_2 := blk_frozen BK186.out 2))
  go_ret
  exact ⟨by first | rfl | (simp [errW_none, errW_some] <;> rfl) | (simp [*, errW_none, errW_some] <;> rfl), by repeat (first | (with_reducible first | exact HB.out | apply below_alloc | apply pw_below_drewN | apply below_drew1 | refine below_set ?_ GE185.out | refine below_set ?_ GE186.out) | exact HB.out)⟩

end Go.Proofs.Ytnjnjajgpkmfhaa.PX

namespace Go.Proofs.Ytnjnjajgpkmfhaa.PX
open Go.RowKit Go.Proofs.YtnjnjajgpkmfhaaW.PrintWords Go.Proofs.YtnjnjajgpkmfhaaW.PrintLast Go.Proofs.YtnjnjajgpkmfhaaW.PrintMore
attribute [local go_sem] max2_int min2_int max_two min_two max_three min_three max_four min_four   -- for this text's walks alone
set_option linter.unusedVariables false
set_option linter.unusedSimpArgs false

/-! ### deadboltref09_Same: function 27 -/
def deadboltref09_Same.l0 : Nat → List (S33) → List (S33) → Int → Int → Option (Bool)
 | 0, _, _, _, _ => none
 | k + 1, x0, x1, x12, x13 => if x13 < x12 then (if 0 ≤ x13 then (if x13 < (x0.length : Int) then (if x13 < (x1.length : Int) then ((deadboltref09_Spots.f k ((rd_T33 x0 x13).f0) ((rd_T33 x0 x13).f1) ((rd_T33 x0 x13).f2) ((rd_T33 x1 x13).f0) ((rd_T33 x1 x13).f1) ((rd_T33 x1 x13).f2)).bind fun t225 => (if t225 = true then (deadboltref09_Same.l0 k x0 x1 x12 (wrap64 (x13 + 1))) else (some false))) else (none)) else (none)) else (none)) else (some true)
def deadboltref09_Same.f (k : Nat) (l0 : List (S33)) (l1 : List (S33)) : Option (Bool) := if (l0.length : Int) = (l1.length : Int) then (deadboltref09_Same.l0 k l0 l1 (l0.length : Int) 0) else (some false)
def deadboltref09_Same.T6 : Bool × List (List Nat × List Nat) := (true, [([], []), ([], []), ([0, 1], [0, 1]), ([2], [2]), ([], []), ([], []), ([4, 5], [4, 5]), ([6], [6]), ([3, 7], [3, 7]), ([8], [8])])
def deadboltref09_Same.B6 : List Nat := [0, 0, 3, 7, 0, 0, 48, 112, 255, 511]
theorem deadboltref09_Same.tab6 : rtab .any (opsOf Try.f27 6) = deadboltref09_Same.T6 := by kernel_rfl
theorem deadboltref09_Same.bits6 : waitsOk deadboltref09_Same.T6.2 deadboltref09_Same.B6 = true := by kernel_rfl
set_option maxHeartbeats 8000000 in
set_option maxRecDepth 100000 in
theorem deadboltref09_Same.calls (k : Nat) (A0 : Option Addr) (c0 : Nat) (l0 : List (S33)) (A1 : Option Addr) (c1 : Nat) (l1 : List (S33)) (r : Bool) (w : World) (hr0 : Kd.C k33 w A0 l0.length l0) (hc0 : l0.length ≤ c0) (hr1 : Kd.C k33 w A1 l1.length l1) (hc1 : l1.length ≤ c1) (h : deadboltref09_Same.f k l0 l1 = some r) :
  Calls Try.prog 27 #[.slice A0 l0.length c0, .slice A1 l1.length c1] w fun e w' => e = .returned (.bool r) ∧ Below w.heap.size w w' := by
 have hu33 := Try.underlying33
 have HR0 := Aside0.mk hr0
 have HC0 := Aside0.mk hc0
 clear hr0 hc0
 have HR1 := Aside0.mk hr1
 have HC1 := Aside0.mk hc1
 clear hr1 hc1
 have HB := Aside0.mk (Below.refl w.heap.size w)
 have H : (if (l0.length : Int) = (l1.length : Int) then (deadboltref09_Same.l0 k l0 l1 (l0.length : Int) 0) else (some false)) = some r := h
 clear h
 by_cases c3 : (l0.length : Int) = (l1.length : Int)
 ·rw [if_pos c3] at H
  have c3b0 : ((l0.length : Int) == (l1.length : Int)) = true := beq_iff_eq.mpr c3
  have c3b1 : ((l0.length : Int) != (l1.length : Int)) = false := bne_eq_false_iff_eq.mpr c3
  have c3b2 : (l0.length == l1.length) = true := by first | simpa using c3 | (simp at c3 ⊢; omega)
  clear c3
  have H' := Aside0.mk H
  clear H
  go_enter Try.func27, Try.ntmps27
  go_wp2
  go_loopg [13] k (fun kq v13 w' => ∃ (x13_1 : Int), v13 = .int .i64 x13_1 ∧ Aside0 (deadboltref09_Same.l0 kq l0 l1 (l0.length : Int) x13_1 = some r) ∧ Aside0 (kq ≤ k) ∧ Aside0 (Below w.heap.size w w'))
  case atStart => exact ⟨(0), (by first | rfl | (simp; done) | (simp [*]; done)), H', ⟨Nat.le_refl _⟩, ⟨by repeat (first | (with_reducible first | exact HB.out | apply below_alloc | apply pw_below_drewN | apply below_drew1) | exact HB.out)⟩⟩
  case round =>
   clear H'
   try clear c1
   try clear c2
   try clear p2
   try clear c3
   try clear c3b0
   try clear c3b1
   try clear c3b2
   obtain ⟨x13_1, rfl, HA, HK1, HB⟩ := hrel
   cases gk with
   | zero => exact absurd HA.out (by simp [deadboltref09_Same.l0])
   | succ k1 =>
    have H := HA.out
    clear HA
    simp only [deadboltref09_Same.l0] at H
    by_cases c4 : x13_1 < (l0.length : Int)
    ·rw [if_pos c4] at H
     have c4b0 : decide (x13_1 < (l0.length : Int)) = true := decide_eq_true c4
     clear c4
     by_cases c5 : 0 ≤ x13_1
     ·rw [if_pos c5] at H
      have c5b0 : decide (0 ≤ x13_1) = true := decide_eq_true c5
      clear c5
      by_cases c6 : x13_1 < (l0.length : Int)
      ·rw [if_pos c6] at H
       have c6b0 : decide (x13_1 < (l0.length : Int)) = true := decide_eq_true c6
       clear c6
       by_cases c7 : x13_1 < (l1.length : Int)
       ·rw [if_pos c7] at H
        have c7b0 : decide (x13_1 < (l1.length : Int)) = true := decide_eq_true c7
        clear c7
        replace H := Option.bind_eq_some_iff.mp H
        obtain ⟨t225, A80, H⟩ := H
        replace H : (if t225 = true then (deadboltref09_Same.l0 k1 l0 l1 (l0.length : Int) (wrap64 (x13_1 + 1))) else (some false)) = some r := H
        have A8 := Aside0.mk A80
        clear A80
        by_cases c9 : t225 = true
        ·subst c9
         have H1 : (deadboltref09_Same.l0 k1 l0 l1 (l0.length : Int) (wrap64 (x13_1 + 1))) = some r := by rw [if_pos rfl] at H; exact H
         clear H
         have H := H1
         clear H1
         have H' := Aside0.mk H
         clear H
         try go_wp2
         have n0_ := Aside0.mk (below_drew1 HB.out)
         clear HB
         have HB := n0_
         clear n0_
         have p223 : 0 ≤ (x13_1 : Int) := of_decide_eq_true (by first | (with_reducible assumption) | assumption)
         have q223 : x13_1 < (l0.length : Int) := of_decide_eq_true (by first | (with_reducible assumption) | assumption)
         obtain ⟨ad223, A223_2, c223_2, e223, hx223_0, hx223_1, hx223_2, hl223_2, hi223_2⟩ := at_T33 HR0.out x13_1 p223 q223
         have hw223_2 := hx223_2
         have hw223_1 := hx223_1
         have hw223_0 := hx223_0
         cases e223
         replace hx223_0 := (HB.out.cell (World.block_lt_of_cell? w _ hx223_0)).trans hx223_0
         replace hx223_1 := (HB.out.cell (World.block_lt_of_cell? w _ hx223_1)).trans hx223_1
         replace hx223_2 := (HB.out.cell (World.block_lt_of_cell? w _ hx223_2)).trans hx223_2
         have HR223_2 := Aside0.mk hi223_2
         have HC223_2 := Aside0.mk hl223_2
         clear hi223_2 hl223_2
         replace p223 := eq_true p223
         replace q223 := eq_true q223
         have p224 : 0 ≤ (x13_1 : Int) := of_decide_eq_true (by first | (with_reducible assumption) | assumption)
         have q224 : x13_1 < (l1.length : Int) := of_decide_eq_true (by first | (with_reducible assumption) | assumption)
         obtain ⟨ad224, A224_2, c224_2, e224, hx224_0, hx224_1, hx224_2, hl224_2, hi224_2⟩ := at_T33 HR1.out x13_1 p224 q224
         have hw224_2 := hx224_2
         have hw224_1 := hx224_1
         have hw224_0 := hx224_0
         cases e224
         replace hx224_0 := (HB.out.cell (World.block_lt_of_cell? w _ hx224_0)).trans hx224_0
         replace hx224_1 := (HB.out.cell (World.block_lt_of_cell? w _ hx224_1)).trans hx224_1
         replace hx224_2 := (HB.out.cell (World.block_lt_of_cell? w _ hx224_2)).trans hx224_2
         have HR224_2 := Aside0.mk hi224_2
         have HC224_2 := Aside0.mk hl224_2
         clear hi224_2 hl224_2
         replace p224 := eq_true p224
         replace q224 := eq_true q224
         refine start_ (n := 10) (S := fun w' => w'.cell? (ad223.add ((x13_1).toNat * 3)) = some (.int .i64 ((rd_T33 l0 x13_1).f0)) ∧ w'.cell? ⟨(ad223.add ((x13_1).toNat * 3)).block, (ad223.add ((x13_1).toNat * 3)).off + 1, none⟩ = some (.int .i64 ((rd_T33 l0 x13_1).f1)) ∧ w'.cell? ⟨(ad223.add ((x13_1).toNat * 3)).block, (ad223.add ((x13_1).toNat * 3)).off + 2, none⟩ = some (.slice A223_2 ((rd_T33 l0 x13_1).f2).length c223_2) ∧ w'.cell? (ad224.add ((x13_1).toNat * 3)) = some (.int .i64 ((rd_T33 l1 x13_1).f0)) ∧ w'.cell? ⟨(ad224.add ((x13_1).toNat * 3)).block, (ad224.add ((x13_1).toNat * 3)).off + 1, none⟩ = some (.int .i64 ((rd_T33 l1 x13_1).f1)) ∧ w'.cell? ⟨(ad224.add ((x13_1).toNat * 3)).block, (ad224.add ((x13_1).toNat * 3)).off + 2, none⟩ = some (.slice A224_2 ((rd_T33 l1 x13_1).f2).length c224_2)) (ds := []) #[false, false, false, false, false, false, false, false, false, false] (by kernel_rfl) rfl rfl ⟨((HB.out.cell (World.block_lt_of_cell? w _ hw223_0)).trans hw223_0), ((HB.out.cell (World.block_lt_of_cell? w _ hw223_1)).trans hw223_1), ((HB.out.cell (World.block_lt_of_cell? w _ hw223_2)).trans hw223_2), ((HB.out.cell (World.block_lt_of_cell? w _ hw224_0)).trans hw224_0), ((HB.out.cell (World.block_lt_of_cell? w _ hw224_1)).trans hw224_1), ((HB.out.cell (World.block_lt_of_cell? w _ hw224_2)).trans hw224_2)⟩ (fun hHeld => ?_); refine with_tabW deadboltref09_Same.tab6 deadboltref09_Same.bits6 (fun HT_ HW_ => ?_)
         generalize wr.drew = w10 at HB HR223_2 HR224_2 hx223_0 hx223_1 hx223_2 hx224_0 hx224_1 hx224_2 hHeld ⊢
         refine pure_ (i := 0) (N := some 16) (v := ?_) (a' := ?_) #[true, false, false, false, false, false, false, false, false, false] rfl rfl (any_of HT_.out (by kernel_rfl)) (fun _ _ _ h => h) (Or.inl ⟨by rfl, ?_⟩) ?_ ?_
         rotate_left
         ·intro w'
          go_simp
          with_reducible rfl
         rotate_left
         ·simp only [Act.put, List.setIfInBounds_toArray, List.set_cons_zero, List.set_cons_succ, i64_w, i32_w]
          rfl
         refine pure_ (i := 1) (N := some 17) (v := ?_) (a' := ?_) #[true, true, false, false, false, false, false, false, false, false] rfl rfl (any_of HT_.out (by kernel_rfl)) (fun _ _ _ h => h) (Or.inl ⟨by rfl, ?_⟩) ?_ ?_
         rotate_left
         ·intro w'
          go_simp
          with_reducible rfl
         rotate_left
         ·simp only [Act.put, List.setIfInBounds_toArray, List.set_cons_zero, List.set_cons_succ, i64_w, i32_w]
          rfl
         refine pure_ (i := 2) (N := some 18) (v := ?_) (a' := ?_) #[true, true, true, false, false, false, false, false, false, false] rfl rfl (any_of HT_.out (by kernel_rfl)) (fun _ _ _ h => h) (Or.inl ⟨by rfl, ?_⟩) ?_ ?_
         rotate_left
         ·intro w'
          go_simp
          with_reducible rfl
         rotate_left
         ·simp only [Act.put, List.setIfInBounds_toArray, List.set_cons_zero, List.set_cons_succ, i64_w, i32_w]
          rfl
         refine pure_ (i := 4) (N := some 20) (v := ?_) (a' := ?_) #[true, true, true, false, true, false, false, false, false, false] rfl rfl (any_of HT_.out (by kernel_rfl)) (fun _ _ _ h => h) (Or.inl ⟨by rfl, ?_⟩) ?_ ?_
         rotate_left
         ·intro w'
          go_simp
          with_reducible rfl
         rotate_left
         ·simp only [Act.put, List.setIfInBounds_toArray, List.set_cons_zero, List.set_cons_succ, i64_w, i32_w]
          rfl
         refine pure_ (i := 5) (N := some 21) (v := ?_) (a' := ?_) #[true, true, true, false, true, true, false, false, false, false] rfl rfl (any_of HT_.out (by kernel_rfl)) (fun _ _ _ h => h) (Or.inl ⟨by rfl, ?_⟩) ?_ ?_
         rotate_left
         ·intro w'
          go_simp
          with_reducible rfl
         rotate_left
         ·simp only [Act.put, List.setIfInBounds_toArray, List.set_cons_zero, List.set_cons_succ, i64_w, i32_w]
          rfl
         refine pure_ (i := 6) (N := some 22) (v := ?_) (a' := ?_) #[true, true, true, false, true, true, true, false, false, false] rfl rfl (any_of HT_.out (by kernel_rfl)) (fun _ _ _ h => h) (Or.inl ⟨by rfl, ?_⟩) ?_ ?_
         rotate_left
         ·intro w'
          go_simp
          with_reducible rfl
         rotate_left
         ·simp only [Act.put, List.setIfInBounds_toArray, List.set_cons_zero, List.set_cons_succ, i64_w, i32_w]
          rfl
         refine take_ (i := 3) (N := some 19) (v := ?_) (a' := ?_) #[true, true, true, true, true, true, true, false, false, false] rfl rfl (take_ofW HT_.out HW_.out (by kernel_rfl)) (fun _ _ _ h => h) (Or.inl ⟨by rfl, ?_⟩) hHeld ?_ ?_
         rotate_left
         ·rintro w' ⟨s0, s1, s2, s3, s4, s5⟩
          go_simp
          with_reducible rfl
         rotate_left
         ·simp only [Act.put, List.setIfInBounds_toArray, List.set_cons_zero, List.set_cons_succ, i64_w, i32_w]
          rfl
         refine take_ (i := 7) (N := some 23) (v := ?_) (a' := ?_) #[true, true, true, true, true, true, true, true, false, false] rfl rfl (take_ofW HT_.out HW_.out (by kernel_rfl)) (fun _ _ _ h => h) (Or.inl ⟨by rfl, ?_⟩) hHeld ?_ ?_
         rotate_left
         ·rintro w' ⟨s0, s1, s2, s3, s4, s5⟩
          go_simp
          with_reducible rfl
         rotate_left
         ·simp only [Act.put, List.setIfInBounds_toArray, List.set_cons_zero, List.set_cons_succ, i64_w, i32_w]
          rfl
         refine one_ (i := 8) (N := some 24) #[true, true, true, true, true, true, true, true, true, false] rfl rfl (one_of HT_.out (by kernel_rfl)) (by decide) (fun K hK => ?_)
         refine goes_ Try.func21 (by kernel_rfl) rfl #[.agg #[.int .i64 ((rd_T33 l0 x13_1).f0), .int .i64 ((rd_T33 l0 x13_1).f1), .slice A223_2 ((rd_T33 l0 x13_1).f2).length c223_2], .agg #[.int .i64 ((rd_T33 l1 x13_1).f0), .int .i64 ((rd_T33 l1 x13_1).f1), .slice A224_2 ((rd_T33 l1 x13_1).f2).length c224_2]] (by rfl) rfl rfl (by (try simp only [List.map_toArray, List.map_cons, List.map_nil]); first | done | rfl | (simp only [List.length_drop, List.length_take]; rfl)) ?_
         with_reducible refine (deadboltref09_Spots.calls k1 ((rd_T33 l0 x13_1).f0) ((rd_T33 l0 x13_1).f1) _ _ ((rd_T33 l0 x13_1).f2) ((rd_T33 l1 x13_1).f0) ((rd_T33 l1 x13_1).f1) _ _ ((rd_T33 l1 x13_1).f2) true _ ?side1 ?side2 ?side3 ?side4 A8.out).mono ?_
         (case side1 => repeat (first | exact (Kd.C_below HR223_2.out HB.out) | (with_reducible refine Kd.C_alloc ?_ _) | (with_reducible refine Kd.C_drewN ?_ _) | (with_reducible refine Kd.C_drew ?_)))
         (case side2 => exact HC223_2.out)
         (case side3 => repeat (first | exact (Kd.C_below HR224_2.out HB.out) | (with_reducible refine Kd.C_alloc ?_ _) | (with_reducible refine Kd.C_drewN ?_ _) | (with_reducible refine Kd.C_drew ?_)))
         (case side4 => exact HC224_2.out)
         rintro e w11 ⟨rfl, hb⟩
         refine ⟨_, rfl, ?_⟩
         have n0_ := Aside0.mk (below_step (by repeat (first | (with_reducible first | exact HB.out | apply below_alloc | apply pw_below_drewN | apply below_drew1) | exact HB.out)) hb)
         clear HB
         have HB := n0_
         clear n0_
         (try clear hb)
         (try clear hb2)
         (try clear hk)
         (try clear hi)
         refine hK.out _ _ ⟨((HB.out.cell (World.block_lt_of_cell? w _ hw223_0)).trans hw223_0), ((HB.out.cell (World.block_lt_of_cell? w _ hw223_1)).trans hw223_1), ((HB.out.cell (World.block_lt_of_cell? w _ hw223_2)).trans hw223_2), ((HB.out.cell (World.block_lt_of_cell? w _ hw224_0)).trans hw224_0), ((HB.out.cell (World.block_lt_of_cell? w _ hw224_1)).trans hw224_1), ((HB.out.cell (World.block_lt_of_cell? w _ hw224_2)).trans hw224_2)⟩ (fun hHeld => ?_)
         clear hK K
         refine norm_ (a' := ?_) ?_ ?_
         rotate_left
         ·show Act.put _ (some 24) _ = _
          simp only [Act.put, List.setIfInBounds_toArray, List.set_cons_zero, List.set_cons_succ, i64_w, i32_w]
          rfl
         refine pure_ (i := 9) (N := some 25) (v := ?_) (a' := ?_) #[true, true, true, true, true, true, true, true, true, true] rfl rfl (any_of HT_.out (by kernel_rfl)) (fun _ _ _ h => h) (Or.inl ⟨by rfl, ?_⟩) ?_ ?_
         rotate_left
         ·intro w'
          go_simp
          with_reducible rfl
         rotate_left
         ·simp only [Act.put, List.setIfInBounds_toArray, List.set_cons_zero, List.set_cons_succ, i64_w, i32_w]
          rfl
         refine done_ (done_of HT_.out (by kernel_rfl)) ?_
         try go_wp2
         go_roundg k1
         case measure => have := HK1.out; omega
         case rel => exact ⟨(wrap64 (x13_1 + 1)), (by first | rfl | (simp; done) | (simp [*]; done)), H', ⟨by have := HK1.out; omega⟩, ⟨by repeat (first | (with_reducible first | exact HB.out | apply below_alloc | apply pw_below_drewN | apply below_drew1) | exact HB.out)⟩⟩
        ·replace c9 := Bool.eq_false_iff.mpr c9
         subst c9
         have H1 : (some false) = some r := by rw [if_neg (show ¬ (false = true) by decide)] at H; exact H
         clear H
         have H := H1
         clear H1
         obtain rfl := Option.some.inj H
         try go_wp2
         have n0_ := Aside0.mk (below_drew1 HB.out)
         clear HB
         have HB := n0_
         clear n0_
         have p223 : 0 ≤ (x13_1 : Int) := of_decide_eq_true (by first | (with_reducible assumption) | assumption)
         have q223 : x13_1 < (l0.length : Int) := of_decide_eq_true (by first | (with_reducible assumption) | assumption)
         obtain ⟨ad223, A223_2, c223_2, e223, hx223_0, hx223_1, hx223_2, hl223_2, hi223_2⟩ := at_T33 HR0.out x13_1 p223 q223
         have hw223_2 := hx223_2
         have hw223_1 := hx223_1
         have hw223_0 := hx223_0
         cases e223
         replace hx223_0 := (HB.out.cell (World.block_lt_of_cell? w _ hx223_0)).trans hx223_0
         replace hx223_1 := (HB.out.cell (World.block_lt_of_cell? w _ hx223_1)).trans hx223_1
         replace hx223_2 := (HB.out.cell (World.block_lt_of_cell? w _ hx223_2)).trans hx223_2
         have HR223_2 := Aside0.mk hi223_2
         have HC223_2 := Aside0.mk hl223_2
         clear hi223_2 hl223_2
         replace p223 := eq_true p223
         replace q223 := eq_true q223
         have p224 : 0 ≤ (x13_1 : Int) := of_decide_eq_true (by first | (with_reducible assumption) | assumption)
         have q224 : x13_1 < (l1.length : Int) := of_decide_eq_true (by first | (with_reducible assumption) | assumption)
         obtain ⟨ad224, A224_2, c224_2, e224, hx224_0, hx224_1, hx224_2, hl224_2, hi224_2⟩ := at_T33 HR1.out x13_1 p224 q224
         have hw224_2 := hx224_2
         have hw224_1 := hx224_1
         have hw224_0 := hx224_0
         cases e224
         replace hx224_0 := (HB.out.cell (World.block_lt_of_cell? w _ hx224_0)).trans hx224_0
         replace hx224_1 := (HB.out.cell (World.block_lt_of_cell? w _ hx224_1)).trans hx224_1
         replace hx224_2 := (HB.out.cell (World.block_lt_of_cell? w _ hx224_2)).trans hx224_2
         have HR224_2 := Aside0.mk hi224_2
         have HC224_2 := Aside0.mk hl224_2
         clear hi224_2 hl224_2
         replace p224 := eq_true p224
         replace q224 := eq_true q224
         refine start_ (n := 10) (S := fun w' => w'.cell? (ad223.add ((x13_1).toNat * 3)) = some (.int .i64 ((rd_T33 l0 x13_1).f0)) ∧ w'.cell? ⟨(ad223.add ((x13_1).toNat * 3)).block, (ad223.add ((x13_1).toNat * 3)).off + 1, none⟩ = some (.int .i64 ((rd_T33 l0 x13_1).f1)) ∧ w'.cell? ⟨(ad223.add ((x13_1).toNat * 3)).block, (ad223.add ((x13_1).toNat * 3)).off + 2, none⟩ = some (.slice A223_2 ((rd_T33 l0 x13_1).f2).length c223_2) ∧ w'.cell? (ad224.add ((x13_1).toNat * 3)) = some (.int .i64 ((rd_T33 l1 x13_1).f0)) ∧ w'.cell? ⟨(ad224.add ((x13_1).toNat * 3)).block, (ad224.add ((x13_1).toNat * 3)).off + 1, none⟩ = some (.int .i64 ((rd_T33 l1 x13_1).f1)) ∧ w'.cell? ⟨(ad224.add ((x13_1).toNat * 3)).block, (ad224.add ((x13_1).toNat * 3)).off + 2, none⟩ = some (.slice A224_2 ((rd_T33 l1 x13_1).f2).length c224_2)) (ds := []) #[false, false, false, false, false, false, false, false, false, false] (by kernel_rfl) rfl rfl ⟨((HB.out.cell (World.block_lt_of_cell? w _ hw223_0)).trans hw223_0), ((HB.out.cell (World.block_lt_of_cell? w _ hw223_1)).trans hw223_1), ((HB.out.cell (World.block_lt_of_cell? w _ hw223_2)).trans hw223_2), ((HB.out.cell (World.block_lt_of_cell? w _ hw224_0)).trans hw224_0), ((HB.out.cell (World.block_lt_of_cell? w _ hw224_1)).trans hw224_1), ((HB.out.cell (World.block_lt_of_cell? w _ hw224_2)).trans hw224_2)⟩ (fun hHeld => ?_); refine with_tabW deadboltref09_Same.tab6 deadboltref09_Same.bits6 (fun HT_ HW_ => ?_)
         generalize wr.drew = w12 at HB HR223_2 HR224_2 hx223_0 hx223_1 hx223_2 hx224_0 hx224_1 hx224_2 hHeld ⊢
         refine pure_ (i := 0) (N := some 16) (v := ?_) (a' := ?_) #[true, false, false, false, false, false, false, false, false, false] rfl rfl (any_of HT_.out (by kernel_rfl)) (fun _ _ _ h => h) (Or.inl ⟨by rfl, ?_⟩) ?_ ?_
         rotate_left
         ·intro w'
          go_simp
          with_reducible rfl
         rotate_left
         ·simp only [Act.put, List.setIfInBounds_toArray, List.set_cons_zero, List.set_cons_succ, i64_w, i32_w]
          rfl
         refine pure_ (i := 1) (N := some 17) (v := ?_) (a' := ?_) #[true, true, false, false, false, false, false, false, false, false] rfl rfl (any_of HT_.out (by kernel_rfl)) (fun _ _ _ h => h) (Or.inl ⟨by rfl, ?_⟩) ?_ ?_
         rotate_left
         ·intro w'
          go_simp
          with_reducible rfl
         rotate_left
         ·simp only [Act.put, List.setIfInBounds_toArray, List.set_cons_zero, List.set_cons_succ, i64_w, i32_w]
          rfl
         refine pure_ (i := 2) (N := some 18) (v := ?_) (a' := ?_) #[true, true, true, false, false, false, false, false, false, false] rfl rfl (any_of HT_.out (by kernel_rfl)) (fun _ _ _ h => h) (Or.inl ⟨by rfl, ?_⟩) ?_ ?_
         rotate_left
         ·intro w'
          go_simp
          with_reducible rfl
         rotate_left
         ·simp only [Act.put, List.setIfInBounds_toArray, List.set_cons_zero, List.set_cons_succ, i64_w, i32_w]
          rfl
         refine pure_ (i := 4) (N := some 20) (v := ?_) (a' := ?_) #[true, true, true, false, true, false, false, false, false, false] rfl rfl (any_of HT_.out (by kernel_rfl)) (fun _ _ _ h => h) (Or.inl ⟨by rfl, ?_⟩) ?_ ?_
         rotate_left
         ·intro w'
          go_simp
          with_reducible rfl
         rotate_left
         ·simp only [Act.put, List.setIfInBounds_toArray, List.set_cons_zero, List.set_cons_succ, i64_w, i32_w]
          rfl
         refine pure_ (i := 5) (N := some 21) (v := ?_) (a' := ?_) #[true, true, true, false, true, true, false, false, false, false] rfl rfl (any_of HT_.out (by kernel_rfl)) (fun _ _ _ h => h) (Or.inl ⟨by rfl, ?_⟩) ?_ ?_
         rotate_left
         ·intro w'
          go_simp
          with_reducible rfl
         rotate_left
         ·simp only [Act.put, List.setIfInBounds_toArray, List.set_cons_zero, List.set_cons_succ, i64_w, i32_w]
          rfl
         refine pure_ (i := 6) (N := some 22) (v := ?_) (a' := ?_) #[true, true, true, false, true, true, true, false, false, false] rfl rfl (any_of HT_.out (by kernel_rfl)) (fun _ _ _ h => h) (Or.inl ⟨by rfl, ?_⟩) ?_ ?_
         rotate_left
         ·intro w'
          go_simp
          with_reducible rfl
         rotate_left
         ·simp only [Act.put, List.setIfInBounds_toArray, List.set_cons_zero, List.set_cons_succ, i64_w, i32_w]
          rfl
         refine take_ (i := 3) (N := some 19) (v := ?_) (a' := ?_) #[true, true, true, true, true, true, true, false, false, false] rfl rfl (take_ofW HT_.out HW_.out (by kernel_rfl)) (fun _ _ _ h => h) (Or.inl ⟨by rfl, ?_⟩) hHeld ?_ ?_
         rotate_left
         ·rintro w' ⟨s0, s1, s2, s3, s4, s5⟩
          go_simp
          with_reducible rfl
         rotate_left
         ·simp only [Act.put, List.setIfInBounds_toArray, List.set_cons_zero, List.set_cons_succ, i64_w, i32_w]
          rfl
         refine take_ (i := 7) (N := some 23) (v := ?_) (a' := ?_) #[true, true, true, true, true, true, true, true, false, false] rfl rfl (take_ofW HT_.out HW_.out (by kernel_rfl)) (fun _ _ _ h => h) (Or.inl ⟨by rfl, ?_⟩) hHeld ?_ ?_
         rotate_left
         ·rintro w' ⟨s0, s1, s2, s3, s4, s5⟩
          go_simp
          with_reducible rfl
         rotate_left
         ·simp only [Act.put, List.setIfInBounds_toArray, List.set_cons_zero, List.set_cons_succ, i64_w, i32_w]
          rfl
         refine one_ (i := 8) (N := some 24) #[true, true, true, true, true, true, true, true, true, false] rfl rfl (one_of HT_.out (by kernel_rfl)) (by decide) (fun K hK => ?_)
         refine goes_ Try.func21 (by kernel_rfl) rfl #[.agg #[.int .i64 ((rd_T33 l0 x13_1).f0), .int .i64 ((rd_T33 l0 x13_1).f1), .slice A223_2 ((rd_T33 l0 x13_1).f2).length c223_2], .agg #[.int .i64 ((rd_T33 l1 x13_1).f0), .int .i64 ((rd_T33 l1 x13_1).f1), .slice A224_2 ((rd_T33 l1 x13_1).f2).length c224_2]] (by rfl) rfl rfl (by (try simp only [List.map_toArray, List.map_cons, List.map_nil]); first | done | rfl | (simp only [List.length_drop, List.length_take]; rfl)) ?_
         with_reducible refine (deadboltref09_Spots.calls k1 ((rd_T33 l0 x13_1).f0) ((rd_T33 l0 x13_1).f1) _ _ ((rd_T33 l0 x13_1).f2) ((rd_T33 l1 x13_1).f0) ((rd_T33 l1 x13_1).f1) _ _ ((rd_T33 l1 x13_1).f2) false _ ?side1 ?side2 ?side3 ?side4 A8.out).mono ?_
         (case side1 => repeat (first | exact (Kd.C_below HR223_2.out HB.out) | (with_reducible refine Kd.C_alloc ?_ _) | (with_reducible refine Kd.C_drewN ?_ _) | (with_reducible refine Kd.C_drew ?_)))
         (case side2 => exact HC223_2.out)
         (case side3 => repeat (first | exact (Kd.C_below HR224_2.out HB.out) | (with_reducible refine Kd.C_alloc ?_ _) | (with_reducible refine Kd.C_drewN ?_ _) | (with_reducible refine Kd.C_drew ?_)))
         (case side4 => exact HC224_2.out)
         rintro e w13 ⟨rfl, hb⟩
         refine ⟨_, rfl, ?_⟩
         have n0_ := Aside0.mk (below_step (by repeat (first | (with_reducible first | exact HB.out | apply below_alloc | apply pw_below_drewN | apply below_drew1) | exact HB.out)) hb)
         clear HB
         have HB := n0_
         clear n0_
         (try clear hb)
         (try clear hb2)
         (try clear hk)
         (try clear hi)
         refine hK.out _ _ ⟨((HB.out.cell (World.block_lt_of_cell? w _ hw223_0)).trans hw223_0), ((HB.out.cell (World.block_lt_of_cell? w _ hw223_1)).trans hw223_1), ((HB.out.cell (World.block_lt_of_cell? w _ hw223_2)).trans hw223_2), ((HB.out.cell (World.block_lt_of_cell? w _ hw224_0)).trans hw224_0), ((HB.out.cell (World.block_lt_of_cell? w _ hw224_1)).trans hw224_1), ((HB.out.cell (World.block_lt_of_cell? w _ hw224_2)).trans hw224_2)⟩ (fun hHeld => ?_)
         clear hK K
         refine norm_ (a' := ?_) ?_ ?_
         rotate_left
         ·show Act.put _ (some 24) _ = _
          simp only [Act.put, List.setIfInBounds_toArray, List.set_cons_zero, List.set_cons_succ, i64_w, i32_w]
          rfl
         refine pure_ (i := 9) (N := some 25) (v := ?_) (a' := ?_) #[true, true, true, true, true, true, true, true, true, true] rfl rfl (any_of HT_.out (by kernel_rfl)) (fun _ _ _ h => h) (Or.inl ⟨by rfl, ?_⟩) ?_ ?_
         rotate_left
         ·intro w'
          go_simp
          with_reducible rfl
         rotate_left
         ·simp only [Act.put, List.setIfInBounds_toArray, List.set_cons_zero, List.set_cons_succ, i64_w, i32_w]
          rfl
         refine done_ (done_of HT_.out (by kernel_rfl)) ?_
         try go_wp2
         go_ret
         exact ⟨by first | rfl | (simp [errW_none, errW_some] <;> rfl) | (simp [*, errW_none, errW_some] <;> rfl), by repeat (first | (with_reducible first | exact HB.out | apply below_alloc | apply pw_below_drewN | apply below_drew1) | exact HB.out)⟩
       ·rw [if_neg c7] at H
        exact absurd H (by simp)
      ·rw [if_neg c6] at H
       exact absurd H (by simp)
     ·rw [if_neg c5] at H
      exact absurd H (by simp)
    ·rw [if_neg c4] at H
     have c4b0 : decide (x13_1 < (l0.length : Int)) = false := decide_eq_false c4
     clear c4
     obtain rfl := Option.some.inj H
     go_wp2
     go_ret
     exact ⟨by first | rfl | (simp [errW_none, errW_some] <;> rfl) | (simp [*, errW_none, errW_some] <;> rfl), by repeat (first | (with_reducible first | exact HB.out | apply below_alloc | apply pw_below_drewN | apply below_drew1) | exact HB.out)⟩
 ·rw [if_neg c3] at H
  have c3b0 : ((l0.length : Int) == (l1.length : Int)) = false := beq_eq_false_iff_ne.mpr c3
  have c3b1 : ((l0.length : Int) != (l1.length : Int)) = true := bne_iff_ne.mpr c3
  have c3b2 : (l0.length == l1.length) = false := by first | simpa using c3 | (simp at c3 ⊢; omega)
  obtain rfl := Option.some.inj H
  go_enter Try.func27, Try.ntmps27
  go_wp2
  go_ret
  exact ⟨by first | rfl | (simp [errW_none, errW_some] <;> rfl) | (simp [*, errW_none, errW_some] <;> rfl), by repeat (first | (with_reducible first | exact HB.out | apply below_alloc | apply pw_below_drewN | apply below_drew1) | exact HB.out)⟩

end Go.Proofs.Ytnjnjajgpkmfhaa.PX

namespace Go.Proofs.Ytnjnjajgpkmfhaa.PX
open Go.RowKit Go.Proofs.YtnjnjajgpkmfhaaW.PrintWords Go.Proofs.YtnjnjajgpkmfhaaW.PrintLast Go.Proofs.YtnjnjajgpkmfhaaW.PrintMore
attribute [local go_sem] max2_int min2_int max_two min_two max_three min_three max_four min_four   -- for this text's walks alone
set_option linter.unusedVariables false
set_option linter.unusedSimpArgs false

/-! ### deadboltref08_Key: function 19 -/
def deadboltref08_Key.f (a0 : Int) : Option (Bool) := if a0 ≥ 0 then (some (decide (a0 ≤ 4294967295))) else (some false)
set_option maxHeartbeats 8000000 in
set_option maxRecDepth 100000 in
theorem deadboltref08_Key.calls (a0 : Int) (r : Bool) (w : World) (h : deadboltref08_Key.f a0 = some r) :
  Calls Try.prog 19 #[.int .i64 a0] w fun e w' => e = .returned (.bool r) ∧ Drawn0 w w' := by
 have H : (if a0 ≥ 0 then (some (decide (a0 ≤ 4294967295))) else (some false)) = some r := h
 clear h
 by_cases c2 : a0 ≥ 0
 ·rw [if_pos c2] at H
  have c2b0 : decide (0 ≤ a0) = true := decide_eq_true c2
  clear c2
  obtain rfl := Option.some.inj H
  go_enter Try.func19, Try.ntmps19
  go_wp2
  go_ret
  exact ⟨by first | rfl | (simp; done) | (simp [*]; done), by repeat (first | exact Drawn0.refl _ | apply Drawn0.step)⟩
 ·rw [if_neg c2] at H
  have c2b0 : decide (0 ≤ a0) = false := decide_eq_false c2
  clear c2
  obtain rfl := Option.some.inj H
  go_enter Try.func19, Try.ntmps19
  go_wp2
  go_ret
  exact ⟨by first | rfl | (simp; done) | (simp [*]; done), by repeat (first | exact Drawn0.refl _ | apply Drawn0.step)⟩

end Go.Proofs.Ytnjnjajgpkmfhaa.PX

namespace Go.Proofs.Ytnjnjajgpkmfhaa.PX
open Go.RowKit Go.Proofs.YtnjnjajgpkmfhaaW.PrintWords Go.Proofs.YtnjnjajgpkmfhaaW.PrintLast Go.Proofs.YtnjnjajgpkmfhaaW.PrintMore
attribute [local go_sem] max2_int min2_int max_two min_two max_three min_three max_four min_four   -- for this text's walks alone
set_option linter.unusedVariables false
set_option linter.unusedSimpArgs false

/-! ### deadboltref07_Place: function 28 -/
def deadboltref07_Place.l0 : Nat → Int → List Int → Int → Int → Option (Int)
 | 0, _, _, _, _ => none
 | k + 1, x1, x7, x8, x9 => if x9 < x8 then (if 0 ≤ x9 then (if x9 < (x7.length : Int) then (if (rd x7 x9) = x1 then (some x9) else (deadboltref07_Place.l0 k x1 x7 x8 (wrap64 (x9 + 1)))) else (none)) else (none)) else (some (-1))
def deadboltref07_Place.f (k : Nat) (l0 : List Int) (a1 : Int) : Option (Int) := deadboltref07_Place.l0 k a1 l0 (l0.length : Int) 0
set_option maxHeartbeats 8000000 in
set_option maxRecDepth 100000 in
theorem deadboltref07_Place.calls (k : Nat) (A0 : Option Addr) (c0 : Nat) (l0 : List Int) (a1 : Int) (r : Int) (w : World) (hr0 : Kd.C (Kd.int .i64) w A0 l0.length l0) (hc0 : l0.length ≤ c0) (h : deadboltref07_Place.f k l0 a1 = some r) :
  Calls Try.prog 28 #[.slice A0 l0.length c0, .int .i64 a1] w fun e w' => e = .returned (.int .i64 r) ∧ Drawn0 w w' := by
 have HR0 := Aside0.mk hr0
 have HC0 := Aside0.mk hc0
 clear hr0 hc0
 have H : (deadboltref07_Place.l0 k a1 l0 (l0.length : Int) 0) = some r := h
 clear h
 have H' := Aside0.mk H
 clear H
 go_enter Try.func28, Try.ntmps28
 go_wp2
 go_loopg [9] k (fun kq v9 w' => ∃ (x9_1 : Int), v9 = .int .i64 x9_1 ∧ Aside0 (deadboltref07_Place.l0 kq a1 l0 (l0.length : Int) x9_1 = some r) ∧ Aside0 (kq ≤ k) ∧ Drawn0 w w')
 case atStart => exact ⟨(0), (by first | rfl | (simp; done) | (simp [*]; done)), H', ⟨Nat.le_refl _⟩, by repeat (first | exact Drawn0.refl _ | apply Drawn0.step)⟩
 case round =>
  clear H'
  try clear c2
  try clear p2
  obtain ⟨x9_1, rfl, HA, HK1, ⟨m1, rfl⟩⟩ := hrel
  cases gk with
  | zero => exact absurd HA.out (by simp [deadboltref07_Place.l0])
  | succ k1 =>
   have H := HA.out
   clear HA
   simp only [deadboltref07_Place.l0] at H
   by_cases c3 : x9_1 < (l0.length : Int)
   ·rw [if_pos c3] at H
    have c3b0 : decide (x9_1 < (l0.length : Int)) = true := decide_eq_true c3
    clear c3
    by_cases c4 : 0 ≤ x9_1
    ·rw [if_pos c4] at H
     have c4b0 : decide (0 ≤ x9_1) = true := decide_eq_true c4
     clear c4
     by_cases c5 : x9_1 < (l0.length : Int)
     ·rw [if_pos c5] at H
      have c5b0 : decide (x9_1 < (l0.length : Int)) = true := decide_eq_true c5
      clear c5
      by_cases c6 : (rd l0 x9_1) = a1
      ·rw [if_pos c6] at H
       have c6b0 : ((rd l0 x9_1) == a1) = true := beq_iff_eq.mpr c6
       have c6b1 : ((rd l0 x9_1) != a1) = false := bne_eq_false_iff_eq.mpr c6
       clear c6
       obtain rfl := Option.some.inj H
       have p165 : 0 ≤ (x9_1 : Int) := of_decide_eq_true (by first | (with_reducible assumption) | assumption)
       have q165 : x9_1 < (l0.length : Int) := of_decide_eq_true (by first | (with_reducible assumption) | assumption)
       obtain ⟨ad165, e165, hx165_0⟩ := Kd.at_int HR0.out x9_1 p165 q165
       cases e165
       replace p165 := eq_true p165
       replace q165 := eq_true q165
       go_wp2
       go_ret
       exact ⟨by first | rfl | (simp; done) | (simp [*]; done), by repeat (first | exact Drawn0.refl _ | apply Drawn0.step)⟩
      ·rw [if_neg c6] at H
       have c6b0 : ((rd l0 x9_1) == a1) = false := beq_eq_false_iff_ne.mpr c6
       have c6b1 : ((rd l0 x9_1) != a1) = true := bne_iff_ne.mpr c6
       have H' := Aside0.mk H
       clear H
       have p165 : 0 ≤ (x9_1 : Int) := of_decide_eq_true (by first | (with_reducible assumption) | assumption)
       have q165 : x9_1 < (l0.length : Int) := of_decide_eq_true (by first | (with_reducible assumption) | assumption)
       obtain ⟨ad165, e165, hx165_0⟩ := Kd.at_int HR0.out x9_1 p165 q165
       cases e165
       replace p165 := eq_true p165
       replace q165 := eq_true q165
       go_wp2
       go_roundg k1
       case measure => have := HK1.out; omega
       case rel => exact ⟨(wrap64 (x9_1 + 1)), (by first | rfl | (simp; done) | (simp [*]; done)), H', ⟨by have := HK1.out; omega⟩, by repeat (first | exact Drawn0.refl _ | apply Drawn0.step)⟩
     ·rw [if_neg c5] at H
      exact absurd H (by simp)
    ·rw [if_neg c4] at H
     exact absurd H (by simp)
   ·rw [if_neg c3] at H
    have c3b0 : decide (x9_1 < (l0.length : Int)) = false := decide_eq_false c3
    clear c3
    obtain rfl := Option.some.inj H
    go_wp2
    go_ret
    exact ⟨by first | rfl | (simp; done) | (simp [*]; done), by repeat (first | exact Drawn0.refl _ | apply Drawn0.step)⟩

end Go.Proofs.Ytnjnjajgpkmfhaa.PX

namespace Go.Proofs.Ytnjnjajgpkmfhaa.PX
open Go.RowKit Go.Proofs.YtnjnjajgpkmfhaaW.PrintWords Go.Proofs.YtnjnjajgpkmfhaaW.PrintLast Go.Proofs.YtnjnjajgpkmfhaaW.PrintMore
attribute [local go_sem] max2_int min2_int max_two min_two max_three min_three max_four min_four   -- for this text's walks alone
set_option linter.unusedVariables false
set_option linter.unusedSimpArgs false

/-! ### deadboltref07_Right: function 55 -/
def deadboltref07_Right.l0 : Nat → List Int → List Int → Int → Int → Option (Bool)
 | 0, _, _, _, _ => none
 | k + 1, x0, x5, x6, x7 => if x7 < x6 then (if 0 ≤ x7 then (if x7 < (x5.length : Int) then (if (rd x5 x7) < 0 then (some false) else (if x7 ≤ (x0.length : Int) then ((deadboltref07_Place.f k (x0.take (x7 : Int).toNat) (rd x5 x7)).bind fun t168 => (if t168 ≥ 0 then (some false) else (deadboltref07_Right.l0 k x0 x5 x6 (wrap64 (x7 + 1))))) else (none))) else (none)) else (none)) else (some (decide ((x0.length : Int) ≤ 64)))
def deadboltref07_Right.f (k : Nat) (l0 : List Int) : Option (Bool) := deadboltref07_Right.l0 k l0 l0 (l0.length : Int) 0
set_option maxHeartbeats 8000000 in
set_option maxRecDepth 100000 in
theorem deadboltref07_Right.calls (k : Nat) (A0 : Option Addr) (c0 : Nat) (l0 : List Int) (r : Bool) (w : World) (hr0 : Kd.C (Kd.int .i64) w A0 l0.length l0) (hc0 : l0.length ≤ c0) (h : deadboltref07_Right.f k l0 = some r) :
  Calls Try.prog 55 #[.slice A0 l0.length c0] w fun e w' => e = .returned (.bool r) ∧ Drawn0 w w' := by
 have HR0 := Aside0.mk hr0
 have HC0 := Aside0.mk hc0
 clear hr0 hc0
 have H : (deadboltref07_Right.l0 k l0 l0 (l0.length : Int) 0) = some r := h
 clear h
 have H' := Aside0.mk H
 clear H
 go_enter Try.func55, Try.ntmps55
 go_wp2
 go_loopg [7] k (fun kq v7 w' => ∃ (x7_1 : Int), v7 = .int .i64 x7_1 ∧ Aside0 (deadboltref07_Right.l0 kq l0 l0 (l0.length : Int) x7_1 = some r) ∧ Aside0 (kq ≤ k) ∧ Drawn0 w w')
 case atStart => exact ⟨(0), (by first | rfl | (simp; done) | (simp [*]; done)), H', ⟨Nat.le_refl _⟩, by repeat (first | exact Drawn0.refl _ | apply Drawn0.step)⟩
 case round =>
  clear H'
  obtain ⟨x7_1, rfl, HA, HK1, ⟨m1, rfl⟩⟩ := hrel
  cases gk with
  | zero => exact absurd HA.out (by simp [deadboltref07_Right.l0])
  | succ k1 =>
   have H := HA.out
   clear HA
   simp only [deadboltref07_Right.l0] at H
   by_cases c2 : x7_1 < (l0.length : Int)
   ·rw [if_pos c2] at H
    have c2b0 : decide (x7_1 < (l0.length : Int)) = true := decide_eq_true c2
    clear c2
    by_cases c3 : 0 ≤ x7_1
    ·rw [if_pos c3] at H
     have c3b0 : decide (0 ≤ x7_1) = true := decide_eq_true c3
     clear c3
     by_cases c4 : x7_1 < (l0.length : Int)
     ·rw [if_pos c4] at H
      have c4b0 : decide (x7_1 < (l0.length : Int)) = true := decide_eq_true c4
      clear c4
      by_cases c5 : (rd l0 x7_1) < 0
      ·rw [if_pos c5] at H
       have c5b0 : decide ((rd l0 x7_1) < 0) = true := decide_eq_true c5
       clear c5
       obtain rfl := Option.some.inj H
       have p166 : 0 ≤ (x7_1 : Int) := of_decide_eq_true (by first | (with_reducible assumption) | assumption)
       have q166 : x7_1 < (l0.length : Int) := of_decide_eq_true (by first | (with_reducible assumption) | assumption)
       obtain ⟨ad166, e166, hx166_0⟩ := Kd.at_int HR0.out x7_1 p166 q166
       cases e166
       replace p166 := eq_true p166
       replace q166 := eq_true q166
       go_wp2
       go_ret
       exact ⟨by first | rfl | (simp; done) | (simp [*]; done), by repeat (first | exact Drawn0.refl _ | apply Drawn0.step)⟩
      ·rw [if_neg c5] at H
       have c5b0 : decide ((rd l0 x7_1) < 0) = false := decide_eq_false c5
       clear c5
       have c6b0 := eq_true (of_decide_eq_true (by first | (with_reducible assumption) | assumption) : 0 ≤ x7_1)
       by_cases c7 : x7_1 ≤ (l0.length : Int)
       ·rw [if_pos c7] at H
        have c7b0 := eq_true c7
        have c7b1 : decide (x7_1 ≤ (l0.length : Int)) = true := decide_eq_true c7
        clear c7
        replace H := Option.bind_eq_some_iff.mp H
        obtain ⟨t168, A80, H⟩ := H
        replace H : (if t168 ≥ 0 then (some false) else (deadboltref07_Right.l0 k1 l0 l0 (l0.length : Int) (wrap64 (x7_1 + 1)))) = some r := H
        have A8 := Aside0.mk A80
        clear A80
        by_cases c9 : t168 ≥ 0
        ·rw [if_pos c9] at H
         have c9b0 : decide (0 ≤ t168) = true := decide_eq_true c9
         clear c9
         obtain rfl := Option.some.inj H
         have p166 : 0 ≤ (x7_1 : Int) := of_decide_eq_true (by first | (with_reducible assumption) | assumption)
         have q166 : x7_1 < (l0.length : Int) := of_decide_eq_true (by first | (with_reducible assumption) | assumption)
         obtain ⟨ad166, e166, hx166_0⟩ := Kd.at_int HR0.out x7_1 p166 q166
         cases e166
         replace p166 := eq_true p166
         replace q166 := eq_true q166
         obtain ⟨i010, hi010, _, hsz10, _⟩ := info_parts info3
         obtain ⟨hcut10, hA10, hC10⟩ := print_take_of (P := Try.prog) (Value.int .i64) 0 25 3 .i64 Try.underlying25 hi010 hsz10 (some ad166) c0 l0 x7_1 (of_decide_eq_true (by first | (with_reducible assumption) | assumption)) (of_decide_eq_true (by first | (with_reducible assumption) | assumption)) HC0.out
         have HR167 := Aside0.mk (Kd.C_of_reads (h1 := fun _ => rfl) (hA10 _ (Kd.reads_of_C HR0.out)))
         have HC167 := Aside0.mk hC10
         clear hA10 hC10 hi010 hsz10
         go_wp2_with (first | (go_at_call 28; (first | rw [show (x7_1 : Int).toNat = (l0.take (x7_1 : Int).toNat).length from by (have hq_ : x7_1 < (l0.length : Int) := of_eq_true (by assumption); rw [List.length_take]; omega)] | skip); (with_reducible refine (deadboltref07_Place.calls k1 _ _ (l0.take (x7_1 : Int).toNat) (rd l0 x7_1) t168 _ ?side1 ?side2 A8.out).mono ?_); (case side1 => repeat (first | exact HR167.out | (with_reducible refine Kd.C_alloc ?_ _) | (with_reducible refine Kd.C_drewN ?_ _) | (with_reducible refine Kd.C_drew ?_))); (case side2 => exact HC167.out); rintro e w' ⟨rfl, ⟨nd, rfl⟩⟩))
         go_ret
         exact ⟨by first | rfl | (simp; done) | (simp [*]; done), by repeat (first | exact Drawn0.refl _ | apply Drawn0.step)⟩
        ·rw [if_neg c9] at H
         have c9b0 : decide (0 ≤ t168) = false := decide_eq_false c9
         clear c9
         have H' := Aside0.mk H
         clear H
         have p166 : 0 ≤ (x7_1 : Int) := of_decide_eq_true (by first | (with_reducible assumption) | assumption)
         have q166 : x7_1 < (l0.length : Int) := of_decide_eq_true (by first | (with_reducible assumption) | assumption)
         obtain ⟨ad166, e166, hx166_0⟩ := Kd.at_int HR0.out x7_1 p166 q166
         cases e166
         replace p166 := eq_true p166
         replace q166 := eq_true q166
         obtain ⟨i011, hi011, _, hsz11, _⟩ := info_parts info3
         obtain ⟨hcut11, hA11, hC11⟩ := print_take_of (P := Try.prog) (Value.int .i64) 0 25 3 .i64 Try.underlying25 hi011 hsz11 (some ad166) c0 l0 x7_1 (of_decide_eq_true (by first | (with_reducible assumption) | assumption)) (of_decide_eq_true (by first | (with_reducible assumption) | assumption)) HC0.out
         have HR167 := Aside0.mk (Kd.C_of_reads (h1 := fun _ => rfl) (hA11 _ (Kd.reads_of_C HR0.out)))
         have HC167 := Aside0.mk hC11
         clear hA11 hC11 hi011 hsz11
         go_wp2_with (first | (go_at_call 28; (first | rw [show (x7_1 : Int).toNat = (l0.take (x7_1 : Int).toNat).length from by (have hq_ : x7_1 < (l0.length : Int) := of_eq_true (by assumption); rw [List.length_take]; omega)] | skip); (with_reducible refine (deadboltref07_Place.calls k1 _ _ (l0.take (x7_1 : Int).toNat) (rd l0 x7_1) t168 _ ?side1 ?side2 A8.out).mono ?_); (case side1 => repeat (first | exact HR167.out | (with_reducible refine Kd.C_alloc ?_ _) | (with_reducible refine Kd.C_drewN ?_ _) | (with_reducible refine Kd.C_drew ?_))); (case side2 => exact HC167.out); rintro e w' ⟨rfl, ⟨nd, rfl⟩⟩))
         go_roundg k1
         case measure => have := HK1.out; omega
         case rel => exact ⟨(wrap64 (x7_1 + 1)), (by first | rfl | (simp; done) | (simp [*]; done)), H', ⟨by have := HK1.out; omega⟩, by repeat (first | exact Drawn0.refl _ | apply Drawn0.step)⟩
       ·rw [if_neg c7] at H
        exact absurd H (by simp)
     ·rw [if_neg c4] at H
      exact absurd H (by simp)
    ·rw [if_neg c3] at H
     exact absurd H (by simp)
   ·rw [if_neg c2] at H
    have c2b0 : decide (x7_1 < (l0.length : Int)) = false := decide_eq_false c2
    clear c2
    obtain rfl := Option.some.inj H
    go_wp2
    go_ret
    exact ⟨by first | rfl | (simp; done) | (simp [*]; done), by repeat (first | exact Drawn0.refl _ | apply Drawn0.step)⟩

end Go.Proofs.Ytnjnjajgpkmfhaa.PX
