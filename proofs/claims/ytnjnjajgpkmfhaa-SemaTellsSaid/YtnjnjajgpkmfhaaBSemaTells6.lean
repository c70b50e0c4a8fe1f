/-
 The statement on SemaTells, out of what its printed form comes to: for every input the call returns true, and each argument reads behind it as it read before.
-/
import Derived.Test.YtnjnjajgpkmfhaaBSemaTells5
import Derived.Test.YtnjnjajgpkmfhaaRows
namespace Go.Proofs.Ytnjnjajgpkmfhaa.PX
open Go.RowKit Go.Proofs.YtnjnjajgpkmfhaaW.PrintWords Go.Proofs.YtnjnjajgpkmfhaaW.PrintLast Go.Proofs.YtnjnjajgpkmfhaaW.PrintMore
attribute [local go_sem] max2_int min2_int max_two min_two max_three min_three max_four min_four   -- for this text's walks alone
set_option linter.unusedVariables false
set_option linter.unusedSimpArgs false

/-! ### deadboltref10_set: function 60 -/
def deadboltref10_set.f (k : Nat) (l0 : List (S33)) (a1_0 : Int) (a1_1 : Int) (l1_2 : List Int) : Option ((List (S33)) × Int) := (deadboltref09_Set.f k l0 a1_0 a1_1 l1_2).bind fun t443 => (if (t443.length : Int) > 64 then (some (([] : List (S33)), 5)) else (some (t443, 0)))
set_option maxHeartbeats 8000000 in
set_option maxRecDepth 100000 in
theorem deadboltref10_set.calls (k : Nat) (P0_ : Nat → Prop) (A0 : Option Addr) (c0 : Nat) (l0 : List (S33)) (a1_0 : Int) (a1_1 : Int) (P1_2_ : Nat → Prop) (A1_2 : Option Addr) (c1_2 : Nat) (l1_2 : List Int) (r1 : List (S33)) (r2 : Int) (w : World) (hs0 : Kd.V k33 33 w w.heap.size (fun k_ => P0_ k_) (.slice A0 l0.length c0) l0) (hs1_2 : Kd.V (Kd.int .i64) 3 w w.heap.size (fun k_ => P1_2_ k_) (.slice A1_2 l1_2.length c1_2) l1_2) (h : deadboltref10_set.f k l0 a1_0 a1_1 l1_2 = some (r1, r2)) :
  Calls Try.prog 60 #[.slice A0 l0.length c0, .agg #[.int .i64 a1_0, .int .i64 a1_1, .slice A1_2 l1_2.length c1_2]] w fun e w' => ∃ v0_ : Value, e = .returned (.tuple #[v0_, .int .i64 r2]) ∧ Kd.N k33 33 w' w.heap.size (fun k_ => ((P0_ k_ ∨ P1_2_ k_) ∨ w.heap.size ≤ k_)) v0_ r1 ∧ Below w.heap.size w w' := by
 have hu33 := Try.underlying33
 have HO0 := Aside0.mk (show Kd.V k33 33 w w.heap.size (fun k_ => ((P0_ k_ ∨ P1_2_ k_) ∨ w.heap.size ≤ k_)) (.slice A0 l0.length c0) l0 from Kd.V_mono hs0 (fun k_ hk => .inl (.inl hk)))
 have HO1_2 := Aside0.mk (show Kd.V (Kd.int .i64) 3 w w.heap.size (fun k_ => ((P0_ k_ ∨ P1_2_ k_) ∨ w.heap.size ≤ k_)) (.slice A1_2 l1_2.length c1_2) l1_2 from Kd.V_mono hs1_2 (fun k_ hk => .inl (.inr hk)))
 have HB := Aside0.mk (Below.refl w.heap.size w)
 have H : ((deadboltref09_Set.f k l0 a1_0 a1_1 l1_2).bind fun t443 => (if (t443.length : Int) > 64 then (some (([] : List (S33)), 5)) else (some (t443, 0)))) = some (r1, r2) := h
 clear h
 replace H := Option.bind_eq_some_iff.mp H
 obtain ⟨t443, A30, H⟩ := H
 replace H : (if (t443.length : Int) > 64 then (some (([] : List (S33)), 5)) else (some (t443, 0))) = some (r1, r2) := H
 have A3 := Aside0.mk A30
 clear A30
 by_cases c4 : (t443.length : Int) > 64
 ·rw [if_pos c4] at H
  have c4b0 : decide (64 < (t443.length : Int)) = true := decide_eq_true c4
  have c4b1 : decide (64 < t443.length) = true := decide_eq_true (by omega)
  clear c4
  simp only [Option.some.injEq, Prod.mk.injEq] at H
  obtain ⟨rfl, rfl⟩ := H
  go_enter Try.func60, Try.ntmps60
  go_wp2_with (first | ((with_reducible refine gate_dst (N := 3) rfl ?_); refine box_event ?hg (N := 3) ?hd (cs := #[.int .i64 a1_0, .int .i64 a1_1, .slice A1_2 l1_2.length c1_2]) (t := 33) ?hr ?_; (case hd => rfl); (case hg => rfl); (case hr => first | (go_simp; done) | (go_simp; rfl)); intro gb442 hg w5 hbox hb; have n0_ := Aside0.mk (Kd.V_below (Kd.V_elderB (zV HO0) gb442 (Nat.le_of_eq hg.symm)) hb); have n1_ := Aside0.mk (Kd.V_below (Kd.V_elderB (zV HO1_2) gb442 (Nat.le_of_eq hg.symm)) hb); have n2_ := Aside0.mk (below_step (zB HB) hb); have n3_ := Aside0.mk (hbox); have n4_ := Aside0.mk ((by rw [hg]; exact (below_size (zB HB)) : w.heap.size ≤ gb442)); have n5_ := Aside0.mk ((by rw [hg]; exact (below_size (zB HB)) : w.heap.size ≤ gb442)); clear HO0; clear HO1_2; clear HB; have HO0 := n0_; have HO1_2 := n1_; have HB := n2_; have BK442 := n3_; have GW442 := n4_; have GE442 := n5_; clear n0_ n1_ n2_ n3_ n4_ n5_; clear hb hbox hg; have hcz6_0 : w5.cell? ⟨gb442, 0, none⟩ = some (.int .i64 a1_0) := (blk_cell BK442.out 0).trans rfl; have hcz6_1 : w5.cell? ⟨gb442, 1, none⟩ = some (.int .i64 a1_1) := (blk_cell BK442.out 1).trans rfl; have hcz6_2 : w5.cell? ⟨gb442, 2, none⟩ = some (.slice A1_2 l1_2.length c1_2) := (blk_cell BK442.out 2).trans rfl; have hfz6_0 := blk_frozen BK442.out 0; have hfz6_1 := blk_frozen BK442.out 1; have hfz6_2 := blk_frozen BK442.out 2) | ((with_reducible refine gate_callee (f := 26) rfl ?_); refine goesL_ (some 9) rfl rfl Try.func26 (by kernel_rfl) rfl #[.slice A0 l0.length c0, .agg #[.int .i64 a1_0, .int .i64 a1_1, .slice A1_2 l1_2.length c1_2]] rfl zP ?_; (with_reducible refine (deadboltref09_Set.calls k (fun k_ => (((P0_ k_ ∨ P1_2_ k_) ∨ w.heap.size ≤ k_) ∧ k_ ≠ gb442)) _ _ l0 a1_0 a1_1 (fun k_ => (((P0_ k_ ∨ P1_2_ k_) ∨ w.heap.size ≤ k_) ∧ k_ ≠ gb442)) _ _ l1_2 t443 _ ?side1 ?side2 A3.out).mono ?_); (case side1 => exact HO0.out); (case side2 => exact HO1_2.out); rintro e w7 ⟨v444, rfl, ho0, hb⟩; refine ⟨_, rfl, ?_⟩; have n0_ := Aside0.mk (Kd.V_elder' (zV HO0) (Kd.N_base ho0) hb); have n1_ := Aside0.mk (Kd.V_elder' (zV HO1_2) (Kd.N_base ho0) hb); have n2_ := Aside0.mk (Kd.N_lower (Kd.N_mono (ok' := fun k_ => ((P0_ k_ ∨ P1_2_ k_) ∨ w.heap.size ≤ k_) ∧ k_ ≠ gb442) ho0 (fun k_ hk_ => ⟨Or.elim hk_ (fun hs_ => Or.elim hs_ (fun hs_ => hs_.1) (fun hs_ => hs_.1)) (fun hn_ => (.inr (Nat.le_trans (below_size (zB1 HB GE442)) hn_))), Or.elim hk_ (fun hs_ => Or.elim hs_ (fun hs_ => hs_.2) (fun hs_ => hs_.2)) (fun hn_ => (Kd.freshB (g := gb442) (o := .cells #[.int .i64 a1_0, .int .i64 a1_1, .slice A1_2 l1_2.length c1_2] 33 (0, 0)) (zK BK442) k_ hn_))⟩)) (below_size (zB1 HB GE442))); have n3_ := Aside0.mk (blk_below (g := gb442) (o := .cells #[.int .i64 a1_0, .int .i64 a1_1, .slice A1_2 l1_2.length c1_2] 33 (0, 0)) (zK BK442) hb); have n4_ := Aside0.mk (below_step (zB1 HB GE442) hb); clear HO0; clear HO1_2; clear BK442; clear HB; have HO0 := n0_; have HO1_2 := n1_; have HO445 := n2_; have BK442 := n3_; have HB := n4_; clear n0_ n1_ n2_ n3_ n4_; (try clear hb); (try clear hb2); (try clear hk); (try clear hi); (try clear ho0); obtain ⟨Ao8, co8, eo8⟩ := Kd.N_slice HO445.out; subst eo8))
  go_ret2
  exact ⟨_, by first | rfl | (simp [errW_none, errW_some] <;> rfl) | (simp [*, errW_none, errW_some] <;> rfl), by first | exact Kd.S_nil _ _ _ _ _ | exact Kd.N_nil _ _ _ _ _ | exact Kd.V_nil _ _ _ _ _ | exact Kd.Q_nil _ _ _ _ _ | exact Kd.R_nil _ _ _ _ _, zB1 HB GE442⟩
 ·rw [if_neg c4] at H
  have c4b0 : decide (64 < (t443.length : Int)) = false := decide_eq_false c4
  have c4b1 : decide (64 < t443.length) = false := decide_eq_false (by omega)
  clear c4
  simp only [Option.some.injEq, Prod.mk.injEq] at H
  obtain ⟨rfl, rfl⟩ := H
  go_enter Try.func60, Try.ntmps60
  go_wp2_with (first | ((with_reducible refine gate_dst (N := 3) rfl ?_); refine box_event ?hg (N := 3) ?hd (cs := #[.int .i64 a1_0, .int .i64 a1_1, .slice A1_2 l1_2.length c1_2]) (t := 33) ?hr ?_; (case hd => rfl); (case hg => rfl); (case hr => first | (go_simp; done) | (go_simp; rfl)); intro gb442 hg w9 hbox hb; have n0_ := Aside0.mk (Kd.V_below (Kd.V_elderB (zV HO0) gb442 (Nat.le_of_eq hg.symm)) hb); have n1_ := Aside0.mk (Kd.V_below (Kd.V_elderB (zV HO1_2) gb442 (Nat.le_of_eq hg.symm)) hb); have n2_ := Aside0.mk (below_step (zB HB) hb); have n3_ := Aside0.mk (hbox); have n4_ := Aside0.mk ((by rw [hg]; exact (below_size (zB HB)) : w.heap.size ≤ gb442)); have n5_ := Aside0.mk ((by rw [hg]; exact (below_size (zB HB)) : w.heap.size ≤ gb442)); clear HO0; clear HO1_2; clear HB; have HO0 := n0_; have HO1_2 := n1_; have HB := n2_; have BK442 := n3_; have GW442 := n4_; have GE442 := n5_; clear n0_ n1_ n2_ n3_ n4_ n5_; clear hb hbox hg; have hcz10_0 : w9.cell? ⟨gb442, 0, none⟩ = some (.int .i64 a1_0) := (blk_cell BK442.out 0).trans rfl; have hcz10_1 : w9.cell? ⟨gb442, 1, none⟩ = some (.int .i64 a1_1) := (blk_cell BK442.out 1).trans rfl; have hcz10_2 : w9.cell? ⟨gb442, 2, none⟩ = some (.slice A1_2 l1_2.length c1_2) := (blk_cell BK442.out 2).trans rfl; have hfz10_0 := blk_frozen BK442.out 0; have hfz10_1 := blk_frozen BK442.out 1; have hfz10_2 := blk_frozen BK442.out 2) | ((with_reducible refine gate_callee (f := 26) rfl ?_); refine goesL_ (some 9) rfl rfl Try.func26 (by kernel_rfl) rfl #[.slice A0 l0.length c0, .agg #[.int .i64 a1_0, .int .i64 a1_1, .slice A1_2 l1_2.length c1_2]] rfl zP ?_; (with_reducible refine (deadboltref09_Set.calls k (fun k_ => (((P0_ k_ ∨ P1_2_ k_) ∨ w.heap.size ≤ k_) ∧ k_ ≠ gb442)) _ _ l0 a1_0 a1_1 (fun k_ => (((P0_ k_ ∨ P1_2_ k_) ∨ w.heap.size ≤ k_) ∧ k_ ≠ gb442)) _ _ l1_2 t443 _ ?side1 ?side2 A3.out).mono ?_); (case side1 => exact HO0.out); (case side2 => exact HO1_2.out); rintro e w11 ⟨v444, rfl, ho0, hb⟩; refine ⟨_, rfl, ?_⟩; have n0_ := Aside0.mk (Kd.V_elder' (zV HO0) (Kd.N_base ho0) hb); have n1_ := Aside0.mk (Kd.V_elder' (zV HO1_2) (Kd.N_base ho0) hb); have n2_ := Aside0.mk (Kd.N_lower (Kd.N_mono (ok' := fun k_ => ((P0_ k_ ∨ P1_2_ k_) ∨ w.heap.size ≤ k_) ∧ k_ ≠ gb442) ho0 (fun k_ hk_ => ⟨Or.elim hk_ (fun hs_ => Or.elim hs_ (fun hs_ => hs_.1) (fun hs_ => hs_.1)) (fun hn_ => (.inr (Nat.le_trans (below_size (zB1 HB GE442)) hn_))), Or.elim hk_ (fun hs_ => Or.elim hs_ (fun hs_ => hs_.2) (fun hs_ => hs_.2)) (fun hn_ => (Kd.freshB (g := gb442) (o := .cells #[.int .i64 a1_0, .int .i64 a1_1, .slice A1_2 l1_2.length c1_2] 33 (0, 0)) (zK BK442) k_ hn_))⟩)) (below_size (zB1 HB GE442))); have n3_ := Aside0.mk (blk_below (g := gb442) (o := .cells #[.int .i64 a1_0, .int .i64 a1_1, .slice A1_2 l1_2.length c1_2] 33 (0, 0)) (zK BK442) hb); have n4_ := Aside0.mk (below_step (zB1 HB GE442) hb); clear HO0; clear HO1_2; clear BK442; clear HB; have HO0 := n0_; have HO1_2 := n1_; have HO445 := n2_; have BK442 := n3_; have HB := n4_; clear n0_ n1_ n2_ n3_ n4_; (try clear hb); (try clear hb2); (try clear hk); (try clear hi); (try clear ho0); obtain ⟨Ao12, co12, eo12⟩ := Kd.N_slice HO445.out; subst eo12))
  go_ret2
  exact ⟨_, by first | rfl | (simp [errW_none, errW_some] <;> rfl) | (simp [*, errW_none, errW_some] <;> rfl), by (with_reducible repeat (first | apply Kd.N_alloc | apply Kd.N_drewN | apply Kd.N_drew)); exact Kd.N_mono HO445.out (fun _ hk => hk.1), zB1 HB GE442⟩

end Go.Proofs.Ytnjnjajgpkmfhaa.PX

namespace Go.Proofs.Ytnjnjajgpkmfhaa.PX
open Go.RowKit Go.Proofs.YtnjnjajgpkmfhaaW.PrintWords Go.Proofs.YtnjnjajgpkmfhaaW.PrintLast Go.Proofs.YtnjnjajgpkmfhaaW.PrintMore
attribute [local go_sem] max2_int min2_int max_two min_two max_three min_three max_four min_four   -- for this text's walks alone
set_option linter.unusedVariables false
set_option linter.unusedSimpArgs false

/-! ### deadboltref07_Push: function 31 -/
def deadboltref07_Push.f (l0 : List Int) (a1 : Int) (a2 : Bool) : Option (List Int) := (some (([] : List Int) : List Int)).bind fun y465 => (if a2 = true then (if y465.length < 17592186044416 then ((some (y465 ++ [a1] : List Int)).bind fun y468 => (if y468.length + l0.length < 17592186044416 then (some (y468 ++ l0)) else (none))) else (none)) else (if y465.length + l0.length < 17592186044416 then ((some (y465 ++ l0 : List Int)).bind fun y474 => (if y474.length < 17592186044416 then (some (y474 ++ [a1])) else (none))) else (none)))
set_option maxHeartbeats 8000000 in
set_option maxRecDepth 100000 in
theorem deadboltref07_Push.calls (A0 : Option Addr) (c0 : Nat) (l0 : List Int) (a1 : Int) (a2 : Bool) (r : List Int) (w : World) (hr0 : Kd.C (Kd.int .i64) w A0 l0.length l0) (hc0 : l0.length ≤ c0) (h : deadboltref07_Push.f l0 a1 a2 = some r) :
  Calls Try.prog 31 #[.slice A0 l0.length c0, .int .i64 a1, .bool a2] w fun e w' => ∃ v0_ : Value, e = .returned (v0_) ∧ Kd.R (Kd.int .i64) 3 w' w.heap.size (fun _ => True) v0_ r ∧ Below w.heap.size w w' := by
 have HR0 := Aside0.mk hr0
 have HC0 := Aside0.mk hc0
 clear hr0 hc0
 have HB := Aside0.mk (Below.refl w.heap.size w)
 have H : ((some (([] : List Int) : List Int)).bind fun y465 => (if a2 = true then (if y465.length < 17592186044416 then ((some (y465 ++ [a1] : List Int)).bind fun y468 => (if y468.length + l0.length < 17592186044416 then (some (y468 ++ l0)) else (none))) else (none)) else (if y465.length + l0.length < 17592186044416 then ((some (y465 ++ l0 : List Int)).bind fun y474 => (if y474.length < 17592186044416 then (some (y474 ++ [a1])) else (none))) else (none)))) = some r := h
 clear h
 obtain ⟨y465, hy465⟩ : ∃ y_ : List Int, y_ = (([] : List Int)) := ⟨_, rfl⟩
 replace H : (if a2 = true then (if y465.length < 17592186044416 then ((some (y465 ++ [a1] : List Int)).bind fun y468 => (if y468.length + l0.length < 17592186044416 then (some (y468 ++ l0)) else (none))) else (none)) else (if y465.length + l0.length < 17592186044416 then ((some (y465 ++ l0 : List Int)).bind fun y474 => (if y474.length < 17592186044416 then (some (y474 ++ [a1])) else (none))) else (none))) = some r := by first | (rw [hy465]; with_reducible exact H) | (have H2_ := (Option.bind_some _ _).symm.trans H; rw [hy465]; with_reducible exact H2_) | (have H2_ := (Option.bind_some _ _).symm.trans H; with_reducible exact H2_) | with_reducible exact H | (rw [hy465]; exact H) | exact H
 have Ny465 := Aside0.mk hy465
 clear hy465
 by_cases c4 : a2 = true
 ·subst c4
  have H1 : (if y465.length < 17592186044416 then ((some (y465 ++ [a1] : List Int)).bind fun y468 => (if y468.length + l0.length < 17592186044416 then (some (y468 ++ l0)) else (none))) else (none)) = some r := by rw [if_pos rfl] at H; exact H
  clear H
  have H := H1
  clear H1
  by_cases c5 : y465.length < 17592186044416
  ·rw [if_pos c5] at H
   have LMc5 := Aside0.mk c5
   clear c5
   obtain ⟨y468, hy468⟩ : ∃ y_ : List Int, y_ = (y465 ++ [a1]) := ⟨_, rfl⟩
   replace H : (if y468.length + l0.length < 17592186044416 then (some (y468 ++ l0)) else (none)) = some r := by first | (rw [hy468]; with_reducible exact H) | (have H2_ := (Option.bind_some _ _).symm.trans H; rw [hy468]; with_reducible exact H2_) | (have H2_ := (Option.bind_some _ _).symm.trans H; with_reducible exact H2_) | with_reducible exact H | (rw [hy468]; exact H) | exact H
   have Ny468 := Aside0.mk hy468
   clear hy468
   by_cases c6 : y468.length + l0.length < 17592186044416
   ·rw [if_pos c6] at H
    have LMc6 := Aside0.mk c6
    clear c6
    obtain ⟨y471, hy471⟩ : ∃ y_ : List Int, y_ = (y468 ++ l0) := ⟨_, rfl⟩
    replace H : (some y471) = some r := by first | (rw [hy471]; with_reducible exact H) | (have H2_ := (Option.bind_some _ _).symm.trans H; rw [hy471]; with_reducible exact H2_) | (have H2_ := (Option.bind_some _ _).symm.trans H; with_reducible exact H2_) | with_reducible exact H | (rw [hy471]; exact H) | exact H
    have Ny471 := Aside0.mk hy471
    clear hy471
    obtain rfl := Option.some.inj H
    go_enter Try.func31, Try.ntmps31
    go_wp2_with (first | ((with_reducible refine gate_dst (N := 8) rfl ?_); refine Kd.R_lit (Kd.int .i64) _ 3 ?hg (N := 8) ?hd (xs := ([] : List Int)) (inner := []) (ok := fun _ => True) (okp := fun _ => True) ?hr ?hp (fun _ hk => hk) trivial (Below.refl _ _) (Nat.le_refl _) (by simp) ?_; (case hd => rfl); (case hg => rfl); (case hr => first | (go_simp; done) | (go_simp; rfl)); (case hp => exact (Reps.none _ _)); intro v466 w7 ho8 hb hg_ hnew_; clear hg_ hnew_; (first | rw [← Ny465.out] at ho8 | (simp only [Int.reduceToNat] at ho8; rw [← Ny465.out] at ho8)); have n0_ := Aside0.mk (Kd.R_lower ho8 (below_size (zB HB))); have n1_ := Aside0.mk (below_step (zB HB) hb); clear HB; have HO467 := n0_; have HB := n1_; clear n0_ n1_; clear hb ho8) | ((with_reducible refine gate_builtin (b := .append) (xs := #[.tmp 10, .tmp 12]) rfl ?_); at_builtin; refine Kd.R_append (Kd.int .i64) (w0 := w) w.heap.size rfl (.tmp 10) (.tmp 12) 25 3 (.int .i64 0) 8 rfl Try.underlying25 info3 rfl (by decide) (by omega) v466 y465 a1 [.int .i64 a1] (fun _ => True) (fun _ => False) rfl rfl ?aP (fun _ hk => hk.elim) ?aF ?aO ?aB ?aS ?aL ?_; (case aP => exact rfl); (case aB => exact (zB HB)); (case aF => exact (fun _ _ => trivial)); (case aO => exact (zR HO467)); (case aS => exact (below_size (zB HB))); (case aL => have := LMc5.out; omega); intro v469 w9 ho hb hg hat; rw [← Ny468.out] at ho; have n0_ := Aside0.mk (hb); have n1_ := Aside0.mk (ho); clear HB; clear HO467; have HB := n0_; have HO470 := n1_; clear n0_ n1_; clear ho hb hg hat) | ((with_reducible refine gate_builtin (b := .append) (xs := #[.tmp 14, .tmp 15]) rfl ?_); at_builtin; refine Kd.R_append_rows (Kd.int .i64) (w0 := w) w.heap.size rfl (.tmp 14) (.tmp 15) 25 3 (.int .i64 0) 8 rfl Try.underlying25 info3 rfl (by decide) (by omega) v469 y468 l0 _ _ _ (fun _ => True) (fun _ => False) rfl rfl ?aO ?aR (fun _ _ h => h) (fun _ h => h.elim) ?aF ?aB ?aS ?aL ?_; (case aR => repeat (first | exact (Kd.C_below HR0.out HB.out) | (with_reducible refine Kd.C_alloc ?_ _) | (with_reducible refine Kd.C_drewN ?_ _) | (with_reducible refine Kd.C_drew ?_))); (case aB => exact (zB HB)); (case aF => exact (fun _ _ => trivial)); (case aO => exact (zR HO470)); (case aS => exact (below_size (zB HB))); (case aL => have := LMc6.out; omega); intro v472 w10 ho hb hg hat; rw [← Ny471.out] at ho; have n0_ := Aside0.mk (hb); have n1_ := Aside0.mk (ho); clear HB; clear HO470; have HB := n0_; have HO473 := n1_; clear n0_ n1_; clear ho hb hg hat))
    go_ret
    exact ⟨_, by first | rfl | (simp [errW_none, errW_some] <;> rfl) | (simp [*, errW_none, errW_some] <;> rfl), by (with_reducible repeat (first | apply Kd.R_alloc | apply Kd.R_drewN | apply Kd.R_drew)); exact HO473.out, zB HB⟩
   ·rw [if_neg c6] at H
    exact absurd H (by simp)
  ·rw [if_neg c5] at H
   exact absurd H (by simp)
 ·replace c4 := Bool.eq_false_iff.mpr c4
  subst c4
  have H1 : (if y465.length + l0.length < 17592186044416 then ((some (y465 ++ l0 : List Int)).bind fun y474 => (if y474.length < 17592186044416 then (some (y474 ++ [a1])) else (none))) else (none)) = some r := by rw [if_neg (show ¬ (false = true) by decide)] at H; exact H
  clear H
  have H := H1
  clear H1
  by_cases c11 : y465.length + l0.length < 17592186044416
  ·rw [if_pos c11] at H
   have LMc11 := Aside0.mk c11
   clear c11
   obtain ⟨y474, hy474⟩ : ∃ y_ : List Int, y_ = (y465 ++ l0) := ⟨_, rfl⟩
   replace H : (if y474.length < 17592186044416 then (some (y474 ++ [a1])) else (none)) = some r := by first | (rw [hy474]; with_reducible exact H) | (have H2_ := (Option.bind_some _ _).symm.trans H; rw [hy474]; with_reducible exact H2_) | (have H2_ := (Option.bind_some _ _).symm.trans H; with_reducible exact H2_) | with_reducible exact H | (rw [hy474]; exact H) | exact H
   have Ny474 := Aside0.mk hy474
   clear hy474
   by_cases c12 : y474.length < 17592186044416
   ·rw [if_pos c12] at H
    have LMc12 := Aside0.mk c12
    clear c12
    obtain ⟨y477, hy477⟩ : ∃ y_ : List Int, y_ = (y474 ++ [a1]) := ⟨_, rfl⟩
    replace H : (some y477) = some r := by first | (rw [hy477]; with_reducible exact H) | (have H2_ := (Option.bind_some _ _).symm.trans H; rw [hy477]; with_reducible exact H2_) | (have H2_ := (Option.bind_some _ _).symm.trans H; with_reducible exact H2_) | with_reducible exact H | (rw [hy477]; exact H) | exact H
    have Ny477 := Aside0.mk hy477
    clear hy477
    obtain rfl := Option.some.inj H
    go_enter Try.func31, Try.ntmps31
    go_wp2_with (first | ((with_reducible refine gate_dst (N := 8) rfl ?_); refine Kd.R_lit (Kd.int .i64) _ 3 ?hg (N := 8) ?hd (xs := ([] : List Int)) (inner := []) (ok := fun _ => True) (okp := fun _ => True) ?hr ?hp (fun _ hk => hk) trivial (Below.refl _ _) (Nat.le_refl _) (by simp) ?_; (case hd => rfl); (case hg => rfl); (case hr => first | (go_simp; done) | (go_simp; rfl)); (case hp => exact (Reps.none _ _)); intro v466 w13 ho14 hb hg_ hnew_; clear hg_ hnew_; (first | rw [← Ny465.out] at ho14 | (simp only [Int.reduceToNat] at ho14; rw [← Ny465.out] at ho14)); have n0_ := Aside0.mk (Kd.R_lower ho14 (below_size (zB HB))); have n1_ := Aside0.mk (below_step (zB HB) hb); clear HB; have HO467 := n0_; have HB := n1_; clear n0_ n1_; clear hb ho14) | ((with_reducible refine gate_builtin (b := .append) (xs := #[.tmp 14, .tmp 15]) rfl ?_); at_builtin; refine Kd.R_append_rows (Kd.int .i64) (w0 := w) w.heap.size rfl (.tmp 14) (.tmp 15) 25 3 (.int .i64 0) 8 rfl Try.underlying25 info3 rfl (by decide) (by omega) v466 y465 l0 _ _ _ (fun _ => True) (fun _ => False) rfl rfl ?aO ?aR (fun _ _ h => h) (fun _ h => h.elim) ?aF ?aB ?aS ?aL ?_; (case aR => repeat (first | exact (Kd.C_below HR0.out HB.out) | (with_reducible refine Kd.C_alloc ?_ _) | (with_reducible refine Kd.C_drewN ?_ _) | (with_reducible refine Kd.C_drew ?_))); (case aB => exact (zB HB)); (case aF => exact (fun _ _ => trivial)); (case aO => exact (zR HO467)); (case aS => exact (below_size (zB HB))); (case aL => have := LMc11.out; omega); intro v475 w15 ho hb hg hat; rw [← Ny474.out] at ho; have n0_ := Aside0.mk (hb); have n1_ := Aside0.mk (ho); clear HB; clear HO467; have HB := n0_; have HO476 := n1_; clear n0_ n1_; clear ho hb hg hat) | ((with_reducible refine gate_builtin (b := .append) (xs := #[.tmp 19, .tmp 21]) rfl ?_); at_builtin; refine Kd.R_append (Kd.int .i64) (w0 := w) w.heap.size rfl (.tmp 19) (.tmp 21) 25 3 (.int .i64 0) 8 rfl Try.underlying25 info3 rfl (by decide) (by omega) v475 y474 a1 [.int .i64 a1] (fun _ => True) (fun _ => False) rfl rfl ?aP (fun _ hk => hk.elim) ?aF ?aO ?aB ?aS ?aL ?_; (case aP => exact rfl); (case aB => exact (zB HB)); (case aF => exact (fun _ _ => trivial)); (case aO => exact (zR HO476)); (case aS => exact (below_size (zB HB))); (case aL => have := LMc12.out; omega); intro v478 w16 ho hb hg hat; rw [← Ny477.out] at ho; have n0_ := Aside0.mk (hb); have n1_ := Aside0.mk (ho); clear HB; clear HO476; have HB := n0_; have HO479 := n1_; clear n0_ n1_; clear ho hb hg hat))
    go_ret
    exact ⟨_, by first | rfl | (simp [errW_none, errW_some] <;> rfl) | (simp [*, errW_none, errW_some] <;> rfl), by (with_reducible repeat (first | apply Kd.R_alloc | apply Kd.R_drewN | apply Kd.R_drew)); exact HO479.out, zB HB⟩
   ·rw [if_neg c12] at H
    exact absurd H (by simp)
  ·rw [if_neg c11] at H
   exact absurd H (by simp)

end Go.Proofs.Ytnjnjajgpkmfhaa.PX

namespace Go.Proofs.Ytnjnjajgpkmfhaa.PX
open Go.RowKit Go.Proofs.YtnjnjajgpkmfhaaW.PrintWords Go.Proofs.YtnjnjajgpkmfhaaW.PrintLast Go.Proofs.YtnjnjajgpkmfhaaW.PrintMore
attribute [local go_sem] max2_int min2_int max_two min_two max_three min_three max_four min_four   -- for this text's walks alone
set_option linter.unusedVariables false
set_option linter.unusedSimpArgs false

/-! ### deadboltref10_Acquire: function 39 -/
def deadboltref10_Acquire.f (k : Nat) (l0 : List (S33)) (a1 : Int) (a2 : Int) (a3 : Bool) : Option ((List (S33)) × Bool × Int) := (deadboltref09_Get.f k l0 a1).bind fun bt480 => ((deadboltref07_Place.f k bt480.2.2 a2).bind fun t486 => (if t486 ≥ 0 then (some (([] : List (S33)), false, 7)) else (if bt480.2.1 > 0 then ((deadboltref10_set.f k l0 bt480.1 (wrap64 (bt480.2.1 - 1)) bt480.2.2).bind fun bt487 => (some (bt487.1, true, bt487.2))) else (if (bt480.2.2.length : Int) = 64 then (some (([] : List (S33)), false, 5)) else ((deadboltref07_Push.f bt480.2.2 a2 a3).bind fun t491 => ((deadboltref10_set.f k l0 bt480.1 bt480.2.1 t491).bind fun bt494 => (some (bt494.1, false, bt494.2))))))))
set_option maxHeartbeats 8000000 in
set_option maxRecDepth 100000 in
theorem deadboltref10_Acquire.calls (k : Nat) (P0_ : Nat → Prop) (A0 : Option Addr) (c0 : Nat) (l0 : List (S33)) (a1 : Int) (a2 : Int) (a3 : Bool) (r1 : List (S33)) (r2 : Bool) (r3 : Int) (w : World) (hs0 : Kd.V k33 33 w w.heap.size (fun k_ => P0_ k_) (.slice A0 l0.length c0) l0) (h : deadboltref10_Acquire.f k l0 a1 a2 a3 = some (r1, r2, r3)) :
  Calls Try.prog 39 #[.slice A0 l0.length c0, .int .i64 a1, .int .i64 a2, .bool a3] w fun e w' => ∃ v0_ : Value, e = .returned (.tuple #[v0_, .bool r2, .int .i64 r3]) ∧ Kd.N k33 33 w' w.heap.size (fun k_ => (P0_ k_ ∨ w.heap.size ≤ k_)) v0_ r1 ∧ Below w.heap.size w w' := by
 have hu33 := Try.underlying33
 have HO0 := Aside0.mk (show Kd.V k33 33 w w.heap.size (fun k_ => (P0_ k_ ∨ w.heap.size ≤ k_)) (.slice A0 l0.length c0) l0 from Kd.V_mono hs0 (fun k_ hk => .inl hk))
 have HB := Aside0.mk (Below.refl w.heap.size w)
 have H : ((deadboltref09_Get.f k l0 a1).bind fun bt480 => ((deadboltref07_Place.f k bt480.2.2 a2).bind fun t486 => (if t486 ≥ 0 then (some (([] : List (S33)), false, 7)) else (if bt480.2.1 > 0 then ((deadboltref10_set.f k l0 bt480.1 (wrap64 (bt480.2.1 - 1)) bt480.2.2).bind fun bt487 => (some (bt487.1, true, bt487.2))) else (if (bt480.2.2.length : Int) = 64 then (some (([] : List (S33)), false, 5)) else ((deadboltref07_Push.f bt480.2.2 a2 a3).bind fun t491 => ((deadboltref10_set.f k l0 bt480.1 bt480.2.1 t491).bind fun bt494 => (some (bt494.1, false, bt494.2))))))))) = some (r1, r2, r3) := h
 clear h
 replace H := Option.bind_eq_some_iff.mp H
 obtain ⟨⟨t480, t481, t482⟩, A50, H⟩ := H
 replace H : ((deadboltref07_Place.f k t482 a2).bind fun t486 => (if t486 ≥ 0 then (some (([] : List (S33)), false, 7)) else (if t481 > 0 then ((deadboltref10_set.f k l0 t480 (wrap64 (t481 - 1)) t482).bind fun bt487 => (some (bt487.1, true, bt487.2))) else (if (t482.length : Int) = 64 then (some (([] : List (S33)), false, 5)) else ((deadboltref07_Push.f t482 a2 a3).bind fun t491 => ((deadboltref10_set.f k l0 t480 t481 t491).bind fun bt494 => (some (bt494.1, false, bt494.2)))))))) = some (r1, r2, r3) := H
 have A5 := Aside0.mk A50
 clear A50
 replace H := Option.bind_eq_some_iff.mp H
 obtain ⟨t486, A60, H⟩ := H
 replace H : (if t486 ≥ 0 then (some (([] : List (S33)), false, 7)) else (if t481 > 0 then ((deadboltref10_set.f k l0 t480 (wrap64 (t481 - 1)) t482).bind fun bt487 => (some (bt487.1, true, bt487.2))) else (if (t482.length : Int) = 64 then (some (([] : List (S33)), false, 5)) else ((deadboltref07_Push.f t482 a2 a3).bind fun t491 => ((deadboltref10_set.f k l0 t480 t481 t491).bind fun bt494 => (some (bt494.1, false, bt494.2))))))) = some (r1, r2, r3) := H
 have A6 := Aside0.mk A60
 clear A60
 by_cases c7 : t486 ≥ 0
 ·rw [if_pos c7] at H
  have c7b0 : decide (0 ≤ t486) = true := decide_eq_true c7
  clear c7
  simp only [Option.some.injEq, Prod.mk.injEq] at H
  obtain ⟨rfl, rfl, rfl⟩ := H
  go_enter Try.func39, Try.ntmps39
  go_wp2_with (first | ((with_reducible refine gate_callee (f := 22) rfl ?_); refine goesL_ (some 18) rfl rfl Try.func22 (by kernel_rfl) rfl #[.slice A0 l0.length c0, .int .i64 a1] rfl zP ?_; (with_reducible refine (deadboltref09_Get.calls k (fun k_ => (P0_ k_ ∨ w.heap.size ≤ k_)) _ _ l0 a1 t480 t481 t482 _ ?side1 A5.out).mono ?_); (case side1 => exact HO0.out); rintro e w8 ⟨v483, rfl, ho0, hb⟩; refine ⟨_, rfl, ?_⟩; have n0_ := Aside0.mk (Kd.V_below (zV HO0) hb); have n1_ := Aside0.mk (Kd.V_lower (Kd.V_mono (ok' := fun k_ => (P0_ k_ ∨ w.heap.size ≤ k_)) ho0 (fun k_ hk_ => Or.elim hk_ (fun hs_ => hs_) (fun hn_ => (.inr (Nat.le_trans (below_size (zB HB)) hn_))))) (below_size (zB HB))); have n2_ := Aside0.mk (below_step (zB HB) hb); clear HO0; clear HB; have HO0 := n0_; have HO484 := n1_; have HB := n2_; clear n0_ n1_ n2_; (try clear hb); (try clear hb2); (try clear hk); (try clear hi); (try clear ho0)) | ((with_reducible refine gate_dst (N := 11) rfl ?_); refine box_event ?hg (N := 11) ?hd (cs := #[.int .i64 0, .int .i64 0, .slice none 0 0]) (t := 33) ?hr ?_; (case hd => rfl); (case hg => rfl); (case hr => first | (go_simp; done) | (go_simp; rfl)); intro gb485 hg w9 hbox hb; have n0_ := Aside0.mk (Kd.V_below (Kd.V_elderB (zV HO0) gb485 (Nat.le_of_eq hg.symm)) hb); have n1_ := Aside0.mk (Kd.V_below (Kd.V_elderB (zV HO484) gb485 (Nat.le_of_eq hg.symm)) hb); have n2_ := Aside0.mk (below_step (zB HB) hb); have n3_ := Aside0.mk (hbox); have n4_ := Aside0.mk ((by rw [hg]; exact (below_size (zB HB)) : w.heap.size ≤ gb485)); have n5_ := Aside0.mk ((by rw [hg]; exact (below_size (zB HB)) : w.heap.size ≤ gb485)); clear HO0; clear HO484; clear HB; have HO0 := n0_; have HO484 := n1_; have HB := n2_; have BK485 := n3_; have GW485 := n4_; have GE485 := n5_; clear n0_ n1_ n2_ n3_ n4_ n5_; clear hb hbox hg; have hcz10_0 : w9.cell? ⟨gb485, 0, none⟩ = some (.int .i64 0) := (blk_cell BK485.out 0).trans rfl; have hcz10_1 : w9.cell? ⟨gb485, 1, none⟩ = some (.int .i64 0) := (blk_cell BK485.out 1).trans rfl; have hcz10_2 : w9.cell? ⟨gb485, 2, none⟩ = some (.slice none 0 0) := (blk_cell BK485.out 2).trans rfl; have hfz10_0 := blk_frozen BK485.out 0; have hfz10_1 := blk_frozen BK485.out 1; have hfz10_2 := blk_frozen BK485.out 2; obtain ⟨Ao11, co11, eo11⟩ := Kd.V_slice HO484.out; subst eo11) | ((with_reducible refine gate_callee (f := 28) rfl ?_); refine goesL_ (some 22) rfl rfl Try.func28 (by kernel_rfl) rfl #[.slice Ao11 t482.length co11, .int .i64 a2] rfl zP ?_; (with_reducible refine (deadboltref07_Place.calls k _ _ t482 a2 t486 _ ?side1 ?side2 A6.out).mono ?_); (case side1 => refine (Kd.V_reads' (e := 3) (base := w.heap.size) (ok := fun k_ => ((P0_ k_ ∨ w.heap.size ≤ k_) ∧ k_ ≠ gb485)) (n := t482.length) (c := co11) ?_).2.2; exact (by (with_reducible repeat (first | apply Kd.V_alloc | apply Kd.V_drewN | apply Kd.V_drew)); exact (Kd.V_mono (Kd.V_far (p := ⟨gb485, 2, none⟩) (Kd.V_far (p := ⟨gb485, 1, none⟩) (Kd.V_far (p := ⟨gb485, 0, none⟩) (Kd.V_mono HO484.out (fun k_ hk => (⟨hk, hk.2⟩ : _ ∧ k_ ≠ gb485))) (fun _ hk => hk.2) (.int .i64 t480)) (fun _ hk => hk.2) (.int .i64 t481)) (fun _ hk => hk.2) (.slice Ao11 t482.length co11)) (fun _ h_ => h_.1)))); (case side2 => exact (Kd.V_reads' HO484.out).2.1); rintro e w' ⟨rfl, ⟨nd, rfl⟩⟩; refine ⟨_, rfl, ?_⟩))
  go_ret3
  exact ⟨_, by first | rfl | (simp [errW_none, errW_some] <;> rfl) | (simp [*, errW_none, errW_some] <;> rfl), by first | exact Kd.S_nil _ _ _ _ _ | exact Kd.N_nil _ _ _ _ _ | exact Kd.V_nil _ _ _ _ _ | exact Kd.Q_nil _ _ _ _ _ | exact Kd.R_nil _ _ _ _ _, zB1 HB GE485⟩
 ·rw [if_neg c7] at H
  have c7b0 : decide (0 ≤ t486) = false := decide_eq_false c7
  clear c7
  by_cases c12 : t481 > 0
  ·rw [if_pos c12] at H
   have c12b0 : decide (0 < t481) = true := decide_eq_true c12
   clear c12
   replace H := Option.bind_eq_some_iff.mp H
   obtain ⟨⟨t487, t490⟩, A130, H⟩ := H
   replace H : (some (t487, true, t490)) = some (r1, r2, r3) := H
   have A13 := Aside0.mk A130
   clear A130
   simp only [Option.some.injEq, Prod.mk.injEq] at H
   obtain ⟨rfl, rfl, rfl⟩ := H
   go_enter Try.func39, Try.ntmps39
   go_wp2_with (first | ((with_reducible refine gate_callee (f := 22) rfl ?_); refine goesL_ (some 18) rfl rfl Try.func22 (by kernel_rfl) rfl #[.slice A0 l0.length c0, .int .i64 a1] rfl zP ?_; (with_reducible refine (deadboltref09_Get.calls k (fun k_ => (P0_ k_ ∨ w.heap.size ≤ k_)) _ _ l0 a1 t480 t481 t482 _ ?side1 A5.out).mono ?_); (case side1 => exact HO0.out); rintro e w14 ⟨v483, rfl, ho0, hb⟩; refine ⟨_, rfl, ?_⟩; have n0_ := Aside0.mk (Kd.V_below (zV HO0) hb); have n1_ := Aside0.mk (Kd.V_lower (Kd.V_mono (ok' := fun k_ => (P0_ k_ ∨ w.heap.size ≤ k_)) ho0 (fun k_ hk_ => Or.elim hk_ (fun hs_ => hs_) (fun hn_ => (.inr (Nat.le_trans (below_size (zB HB)) hn_))))) (below_size (zB HB))); have n2_ := Aside0.mk (below_step (zB HB) hb); clear HO0; clear HB; have HO0 := n0_; have HO484 := n1_; have HB := n2_; clear n0_ n1_ n2_; (try clear hb); (try clear hb2); (try clear hk); (try clear hi); (try clear ho0)) | ((with_reducible refine gate_dst (N := 11) rfl ?_); refine box_event ?hg (N := 11) ?hd (cs := #[.int .i64 0, .int .i64 0, .slice none 0 0]) (t := 33) ?hr ?_; (case hd => rfl); (case hg => rfl); (case hr => first | (go_simp; done) | (go_simp; rfl)); intro gb485 hg w15 hbox hb; have n0_ := Aside0.mk (Kd.V_below (Kd.V_elderB (zV HO0) gb485 (Nat.le_of_eq hg.symm)) hb); have n1_ := Aside0.mk (Kd.V_below (Kd.V_elderB (zV HO484) gb485 (Nat.le_of_eq hg.symm)) hb); have n2_ := Aside0.mk (below_step (zB HB) hb); have n3_ := Aside0.mk (hbox); have n4_ := Aside0.mk ((by rw [hg]; exact (below_size (zB HB)) : w.heap.size ≤ gb485)); have n5_ := Aside0.mk ((by rw [hg]; exact (below_size (zB HB)) : w.heap.size ≤ gb485)); clear HO0; clear HO484; clear HB; have HO0 := n0_; have HO484 := n1_; have HB := n2_; have BK485 := n3_; have GW485 := n4_; have GE485 := n5_; clear n0_ n1_ n2_ n3_ n4_ n5_; clear hb hbox hg; have hcz16_0 : w15.cell? ⟨gb485, 0, none⟩ = some (.int .i64 0) := (blk_cell BK485.out 0).trans rfl; have hcz16_1 : w15.cell? ⟨gb485, 1, none⟩ = some (.int .i64 0) := (blk_cell BK485.out 1).trans rfl; have hcz16_2 : w15.cell? ⟨gb485, 2, none⟩ = some (.slice none 0 0) := (blk_cell BK485.out 2).trans rfl; have hfz16_0 := blk_frozen BK485.out 0; have hfz16_1 := blk_frozen BK485.out 1; have hfz16_2 := blk_frozen BK485.out 2; obtain ⟨Ao17, co17, eo17⟩ := Kd.V_slice HO484.out; subst eo17) | ((with_reducible refine gate_store (t := 33) (p := 11) rfl ?_); refine store_event (t := 33) (p := 11) (v := ?vo_w18) (w1 := (((w15.setCell ⟨gb485, 0, none⟩ (.int .i64 t480)).setCell ⟨gb485, 1, none⟩ (.int .i64 t481)).setCell ⟨gb485, 2, none⟩ (.slice Ao17 t482.length co17))) ?hg ?ho ?hn ?hr ?_; (case ho => rfl); (case hg => rfl); (case hn => rfl); (case hr => first | (go_simp; done) | (go_simp; rfl)); intro w18 hw; have n0_ : Aside0 (Kd.V k33 33 w18 w.heap.size (fun k_ => (P0_ k_ ∨ w.heap.size ≤ k_) ∧ k_ ≠ gb485) (.slice A0 l0.length c0) l0) := ⟨(by rw [hw]; exact (by (with_reducible repeat (first | apply Kd.V_alloc | apply Kd.V_drewN | apply Kd.V_drew)); exact Kd.V_mono (Kd.V_far (p := ⟨gb485, 2, none⟩) (Kd.V_far (p := ⟨gb485, 1, none⟩) (Kd.V_far (p := ⟨gb485, 0, none⟩) (Kd.V_mono HO0.out (fun k_ hk => (⟨hk, hk.2⟩ : _ ∧ k_ ≠ gb485))) (fun _ hk => hk.2) (.int .i64 t480)) (fun _ hk => hk.2) (.int .i64 t481)) (fun _ hk => hk.2) (.slice Ao17 t482.length co17)) (fun _ hk => ⟨hk.1.1, hk.1.2⟩)))⟩; have n1_ : Aside0 (Kd.V (Kd.int .i64) 3 w18 w.heap.size (fun k_ => (P0_ k_ ∨ w.heap.size ≤ k_) ∧ k_ ≠ gb485) (.slice Ao17 t482.length co17) t482) := ⟨(by rw [hw]; exact (by (with_reducible repeat (first | apply Kd.V_alloc | apply Kd.V_drewN | apply Kd.V_drew)); exact Kd.V_mono (Kd.V_far (p := ⟨gb485, 2, none⟩) (Kd.V_far (p := ⟨gb485, 1, none⟩) (Kd.V_far (p := ⟨gb485, 0, none⟩) (Kd.V_mono HO484.out (fun k_ hk => (⟨hk, hk.2⟩ : _ ∧ k_ ≠ gb485))) (fun _ hk => hk.2) (.int .i64 t480)) (fun _ hk => hk.2) (.int .i64 t481)) (fun _ hk => hk.2) (.slice Ao17 t482.length co17)) (fun _ hk => ⟨hk.1.1, hk.1.2⟩)))⟩; have n2_ : Aside0 (w18.heap[gb485]? = some (.cells #[.int .i64 t480, .int .i64 t481, .slice Ao17 t482.length co17] 33 (0, 0))) := ⟨(by rw [hw]; exact (by (with_reducible repeat (first | refine blk_drewN ?_ _ | refine blk_drew ?_ | refine blk_alloc ?_ _)); refine blk_put (cs := #[.int .i64 t480, .int .i64 t481, .slice none 0 0]) ?_ 2 _ rfl; (with_reducible repeat (first | refine blk_drewN ?_ _ | refine blk_drew ?_ | refine blk_alloc ?_ _)); refine blk_put (cs := #[.int .i64 t480, .int .i64 0, .slice none 0 0]) ?_ 1 _ rfl; (with_reducible repeat (first | refine blk_drewN ?_ _ | refine blk_drew ?_ | refine blk_alloc ?_ _)); refine blk_put (cs := #[.int .i64 0, .int .i64 0, .slice none 0 0]) ?_ 0 _ rfl; (with_reducible repeat (first | refine blk_drewN ?_ _ | refine blk_drew ?_ | refine blk_alloc ?_ _)); exact BK485.out))⟩; have n3_ : Aside0 (Below w.heap.size w w18) := ⟨(by rw [hw]; exact (zB1 HB GE485))⟩; clear hw; clear HO0; clear HO484; clear BK485; clear HB; have HO0 := n0_; have HO484 := n1_; have BK485 := n2_; have HB := n3_; clear n0_ n1_ n2_ n3_; have hcz19_0 : w18.cell? ⟨gb485, 0, none⟩ = some (.int .i64 t480) := (blk_cell BK485.out 0).trans rfl; have hcz19_1 : w18.cell? ⟨gb485, 1, none⟩ = some (.int .i64 t481) := (blk_cell BK485.out 1).trans rfl; have hcz19_2 : w18.cell? ⟨gb485, 2, none⟩ = some (.slice Ao17 t482.length co17) := (blk_cell BK485.out 2).trans rfl; have hfz19_0 := blk_frozen BK485.out 0; have hfz19_1 := blk_frozen BK485.out 1; have hfz19_2 := blk_frozen BK485.out 2) | ((with_reducible refine gate_callee (f := 28) rfl ?_); refine goesL_ (some 22) rfl rfl Try.func28 (by kernel_rfl) rfl #[.slice Ao17 t482.length co17, .int .i64 a2] rfl zP ?_; (with_reducible refine (deadboltref07_Place.calls k _ _ t482 a2 t486 _ ?side1 ?side2 A6.out).mono ?_); (case side1 => repeat (first | exact (Kd.V_reads' HO484.out).2.2 | (with_reducible refine Kd.C_alloc ?_ _) | (with_reducible refine Kd.C_drewN ?_ _) | (with_reducible refine Kd.C_drew ?_))); (case side2 => exact (Kd.V_reads' HO484.out).2.1); rintro e w' ⟨rfl, ⟨nd, rfl⟩⟩; refine ⟨_, rfl, ?_⟩; (try (rw [drewN_self w18]; generalize hq_ : World.drewN w18 _ = w18; have n0_ : Aside0 (Kd.V k33 33 w18 w.heap.size (fun k_ => (P0_ k_ ∨ w.heap.size ≤ k_) ∧ k_ ≠ gb485) (.slice A0 l0.length c0) l0) := ⟨by rw [← hq_]; exact (zV HO0)⟩; have n1_ : Aside0 (Kd.V (Kd.int .i64) 3 w18 w.heap.size (fun k_ => (P0_ k_ ∨ w.heap.size ≤ k_) ∧ k_ ≠ gb485) (.slice Ao17 t482.length co17) t482) := ⟨by rw [← hq_]; exact (zV HO484)⟩; have n2_ : Aside0 (w18.heap[gb485]? = some (.cells #[.int .i64 t480, .int .i64 t481, .slice Ao17 t482.length co17] 33 (0, 0))) := ⟨by rw [← hq_]; exact (zK BK485)⟩; have n3_ : Aside0 (Below w.heap.size w w18) := ⟨by rw [← hq_]; exact (zB1 HB GE485)⟩; clear HO0 HO484 BK485 HB hq_; have HO0 := n0_; have HO484 := n1_; have BK485 := n2_; have HB := n3_; clear n0_ n1_ n2_ n3_; have hcz19_0 : w18.cell? ⟨gb485, 0, none⟩ = some (.int .i64 t480) := (blk_cell BK485.out 0).trans rfl; have hcz19_1 : w18.cell? ⟨gb485, 1, none⟩ = some (.int .i64 t481) := (blk_cell BK485.out 1).trans rfl; have hcz19_2 : w18.cell? ⟨gb485, 2, none⟩ = some (.slice Ao17 t482.length co17) := (blk_cell BK485.out 2).trans rfl; have hfz19_0 := blk_frozen BK485.out 0; have hfz19_1 := blk_frozen BK485.out 1; have hfz19_2 := blk_frozen BK485.out 2))) | ((with_reducible refine gate_store (t := 3) (p := 30) rfl ?_); refine store_event (t := 3) (p := 30) (v := ?vo_w20) (w1 := (w18.setCell ⟨gb485, 1, none⟩ (.int .i64 (wrap64 (t481 - 1))))) ?hg ?ho ?hn ?hr ?_; (case ho => rfl); (case hg => rfl); (case hn => rfl); (case hr => first | (go_simp; done) | (go_simp; rfl)); intro w20 hw; have n0_ : Aside0 (Kd.V k33 33 w20 w.heap.size (fun k_ => (P0_ k_ ∨ w.heap.size ≤ k_) ∧ k_ ≠ gb485) (.slice A0 l0.length c0) l0) := ⟨(by rw [hw]; exact (by (with_reducible repeat (first | apply Kd.V_alloc | apply Kd.V_drewN | apply Kd.V_drew)); exact Kd.V_mono (Kd.V_far (p := ⟨gb485, 1, none⟩) (Kd.V_mono HO0.out (fun k_ hk => (⟨hk, hk.2⟩ : _ ∧ k_ ≠ gb485))) (fun _ hk => hk.2) (.int .i64 (wrap64 (t481 - 1)))) (fun _ hk => ⟨hk.1.1, hk.1.2⟩)))⟩; have n1_ : Aside0 (Kd.V (Kd.int .i64) 3 w20 w.heap.size (fun k_ => (P0_ k_ ∨ w.heap.size ≤ k_) ∧ k_ ≠ gb485) (.slice Ao17 t482.length co17) t482) := ⟨(by rw [hw]; exact (by (with_reducible repeat (first | apply Kd.V_alloc | apply Kd.V_drewN | apply Kd.V_drew)); exact Kd.V_mono (Kd.V_far (p := ⟨gb485, 1, none⟩) (Kd.V_mono HO484.out (fun k_ hk => (⟨hk, hk.2⟩ : _ ∧ k_ ≠ gb485))) (fun _ hk => hk.2) (.int .i64 (wrap64 (t481 - 1)))) (fun _ hk => ⟨hk.1.1, hk.1.2⟩)))⟩; have n2_ : Aside0 (w20.heap[gb485]? = some (.cells #[.int .i64 t480, .int .i64 (wrap64 (t481 - 1)), .slice Ao17 t482.length co17] 33 (0, 0))) := ⟨(by rw [hw]; exact (by (with_reducible repeat (first | refine blk_drewN ?_ _ | refine blk_drew ?_ | refine blk_alloc ?_ _)); refine blk_put (cs := #[.int .i64 t480, .int .i64 t481, .slice Ao17 t482.length co17]) ?_ 1 _ rfl; (with_reducible repeat (first | refine blk_drewN ?_ _ | refine blk_drew ?_ | refine blk_alloc ?_ _)); exact BK485.out))⟩; have n3_ : Aside0 (Below w.heap.size w w20) := ⟨(by rw [hw]; exact (zB1 HB GE485))⟩; clear hw; clear HO0; clear HO484; clear BK485; clear HB; have HO0 := n0_; have HO484 := n1_; have BK485 := n2_; have HB := n3_; clear n0_ n1_ n2_ n3_; have hcz21_0 : w20.cell? ⟨gb485, 0, none⟩ = some (.int .i64 t480) := (blk_cell BK485.out 0).trans rfl; have hcz21_1 : w20.cell? ⟨gb485, 1, none⟩ = some (.int .i64 (wrap64 (t481 - 1))) := (blk_cell BK485.out 1).trans rfl; have hcz21_2 : w20.cell? ⟨gb485, 2, none⟩ = some (.slice Ao17 t482.length co17) := (blk_cell BK485.out 2).trans rfl; have hfz21_0 := blk_frozen BK485.out 0; have hfz21_1 := blk_frozen BK485.out 1; have hfz21_2 := blk_frozen BK485.out 2) | ((with_reducible refine gate_callee (f := 60) rfl ?_); refine goesL_ (some 34) rfl rfl Try.func60 (by kernel_rfl) rfl #[.slice A0 l0.length c0, .agg #[.int .i64 t480, .int .i64 (wrap64 (t481 - 1)), .slice Ao17 t482.length co17]] rfl zP ?_; (with_reducible refine (deadboltref10_set.calls k (fun k_ => ((P0_ k_ ∨ w.heap.size ≤ k_) ∧ k_ ≠ gb485)) _ _ l0 t480 (wrap64 (t481 - 1)) (fun k_ => ((P0_ k_ ∨ w.heap.size ≤ k_) ∧ k_ ≠ gb485)) _ _ t482 t487 t490 _ ?side1 ?side2 A13.out).mono ?_); (case side1 => exact HO0.out); (case side2 => exact HO484.out); rintro e w22 ⟨v488, rfl, ho0, hb⟩; refine ⟨_, rfl, ?_⟩; have n0_ := Aside0.mk (Kd.V_elder' (zV HO0) (Kd.N_base ho0) hb); have n1_ := Aside0.mk (Kd.V_elder' (zV HO484) (Kd.N_base ho0) hb); have n2_ := Aside0.mk (Kd.N_lower (Kd.N_mono (ok' := fun k_ => (P0_ k_ ∨ w.heap.size ≤ k_) ∧ k_ ≠ gb485) ho0 (fun k_ hk_ => ⟨Or.elim hk_ (fun hs_ => Or.elim hs_ (fun hs_ => hs_.1) (fun hs_ => hs_.1)) (fun hn_ => (.inr (Nat.le_trans (below_size (zB1 HB GE485)) hn_))), Or.elim hk_ (fun hs_ => Or.elim hs_ (fun hs_ => hs_.2) (fun hs_ => hs_.2)) (fun hn_ => (Kd.freshB (g := gb485) (o := .cells #[.int .i64 t480, .int .i64 (wrap64 (t481 - 1)), .slice Ao17 t482.length co17] 33 (0, 0)) (zK BK485) k_ hn_))⟩)) (below_size (zB1 HB GE485))); have n3_ := Aside0.mk (blk_below (g := gb485) (o := .cells #[.int .i64 t480, .int .i64 (wrap64 (t481 - 1)), .slice Ao17 t482.length co17] 33 (0, 0)) (zK BK485) hb); have n4_ := Aside0.mk (below_step (zB1 HB GE485) hb); clear HO0; clear HO484; clear BK485; clear HB; have HO0 := n0_; have HO484 := n1_; have HO489 := n2_; have BK485 := n3_; have HB := n4_; clear n0_ n1_ n2_ n3_ n4_; (try clear hb); (try clear hb2); (try clear hk); (try clear hi); (try clear ho0)))
   go_ret3
   exact ⟨_, by first | rfl | (simp [errW_none, errW_some] <;> rfl) | (simp [*, errW_none, errW_some] <;> rfl), by (with_reducible repeat (first | apply Kd.N_alloc | apply Kd.N_drewN | apply Kd.N_drew)); exact Kd.N_mono HO489.out (fun _ hk => hk.1), zB1 HB GE485⟩
  ·rw [if_neg c12] at H
   have c12b0 : decide (0 < t481) = false := decide_eq_false c12
   clear c12
   by_cases c23 : (t482.length : Int) = 64
   ·rw [if_pos c23] at H
    have c23b0 : ((t482.length : Int) == 64) = true := beq_iff_eq.mpr c23
    have c23b1 : ((t482.length : Int) != 64) = false := bne_eq_false_iff_eq.mpr c23
    clear c23
    simp only [Option.some.injEq, Prod.mk.injEq] at H
    obtain ⟨rfl, rfl, rfl⟩ := H
    go_enter Try.func39, Try.ntmps39
    go_wp2_with (first | ((with_reducible refine gate_callee (f := 22) rfl ?_); refine goesL_ (some 18) rfl rfl Try.func22 (by kernel_rfl) rfl #[.slice A0 l0.length c0, .int .i64 a1] rfl zP ?_; (with_reducible refine (deadboltref09_Get.calls k (fun k_ => (P0_ k_ ∨ w.heap.size ≤ k_)) _ _ l0 a1 t480 t481 t482 _ ?side1 A5.out).mono ?_); (case side1 => exact HO0.out); rintro e w24 ⟨v483, rfl, ho0, hb⟩; refine ⟨_, rfl, ?_⟩; have n0_ := Aside0.mk (Kd.V_below (zV HO0) hb); have n1_ := Aside0.mk (Kd.V_lower (Kd.V_mono (ok' := fun k_ => (P0_ k_ ∨ w.heap.size ≤ k_)) ho0 (fun k_ hk_ => Or.elim hk_ (fun hs_ => hs_) (fun hn_ => (.inr (Nat.le_trans (below_size (zB HB)) hn_))))) (below_size (zB HB))); have n2_ := Aside0.mk (below_step (zB HB) hb); clear HO0; clear HB; have HO0 := n0_; have HO484 := n1_; have HB := n2_; clear n0_ n1_ n2_; (try clear hb); (try clear hb2); (try clear hk); (try clear hi); (try clear ho0)) | ((with_reducible refine gate_dst (N := 11) rfl ?_); refine box_event ?hg (N := 11) ?hd (cs := #[.int .i64 0, .int .i64 0, .slice none 0 0]) (t := 33) ?hr ?_; (case hd => rfl); (case hg => rfl); (case hr => first | (go_simp; done) | (go_simp; rfl)); intro gb485 hg w25 hbox hb; have n0_ := Aside0.mk (Kd.V_below (Kd.V_elderB (zV HO0) gb485 (Nat.le_of_eq hg.symm)) hb); have n1_ := Aside0.mk (Kd.V_below (Kd.V_elderB (zV HO484) gb485 (Nat.le_of_eq hg.symm)) hb); have n2_ := Aside0.mk (below_step (zB HB) hb); have n3_ := Aside0.mk (hbox); have n4_ := Aside0.mk ((by rw [hg]; exact (below_size (zB HB)) : w.heap.size ≤ gb485)); have n5_ := Aside0.mk ((by rw [hg]; exact (below_size (zB HB)) : w.heap.size ≤ gb485)); clear HO0; clear HO484; clear HB; have HO0 := n0_; have HO484 := n1_; have HB := n2_; have BK485 := n3_; have GW485 := n4_; have GE485 := n5_; clear n0_ n1_ n2_ n3_ n4_ n5_; clear hb hbox hg; have hcz26_0 : w25.cell? ⟨gb485, 0, none⟩ = some (.int .i64 0) := (blk_cell BK485.out 0).trans rfl; have hcz26_1 : w25.cell? ⟨gb485, 1, none⟩ = some (.int .i64 0) := (blk_cell BK485.out 1).trans rfl; have hcz26_2 : w25.cell? ⟨gb485, 2, none⟩ = some (.slice none 0 0) := (blk_cell BK485.out 2).trans rfl; have hfz26_0 := blk_frozen BK485.out 0; have hfz26_1 := blk_frozen BK485.out 1; have hfz26_2 := blk_frozen BK485.out 2; obtain ⟨Ao27, co27, eo27⟩ := Kd.V_slice HO484.out; subst eo27) | ((with_reducible refine gate_callee (f := 28) rfl ?_); refine goesL_ (some 22) rfl rfl Try.func28 (by kernel_rfl) rfl #[.slice Ao27 t482.length co27, .int .i64 a2] rfl zP ?_; (with_reducible refine (deadboltref07_Place.calls k _ _ t482 a2 t486 _ ?side1 ?side2 A6.out).mono ?_); (case side1 => refine (Kd.V_reads' (e := 3) (base := w.heap.size) (ok := fun k_ => ((P0_ k_ ∨ w.heap.size ≤ k_) ∧ k_ ≠ gb485)) (n := t482.length) (c := co27) ?_).2.2; exact (by (with_reducible repeat (first | apply Kd.V_alloc | apply Kd.V_drewN | apply Kd.V_drew)); exact (Kd.V_mono (Kd.V_far (p := ⟨gb485, 2, none⟩) (Kd.V_far (p := ⟨gb485, 1, none⟩) (Kd.V_far (p := ⟨gb485, 0, none⟩) (Kd.V_mono HO484.out (fun k_ hk => (⟨hk, hk.2⟩ : _ ∧ k_ ≠ gb485))) (fun _ hk => hk.2) (.int .i64 t480)) (fun _ hk => hk.2) (.int .i64 t481)) (fun _ hk => hk.2) (.slice Ao27 t482.length co27)) (fun _ h_ => h_.1)))); (case side2 => exact (Kd.V_reads' HO484.out).2.1); rintro e w' ⟨rfl, ⟨nd, rfl⟩⟩; refine ⟨_, rfl, ?_⟩))
    go_ret3
    exact ⟨_, by first | rfl | (simp [errW_none, errW_some] <;> rfl) | (simp [*, errW_none, errW_some] <;> rfl), by first | exact Kd.S_nil _ _ _ _ _ | exact Kd.N_nil _ _ _ _ _ | exact Kd.V_nil _ _ _ _ _ | exact Kd.Q_nil _ _ _ _ _ | exact Kd.R_nil _ _ _ _ _, zB1 HB GE485⟩
   ·rw [if_neg c23] at H
    have c23b0 : ((t482.length : Int) == 64) = false := beq_eq_false_iff_ne.mpr c23
    have c23b1 : ((t482.length : Int) != 64) = true := bne_iff_ne.mpr c23
    replace H := Option.bind_eq_some_iff.mp H
    obtain ⟨t491, A280, H⟩ := H
    replace H : ((deadboltref10_set.f k l0 t480 t481 t491).bind fun bt494 => (some (bt494.1, false, bt494.2))) = some (r1, r2, r3) := H
    have A28 := Aside0.mk A280
    clear A280
    replace H := Option.bind_eq_some_iff.mp H
    obtain ⟨⟨t494, t497⟩, A290, H⟩ := H
    replace H : (some (t494, false, t497)) = some (r1, r2, r3) := H
    have A29 := Aside0.mk A290
    clear A290
    simp only [Option.some.injEq, Prod.mk.injEq] at H
    obtain ⟨rfl, rfl, rfl⟩ := H
    go_enter Try.func39, Try.ntmps39
    go_wp2_with (first | ((with_reducible refine gate_callee (f := 22) rfl ?_); refine goesL_ (some 18) rfl rfl Try.func22 (by kernel_rfl) rfl #[.slice A0 l0.length c0, .int .i64 a1] rfl zP ?_; (with_reducible refine (deadboltref09_Get.calls k (fun k_ => (P0_ k_ ∨ w.heap.size ≤ k_)) _ _ l0 a1 t480 t481 t482 _ ?side1 A5.out).mono ?_); (case side1 => exact HO0.out); rintro e w30 ⟨v483, rfl, ho0, hb⟩; refine ⟨_, rfl, ?_⟩; have n0_ := Aside0.mk (Kd.V_below (zV HO0) hb); have n1_ := Aside0.mk (Kd.V_lower (Kd.V_mono (ok' := fun k_ => (P0_ k_ ∨ w.heap.size ≤ k_)) ho0 (fun k_ hk_ => Or.elim hk_ (fun hs_ => hs_) (fun hn_ => (.inr (Nat.le_trans (below_size (zB HB)) hn_))))) (below_size (zB HB))); have n2_ := Aside0.mk (below_step (zB HB) hb); clear HO0; clear HB; have HO0 := n0_; have HO484 := n1_; have HB := n2_; clear n0_ n1_ n2_; (try clear hb); (try clear hb2); (try clear hk); (try clear hi); (try clear ho0)) | ((with_reducible refine gate_dst (N := 11) rfl ?_); refine box_event ?hg (N := 11) ?hd (cs := #[.int .i64 0, .int .i64 0, .slice none 0 0]) (t := 33) ?hr ?_; (case hd => rfl); (case hg => rfl); (case hr => first | (go_simp; done) | (go_simp; rfl)); intro gb485 hg w31 hbox hb; have n0_ := Aside0.mk (Kd.V_below (Kd.V_elderB (zV HO0) gb485 (Nat.le_of_eq hg.symm)) hb); have n1_ := Aside0.mk (Kd.V_below (Kd.V_elderB (zV HO484) gb485 (Nat.le_of_eq hg.symm)) hb); have n2_ := Aside0.mk (below_step (zB HB) hb); have n3_ := Aside0.mk (hbox); have n4_ := Aside0.mk ((by rw [hg]; exact (below_size (zB HB)) : w.heap.size ≤ gb485)); have n5_ := Aside0.mk ((by rw [hg]; exact (below_size (zB HB)) : w.heap.size ≤ gb485)); clear HO0; clear HO484; clear HB; have HO0 := n0_; have HO484 := n1_; have HB := n2_; have BK485 := n3_; have GW485 := n4_; have GE485 := n5_; clear n0_ n1_ n2_ n3_ n4_ n5_; clear hb hbox hg; have hcz32_0 : w31.cell? ⟨gb485, 0, none⟩ = some (.int .i64 0) := (blk_cell BK485.out 0).trans rfl; have hcz32_1 : w31.cell? ⟨gb485, 1, none⟩ = some (.int .i64 0) := (blk_cell BK485.out 1).trans rfl; have hcz32_2 : w31.cell? ⟨gb485, 2, none⟩ = some (.slice none 0 0) := (blk_cell BK485.out 2).trans rfl; have hfz32_0 := blk_frozen BK485.out 0; have hfz32_1 := blk_frozen BK485.out 1; have hfz32_2 := blk_frozen BK485.out 2; obtain ⟨Ao33, co33, eo33⟩ := Kd.V_slice HO484.out; subst eo33) | ((with_reducible refine gate_callee (f := 28) rfl ?_); refine goesL_ (some 22) rfl rfl Try.func28 (by kernel_rfl) rfl #[.slice Ao33 t482.length co33, .int .i64 a2] rfl zP ?_; (with_reducible refine (deadboltref07_Place.calls k _ _ t482 a2 t486 _ ?side1 ?side2 A6.out).mono ?_); (case side1 => refine (Kd.V_reads' (e := 3) (base := w.heap.size) (ok := fun k_ => ((P0_ k_ ∨ w.heap.size ≤ k_) ∧ k_ ≠ gb485)) (n := t482.length) (c := co33) ?_).2.2; exact (by (with_reducible repeat (first | apply Kd.V_alloc | apply Kd.V_drewN | apply Kd.V_drew)); exact (Kd.V_mono (Kd.V_far (p := ⟨gb485, 2, none⟩) (Kd.V_far (p := ⟨gb485, 1, none⟩) (Kd.V_far (p := ⟨gb485, 0, none⟩) (Kd.V_mono HO484.out (fun k_ hk => (⟨hk, hk.2⟩ : _ ∧ k_ ≠ gb485))) (fun _ hk => hk.2) (.int .i64 t480)) (fun _ hk => hk.2) (.int .i64 t481)) (fun _ hk => hk.2) (.slice Ao33 t482.length co33)) (fun _ h_ => h_.1)))); (case side2 => exact (Kd.V_reads' HO484.out).2.1); rintro e w' ⟨rfl, ⟨nd, rfl⟩⟩; refine ⟨_, rfl, ?_⟩) | ((with_reducible refine gate_callee (f := 31) rfl ?_); refine goesL_ (some 47) rfl rfl Try.func31 (by kernel_rfl) rfl #[.slice Ao33 t482.length co33, .int .i64 a2, .bool a3] rfl zP ?_; (with_reducible refine (deadboltref07_Push.calls _ _ t482 a2 a3 t491 _ ?side1 ?side2 A28.out).mono ?_); (case side1 => refine (Kd.V_reads' (e := 3) (base := w.heap.size) (ok := fun k_ => ((P0_ k_ ∨ w.heap.size ≤ k_) ∧ k_ ≠ gb485)) (n := t482.length) (c := co33) ?_).2.2; exact (by (with_reducible repeat (first | apply Kd.V_alloc | apply Kd.V_drewN | apply Kd.V_drew)); exact (Kd.V_mono (Kd.V_far (p := ⟨gb485, 2, none⟩) (Kd.V_far (p := ⟨gb485, 1, none⟩) (Kd.V_far (p := ⟨gb485, 0, none⟩) (Kd.V_mono HO484.out (fun k_ hk => (⟨hk, hk.2⟩ : _ ∧ k_ ≠ gb485))) (fun _ hk => hk.2) (.int .i64 t480)) (fun _ hk => hk.2) (.int .i64 t481)) (fun _ hk => hk.2) (.slice Ao33 t482.length co33)) (fun _ h_ => h_.1)))); (case side2 => exact (Kd.V_reads' HO484.out).2.1); rintro e w34 ⟨v492, rfl, ho0, hb⟩; refine ⟨_, rfl, ?_⟩; have n0_ := Aside0.mk (Kd.V_elder' (by (with_reducible repeat (first | apply Kd.V_alloc | apply Kd.V_drewN | apply Kd.V_drew)); exact (Kd.V_mono (Kd.V_far (p := ⟨gb485, 2, none⟩) (Kd.V_far (p := ⟨gb485, 1, none⟩) (Kd.V_far (p := ⟨gb485, 0, none⟩) (Kd.V_mono HO0.out (fun k_ hk => (⟨hk, hk.2⟩ : _ ∧ k_ ≠ gb485))) (fun _ hk => hk.2) (.int .i64 t480)) (fun _ hk => hk.2) (.int .i64 t481)) (fun _ hk => hk.2) (.slice Ao33 t482.length co33)) (fun _ h_ => h_.1))) (Kd.R_base ho0) hb); have n1_ := Aside0.mk (Kd.V_elder' (by (with_reducible repeat (first | apply Kd.V_alloc | apply Kd.V_drewN | apply Kd.V_drew)); exact (Kd.V_mono (Kd.V_far (p := ⟨gb485, 2, none⟩) (Kd.V_far (p := ⟨gb485, 1, none⟩) (Kd.V_far (p := ⟨gb485, 0, none⟩) (Kd.V_mono HO484.out (fun k_ hk => (⟨hk, hk.2⟩ : _ ∧ k_ ≠ gb485))) (fun _ hk => hk.2) (.int .i64 t480)) (fun _ hk => hk.2) (.int .i64 t481)) (fun _ hk => hk.2) (.slice Ao33 t482.length co33)) (fun _ h_ => h_.1))) (Kd.R_base ho0) hb); have n2_ := Aside0.mk (Kd.R_lower (Kd.R_newM (M := fun k_ => (w.heap.size ≤ k_)) ho0 (below_size (zB1 HB GE485)) (fun k_ h_ => h_)) (below_size (zB1 HB GE485))); have n3_ := Aside0.mk (blk_below (g := gb485) (o := .cells #[.int .i64 t480, .int .i64 t481, .slice Ao33 t482.length co33] 33 (0, 0)) (by (with_reducible repeat (first | refine blk_drewN ?_ _ | refine blk_drew ?_ | refine blk_alloc ?_ _)); refine blk_put (cs := #[.int .i64 t480, .int .i64 t481, .slice none 0 0]) ?_ 2 _ rfl; (with_reducible repeat (first | refine blk_drewN ?_ _ | refine blk_drew ?_ | refine blk_alloc ?_ _)); refine blk_put (cs := #[.int .i64 t480, .int .i64 0, .slice none 0 0]) ?_ 1 _ rfl; (with_reducible repeat (first | refine blk_drewN ?_ _ | refine blk_drew ?_ | refine blk_alloc ?_ _)); refine blk_put (cs := #[.int .i64 0, .int .i64 0, .slice none 0 0]) ?_ 0 _ rfl; (with_reducible repeat (first | refine blk_drewN ?_ _ | refine blk_drew ?_ | refine blk_alloc ?_ _)); exact BK485.out) hb); have n4_ := Aside0.mk (below_step (zB1 HB GE485) hb); clear HO0; clear HO484; clear BK485; clear HB; have HO0 := n0_; have HO484 := n1_; have HO493 := n2_; have BK485 := n3_; have HB := n4_; clear n0_ n1_ n2_ n3_ n4_; (try clear hb); (try clear hb2); (try clear hk); (try clear hi); (try clear ho0); obtain ⟨Ao35, co35, eo35⟩ := Kd.R_slice HO493.out; subst eo35; have hcz36_0 : w34.cell? ⟨gb485, 0, none⟩ = some (.int .i64 t480) := (blk_cell BK485.out 0).trans rfl; have hcz36_1 : w34.cell? ⟨gb485, 1, none⟩ = some (.int .i64 t481) := (blk_cell BK485.out 1).trans rfl; have hcz36_2 : w34.cell? ⟨gb485, 2, none⟩ = some (.slice Ao33 t482.length co33) := (blk_cell BK485.out 2).trans rfl; have hfz36_0 := blk_frozen BK485.out 0; have hfz36_1 := blk_frozen BK485.out 1; have hfz36_2 := blk_frozen BK485.out 2) | ((with_reducible refine gate_store (t := 25) (p := 48) rfl ?_); refine store_event (t := 25) (p := 48) (v := ?vo_w37) (w1 := (w34.setCell ⟨gb485, 2, none⟩ (.slice Ao35 t491.length co35))) ?hg ?ho ?hn ?hr ?_; (case ho => rfl); (case hg => rfl); (case hn => rfl); (case hr => first | (go_simp; done) | (go_simp; rfl)); intro w37 hw; have n0_ : Aside0 (Kd.V k33 33 w37 w.heap.size (fun k_ => (P0_ k_ ∨ w.heap.size ≤ k_) ∧ some k_ ≠ (.slice Ao35 t491.length co35 : Value).ownBlock ∧ k_ ≠ gb485) (.slice A0 l0.length c0) l0) := ⟨(by rw [hw]; exact (by (with_reducible repeat (first | apply Kd.V_alloc | apply Kd.V_drewN | apply Kd.V_drew)); exact Kd.V_mono (Kd.V_far (p := ⟨gb485, 2, none⟩) (Kd.V_mono HO0.out (fun k_ hk => (⟨hk, hk.1.2⟩ : _ ∧ k_ ≠ gb485))) (fun _ hk => hk.2) (.slice Ao35 t491.length co35)) (fun _ hk => ⟨hk.1.1.1, ⟨hk.1.2, hk.1.1.2⟩⟩)))⟩; have n1_ : Aside0 (Kd.V (Kd.int .i64) 3 w37 w.heap.size (fun k_ => (P0_ k_ ∨ w.heap.size ≤ k_) ∧ some k_ ≠ (.slice Ao35 t491.length co35 : Value).ownBlock ∧ k_ ≠ gb485) (.slice Ao33 t482.length co33) t482) := ⟨(by rw [hw]; exact (by (with_reducible repeat (first | apply Kd.V_alloc | apply Kd.V_drewN | apply Kd.V_drew)); exact Kd.V_mono (Kd.V_far (p := ⟨gb485, 2, none⟩) (Kd.V_mono HO484.out (fun k_ hk => (⟨hk, hk.1.2⟩ : _ ∧ k_ ≠ gb485))) (fun _ hk => hk.2) (.slice Ao35 t491.length co35)) (fun _ hk => ⟨hk.1.1.1, ⟨hk.1.2, hk.1.1.2⟩⟩)))⟩; have n2_ : Aside0 (Kd.R (Kd.int .i64) 3 w37 w.heap.size (fun k_ => (w.heap.size ≤ k_)) (.slice Ao35 t491.length co35) t491) := ⟨(by rw [hw]; exact (by (with_reducible repeat (first | apply Kd.R_alloc | apply Kd.R_drewN | apply Kd.R_drew)); exact Kd.R_mono (Kd.R_far (p := ⟨gb485, 2, none⟩) (Kd.R_types HO493.out BK485.out (by decide)) (fun _ hk => hk.2) (.slice Ao35 t491.length co35)) (fun _ hk => hk.1.1)))⟩; have n3_ : Aside0 (w37.heap[gb485]? = some (.cells #[.int .i64 t480, .int .i64 t481, .slice Ao35 t491.length co35] 33 (0, 0))) := ⟨(by rw [hw]; exact (by (with_reducible repeat (first | refine blk_drewN ?_ _ | refine blk_drew ?_ | refine blk_alloc ?_ _)); refine blk_put (cs := #[.int .i64 t480, .int .i64 t481, .slice Ao33 t482.length co33]) ?_ 2 _ rfl; (with_reducible repeat (first | refine blk_drewN ?_ _ | refine blk_drew ?_ | refine blk_alloc ?_ _)); exact BK485.out))⟩; have n4_ : Aside0 (Below w.heap.size w w37) := ⟨(by rw [hw]; exact (zB1 HB GE485))⟩; clear hw; clear HO0; clear HO484; clear HO493; clear BK485; clear HB; have HO0 := n0_; have HO484 := n1_; have HO493 := n2_; have BK485 := n3_; have HB := n4_; clear n0_ n1_ n2_ n3_ n4_; have hcz38_0 : w37.cell? ⟨gb485, 0, none⟩ = some (.int .i64 t480) := (blk_cell BK485.out 0).trans rfl; have hcz38_1 : w37.cell? ⟨gb485, 1, none⟩ = some (.int .i64 t481) := (blk_cell BK485.out 1).trans rfl; have hcz38_2 : w37.cell? ⟨gb485, 2, none⟩ = some (.slice Ao35 t491.length co35) := (blk_cell BK485.out 2).trans rfl; have hfz38_0 := blk_frozen BK485.out 0; have hfz38_1 := blk_frozen BK485.out 1; have hfz38_2 := blk_frozen BK485.out 2) | ((with_reducible refine gate_callee (f := 60) rfl ?_); refine goesL_ (some 52) rfl rfl Try.func60 (by kernel_rfl) rfl #[.slice A0 l0.length c0, .agg #[.int .i64 t480, .int .i64 t481, .slice Ao35 t491.length co35]] rfl zP ?_; (with_reducible refine (deadboltref10_set.calls k (fun k_ => ((P0_ k_ ∨ w.heap.size ≤ k_) ∧ (some k_ ≠ (.slice Ao35 t491.length co35 : Value).ownBlock ∧ k_ ≠ gb485))) _ _ l0 t480 t481 (fun k_ => some k_ = (.slice Ao35 t491.length co35 : Value).ownBlock) _ _ t491 t494 t497 _ ?side1 ?side2 A29.out).mono ?_); (case side1 => exact HO0.out); (case side2 => exact Kd.R_V (Kd.R_tight rfl (Kd.R_types (HO493.out) BK485.out (by decide)))); rintro e w39 ⟨v495, rfl, ho0, hb⟩; refine ⟨_, rfl, ?_⟩; have n0_ := Aside0.mk (Kd.V_elder' (zV HO0) (Kd.N_base ho0) hb); have n1_ := Aside0.mk (Kd.V_elder' (zV HO484) (Kd.N_base ho0) hb); have n2_ := Aside0.mk (Kd.R_below (zR HO493) hb); have n3_ := Aside0.mk (Kd.N_lower (Kd.N_mono (ok' := fun k_ => (P0_ k_ ∨ w.heap.size ≤ k_) ∧ k_ ≠ gb485) ho0 (fun k_ hk_ => ⟨Or.elim hk_ (fun hs_ => Or.elim hs_ (fun hs_ => hs_.1) (fun hs_ => (.inr (((Kd.R_types (HO493.out) BK485.out (by decide)).1 k_ hs_.symm).1)))) (fun hn_ => (.inr (Nat.le_trans (below_size (zB1 HB GE485)) hn_))), Or.elim hk_ (fun hs_ => Or.elim hs_ (fun hs_ => hs_.2.2) (fun hs_ => ((Kd.R_types (HO493.out) BK485.out (by decide)).1 k_ hs_.symm).2)) (fun hn_ => (Kd.freshB (g := gb485) (o := .cells #[.int .i64 t480, .int .i64 t481, .slice Ao35 t491.length co35] 33 (0, 0)) (zK BK485) k_ hn_))⟩)) (below_size (zB1 HB GE485))); have n4_ := Aside0.mk (blk_below (g := gb485) (o := .cells #[.int .i64 t480, .int .i64 t481, .slice Ao35 t491.length co35] 33 (0, 0)) (zK BK485) hb); have n5_ := Aside0.mk (below_step (zB1 HB GE485) hb); clear HO0; clear HO484; clear HO493; clear BK485; clear HB; have HO0 := n0_; have HO484 := n1_; have HO493 := n2_; have HO496 := n3_; have BK485 := n4_; have HB := n5_; clear n0_ n1_ n2_ n3_ n4_ n5_; (try clear hb); (try clear hb2); (try clear hk); (try clear hi); (try clear ho0)))
    go_ret3
    exact ⟨_, by first | rfl | (simp [errW_none, errW_some] <;> rfl) | (simp [*, errW_none, errW_some] <;> rfl), by (with_reducible repeat (first | apply Kd.N_alloc | apply Kd.N_drewN | apply Kd.N_drew)); exact Kd.N_mono HO496.out (fun _ hk => hk.1), zB1 HB GE485⟩

end Go.Proofs.Ytnjnjajgpkmfhaa.PX

namespace Go.Proofs.Ytnjnjajgpkmfhaa.PX
open Go.RowKit Go.Proofs.YtnjnjajgpkmfhaaW.PrintWords Go.Proofs.YtnjnjajgpkmfhaaW.PrintLast Go.Proofs.YtnjnjajgpkmfhaaW.PrintMore
attribute [local go_sem] max2_int min2_int max_two min_two max_three min_three max_four min_four   -- for this text's walks alone
set_option linter.unusedVariables false
set_option linter.unusedSimpArgs false

/-! ### deadboltref10_Release: function 38 -/
def deadboltref10_Release.f (k : Nat) (l0 : List (S33)) (a1 : Int) : Option ((List (S33)) × Int × Int) := (deadboltref09_Get.f k l0 a1).bind fun bt446 => (if (bt446.2.2.length : Int) > 0 then (if 0 < (bt446.2.2.length : Int) then (if 1 ≤ (bt446.2.2.length : Int) then ((deadboltref09_Set.f k l0 bt446.1 bt446.2.1 (bt446.2.2.drop 1)).bind fun t458 => (some (t458, rd bt446.2.2 0, 0))) else (none)) else (none)) else (if bt446.2.1 = 2147483647 then (some (([] : List (S33)), 0, 10)) else ((deadboltref10_set.f k l0 bt446.1 (wrap64 (bt446.2.1 + 1)) bt446.2.2).bind fun bt461 => (if bt461.2 = 0 then (some (bt461.1, (-1), 0)) else (some (([] : List (S33)), 0, bt461.2))))))
set_option maxHeartbeats 8000000 in
set_option maxRecDepth 100000 in
theorem deadboltref10_Release.calls (k : Nat) (P0_ : Nat → Prop) (A0 : Option Addr) (c0 : Nat) (l0 : List (S33)) (a1 : Int) (r1 : List (S33)) (r2 : Int) (r3 : Int) (w : World) (hs0 : Kd.V k33 33 w w.heap.size (fun k_ => P0_ k_) (.slice A0 l0.length c0) l0) (h : deadboltref10_Release.f k l0 a1 = some (r1, r2, r3)) :
  Calls Try.prog 38 #[.slice A0 l0.length c0, .int .i64 a1] w fun e w' => ∃ v0_ : Value, e = .returned (.tuple #[v0_, .int .i64 r2, .int .i64 r3]) ∧ Kd.N k33 33 w' w.heap.size (fun k_ => (P0_ k_ ∨ w.heap.size ≤ k_)) v0_ r1 ∧ Below w.heap.size w w' := by
 have hu33 := Try.underlying33
 have HO0 := Aside0.mk (show Kd.V k33 33 w w.heap.size (fun k_ => (P0_ k_ ∨ w.heap.size ≤ k_)) (.slice A0 l0.length c0) l0 from Kd.V_mono hs0 (fun k_ hk => .inl hk))
 have HB := Aside0.mk (Below.refl w.heap.size w)
 have H : ((deadboltref09_Get.f k l0 a1).bind fun bt446 => (if (bt446.2.2.length : Int) > 0 then (if 0 < (bt446.2.2.length : Int) then (if 1 ≤ (bt446.2.2.length : Int) then ((deadboltref09_Set.f k l0 bt446.1 bt446.2.1 (bt446.2.2.drop 1)).bind fun t458 => (some (t458, rd bt446.2.2 0, 0))) else (none)) else (none)) else (if bt446.2.1 = 2147483647 then (some (([] : List (S33)), 0, 10)) else ((deadboltref10_set.f k l0 bt446.1 (wrap64 (bt446.2.1 + 1)) bt446.2.2).bind fun bt461 => (if bt461.2 = 0 then (some (bt461.1, (-1), 0)) else (some (([] : List (S33)), 0, bt461.2))))))) = some (r1, r2, r3) := h
 clear h
 replace H := Option.bind_eq_some_iff.mp H
 obtain ⟨⟨t446, t447, t448⟩, A30, H⟩ := H
 replace H : (if (t448.length : Int) > 0 then (if 0 < (t448.length : Int) then (if 1 ≤ (t448.length : Int) then ((deadboltref09_Set.f k l0 t446 t447 (t448.drop 1)).bind fun t458 => (some (t458, rd t448 0, 0))) else (none)) else (none)) else (if t447 = 2147483647 then (some (([] : List (S33)), 0, 10)) else ((deadboltref10_set.f k l0 t446 (wrap64 (t447 + 1)) t448).bind fun bt461 => (if bt461.2 = 0 then (some (bt461.1, (-1), 0)) else (some (([] : List (S33)), 0, bt461.2)))))) = some (r1, r2, r3) := H
 have A3 := Aside0.mk A30
 clear A30
 by_cases c4 : (t448.length : Int) > 0
 ·rw [if_pos c4] at H
  have c4b0 : decide (0 < (t448.length : Int)) = true := decide_eq_true c4
  have c4b1 : decide (0 < t448.length) = true := decide_eq_true (by omega)
  clear c4
  by_cases c5 : 0 < (t448.length : Int)
  ·rw [if_pos c5] at H
   have c5b0 : decide (0 < (t448.length : Int)) = true := decide_eq_true c5
   have c5b1 : decide (0 < t448.length) = true := decide_eq_true (by omega)
   clear c5
   by_cases c6 : 1 ≤ (t448.length : Int)
   ·rw [if_pos c6] at H
    have c6b0 := eq_true c6
    have c6b1 : decide (1 ≤ (t448.length : Int)) = true := decide_eq_true c6
    clear c6
    obtain ⟨y453, hy453⟩ : ∃ y_ : List Int, y_ = (t448.drop 1) := ⟨_, rfl⟩
    replace H : ((deadboltref09_Set.f k l0 t446 t447 y453).bind fun t458 => (some (t458, rd t448 0, 0))) = some (r1, r2, r3) := by first | (rw [hy453]; with_reducible exact H) | (have H2_ := (Option.bind_some _ _).symm.trans H; rw [hy453]; with_reducible exact H2_) | (have H2_ := (Option.bind_some _ _).symm.trans H; with_reducible exact H2_) | with_reducible exact H | (rw [hy453]; exact H) | exact H
    have Ny453 := Aside0.mk hy453
    clear hy453
    replace H := Option.bind_eq_some_iff.mp H
    obtain ⟨t458, A70, H⟩ := H
    replace H : (some (t458, rd t448 0, 0)) = some (r1, r2, r3) := H
    have A7 := Aside0.mk A70
    clear A70
    simp only [Option.some.injEq, Prod.mk.injEq] at H
    obtain ⟨rfl, rfl, rfl⟩ := H
    go_enter Try.func38, Try.ntmps38
    go_wp2_with (first | ((with_reducible refine gate_callee (f := 22) rfl ?_); refine goesL_ (some 13) rfl rfl Try.func22 (by kernel_rfl) rfl #[.slice A0 l0.length c0, .int .i64 a1] rfl zP ?_; (with_reducible refine (deadboltref09_Get.calls k (fun k_ => (P0_ k_ ∨ w.heap.size ≤ k_)) _ _ l0 a1 t446 t447 t448 _ ?side1 A3.out).mono ?_); (case side1 => exact HO0.out); rintro e w8 ⟨v449, rfl, ho0, hb⟩; refine ⟨_, rfl, ?_⟩; have n0_ := Aside0.mk (Kd.V_below (zV HO0) hb); have n1_ := Aside0.mk (Kd.V_lower (Kd.V_mono (ok' := fun k_ => (P0_ k_ ∨ w.heap.size ≤ k_)) ho0 (fun k_ hk_ => Or.elim hk_ (fun hs_ => hs_) (fun hn_ => (.inr (Nat.le_trans (below_size (zB HB)) hn_))))) (below_size (zB HB))); have n2_ := Aside0.mk (below_step (zB HB) hb); clear HO0; clear HB; have HO0 := n0_; have HO450 := n1_; have HB := n2_; clear n0_ n1_ n2_; (try clear hb); (try clear hb2); (try clear hk); (try clear hi); (try clear ho0)) | ((with_reducible refine gate_dst (N := 7) rfl ?_); refine box_event ?hg (N := 7) ?hd (cs := #[.int .i64 0, .int .i64 0, .slice none 0 0]) (t := 33) ?hr ?_; (case hd => rfl); (case hg => rfl); (case hr => first | (go_simp; done) | (go_simp; rfl)); intro gb451 hg w9 hbox hb; have n0_ := Aside0.mk (Kd.V_below (Kd.V_elderB (zV HO0) gb451 (Nat.le_of_eq hg.symm)) hb); have n1_ := Aside0.mk (Kd.V_below (Kd.V_elderB (zV HO450) gb451 (Nat.le_of_eq hg.symm)) hb); have n2_ := Aside0.mk (below_step (zB HB) hb); have n3_ := Aside0.mk (hbox); have n4_ := Aside0.mk ((by rw [hg]; exact (below_size (zB HB)) : w.heap.size ≤ gb451)); have n5_ := Aside0.mk ((by rw [hg]; exact (below_size (zB HB)) : w.heap.size ≤ gb451)); clear HO0; clear HO450; clear HB; have HO0 := n0_; have HO450 := n1_; have HB := n2_; have BK451 := n3_; have GW451 := n4_; have GE451 := n5_; clear n0_ n1_ n2_ n3_ n4_ n5_; clear hb hbox hg; have hcz10_0 : w9.cell? ⟨gb451, 0, none⟩ = some (.int .i64 0) := (blk_cell BK451.out 0).trans rfl; have hcz10_1 : w9.cell? ⟨gb451, 1, none⟩ = some (.int .i64 0) := (blk_cell BK451.out 1).trans rfl; have hcz10_2 : w9.cell? ⟨gb451, 2, none⟩ = some (.slice none 0 0) := (blk_cell BK451.out 2).trans rfl; have hfz10_0 := blk_frozen BK451.out 0; have hfz10_1 := blk_frozen BK451.out 1; have hfz10_2 := blk_frozen BK451.out 2; obtain ⟨Ao11, co11, eo11⟩ := Kd.V_slice HO450.out; subst eo11) | ((with_reducible refine gate_store (t := 33) (p := 7) rfl ?_); refine store_event (t := 33) (p := 7) (v := ?vo_w12) (w1 := (((w9.setCell ⟨gb451, 0, none⟩ (.int .i64 t446)).setCell ⟨gb451, 1, none⟩ (.int .i64 t447)).setCell ⟨gb451, 2, none⟩ (.slice Ao11 t448.length co11))) ?hg ?ho ?hn ?hr ?_; (case ho => rfl); (case hg => rfl); (case hn => rfl); (case hr => first | (go_simp; done) | (go_simp; rfl)); intro w12 hw; have n0_ : Aside0 (Kd.V k33 33 w12 w.heap.size (fun k_ => (P0_ k_ ∨ w.heap.size ≤ k_) ∧ k_ ≠ gb451) (.slice A0 l0.length c0) l0) := ⟨(by rw [hw]; exact (by (with_reducible repeat (first | apply Kd.V_alloc | apply Kd.V_drewN | apply Kd.V_drew)); exact Kd.V_mono (Kd.V_far (p := ⟨gb451, 2, none⟩) (Kd.V_far (p := ⟨gb451, 1, none⟩) (Kd.V_far (p := ⟨gb451, 0, none⟩) (Kd.V_mono HO0.out (fun k_ hk => (⟨hk, hk.2⟩ : _ ∧ k_ ≠ gb451))) (fun _ hk => hk.2) (.int .i64 t446)) (fun _ hk => hk.2) (.int .i64 t447)) (fun _ hk => hk.2) (.slice Ao11 t448.length co11)) (fun _ hk => ⟨hk.1.1, hk.1.2⟩)))⟩; have n1_ : Aside0 (Kd.V (Kd.int .i64) 3 w12 w.heap.size (fun k_ => (P0_ k_ ∨ w.heap.size ≤ k_) ∧ k_ ≠ gb451) (.slice Ao11 t448.length co11) t448) := ⟨(by rw [hw]; exact (by (with_reducible repeat (first | apply Kd.V_alloc | apply Kd.V_drewN | apply Kd.V_drew)); exact Kd.V_mono (Kd.V_far (p := ⟨gb451, 2, none⟩) (Kd.V_far (p := ⟨gb451, 1, none⟩) (Kd.V_far (p := ⟨gb451, 0, none⟩) (Kd.V_mono HO450.out (fun k_ hk => (⟨hk, hk.2⟩ : _ ∧ k_ ≠ gb451))) (fun _ hk => hk.2) (.int .i64 t446)) (fun _ hk => hk.2) (.int .i64 t447)) (fun _ hk => hk.2) (.slice Ao11 t448.length co11)) (fun _ hk => ⟨hk.1.1, hk.1.2⟩)))⟩; have n2_ : Aside0 (w12.heap[gb451]? = some (.cells #[.int .i64 t446, .int .i64 t447, .slice Ao11 t448.length co11] 33 (0, 0))) := ⟨(by rw [hw]; exact (by (with_reducible repeat (first | refine blk_drewN ?_ _ | refine blk_drew ?_ | refine blk_alloc ?_ _)); refine blk_put (cs := #[.int .i64 t446, .int .i64 t447, .slice none 0 0]) ?_ 2 _ rfl; (with_reducible repeat (first | refine blk_drewN ?_ _ | refine blk_drew ?_ | refine blk_alloc ?_ _)); refine blk_put (cs := #[.int .i64 t446, .int .i64 0, .slice none 0 0]) ?_ 1 _ rfl; (with_reducible repeat (first | refine blk_drewN ?_ _ | refine blk_drew ?_ | refine blk_alloc ?_ _)); refine blk_put (cs := #[.int .i64 0, .int .i64 0, .slice none 0 0]) ?_ 0 _ rfl; (with_reducible repeat (first | refine blk_drewN ?_ _ | refine blk_drew ?_ | refine blk_alloc ?_ _)); exact BK451.out))⟩; have n3_ : Aside0 (Below w.heap.size w w12) := ⟨(by rw [hw]; exact (zB1 HB GE451))⟩; clear hw; clear HO0; clear HO450; clear BK451; clear HB; have HO0 := n0_; have HO450 := n1_; have BK451 := n2_; have HB := n3_; clear n0_ n1_ n2_ n3_; have hcz13_0 : w12.cell? ⟨gb451, 0, none⟩ = some (.int .i64 t446) := (blk_cell BK451.out 0).trans rfl; have hcz13_1 : w12.cell? ⟨gb451, 1, none⟩ = some (.int .i64 t447) := (blk_cell BK451.out 1).trans rfl; have hcz13_2 : w12.cell? ⟨gb451, 2, none⟩ = some (.slice Ao11 t448.length co11) := (blk_cell BK451.out 2).trans rfl; have hfz13_0 := blk_frozen BK451.out 0; have hfz13_1 := blk_frozen BK451.out 1; have hfz13_2 := blk_frozen BK451.out 2; have p452 : 0 ≤ (0 : Int) := (by omega); have q452 : 0 < (t448.length : Int) := of_decide_eq_true (by first | (with_reducible assumption) | assumption); obtain ⟨ad452, e452, hx452_0⟩ := Kd.at_int (Kd.V_reads' HO450.out).2.2 0 p452 q452; cases e452; have qi452 : (0 < t448.length) = True := eq_true (by omega); (try rw [show ((0 : Int)).toNat = 0 from rfl] at hx452_0); (try rw [Addr.add_zero'] at hx452_0); replace p452 := eq_true p452; replace q452 := eq_true q452; have q14 : (1 : Int) ≤ ((t448.length : Int) : Int) := of_decide_eq_true (by first | (with_reducible assumption) | assumption); obtain ⟨i014, hi014, _, hsz14, _⟩ := info_parts info3; have hroom14 : t448.length ≤ co11 := (Kd.V_reads' HO450.out).2.1; have hC14 : Kd.F (Kd.int .i64) _ _ (some ad452) t448.length t448 := (Kd.V_at (base := w.heap.size) HO450.out).2.2; have hcut14 := cut_from (P := Try.prog) 25 3 .i64 Try.underlying25 hi014 1 hsz14 (some ad452) t448.length co11 1 (by omega) q14; have hr14 := Kd.F_cut (m := (1 : Int).toNat) (c := co11) hC14 (by omega) hroom14; obtain ⟨A14, hA14⟩ : ∃ A1, A1 = (if co11 = (1 : Int).toNat then (some ad452) else ((some ad452) : Option Addr).map (·.add ((1 : Int).toNat * 1))) := ⟨_, rfl⟩; obtain ⟨c14, hc14⟩ : ∃ c1, c1 = co11 - (1 : Int).toNat := ⟨_, rfl⟩; have hy14 : y453.length = t448.length - (1 : Int).toNat := (by rw [Ny453.out, List.length_drop] <;> omega); rw [show (t448).drop (1 : Int).toNat = y453 from Ny453.out.symm] at hr14; replace hr14 : Kd.F (Kd.int .i64) _ _ A14 y453.length y453 := (by rw [hA14]; exact hr14); rw [← hy14, ← hA14, ← hc14] at hcut14; have HO457 := Aside0.mk (show Kd.V (Kd.int .i64) 3 _ w.heap.size _ (.slice A14 y453.length c14) y453 from Kd.V_mk (by rw [hy14, hc14]; exact Nat.sub_le_sub_right hroom14 _) hr14); have HC457 := Aside0.mk (show y453.length ≤ c14 from by rw [hy14, hc14]; exact Nat.sub_le_sub_right hroom14 _); clear hr14 hC14 hroom14 hi014 hsz14 hc14; have KY14 := Aside0.mk hy14; have KA14 := Aside0.mk hA14; clear hy14 hA14; replace q14 := eq_true q14) | ((with_reducible refine gate_store (t := 25) (p := 25) rfl ?_); refine store_event (t := 25) (p := 25) (v := ?vo_w15) (w1 := (w12.setCell ⟨gb451, 2, none⟩ (.slice A14 y453.length c14))) ?hg ?ho ?hn ?hr ?_; (case ho => rfl); (case hg => rfl); (case hn => rfl); (case hr => first | (go_simp; done) | (go_simp; rfl)); intro w15 hw; have n0_ : Aside0 (Kd.V k33 33 w15 w.heap.size (fun k_ => (P0_ k_ ∨ w.heap.size ≤ k_) ∧ k_ ≠ gb451) (.slice A0 l0.length c0) l0) := ⟨(by rw [hw]; exact (by (with_reducible repeat (first | apply Kd.V_alloc | apply Kd.V_drewN | apply Kd.V_drew)); exact Kd.V_mono (Kd.V_far (p := ⟨gb451, 2, none⟩) (Kd.V_mono HO0.out (fun k_ hk => (⟨hk, hk.2⟩ : _ ∧ k_ ≠ gb451))) (fun _ hk => hk.2) (.slice A14 y453.length c14)) (fun _ hk => ⟨hk.1.1, hk.1.2⟩)))⟩; have n1_ : Aside0 (Kd.V (Kd.int .i64) 3 w15 w.heap.size (fun k_ => (P0_ k_ ∨ w.heap.size ≤ k_) ∧ k_ ≠ gb451) (.slice (some ad452) t448.length co11) t448) := ⟨(by rw [hw]; exact (by (with_reducible repeat (first | apply Kd.V_alloc | apply Kd.V_drewN | apply Kd.V_drew)); exact Kd.V_mono (Kd.V_far (p := ⟨gb451, 2, none⟩) (Kd.V_mono HO450.out (fun k_ hk => (⟨hk, hk.2⟩ : _ ∧ k_ ≠ gb451))) (fun _ hk => hk.2) (.slice A14 y453.length c14)) (fun _ hk => ⟨hk.1.1, hk.1.2⟩)))⟩; have n2_ : Aside0 (Kd.V (Kd.int .i64) 3 w15 w.heap.size (fun k_ => (P0_ k_ ∨ w.heap.size ≤ k_) ∧ k_ ≠ gb451) (.slice A14 y453.length c14) y453) := ⟨(by rw [hw]; exact (by (with_reducible repeat (first | apply Kd.V_alloc | apply Kd.V_drewN | apply Kd.V_drew)); exact Kd.V_mono (Kd.V_far (p := ⟨gb451, 2, none⟩) (Kd.V_mono HO457.out (fun k_ hk => (⟨hk, hk.2⟩ : _ ∧ k_ ≠ gb451))) (fun _ hk => hk.2) (.slice A14 y453.length c14)) (fun _ hk => ⟨hk.1.1, hk.1.2⟩)))⟩; have n3_ : Aside0 (w15.heap[gb451]? = some (.cells #[.int .i64 t446, .int .i64 t447, .slice A14 y453.length c14] 33 (0, 0))) := ⟨(by rw [hw]; exact (by (with_reducible repeat (first | refine blk_drewN ?_ _ | refine blk_drew ?_ | refine blk_alloc ?_ _)); refine blk_put (cs := #[.int .i64 t446, .int .i64 t447, .slice (some ad452) t448.length co11]) ?_ 2 _ rfl; (with_reducible repeat (first | refine blk_drewN ?_ _ | refine blk_drew ?_ | refine blk_alloc ?_ _)); exact BK451.out))⟩; have n4_ : Aside0 (Below w.heap.size w w15) := ⟨(by rw [hw]; exact (zB1 HB GE451))⟩; clear hw; clear HO0; clear HO450; clear HO457; clear BK451; clear HB; have HO0 := n0_; have HO450 := n1_; have HO457 := n2_; have BK451 := n3_; have HB := n4_; clear n0_ n1_ n2_ n3_ n4_; have hcz16_0 : w15.cell? ⟨gb451, 0, none⟩ = some (.int .i64 t446) := (blk_cell BK451.out 0).trans rfl; have hcz16_1 : w15.cell? ⟨gb451, 1, none⟩ = some (.int .i64 t447) := (blk_cell BK451.out 1).trans rfl; have hcz16_2 : w15.cell? ⟨gb451, 2, none⟩ = some (.slice A14 y453.length c14) := (blk_cell BK451.out 2).trans rfl; have hfz16_0 := blk_frozen BK451.out 0; have hfz16_1 := blk_frozen BK451.out 1; have hfz16_2 := blk_frozen BK451.out 2) | ((with_reducible refine gate_callee (f := 26) rfl ?_); refine goesL_ (some 28) rfl rfl Try.func26 (by kernel_rfl) rfl #[.slice A0 l0.length c0, .agg #[.int .i64 t446, .int .i64 t447, .slice A14 y453.length c14]] rfl zP ?_; (with_reducible refine (deadboltref09_Set.calls k (fun k_ => ((P0_ k_ ∨ w.heap.size ≤ k_) ∧ k_ ≠ gb451)) _ _ l0 t446 t447 (fun k_ => ((P0_ k_ ∨ w.heap.size ≤ k_) ∧ k_ ≠ gb451)) _ _ y453 t458 _ ?side1 ?side2 A7.out).mono ?_); (case side1 => exact HO0.out); (case side2 => exact HO457.out); rintro e w17 ⟨v459, rfl, ho0, hb⟩; refine ⟨_, rfl, ?_⟩; have n0_ := Aside0.mk (Kd.V_elder' (zV HO0) (Kd.N_base ho0) hb); have n1_ := Aside0.mk (Kd.V_elder' (zV HO450) (Kd.N_base ho0) hb); have n2_ := Aside0.mk (Kd.V_elder' (zV HO457) (Kd.N_base ho0) hb); have n3_ := Aside0.mk (Kd.N_lower (Kd.N_mono (ok' := fun k_ => (P0_ k_ ∨ w.heap.size ≤ k_) ∧ k_ ≠ gb451) ho0 (fun k_ hk_ => ⟨Or.elim hk_ (fun hs_ => Or.elim hs_ (fun hs_ => hs_.1) (fun hs_ => hs_.1)) (fun hn_ => (.inr (Nat.le_trans (below_size (zB1 HB GE451)) hn_))), Or.elim hk_ (fun hs_ => Or.elim hs_ (fun hs_ => hs_.2) (fun hs_ => hs_.2)) (fun hn_ => (Kd.freshB (g := gb451) (o := .cells #[.int .i64 t446, .int .i64 t447, .slice A14 y453.length c14] 33 (0, 0)) (zK BK451) k_ hn_))⟩)) (below_size (zB1 HB GE451))); have n4_ := Aside0.mk (blk_below (g := gb451) (o := .cells #[.int .i64 t446, .int .i64 t447, .slice A14 y453.length c14] 33 (0, 0)) (zK BK451) hb); have n5_ := Aside0.mk (below_step (zB1 HB GE451) hb); clear HO0; clear HO450; clear HO457; clear BK451; clear HB; have HO0 := n0_; have HO450 := n1_; have HO457 := n2_; have HO460 := n3_; have BK451 := n4_; have HB := n5_; clear n0_ n1_ n2_ n3_ n4_ n5_; (try clear hb); (try clear hb2); (try clear hk); (try clear hi); (try clear ho0)))
    go_ret3
    exact ⟨_, by first | rfl | (simp [errW_none, errW_some] <;> rfl) | (simp [*, errW_none, errW_some] <;> rfl), by (with_reducible repeat (first | apply Kd.N_alloc | apply Kd.N_drewN | apply Kd.N_drew)); exact Kd.N_mono HO460.out (fun _ hk => hk.1), zB1 HB GE451⟩
   ·rw [if_neg c6] at H
    exact absurd H (by simp)
  ·rw [if_neg c5] at H
   exact absurd H (by simp)
 ·rw [if_neg c4] at H
  have c4b0 : decide (0 < (t448.length : Int)) = false := decide_eq_false c4
  have c4b1 : decide (0 < t448.length) = false := decide_eq_false (by omega)
  clear c4
  by_cases c18 : t447 = 2147483647
  ·rw [if_pos c18] at H
   have c18b0 : (t447 == 2147483647) = true := beq_iff_eq.mpr c18
   have c18b1 : (t447 != 2147483647) = false := bne_eq_false_iff_eq.mpr c18
   clear c18
   simp only [Option.some.injEq, Prod.mk.injEq] at H
   obtain ⟨rfl, rfl, rfl⟩ := H
   go_enter Try.func38, Try.ntmps38
   go_wp2_with (first | ((with_reducible refine gate_callee (f := 22) rfl ?_); refine goesL_ (some 13) rfl rfl Try.func22 (by kernel_rfl) rfl #[.slice A0 l0.length c0, .int .i64 a1] rfl zP ?_; (with_reducible refine (deadboltref09_Get.calls k (fun k_ => (P0_ k_ ∨ w.heap.size ≤ k_)) _ _ l0 a1 t446 t447 t448 _ ?side1 A3.out).mono ?_); (case side1 => exact HO0.out); rintro e w19 ⟨v449, rfl, ho0, hb⟩; refine ⟨_, rfl, ?_⟩; have n0_ := Aside0.mk (Kd.V_below (zV HO0) hb); have n1_ := Aside0.mk (Kd.V_lower (Kd.V_mono (ok' := fun k_ => (P0_ k_ ∨ w.heap.size ≤ k_)) ho0 (fun k_ hk_ => Or.elim hk_ (fun hs_ => hs_) (fun hn_ => (.inr (Nat.le_trans (below_size (zB HB)) hn_))))) (below_size (zB HB))); have n2_ := Aside0.mk (below_step (zB HB) hb); clear HO0; clear HB; have HO0 := n0_; have HO450 := n1_; have HB := n2_; clear n0_ n1_ n2_; (try clear hb); (try clear hb2); (try clear hk); (try clear hi); (try clear ho0)) | ((with_reducible refine gate_dst (N := 7) rfl ?_); refine box_event ?hg (N := 7) ?hd (cs := #[.int .i64 0, .int .i64 0, .slice none 0 0]) (t := 33) ?hr ?_; (case hd => rfl); (case hg => rfl); (case hr => first | (go_simp; done) | (go_simp; rfl)); intro gb451 hg w20 hbox hb; have n0_ := Aside0.mk (Kd.V_below (Kd.V_elderB (zV HO0) gb451 (Nat.le_of_eq hg.symm)) hb); have n1_ := Aside0.mk (Kd.V_below (Kd.V_elderB (zV HO450) gb451 (Nat.le_of_eq hg.symm)) hb); have n2_ := Aside0.mk (below_step (zB HB) hb); have n3_ := Aside0.mk (hbox); have n4_ := Aside0.mk ((by rw [hg]; exact (below_size (zB HB)) : w.heap.size ≤ gb451)); have n5_ := Aside0.mk ((by rw [hg]; exact (below_size (zB HB)) : w.heap.size ≤ gb451)); clear HO0; clear HO450; clear HB; have HO0 := n0_; have HO450 := n1_; have HB := n2_; have BK451 := n3_; have GW451 := n4_; have GE451 := n5_; clear n0_ n1_ n2_ n3_ n4_ n5_; clear hb hbox hg; have hcz21_0 : w20.cell? ⟨gb451, 0, none⟩ = some (.int .i64 0) := (blk_cell BK451.out 0).trans rfl; have hcz21_1 : w20.cell? ⟨gb451, 1, none⟩ = some (.int .i64 0) := (blk_cell BK451.out 1).trans rfl; have hcz21_2 : w20.cell? ⟨gb451, 2, none⟩ = some (.slice none 0 0) := (blk_cell BK451.out 2).trans rfl; have hfz21_0 := blk_frozen BK451.out 0; have hfz21_1 := blk_frozen BK451.out 1; have hfz21_2 := blk_frozen BK451.out 2; obtain ⟨Ao22, co22, eo22⟩ := Kd.V_slice HO450.out; subst eo22))
   go_ret3
   exact ⟨_, by first | rfl | (simp [errW_none, errW_some] <;> rfl) | (simp [*, errW_none, errW_some] <;> rfl), by first | exact Kd.S_nil _ _ _ _ _ | exact Kd.N_nil _ _ _ _ _ | exact Kd.V_nil _ _ _ _ _ | exact Kd.Q_nil _ _ _ _ _ | exact Kd.R_nil _ _ _ _ _, zB1 HB GE451⟩
  ·rw [if_neg c18] at H
   have c18b0 : (t447 == 2147483647) = false := beq_eq_false_iff_ne.mpr c18
   have c18b1 : (t447 != 2147483647) = true := bne_iff_ne.mpr c18
   replace H := Option.bind_eq_some_iff.mp H
   obtain ⟨⟨t461, t464⟩, A230, H⟩ := H
   replace H : (if t464 = 0 then (some (t461, (-1), 0)) else (some (([] : List (S33)), 0, t464))) = some (r1, r2, r3) := H
   have A23 := Aside0.mk A230
   clear A230
   by_cases c24 : t464 = 0
   ·rw [if_pos c24] at H
    have c24b0 : (t464 == 0) = true := beq_iff_eq.mpr c24
    have c24b1 : (t464 != 0) = false := bne_eq_false_iff_eq.mpr c24
    clear c24
    simp only [Option.some.injEq, Prod.mk.injEq] at H
    obtain ⟨rfl, rfl, rfl⟩ := H
    go_enter Try.func38, Try.ntmps38
    go_wp2_with (first | ((with_reducible refine gate_callee (f := 22) rfl ?_); refine goesL_ (some 13) rfl rfl Try.func22 (by kernel_rfl) rfl #[.slice A0 l0.length c0, .int .i64 a1] rfl zP ?_; (with_reducible refine (deadboltref09_Get.calls k (fun k_ => (P0_ k_ ∨ w.heap.size ≤ k_)) _ _ l0 a1 t446 t447 t448 _ ?side1 A3.out).mono ?_); (case side1 => exact HO0.out); rintro e w25 ⟨v449, rfl, ho0, hb⟩; refine ⟨_, rfl, ?_⟩; have n0_ := Aside0.mk (Kd.V_below (zV HO0) hb); have n1_ := Aside0.mk (Kd.V_lower (Kd.V_mono (ok' := fun k_ => (P0_ k_ ∨ w.heap.size ≤ k_)) ho0 (fun k_ hk_ => Or.elim hk_ (fun hs_ => hs_) (fun hn_ => (.inr (Nat.le_trans (below_size (zB HB)) hn_))))) (below_size (zB HB))); have n2_ := Aside0.mk (below_step (zB HB) hb); clear HO0; clear HB; have HO0 := n0_; have HO450 := n1_; have HB := n2_; clear n0_ n1_ n2_; (try clear hb); (try clear hb2); (try clear hk); (try clear hi); (try clear ho0)) | ((with_reducible refine gate_dst (N := 7) rfl ?_); refine box_event ?hg (N := 7) ?hd (cs := #[.int .i64 0, .int .i64 0, .slice none 0 0]) (t := 33) ?hr ?_; (case hd => rfl); (case hg => rfl); (case hr => first | (go_simp; done) | (go_simp; rfl)); intro gb451 hg w26 hbox hb; have n0_ := Aside0.mk (Kd.V_below (Kd.V_elderB (zV HO0) gb451 (Nat.le_of_eq hg.symm)) hb); have n1_ := Aside0.mk (Kd.V_below (Kd.V_elderB (zV HO450) gb451 (Nat.le_of_eq hg.symm)) hb); have n2_ := Aside0.mk (below_step (zB HB) hb); have n3_ := Aside0.mk (hbox); have n4_ := Aside0.mk ((by rw [hg]; exact (below_size (zB HB)) : w.heap.size ≤ gb451)); have n5_ := Aside0.mk ((by rw [hg]; exact (below_size (zB HB)) : w.heap.size ≤ gb451)); clear HO0; clear HO450; clear HB; have HO0 := n0_; have HO450 := n1_; have HB := n2_; have BK451 := n3_; have GW451 := n4_; have GE451 := n5_; clear n0_ n1_ n2_ n3_ n4_ n5_; clear hb hbox hg; have hcz27_0 : w26.cell? ⟨gb451, 0, none⟩ = some (.int .i64 0) := (blk_cell BK451.out 0).trans rfl; have hcz27_1 : w26.cell? ⟨gb451, 1, none⟩ = some (.int .i64 0) := (blk_cell BK451.out 1).trans rfl; have hcz27_2 : w26.cell? ⟨gb451, 2, none⟩ = some (.slice none 0 0) := (blk_cell BK451.out 2).trans rfl; have hfz27_0 := blk_frozen BK451.out 0; have hfz27_1 := blk_frozen BK451.out 1; have hfz27_2 := blk_frozen BK451.out 2; obtain ⟨Ao28, co28, eo28⟩ := Kd.V_slice HO450.out; subst eo28) | ((with_reducible refine gate_store (t := 33) (p := 7) rfl ?_); refine store_event (t := 33) (p := 7) (v := ?vo_w29) (w1 := (((w26.setCell ⟨gb451, 0, none⟩ (.int .i64 t446)).setCell ⟨gb451, 1, none⟩ (.int .i64 t447)).setCell ⟨gb451, 2, none⟩ (.slice Ao28 t448.length co28))) ?hg ?ho ?hn ?hr ?_; (case ho => rfl); (case hg => rfl); (case hn => rfl); (case hr => first | (go_simp; done) | (go_simp; rfl)); intro w29 hw; have n0_ : Aside0 (Kd.V k33 33 w29 w.heap.size (fun k_ => (P0_ k_ ∨ w.heap.size ≤ k_) ∧ k_ ≠ gb451) (.slice A0 l0.length c0) l0) := ⟨(by rw [hw]; exact (by (with_reducible repeat (first | apply Kd.V_alloc | apply Kd.V_drewN | apply Kd.V_drew)); exact Kd.V_mono (Kd.V_far (p := ⟨gb451, 2, none⟩) (Kd.V_far (p := ⟨gb451, 1, none⟩) (Kd.V_far (p := ⟨gb451, 0, none⟩) (Kd.V_mono HO0.out (fun k_ hk => (⟨hk, hk.2⟩ : _ ∧ k_ ≠ gb451))) (fun _ hk => hk.2) (.int .i64 t446)) (fun _ hk => hk.2) (.int .i64 t447)) (fun _ hk => hk.2) (.slice Ao28 t448.length co28)) (fun _ hk => ⟨hk.1.1, hk.1.2⟩)))⟩; have n1_ : Aside0 (Kd.V (Kd.int .i64) 3 w29 w.heap.size (fun k_ => (P0_ k_ ∨ w.heap.size ≤ k_) ∧ k_ ≠ gb451) (.slice Ao28 t448.length co28) t448) := ⟨(by rw [hw]; exact (by (with_reducible repeat (first | apply Kd.V_alloc | apply Kd.V_drewN | apply Kd.V_drew)); exact Kd.V_mono (Kd.V_far (p := ⟨gb451, 2, none⟩) (Kd.V_far (p := ⟨gb451, 1, none⟩) (Kd.V_far (p := ⟨gb451, 0, none⟩) (Kd.V_mono HO450.out (fun k_ hk => (⟨hk, hk.2⟩ : _ ∧ k_ ≠ gb451))) (fun _ hk => hk.2) (.int .i64 t446)) (fun _ hk => hk.2) (.int .i64 t447)) (fun _ hk => hk.2) (.slice Ao28 t448.length co28)) (fun _ hk => ⟨hk.1.1, hk.1.2⟩)))⟩; have n2_ : Aside0 (w29.heap[gb451]? = some (.cells #[.int .i64 t446, .int .i64 t447, .slice Ao28 t448.length co28] 33 (0, 0))) := ⟨(by rw [hw]; exact (by (with_reducible repeat (first | refine blk_drewN ?_ _ | refine blk_drew ?_ | refine blk_alloc ?_ _)); refine blk_put (cs := #[.int .i64 t446, .int .i64 t447, .slice none 0 0]) ?_ 2 _ rfl; (with_reducible repeat (first | refine blk_drewN ?_ _ | refine blk_drew ?_ | refine blk_alloc ?_ _)); refine blk_put (cs := #[.int .i64 t446, .int .i64 0, .slice none 0 0]) ?_ 1 _ rfl; (with_reducible repeat (first | refine blk_drewN ?_ _ | refine blk_drew ?_ | refine blk_alloc ?_ _)); refine blk_put (cs := #[.int .i64 0, .int .i64 0, .slice none 0 0]) ?_ 0 _ rfl; (with_reducible repeat (first | refine blk_drewN ?_ _ | refine blk_drew ?_ | refine blk_alloc ?_ _)); exact BK451.out))⟩; have n3_ : Aside0 (Below w.heap.size w w29) := ⟨(by rw [hw]; exact (zB1 HB GE451))⟩; clear hw; clear HO0; clear HO450; clear BK451; clear HB; have HO0 := n0_; have HO450 := n1_; have BK451 := n2_; have HB := n3_; clear n0_ n1_ n2_ n3_; have hcz30_0 : w29.cell? ⟨gb451, 0, none⟩ = some (.int .i64 t446) := (blk_cell BK451.out 0).trans rfl; have hcz30_1 : w29.cell? ⟨gb451, 1, none⟩ = some (.int .i64 t447) := (blk_cell BK451.out 1).trans rfl; have hcz30_2 : w29.cell? ⟨gb451, 2, none⟩ = some (.slice Ao28 t448.length co28) := (blk_cell BK451.out 2).trans rfl; have hfz30_0 := blk_frozen BK451.out 0; have hfz30_1 := blk_frozen BK451.out 1; have hfz30_2 := blk_frozen BK451.out 2) | ((with_reducible refine gate_store (t := 3) (p := 36) rfl ?_); refine store_event (t := 3) (p := 36) (v := ?vo_w31) (w1 := (w29.setCell ⟨gb451, 1, none⟩ (.int .i64 (wrap64 (t447 + 1))))) ?hg ?ho ?hn ?hr ?_; (case ho => rfl); (case hg => rfl); (case hn => rfl); (case hr => first | (go_simp; done) | (go_simp; rfl)); intro w31 hw; have n0_ : Aside0 (Kd.V k33 33 w31 w.heap.size (fun k_ => (P0_ k_ ∨ w.heap.size ≤ k_) ∧ k_ ≠ gb451) (.slice A0 l0.length c0) l0) := ⟨(by rw [hw]; exact (by (with_reducible repeat (first | apply Kd.V_alloc | apply Kd.V_drewN | apply Kd.V_drew)); exact Kd.V_mono (Kd.V_far (p := ⟨gb451, 1, none⟩) (Kd.V_mono HO0.out (fun k_ hk => (⟨hk, hk.2⟩ : _ ∧ k_ ≠ gb451))) (fun _ hk => hk.2) (.int .i64 (wrap64 (t447 + 1)))) (fun _ hk => ⟨hk.1.1, hk.1.2⟩)))⟩; have n1_ : Aside0 (Kd.V (Kd.int .i64) 3 w31 w.heap.size (fun k_ => (P0_ k_ ∨ w.heap.size ≤ k_) ∧ k_ ≠ gb451) (.slice Ao28 t448.length co28) t448) := ⟨(by rw [hw]; exact (by (with_reducible repeat (first | apply Kd.V_alloc | apply Kd.V_drewN | apply Kd.V_drew)); exact Kd.V_mono (Kd.V_far (p := ⟨gb451, 1, none⟩) (Kd.V_mono HO450.out (fun k_ hk => (⟨hk, hk.2⟩ : _ ∧ k_ ≠ gb451))) (fun _ hk => hk.2) (.int .i64 (wrap64 (t447 + 1)))) (fun _ hk => ⟨hk.1.1, hk.1.2⟩)))⟩; have n2_ : Aside0 (w31.heap[gb451]? = some (.cells #[.int .i64 t446, .int .i64 (wrap64 (t447 + 1)), .slice Ao28 t448.length co28] 33 (0, 0))) := ⟨(by rw [hw]; exact (by (with_reducible repeat (first | refine blk_drewN ?_ _ | refine blk_drew ?_ | refine blk_alloc ?_ _)); refine blk_put (cs := #[.int .i64 t446, .int .i64 t447, .slice Ao28 t448.length co28]) ?_ 1 _ rfl; (with_reducible repeat (first | refine blk_drewN ?_ _ | refine blk_drew ?_ | refine blk_alloc ?_ _)); exact BK451.out))⟩; have n3_ : Aside0 (Below w.heap.size w w31) := ⟨(by rw [hw]; exact (zB1 HB GE451))⟩; clear hw; clear HO0; clear HO450; clear BK451; clear HB; have HO0 := n0_; have HO450 := n1_; have BK451 := n2_; have HB := n3_; clear n0_ n1_ n2_ n3_; have hcz32_0 : w31.cell? ⟨gb451, 0, none⟩ = some (.int .i64 t446) := (blk_cell BK451.out 0).trans rfl; have hcz32_1 : w31.cell? ⟨gb451, 1, none⟩ = some (.int .i64 (wrap64 (t447 + 1))) := (blk_cell BK451.out 1).trans rfl; have hcz32_2 : w31.cell? ⟨gb451, 2, none⟩ = some (.slice Ao28 t448.length co28) := (blk_cell BK451.out 2).trans rfl; have hfz32_0 := blk_frozen BK451.out 0; have hfz32_1 := blk_frozen BK451.out 1; have hfz32_2 := blk_frozen BK451.out 2) | ((with_reducible refine gate_callee (f := 60) rfl ?_); refine goesL_ (some 40) rfl rfl Try.func60 (by kernel_rfl) rfl #[.slice A0 l0.length c0, .agg #[.int .i64 t446, .int .i64 (wrap64 (t447 + 1)), .slice Ao28 t448.length co28]] rfl zP ?_; (with_reducible refine (deadboltref10_set.calls k (fun k_ => ((P0_ k_ ∨ w.heap.size ≤ k_) ∧ k_ ≠ gb451)) _ _ l0 t446 (wrap64 (t447 + 1)) (fun k_ => ((P0_ k_ ∨ w.heap.size ≤ k_) ∧ k_ ≠ gb451)) _ _ t448 t461 t464 _ ?side1 ?side2 A23.out).mono ?_); (case side1 => exact HO0.out); (case side2 => exact HO450.out); rintro e w33 ⟨v462, rfl, ho0, hb⟩; refine ⟨_, rfl, ?_⟩; have n0_ := Aside0.mk (Kd.V_elder' (zV HO0) (Kd.N_base ho0) hb); have n1_ := Aside0.mk (Kd.V_elder' (zV HO450) (Kd.N_base ho0) hb); have n2_ := Aside0.mk (Kd.N_lower (Kd.N_mono (ok' := fun k_ => (P0_ k_ ∨ w.heap.size ≤ k_) ∧ k_ ≠ gb451) ho0 (fun k_ hk_ => ⟨Or.elim hk_ (fun hs_ => Or.elim hs_ (fun hs_ => hs_.1) (fun hs_ => hs_.1)) (fun hn_ => (.inr (Nat.le_trans (below_size (zB1 HB GE451)) hn_))), Or.elim hk_ (fun hs_ => Or.elim hs_ (fun hs_ => hs_.2) (fun hs_ => hs_.2)) (fun hn_ => (Kd.freshB (g := gb451) (o := .cells #[.int .i64 t446, .int .i64 (wrap64 (t447 + 1)), .slice Ao28 t448.length co28] 33 (0, 0)) (zK BK451) k_ hn_))⟩)) (below_size (zB1 HB GE451))); have n3_ := Aside0.mk (blk_below (g := gb451) (o := .cells #[.int .i64 t446, .int .i64 (wrap64 (t447 + 1)), .slice Ao28 t448.length co28] 33 (0, 0)) (zK BK451) hb); have n4_ := Aside0.mk (below_step (zB1 HB GE451) hb); clear HO0; clear HO450; clear BK451; clear HB; have HO0 := n0_; have HO450 := n1_; have HO463 := n2_; have BK451 := n3_; have HB := n4_; clear n0_ n1_ n2_ n3_ n4_; (try clear hb); (try clear hb2); (try clear hk); (try clear hi); (try clear ho0)))
    go_ret3
    exact ⟨_, by first | rfl | (simp [errW_none, errW_some] <;> rfl) | (simp [*, errW_none, errW_some] <;> rfl), by (with_reducible repeat (first | apply Kd.N_alloc | apply Kd.N_drewN | apply Kd.N_drew)); exact Kd.N_mono HO463.out (fun _ hk => hk.1), zB1 HB GE451⟩
   ·rw [if_neg c24] at H
    have c24b0 : (t464 == 0) = false := beq_eq_false_iff_ne.mpr c24
    have c24b1 : (t464 != 0) = true := bne_iff_ne.mpr c24
    simp only [Option.some.injEq, Prod.mk.injEq] at H
    obtain ⟨rfl, rfl, rfl⟩ := H
    go_enter Try.func38, Try.ntmps38
    go_wp2_with (first | ((with_reducible refine gate_callee (f := 22) rfl ?_); refine goesL_ (some 13) rfl rfl Try.func22 (by kernel_rfl) rfl #[.slice A0 l0.length c0, .int .i64 a1] rfl zP ?_; (with_reducible refine (deadboltref09_Get.calls k (fun k_ => (P0_ k_ ∨ w.heap.size ≤ k_)) _ _ l0 a1 t446 t447 t448 _ ?side1 A3.out).mono ?_); (case side1 => exact HO0.out); rintro e w34 ⟨v449, rfl, ho0, hb⟩; refine ⟨_, rfl, ?_⟩; have n0_ := Aside0.mk (Kd.V_below (zV HO0) hb); have n1_ := Aside0.mk (Kd.V_lower (Kd.V_mono (ok' := fun k_ => (P0_ k_ ∨ w.heap.size ≤ k_)) ho0 (fun k_ hk_ => Or.elim hk_ (fun hs_ => hs_) (fun hn_ => (.inr (Nat.le_trans (below_size (zB HB)) hn_))))) (below_size (zB HB))); have n2_ := Aside0.mk (below_step (zB HB) hb); clear HO0; clear HB; have HO0 := n0_; have HO450 := n1_; have HB := n2_; clear n0_ n1_ n2_; (try clear hb); (try clear hb2); (try clear hk); (try clear hi); (try clear ho0)) | ((with_reducible refine gate_dst (N := 7) rfl ?_); refine box_event ?hg (N := 7) ?hd (cs := #[.int .i64 0, .int .i64 0, .slice none 0 0]) (t := 33) ?hr ?_; (case hd => rfl); (case hg => rfl); (case hr => first | (go_simp; done) | (go_simp; rfl)); intro gb451 hg w35 hbox hb; have n0_ := Aside0.mk (Kd.V_below (Kd.V_elderB (zV HO0) gb451 (Nat.le_of_eq hg.symm)) hb); have n1_ := Aside0.mk (Kd.V_below (Kd.V_elderB (zV HO450) gb451 (Nat.le_of_eq hg.symm)) hb); have n2_ := Aside0.mk (below_step (zB HB) hb); have n3_ := Aside0.mk (hbox); have n4_ := Aside0.mk ((by rw [hg]; exact (below_size (zB HB)) : w.heap.size ≤ gb451)); have n5_ := Aside0.mk ((by rw [hg]; exact (below_size (zB HB)) : w.heap.size ≤ gb451)); clear HO0; clear HO450; clear HB; have HO0 := n0_; have HO450 := n1_; have HB := n2_; have BK451 := n3_; have GW451 := n4_; have GE451 := n5_; clear n0_ n1_ n2_ n3_ n4_ n5_; clear hb hbox hg; have hcz36_0 : w35.cell? ⟨gb451, 0, none⟩ = some (.int .i64 0) := (blk_cell BK451.out 0).trans rfl; have hcz36_1 : w35.cell? ⟨gb451, 1, none⟩ = some (.int .i64 0) := (blk_cell BK451.out 1).trans rfl; have hcz36_2 : w35.cell? ⟨gb451, 2, none⟩ = some (.slice none 0 0) := (blk_cell BK451.out 2).trans rfl; have hfz36_0 := blk_frozen BK451.out 0; have hfz36_1 := blk_frozen BK451.out 1; have hfz36_2 := blk_frozen BK451.out 2; obtain ⟨Ao37, co37, eo37⟩ := Kd.V_slice HO450.out; subst eo37) | ((with_reducible refine gate_store (t := 33) (p := 7) rfl ?_); refine store_event (t := 33) (p := 7) (v := ?vo_w38) (w1 := (((w35.setCell ⟨gb451, 0, none⟩ (.int .i64 t446)).setCell ⟨gb451, 1, none⟩ (.int .i64 t447)).setCell ⟨gb451, 2, none⟩ (.slice Ao37 t448.length co37))) ?hg ?ho ?hn ?hr ?_; (case ho => rfl); (case hg => rfl); (case hn => rfl); (case hr => first | (go_simp; done) | (go_simp; rfl)); intro w38 hw; have n0_ : Aside0 (Kd.V k33 33 w38 w.heap.size (fun k_ => (P0_ k_ ∨ w.heap.size ≤ k_) ∧ k_ ≠ gb451) (.slice A0 l0.length c0) l0) := ⟨(by rw [hw]; exact (by (with_reducible repeat (first | apply Kd.V_alloc | apply Kd.V_drewN | apply Kd.V_drew)); exact Kd.V_mono (Kd.V_far (p := ⟨gb451, 2, none⟩) (Kd.V_far (p := ⟨gb451, 1, none⟩) (Kd.V_far (p := ⟨gb451, 0, none⟩) (Kd.V_mono HO0.out (fun k_ hk => (⟨hk, hk.2⟩ : _ ∧ k_ ≠ gb451))) (fun _ hk => hk.2) (.int .i64 t446)) (fun _ hk => hk.2) (.int .i64 t447)) (fun _ hk => hk.2) (.slice Ao37 t448.length co37)) (fun _ hk => ⟨hk.1.1, hk.1.2⟩)))⟩; have n1_ : Aside0 (Kd.V (Kd.int .i64) 3 w38 w.heap.size (fun k_ => (P0_ k_ ∨ w.heap.size ≤ k_) ∧ k_ ≠ gb451) (.slice Ao37 t448.length co37) t448) := ⟨(by rw [hw]; exact (by (with_reducible repeat (first | apply Kd.V_alloc | apply Kd.V_drewN | apply Kd.V_drew)); exact Kd.V_mono (Kd.V_far (p := ⟨gb451, 2, none⟩) (Kd.V_far (p := ⟨gb451, 1, none⟩) (Kd.V_far (p := ⟨gb451, 0, none⟩) (Kd.V_mono HO450.out (fun k_ hk => (⟨hk, hk.2⟩ : _ ∧ k_ ≠ gb451))) (fun _ hk => hk.2) (.int .i64 t446)) (fun _ hk => hk.2) (.int .i64 t447)) (fun _ hk => hk.2) (.slice Ao37 t448.length co37)) (fun _ hk => ⟨hk.1.1, hk.1.2⟩)))⟩; have n2_ : Aside0 (w38.heap[gb451]? = some (.cells #[.int .i64 t446, .int .i64 t447, .slice Ao37 t448.length co37] 33 (0, 0))) := ⟨(by rw [hw]; exact (by (with_reducible repeat (first | refine blk_drewN ?_ _ | refine blk_drew ?_ | refine blk_alloc ?_ _)); refine blk_put (cs := #[.int .i64 t446, .int .i64 t447, .slice none 0 0]) ?_ 2 _ rfl; (with_reducible repeat (first | refine blk_drewN ?_ _ | refine blk_drew ?_ | refine blk_alloc ?_ _)); refine blk_put (cs := #[.int .i64 t446, .int .i64 0, .slice none 0 0]) ?_ 1 _ rfl; (with_reducible repeat (first | refine blk_drewN ?_ _ | refine blk_drew ?_ | refine blk_alloc ?_ _)); refine blk_put (cs := #[.int .i64 0, .int .i64 0, .slice none 0 0]) ?_ 0 _ rfl; (with_reducible repeat (first | refine blk_drewN ?_ _ | refine blk_drew ?_ | refine blk_alloc ?_ _)); exact BK451.out))⟩; have n3_ : Aside0 (Below w.heap.size w w38) := ⟨(by rw [hw]; exact (zB1 HB GE451))⟩; clear hw; clear HO0; clear HO450; clear BK451; clear HB; have HO0 := n0_; have HO450 := n1_; have BK451 := n2_; have HB := n3_; clear n0_ n1_ n2_ n3_; have hcz39_0 : w38.cell? ⟨gb451, 0, none⟩ = some (.int .i64 t446) := (blk_cell BK451.out 0).trans rfl; have hcz39_1 : w38.cell? ⟨gb451, 1, none⟩ = some (.int .i64 t447) := (blk_cell BK451.out 1).trans rfl; have hcz39_2 : w38.cell? ⟨gb451, 2, none⟩ = some (.slice Ao37 t448.length co37) := (blk_cell BK451.out 2).trans rfl; have hfz39_0 := blk_frozen BK451.out 0; have hfz39_1 := blk_frozen BK451.out 1; have hfz39_2 := blk_frozen BK451.out 2) | ((with_reducible refine gate_store (t := 3) (p := 36) rfl ?_); refine store_event (t := 3) (p := 36) (v := ?vo_w40) (w1 := (w38.setCell ⟨gb451, 1, none⟩ (.int .i64 (wrap64 (t447 + 1))))) ?hg ?ho ?hn ?hr ?_; (case ho => rfl); (case hg => rfl); (case hn => rfl); (case hr => first | (go_simp; done) | (go_simp; rfl)); intro w40 hw; have n0_ : Aside0 (Kd.V k33 33 w40 w.heap.size (fun k_ => (P0_ k_ ∨ w.heap.size ≤ k_) ∧ k_ ≠ gb451) (.slice A0 l0.length c0) l0) := ⟨(by rw [hw]; exact (by (with_reducible repeat (first | apply Kd.V_alloc | apply Kd.V_drewN | apply Kd.V_drew)); exact Kd.V_mono (Kd.V_far (p := ⟨gb451, 1, none⟩) (Kd.V_mono HO0.out (fun k_ hk => (⟨hk, hk.2⟩ : _ ∧ k_ ≠ gb451))) (fun _ hk => hk.2) (.int .i64 (wrap64 (t447 + 1)))) (fun _ hk => ⟨hk.1.1, hk.1.2⟩)))⟩; have n1_ : Aside0 (Kd.V (Kd.int .i64) 3 w40 w.heap.size (fun k_ => (P0_ k_ ∨ w.heap.size ≤ k_) ∧ k_ ≠ gb451) (.slice Ao37 t448.length co37) t448) := ⟨(by rw [hw]; exact (by (with_reducible repeat (first | apply Kd.V_alloc | apply Kd.V_drewN | apply Kd.V_drew)); exact Kd.V_mono (Kd.V_far (p := ⟨gb451, 1, none⟩) (Kd.V_mono HO450.out (fun k_ hk => (⟨hk, hk.2⟩ : _ ∧ k_ ≠ gb451))) (fun _ hk => hk.2) (.int .i64 (wrap64 (t447 + 1)))) (fun _ hk => ⟨hk.1.1, hk.1.2⟩)))⟩; have n2_ : Aside0 (w40.heap[gb451]? = some (.cells #[.int .i64 t446, .int .i64 (wrap64 (t447 + 1)), .slice Ao37 t448.length co37] 33 (0, 0))) := ⟨(by rw [hw]; exact (by (with_reducible repeat (first | refine blk_drewN ?_ _ | refine blk_drew ?_ | refine blk_alloc ?_ _)); refine blk_put (cs := #[.int .i64 t446, .int .i64 t447, .slice Ao37 t448.length co37]) ?_ 1 _ rfl; (with_reducible repeat (first | refine blk_drewN ?_ _ | refine blk_drew ?_ | refine blk_alloc ?_ _)); exact BK451.out))⟩; have n3_ : Aside0 (Below w.heap.size w w40) := ⟨(by rw [hw]; exact (zB1 HB GE451))⟩; clear hw; clear HO0; clear HO450; clear BK451; clear HB; have HO0 := n0_; have HO450 := n1_; have BK451 := n2_; have HB := n3_; clear n0_ n1_ n2_ n3_; have hcz41_0 : w40.cell? ⟨gb451, 0, none⟩ = some (.int .i64 t446) := (blk_cell BK451.out 0).trans rfl; have hcz41_1 : w40.cell? ⟨gb451, 1, none⟩ = some (.int .i64 (wrap64 (t447 + 1))) := (blk_cell BK451.out 1).trans rfl; have hcz41_2 : w40.cell? ⟨gb451, 2, none⟩ = some (.slice Ao37 t448.length co37) := (blk_cell BK451.out 2).trans rfl; have hfz41_0 := blk_frozen BK451.out 0; have hfz41_1 := blk_frozen BK451.out 1; have hfz41_2 := blk_frozen BK451.out 2) | ((with_reducible refine gate_callee (f := 60) rfl ?_); refine goesL_ (some 40) rfl rfl Try.func60 (by kernel_rfl) rfl #[.slice A0 l0.length c0, .agg #[.int .i64 t446, .int .i64 (wrap64 (t447 + 1)), .slice Ao37 t448.length co37]] rfl zP ?_; (with_reducible refine (deadboltref10_set.calls k (fun k_ => ((P0_ k_ ∨ w.heap.size ≤ k_) ∧ k_ ≠ gb451)) _ _ l0 t446 (wrap64 (t447 + 1)) (fun k_ => ((P0_ k_ ∨ w.heap.size ≤ k_) ∧ k_ ≠ gb451)) _ _ t448 t461 t464 _ ?side1 ?side2 A23.out).mono ?_); (case side1 => exact HO0.out); (case side2 => exact HO450.out); rintro e w42 ⟨v462, rfl, ho0, hb⟩; refine ⟨_, rfl, ?_⟩; have n0_ := Aside0.mk (Kd.V_elder' (zV HO0) (Kd.N_base ho0) hb); have n1_ := Aside0.mk (Kd.V_elder' (zV HO450) (Kd.N_base ho0) hb); have n2_ := Aside0.mk (Kd.N_lower (Kd.N_mono (ok' := fun k_ => (P0_ k_ ∨ w.heap.size ≤ k_) ∧ k_ ≠ gb451) ho0 (fun k_ hk_ => ⟨Or.elim hk_ (fun hs_ => Or.elim hs_ (fun hs_ => hs_.1) (fun hs_ => hs_.1)) (fun hn_ => (.inr (Nat.le_trans (below_size (zB1 HB GE451)) hn_))), Or.elim hk_ (fun hs_ => Or.elim hs_ (fun hs_ => hs_.2) (fun hs_ => hs_.2)) (fun hn_ => (Kd.freshB (g := gb451) (o := .cells #[.int .i64 t446, .int .i64 (wrap64 (t447 + 1)), .slice Ao37 t448.length co37] 33 (0, 0)) (zK BK451) k_ hn_))⟩)) (below_size (zB1 HB GE451))); have n3_ := Aside0.mk (blk_below (g := gb451) (o := .cells #[.int .i64 t446, .int .i64 (wrap64 (t447 + 1)), .slice Ao37 t448.length co37] 33 (0, 0)) (zK BK451) hb); have n4_ := Aside0.mk (below_step (zB1 HB GE451) hb); clear HO0; clear HO450; clear BK451; clear HB; have HO0 := n0_; have HO450 := n1_; have HO463 := n2_; have BK451 := n3_; have HB := n4_; clear n0_ n1_ n2_ n3_ n4_; (try clear hb); (try clear hb2); (try clear hk); (try clear hi); (try clear ho0)))
    go_ret3
    exact ⟨_, by first | rfl | (simp [errW_none, errW_some] <;> rfl) | (simp [*, errW_none, errW_some] <;> rfl), by first | exact Kd.S_nil _ _ _ _ _ | exact Kd.N_nil _ _ _ _ _ | exact Kd.V_nil _ _ _ _ _ | exact Kd.Q_nil _ _ _ _ _ | exact Kd.R_nil _ _ _ _ _, zB1 HB GE451⟩

end Go.Proofs.Ytnjnjajgpkmfhaa.PX

namespace Go.Proofs.Ytnjnjajgpkmfhaa.PX
open Go.RowKit Go.Proofs.YtnjnjajgpkmfhaaW.PrintWords Go.Proofs.YtnjnjajgpkmfhaaW.PrintLast Go.Proofs.YtnjnjajgpkmfhaaW.PrintMore
attribute [local go_sem] max2_int min2_int max_two min_two max_three min_three max_four min_four   -- for this text's walks alone
set_option linter.unusedVariables false
set_option linter.unusedSimpArgs false

/-! ### deadboltref10_Queued: function 37 -/
def deadboltref10_Queued.l0 : Nat → Int → Int → List (S33) → Int → Int → Option (Int)
 | 0, _, _, _, _, _ => none
 | k + 1, x1, x5, x8, x9, x10 => if x10 < x9 then (if 0 ≤ x10 then (if x10 < (x8.length : Int) then ((deadboltref07_Place.f k ((rd_T33 x8 x10).f2) x1).bind fun t441 => (if t441 ≥ 0 then (deadboltref10_Queued.l0 k x1 (wrap64 (x5 + 1)) x8 x9 (wrap64 (x10 + 1))) else (deadboltref10_Queued.l0 k x1 x5 x8 x9 (wrap64 (x10 + 1))))) else (none)) else (none)) else (some x5)
def deadboltref10_Queued.f (k : Nat) (l0 : List (S33)) (a1 : Int) : Option (Int) := deadboltref10_Queued.l0 k a1 0 l0 (l0.length : Int) 0
set_option maxHeartbeats 8000000 in
set_option maxRecDepth 100000 in
theorem deadboltref10_Queued.calls (k : Nat) (A0 : Option Addr) (c0 : Nat) (l0 : List (S33)) (a1 : Int) (r : Int) (w : World) (hr0 : Kd.C k33 w A0 l0.length l0) (hc0 : l0.length ≤ c0) (h : deadboltref10_Queued.f k l0 a1 = some r) :
  Calls Try.prog 37 #[.slice A0 l0.length c0, .int .i64 a1] w fun e w' => e = .returned (.int .i64 r) ∧ Below w.heap.size w w' := by
 have hu33 := Try.underlying33
 have HR0 := Aside0.mk hr0
 have HC0 := Aside0.mk hc0
 clear hr0 hc0
 have HB := Aside0.mk (Below.refl w.heap.size w)
 have H : (deadboltref10_Queued.l0 k a1 0 l0 (l0.length : Int) 0) = some r := h
 clear h
 have H' := Aside0.mk H
 clear H
 go_enter Try.func37, Try.ntmps37
 go_wp2
 go_loopg [5, 10] k (fun kq v5 v10 w' => ∃ (x5_1 : Int) (x10_1 : Int), v5 = .int .i64 x5_1 ∧ v10 = .int .i64 x10_1 ∧ Aside0 (deadboltref10_Queued.l0 kq a1 x5_1 l0 (l0.length : Int) x10_1 = some r) ∧ Aside0 (kq ≤ k) ∧ Aside0 (Below w.heap.size w w'))
 case atStart => exact ⟨(0), (0), (by first | rfl | (simp; done) | (simp [*]; done)), (by first | rfl | (simp; done) | (simp [*]; done)), H', ⟨Nat.le_refl _⟩, ⟨zB HB⟩⟩
 case round =>
  clear H'
  try clear p2
  obtain ⟨x5_1, x10_1, rfl, rfl, HA, HK1, HB⟩ := hrel
  cases gk with
  | zero => exact absurd HA.out (by simp [deadboltref10_Queued.l0])
  | succ k1 =>
   have H := HA.out
   clear HA
   simp only [deadboltref10_Queued.l0] at H
   by_cases c3 : x10_1 < (l0.length : Int)
   ·rw [if_pos c3] at H
    have c3b0 : decide (x10_1 < (l0.length : Int)) = true := decide_eq_true c3
    clear c3
    by_cases c4 : 0 ≤ x10_1
    ·rw [if_pos c4] at H
     have c4b0 : decide (0 ≤ x10_1) = true := decide_eq_true c4
     clear c4
     by_cases c5 : x10_1 < (l0.length : Int)
     ·rw [if_pos c5] at H
      have c5b0 : decide (x10_1 < (l0.length : Int)) = true := decide_eq_true c5
      clear c5
      replace H := Option.bind_eq_some_iff.mp H
      obtain ⟨t441, A60, H⟩ := H
      replace H : (if t441 ≥ 0 then (deadboltref10_Queued.l0 k1 a1 (wrap64 (x5_1 + 1)) l0 (l0.length : Int) (wrap64 (x10_1 + 1))) else (deadboltref10_Queued.l0 k1 a1 x5_1 l0 (l0.length : Int) (wrap64 (x10_1 + 1)))) = some r := H
      have A6 := Aside0.mk A60
      clear A60
      by_cases c7 : t441 ≥ 0
      ·rw [if_pos c7] at H
       have c7b0 : decide (0 ≤ t441) = true := decide_eq_true c7
       clear c7
       have H' := Aside0.mk H
       clear H
       have p439 : 0 ≤ (x10_1 : Int) := of_decide_eq_true (by first | (with_reducible assumption) | assumption)
       have q439 : x10_1 < (l0.length : Int) := of_decide_eq_true (by first | (with_reducible assumption) | assumption)
       obtain ⟨ad439, A439_2, c439_2, e439, hx439_0, hx439_1, hx439_2, hl439_2, hi439_2⟩ := at_T33 HR0.out x10_1 p439 q439
       cases e439
       replace hx439_0 := (HB.out.cell (World.block_lt_of_cell? w _ hx439_0)).trans hx439_0
       replace hx439_1 := (HB.out.cell (World.block_lt_of_cell? w _ hx439_1)).trans hx439_1
       replace hx439_2 := (HB.out.cell (World.block_lt_of_cell? w _ hx439_2)).trans hx439_2
       have HR439_2 := Aside0.mk hi439_2
       have HC439_2 := Aside0.mk hl439_2
       clear hi439_2 hl439_2
       replace p439 := eq_true p439
       replace q439 := eq_true q439
       go_wp2_with (first | ((with_reducible refine gate_dst (N := 7) rfl ?_); refine box_event ?hg (N := 7) ?hd (cs := #[.int .i64 0, .int .i64 0, .slice none 0 0]) (t := 33) ?hr ?_; (case hd => rfl); (case hg => rfl); (case hr => first | (go_simp; done) | (go_simp; rfl)); intro gb440 hg w8 hbox hb; have n0_ := Aside0.mk (below_step (zB HB) hb); have n1_ := Aside0.mk (hbox); have n2_ := Aside0.mk ((by rw [hg]; exact (below_size (zB HB)) : w.heap.size ≤ gb440)); have n3_ := Aside0.mk ((by rw [hg]; exact (below_size (zB HB)) : w.heap.size ≤ gb440)); clear HB; have HB := n0_; have BK440 := n1_; have GW440 := n2_; have GE440 := n3_; clear n0_ n1_ n2_ n3_; clear hb hbox hg; have hcz9_0 : w8.cell? ⟨gb440, 0, none⟩ = some (.int .i64 0) := (blk_cell BK440.out 0).trans rfl; have hcz9_1 : w8.cell? ⟨gb440, 1, none⟩ = some (.int .i64 0) := (blk_cell BK440.out 1).trans rfl; have hcz9_2 : w8.cell? ⟨gb440, 2, none⟩ = some (.slice none 0 0) := (blk_cell BK440.out 2).trans rfl; have hfz9_0 := blk_frozen BK440.out 0; have hfz9_1 := blk_frozen BK440.out 1; have hfz9_2 := blk_frozen BK440.out 2) | ((with_reducible refine gate_callee (f := 28) rfl ?_); refine goesL_ (some 17) rfl rfl Try.func28 (by kernel_rfl) rfl #[.slice A439_2 ((rd_T33 l0 x10_1).f2).length c439_2, .int .i64 a1] rfl zP ?_; (with_reducible refine (deadboltref07_Place.calls k1 _ _ ((rd_T33 l0 x10_1).f2) a1 t441 _ ?side1 ?side2 A6.out).mono ?_); (case side1 => exact Kd.C_below HR439_2.out (zB1 HB GE440)); (case side2 => exact HC439_2.out); rintro e w' ⟨rfl, ⟨nd, rfl⟩⟩; refine ⟨_, rfl, ?_⟩))
       go_roundg k1
       case measure => have := HK1.out; omega
       case rel => exact ⟨(wrap64 (x5_1 + 1)), (wrap64 (x10_1 + 1)), (by first | rfl | (simp; done) | (simp [*]; done)), (by first | rfl | (simp; done) | (simp [*]; done)), H', ⟨by have := HK1.out; omega⟩, ⟨zB1 HB GE440⟩⟩
      ·rw [if_neg c7] at H
       have c7b0 : decide (0 ≤ t441) = false := decide_eq_false c7
       clear c7
       have H' := Aside0.mk H
       clear H
       have p439 : 0 ≤ (x10_1 : Int) := of_decide_eq_true (by first | (with_reducible assumption) | assumption)
       have q439 : x10_1 < (l0.length : Int) := of_decide_eq_true (by first | (with_reducible assumption) | assumption)
       obtain ⟨ad439, A439_2, c439_2, e439, hx439_0, hx439_1, hx439_2, hl439_2, hi439_2⟩ := at_T33 HR0.out x10_1 p439 q439
       cases e439
       replace hx439_0 := (HB.out.cell (World.block_lt_of_cell? w _ hx439_0)).trans hx439_0
       replace hx439_1 := (HB.out.cell (World.block_lt_of_cell? w _ hx439_1)).trans hx439_1
       replace hx439_2 := (HB.out.cell (World.block_lt_of_cell? w _ hx439_2)).trans hx439_2
       have HR439_2 := Aside0.mk hi439_2
       have HC439_2 := Aside0.mk hl439_2
       clear hi439_2 hl439_2
       replace p439 := eq_true p439
       replace q439 := eq_true q439
       go_wp2_with (first | ((with_reducible refine gate_dst (N := 7) rfl ?_); refine box_event ?hg (N := 7) ?hd (cs := #[.int .i64 0, .int .i64 0, .slice none 0 0]) (t := 33) ?hr ?_; (case hd => rfl); (case hg => rfl); (case hr => first | (go_simp; done) | (go_simp; rfl)); intro gb440 hg w10 hbox hb; have n0_ := Aside0.mk (below_step (zB HB) hb); have n1_ := Aside0.mk (hbox); have n2_ := Aside0.mk ((by rw [hg]; exact (below_size (zB HB)) : w.heap.size ≤ gb440)); have n3_ := Aside0.mk ((by rw [hg]; exact (below_size (zB HB)) : w.heap.size ≤ gb440)); clear HB; have HB := n0_; have BK440 := n1_; have GW440 := n2_; have GE440 := n3_; clear n0_ n1_ n2_ n3_; clear hb hbox hg; have hcz11_0 : w10.cell? ⟨gb440, 0, none⟩ = some (.int .i64 0) := (blk_cell BK440.out 0).trans rfl; have hcz11_1 : w10.cell? ⟨gb440, 1, none⟩ = some (.int .i64 0) := (blk_cell BK440.out 1).trans rfl; have hcz11_2 : w10.cell? ⟨gb440, 2, none⟩ = some (.slice none 0 0) := (blk_cell BK440.out 2).trans rfl; have hfz11_0 := blk_frozen BK440.out 0; have hfz11_1 := blk_frozen BK440.out 1; have hfz11_2 := blk_frozen BK440.out 2) | ((with_reducible refine gate_callee (f := 28) rfl ?_); refine goesL_ (some 17) rfl rfl Try.func28 (by kernel_rfl) rfl #[.slice A439_2 ((rd_T33 l0 x10_1).f2).length c439_2, .int .i64 a1] rfl zP ?_; (with_reducible refine (deadboltref07_Place.calls k1 _ _ ((rd_T33 l0 x10_1).f2) a1 t441 _ ?side1 ?side2 A6.out).mono ?_); (case side1 => exact Kd.C_below HR439_2.out (zB1 HB GE440)); (case side2 => exact HC439_2.out); rintro e w' ⟨rfl, ⟨nd, rfl⟩⟩; refine ⟨_, rfl, ?_⟩))
       go_roundg k1
       case measure => have := HK1.out; omega
       case rel => exact ⟨(x5_1), (wrap64 (x10_1 + 1)), (by first | rfl | (simp; done) | (simp [*]; done)), (by first | rfl | (simp; done) | (simp [*]; done)), H', ⟨by have := HK1.out; omega⟩, ⟨zB1 HB GE440⟩⟩
     ·rw [if_neg c5] at H
      exact absurd H (by simp)
    ·rw [if_neg c4] at H
     exact absurd H (by simp)
   ·rw [if_neg c3] at H
    have c3b0 : decide (x10_1 < (l0.length : Int)) = false := decide_eq_false c3
    clear c3
    obtain rfl := Option.some.inj H
    go_wp2
    go_ret
    exact ⟨by first | rfl | (simp [errW_none, errW_some] <;> rfl) | (simp [*, errW_none, errW_some] <;> rfl), zB HB⟩

end Go.Proofs.Ytnjnjajgpkmfhaa.PX

/-
 The document's answers on grants; in how many lines somebody waits.
-/
namespace Go.Proofs.Ytnjnjajgpkmfhaa.PX
open Go.RowKit Go.Proofs.YtnjnjajgpkmfhaaW.PrintWords Go.Proofs.YtnjnjajgpkmfhaaW.PrintLast Go.Proofs.YtnjnjajgpkmfhaaW.PrintMore
theorem refpush_f (l : List Int) (x : Int) (b : Bool) (hl : l.length ≤ 1000) : deadboltref07_Push.f l x b = some (pushL l x b) := by
 unfold deadboltref07_Push.f pushL
 simp only [Option.bind_some]
 cases b with
 | true =>
  rw [if_pos rfl, if_pos (by simp), if_pos (by simp; omega), if_pos rfl]
  rfl
 | false =>
  rw [if_neg Bool.false_ne_true, if_pos (by simp; omega), if_pos (by simp; omega), if_neg Bool.false_ne_true]
  rfl
theorem refset10_f {L : List Sp} (h : Tab L) {s : Sp} (hs : 0 ≤ s.f0 ∧ s.f0 ≤ 4294967295) {k : Nat} (hk : 100 ≤ k) : deadboltref10_set.f k L s.f0 s.f1 s.f2 = some (if (setT L s).length > 64 then ([], 5) else (setT L s, 0)) := by
 unfold deadboltref10_set.f
 rw [refset_f h hs hk]
 simp only [Option.bind_some]
 by_cases hq : (setT L s).length > 64
 ·rw [if_pos (by omega), if_pos hq]
 ·rw [if_neg (by omega), if_neg hq]
theorem refacq_f {L : List Sp} (h : Tab L) {a : Int} (ha : 0 ≤ a ∧ a ≤ 4294967295) (who : Int) (first : Bool) {k : Nat} (hk : 300 ≤ k) : deadboltref10_Acquire.f k L a who first = some (acqT L a who first) := by
 obtain ⟨hS, h0⟩ := get_spot h ha
 have h3 := ((lineB_iff _).1 hS.2.2.1).2.2
 have hf := h.few
 have hf1 := hS.2.1
 unfold deadboltref10_Acquire.f acqT
 rw [refget_f L a (by omega) (by omega)]
 simp only [Option.bind_some]
 rw [place_f who (by omega) (by omega)]
 simp only [Option.bind_some]
 by_cases hm : who ∈ (getT L a).f2
 ·rw [if_pos ((placeI_mem _ _).2 hm), if_pos hm]
 ·rw [if_neg (fun hh => hm ((placeI_mem _ _).1 hh)), if_neg hm]
  by_cases h1 : (getT L a).f1 > 0
  ·have hroom : (setT L ⟨a, (getT L a).f1 - 1, (getT L a).f2⟩).length ≤ 64 := set_room h (s := ⟨a, (getT L a).f1 - 1, (getT L a).f2⟩) (fun hE => by have := hE.1; simp only at this; omega)
   have hset := refset10_f h (s := ⟨a, (getT L a).f1 - 1, (getT L a).f2⟩) ha (k := k) (by omega)
   simp only at hset
   rw [if_pos h1, if_pos h1, wrap_id (by omega) (by omega), h0, hset, setR, if_neg (by omega), if_neg (by omega)]
   rfl
  ·have hset := refset10_f h (s := ⟨a, 0, pushL (getT L a).f2 who first⟩) ha (k := k) (by omega)
   simp only at hset
   rw [if_neg h1, if_neg h1]
   by_cases hn : (getT L a).f2.length = 64
   ·rw [if_pos (by omega), if_pos hn]
   ·rw [if_neg (by omega), if_neg hn, refpush_f _ _ _ (by omega)]
    simp only [Option.bind_some]
    rw [h0, show (getT L a).f1 = 0 by omega, hset, setR]
    simp only [Option.bind_some]
    split <;> rfl
theorem refrel_f {L : List Sp} (h : Tab L) {a : Int} (ha : 0 ≤ a ∧ a ≤ 4294967295) {k : Nat} (hk : 300 ≤ k) : deadboltref10_Release.f k L a = some (relT L a) := by
 obtain ⟨hS, h0⟩ := get_spot h ha
 have h3 := ((lineB_iff _).1 hS.2.2.1).2.2
 have hf := h.few
 have hf1 := hS.2.1
 unfold deadboltref10_Release.f relT
 rw [refget_f L a (by omega) (by omega)]
 simp only [Option.bind_some]
 cases hl : (getT L a).f2 with
 | cons x r =>
  have hset := refset_f h (s := ⟨a, (getT L a).f1, r⟩) ha (k := k) (by omega)
  simp only at hset
  simp only
  rw [if_pos (by simp), if_pos (by simp), if_pos (by simp; omega), h0, List.drop_succ_cons, List.drop_zero, hset]
  rfl
 | nil =>
  simp only
  rw [if_neg (by simp)]
  by_cases hm : (getT L a).f1 = 2147483647
  ·rw [if_pos hm, if_pos hm]
  ·have hset := refset10_f h (s := ⟨a, (getT L a).f1 + 1, []⟩) ha (k := k) (by omega)
   simp only at hset
   rw [if_neg hm, if_neg hm, wrap_id (by omega) (by omega), h0, hset]
   simp only [Option.bind_some]
   split <;> rfl
theorem refqueued_l0 (l : List Sp) (who : Int) (hl : l.length ≤ 1000) (h2 : ∀ s ∈ l, s.f2.length ≤ 1000) : ∀ (d i k : Nat) (c : Int), i + d = l.length → d + 1001 < k → 0 ≤ c → c ≤ i → deadboltref10_Queued.l0 k who c l (l.length : Int) (i : Int) = some (c + cntI who (l.drop i)) := by
 intro d
 induction d with
 | zero =>
  intro i k c h1 hk hc hc2
  obtain ⟨k, rfl⟩ : ∃ q, k = q + 1 := ⟨k - 1, by omega⟩
  rw [deadboltref10_Queued.l0, if_neg (by omega), List.drop_eq_nil_of_le (by omega)]
  simp [cntI]
 | succ d ih =>
  intro i k c h1 hk hc hc2
  obtain ⟨k, rfl⟩ : ∃ q, k = q + 1 := ⟨k - 1, by omega⟩
  have hx : l[i]? = some l[i] := List.getElem?_eq_getElem (by omega)
  have hlen := h2 l[i] (List.getElem_mem (by omega))
  rw [deadboltref10_Queued.l0, if_pos (by omega), if_pos (by omega), if_pos (by omega), rd_sp hx, place_f who hlen (by omega), List.drop_eq_getElem_cons (show i < l.length by omega)]
  simp only [Option.bind_some]
  by_cases hm : who ∈ l[i].f2
  ·rw [if_pos ((placeI_mem _ _).2 hm), wrap_id (x := c + 1) (by omega) (by omega), next_i (by omega), ih (i + 1) k _ (by omega) (by omega) (by omega) (by omega)]
   have : cntI who (l[i] :: l.drop (i + 1)) = 1 + cntI who (l.drop (i + 1)) := by unfold cntI; rw [List.filter_cons_of_pos (by simpa using hm), List.length_cons]; omega
   rw [this]
   congr 1
   omega
  ·rw [if_neg (fun hh => hm ((placeI_mem _ _).1 hh)), next_i (by omega), ih (i + 1) k _ (by omega) (by omega) (by omega) (by omega)]
   have : cntI who (l[i] :: l.drop (i + 1)) = cntI who (l.drop (i + 1)) := by unfold cntI; rw [List.filter_cons_of_neg (by simpa using hm)]
   rw [this]
theorem refqueued_f (l : List Sp) (who : Int) (hl : l.length ≤ 1000) (h2 : ∀ s ∈ l, s.f2.length ≤ 1000) {k : Nat} (hk : 2100 ≤ k) : deadboltref10_Queued.f k l who = some (cntI who l) := by
 have := refqueued_l0 l who hl h2 l.length 0 k 0 (by omega) (by omega) (by omega) (by omega)
 rw [List.drop_zero, Int.zero_add] at this
 exact this
theorem queued_f {L : List Sp} (h : Tab L) {who : Int} (hw : 0 ≤ who) : sema_Queued.f L who = some (cntI who L, 0) := by
 have hf := h.few
 unfold sema_Queued.f
 rw [if_pos ⟨by omega, h.lens⟩, right_yes h (by omega)]
 simp only [Option.bind_some]
 rw [if_neg (by simp; omega)]
theorem queued_bad {L : List Sp} {who : Int} (hl : L.length ≤ 80) (h2 : ∀ s ∈ L, s.f2.length ≤ 1000) (h : ¬ Tab L ∨ who < 0) : sema_Queued.f L who = some (0, 1) := by
 unfold sema_Queued.f
 rw [if_pos ⟨by omega, h2⟩]
 by_cases hT : Tab L
 ·rw [right_yes hT (by omega)]
  simp only [Option.bind_some]
  rw [if_pos (.inr (h.resolve_left (fun hn => hn hT)))]
 ·rw [right_no hT hl h2 (by omega)]
  simp only [Option.bind_some]
  rw [if_pos (.inl trivial)]
/-- A table that is small enough to be compared. -/
def Small (l : List Sp) : Prop := l.length ≤ 1000 ∧ ∀ s ∈ l, s.f2.length ≤ 1000
theorem small_nil : Small [] := ⟨by simp, by simp⟩
theorem small_set {L : List Sp} (h : Tab L) {s : Sp} (hs : s.f2.length ≤ 1000) : Small (setT L s) := by
 have hf := h.few
 have := setT_len (l := L) (s := s)
 refine ⟨by omega, fun x hx => ?_⟩
 rcases mem_setT.1 hx with ⟨rfl, _⟩ | ⟨h1, _⟩
 ·exact hs
 ·exact h.lens x h1
theorem same_small {l : List Sp} (h : Small l) {k : Nat} (hk : 2100 ≤ k) : deadboltref09_Same.f k l l = some true := by
 obtain ⟨b, e1, e2⟩ := refsame_f l l h.1 h.2 hk
 rw [e1, e2.2 rfl]
theorem small_rel {L : List Sp} (h : Tab L) {a : Int} (ha : 0 ≤ a ∧ a ≤ 4294967295) : Small (relT L a).1 := by
 obtain ⟨hS, _⟩ := get_spot h ha
 have h3 := ((lineB_iff _).1 hS.2.2.1).2.2
 unfold relT
 cases hl : (getT L a).f2 with
 | cons x r =>
  rw [hl] at h3
  simp only [List.length_cons] at h3
  exact small_set h (by show r.length ≤ 1000; omega)
 | nil =>
  simp only
  split
  ·exact small_nil
  ·split
   ·exact small_nil
   ·exact small_set h (by simp)
theorem small_acq {L : List Sp} (h : Tab L) {a : Int} (ha : 0 ≤ a ∧ a ≤ 4294967295) (who : Int) (b : Bool) : Small (acqT L a who b).1 := by
 obtain ⟨hS, _⟩ := get_spot h ha
 have h3 := ((lineB_iff _).1 hS.2.2.1).2.2
 have hr : ∀ s c, s.f2.length ≤ 1000 → Small (setR L s c).1 := fun s c hs => by
  unfold setR
  split
  ·exact small_nil
  ·exact small_set h hs
 unfold acqT
 split
 ·exact small_nil
 ·split
  ·exact hr _ _ (by show (getT L a).f2.length ≤ 1000; omega)
  ·split
   ·exact small_nil
   ·exact hr _ _ (by show (pushL (getT L a).f2 who b).length ≤ 1000; rw [pushL_len]; omega)
end Go.Proofs.Ytnjnjajgpkmfhaa.PX

namespace Go.Proofs.Ytnjnjajgpkmfhaa.PX
open Go.RowKit Go.Proofs.YtnjnjajgpkmfhaaW.PrintWords Go.Proofs.YtnjnjajgpkmfhaaW.PrintLast Go.Proofs.YtnjnjajgpkmfhaaW.PrintMore
attribute [local go_sem] max2_int min2_int max_two min_two max_three min_three max_four min_four   -- for this text's walks alone
set_option linter.unusedVariables false
set_option linter.unusedSimpArgs false

/-! ### semaTells_p: function 8 -/
mutual
def semaTells_p.j0 : Nat → List (S33) → Int → Int → Bool → List (S33) → Bool → Int → List (S33) → Int → Int → Int → Int → Bool → Option (Bool)
 | 0, _, _, _, _, _, _, _, _, _, _, _, _, _ => none
 | k + 1, x0, x1, x2, x3, x9, x10, x11, x12, x13, x14, x15, x16, x55 => if x55 = true then (if x16 = 1 then (if x15 = 0 then (semaTells_p.j1 k x0 x1 x2 x3 x9 x10 x11 x12 x13 x14) else (none)) else (none)) else (if x16 = 0 then ((deadboltref10_Queued.f k x0 x2).bind fun t327 => (if x15 = t327 then (semaTells_p.j1 k x0 x1 x2 x3 x9 x10 x11 x12 x13 x14) else (none))) else (none))
def semaTells_p.j1 : Nat → List (S33) → Int → Int → Bool → List (S33) → Bool → Int → List (S33) → Int → Int → Option (Bool)
 | 0, _, _, _, _, _, _, _, _, _, _ => none
 | k + 1, x0, x1, x2, x3, x9, x10, x11, x12, x13, x14 => (deadboltref10_May.f k x0 x1).bind fun t328 => (if t328 = true then ((deadboltref10_Release.f k x0 x1).bind fun bt329 => (if x14 = bt329.2.2 then (if x13 = bt329.2.1 then ((deadboltref09_Same.f k x12 bt329.1).bind fun t334 => (semaTells_p.j2 k x0 x1 x2 x3 x9 x10 x11 (!t334))) else (none)) else (none))) else (if x11 = 1 then (if x14 = 1 then (if (x9.length : Int) = 0 then (if (x12.length : Int) = 0 then (if x10 = true then (none) else (some (x13 == 0))) else (none)) else (none)) else (none)) else (none)))
def semaTells_p.j2 : Nat → List (S33) → Int → Int → Bool → List (S33) → Bool → Int → Bool → Option (Bool)
 | 0, _, _, _, _, _, _, _, _ => none
 | k + 1, x0, x1, x2, x3, x9, x10, x11, x119 => if x119 = true then (none) else (if x2 < 0 then (if x11 = 1 then (if (x9.length : Int) = 0 then (some (!x10)) else (none)) else (none)) else ((deadboltref10_Acquire.f k x0 x1 x2 x3).bind fun bt335 => (if x11 = bt335.2.2 then (if (x10 == bt335.2.1) = true then ((deadboltref09_Same.f k x9 bt335.1).bind fun t340 => (some t340)) else (none)) else (none))))
end
def semaTells_p.f (k : Nat) (l0 : List (S33)) (a1 : Int) (a2 : Int) (a3 : Bool) : Option (Bool) := (deadboltlaw10_few.f k l0).bind fun t310 => ((sema_Acquire.f k t310 a1 a2 a3).bind fun bt313 => ((sema_Release.f t310 a1).bind fun bt318 => ((sema_Queued.f t310 a2).bind fun bt323 => ((deadboltlaw10_alive.f k).bind fun t325 => (if t325 = true then ((deadboltref09_Right.f k t310).bind fun t326 => (if t326 = true then (semaTells_p.j0 k t310 a1 a2 a3 bt313.1 bt313.2.1 bt313.2.2 bt318.1 bt318.2.1 bt318.2.2 bt323.1 bt323.2 (decide (a2 < 0))) else (semaTells_p.j0 k t310 a1 a2 a3 bt313.1 bt313.2.1 bt313.2.2 bt318.1 bt318.2.1 bt318.2.2 bt323.1 bt323.2 true))) else (none))))))
set_option maxHeartbeats 8000000 in
set_option maxRecDepth 100000 in
theorem semaTells_p.calls (k : Nat) (A0 : Option Addr) (c0 : Nat) (l0 : List (S33)) (a1 : Int) (a2 : Int) (a3 : Bool) (r : Bool) (w : World) (hr0 : Kd.C k33 w A0 l0.length l0) (hc0 : l0.length ≤ c0) (h : semaTells_p.f k l0 a1 a2 a3 = some r) :
  Calls Try.prog 8 #[.slice A0 l0.length c0, .int .i64 a1, .int .i64 a2, .bool a3] w fun e w' => e = .returned (.bool r) ∧ Below w.heap.size w w' := by
 have HR0 := Aside0.mk hr0
 have HC0 := Aside0.mk hc0
 clear hr0 hc0
 have HB := Aside0.mk (Below.refl w.heap.size w)
 have H : ((deadboltlaw10_few.f k l0).bind fun t310 => ((sema_Acquire.f k t310 a1 a2 a3).bind fun bt313 => ((sema_Release.f t310 a1).bind fun bt318 => ((sema_Queued.f t310 a2).bind fun bt323 => ((deadboltlaw10_alive.f k).bind fun t325 => (if t325 = true then ((deadboltref09_Right.f k t310).bind fun t326 => (if t326 = true then (semaTells_p.j0 k t310 a1 a2 a3 bt313.1 bt313.2.1 bt313.2.2 bt318.1 bt318.2.1 bt318.2.2 bt323.1 bt323.2 (decide (a2 < 0))) else (semaTells_p.j0 k t310 a1 a2 a3 bt313.1 bt313.2.1 bt313.2.2 bt318.1 bt318.2.1 bt318.2.2 bt323.1 bt323.2 true))) else (none))))))) = some r := h
 clear h
 replace H := Option.bind_eq_some_iff.mp H
 obtain ⟨t310, A50, H⟩ := H
 replace H : ((sema_Acquire.f k t310 a1 a2 a3).bind fun bt313 => ((sema_Release.f t310 a1).bind fun bt318 => ((sema_Queued.f t310 a2).bind fun bt323 => ((deadboltlaw10_alive.f k).bind fun t325 => (if t325 = true then ((deadboltref09_Right.f k t310).bind fun t326 => (if t326 = true then (semaTells_p.j0 k t310 a1 a2 a3 bt313.1 bt313.2.1 bt313.2.2 bt318.1 bt318.2.1 bt318.2.2 bt323.1 bt323.2 (decide (a2 < 0))) else (semaTells_p.j0 k t310 a1 a2 a3 bt313.1 bt313.2.1 bt313.2.2 bt318.1 bt318.2.1 bt318.2.2 bt323.1 bt323.2 true))) else (none)))))) = some r := H
 have A5 := Aside0.mk A50
 clear A50
 replace H := Option.bind_eq_some_iff.mp H
 obtain ⟨⟨t313, t316, t317⟩, A60, H⟩ := H
 replace H : ((sema_Release.f t310 a1).bind fun bt318 => ((sema_Queued.f t310 a2).bind fun bt323 => ((deadboltlaw10_alive.f k).bind fun t325 => (if t325 = true then ((deadboltref09_Right.f k t310).bind fun t326 => (if t326 = true then (semaTells_p.j0 k t310 a1 a2 a3 t313 t316 t317 bt318.1 bt318.2.1 bt318.2.2 bt323.1 bt323.2 (decide (a2 < 0))) else (semaTells_p.j0 k t310 a1 a2 a3 t313 t316 t317 bt318.1 bt318.2.1 bt318.2.2 bt323.1 bt323.2 true))) else (none))))) = some r := H
 have A6 := Aside0.mk A60
 clear A60
 replace H := Option.bind_eq_some_iff.mp H
 obtain ⟨⟨t318, t321, t322⟩, A70, H⟩ := H
 replace H : ((sema_Queued.f t310 a2).bind fun bt323 => ((deadboltlaw10_alive.f k).bind fun t325 => (if t325 = true then ((deadboltref09_Right.f k t310).bind fun t326 => (if t326 = true then (semaTells_p.j0 k t310 a1 a2 a3 t313 t316 t317 t318 t321 t322 bt323.1 bt323.2 (decide (a2 < 0))) else (semaTells_p.j0 k t310 a1 a2 a3 t313 t316 t317 t318 t321 t322 bt323.1 bt323.2 true))) else (none)))) = some r := H
 have A7 := Aside0.mk A70
 clear A70
 replace H := Option.bind_eq_some_iff.mp H
 obtain ⟨⟨t323, t324⟩, A80, H⟩ := H
 replace H : ((deadboltlaw10_alive.f k).bind fun t325 => (if t325 = true then ((deadboltref09_Right.f k t310).bind fun t326 => (if t326 = true then (semaTells_p.j0 k t310 a1 a2 a3 t313 t316 t317 t318 t321 t322 t323 t324 (decide (a2 < 0))) else (semaTells_p.j0 k t310 a1 a2 a3 t313 t316 t317 t318 t321 t322 t323 t324 true))) else (none))) = some r := H
 have A8 := Aside0.mk A80
 clear A80
 replace H := Option.bind_eq_some_iff.mp H
 obtain ⟨t325, A90, H⟩ := H
 replace H : (if t325 = true then ((deadboltref09_Right.f k t310).bind fun t326 => (if t326 = true then (semaTells_p.j0 k t310 a1 a2 a3 t313 t316 t317 t318 t321 t322 t323 t324 (decide (a2 < 0))) else (semaTells_p.j0 k t310 a1 a2 a3 t313 t316 t317 t318 t321 t322 t323 t324 true))) else (none)) = some r := H
 have A9 := Aside0.mk A90
 clear A90
 by_cases c10 : t325 = true
 ·subst c10
  have H1 : ((deadboltref09_Right.f k t310).bind fun t326 => (if t326 = true then (semaTells_p.j0 k t310 a1 a2 a3 t313 t316 t317 t318 t321 t322 t323 t324 (decide (a2 < 0))) else (semaTells_p.j0 k t310 a1 a2 a3 t313 t316 t317 t318 t321 t322 t323 t324 true))) = some r := by rw [if_pos rfl] at H; exact H
  clear H
  have H := H1
  clear H1
  have HC11 := Aside0.mk H
  clear H
  go_enter Try.func8, Try.ntmps8
  go_upto_region 7 with (first | ((with_reducible refine gate_callee (f := 34) rfl ?_); refine goesL_ (some 24) rfl rfl Try.func34 (by kernel_rfl) rfl #[.slice A0 l0.length c0] rfl zP ?_; (with_reducible refine (deadboltlaw10_few.calls k (fun k_ => k_ < w.heap.size) _ _ l0 t310 _ ?side1 A5.out).mono ?_); (case side1 => exact Kd.V_mk HC0.out (Kd.F_below (Kd.C_F k33_heap HR0.out) (zB HB))); rintro e w12 ⟨v311, rfl, ho0, hb⟩; refine ⟨_, rfl, ?_⟩; have n0_ := Aside0.mk (Kd.N_lower (Kd.N_mono (ok' := fun k_ => True) ho0 (fun k_ hk_ => trivial)) (below_size (zB HB))); have n1_ := Aside0.mk (below_step (zB HB) hb); clear HB; have HO312 := n0_; have HB := n1_; clear n0_ n1_; (try clear hb); (try clear hb2); (try clear hk); (try clear hi); (try clear ho0); obtain ⟨Ao13, co13, eo13⟩ := Kd.N_slice HO312.out; subst eo13) | ((with_reducible refine gate_callee (f := 30) rfl ?_); refine goesL_ (some 30) rfl rfl Try.func30 (by kernel_rfl) rfl #[.slice Ao13 t310.length co13, .int .i64 a1, .int .i64 a2, .bool a3] rfl zP ?_; (with_reducible refine (sema_Acquire.calls k (fun k_ => True) _ _ t310 a1 a2 a3 t313 t316 t317 _ ?side1 A6.out).mono ?_); (case side1 => exact Kd.N_V (HO312.out)); rintro e w14 ⟨v314, rfl, ho0, hb⟩; refine ⟨_, rfl, ?_⟩; have n0_ := Aside0.mk (Kd.N_below (zN HO312) hb); have n1_ := Aside0.mk (Kd.V_lower (Kd.V_mono (ok' := fun k_ => True) ho0 (fun k_ hk_ => trivial)) (below_size (zB HB))); have n2_ := Aside0.mk (below_step (zB HB) hb); clear HO312; clear HB; have HO312 := n0_; have HO315 := n1_; have HB := n2_; clear n0_ n1_ n2_; (try clear hb); (try clear hb2); (try clear hk); (try clear hi); (try clear ho0)) | ((with_reducible refine gate_callee (f := 32) rfl ?_); refine goesL_ (some 37) rfl rfl Try.func32 (by kernel_rfl) rfl #[.slice Ao13 t310.length co13, .int .i64 a1] rfl zP ?_; (with_reducible refine (sema_Release.calls (fun k_ => True) _ _ t310 a1 t318 t321 t322 _ ?side1 A7.out).mono ?_); (case side1 => exact Kd.N_V (HO312.out)); rintro e w15 ⟨v319, rfl, ho0, hb⟩; refine ⟨_, rfl, ?_⟩; have n0_ := Aside0.mk (Kd.N_below (zN HO312) hb); have n1_ := Aside0.mk (Kd.V_below (zV HO315) hb); have n2_ := Aside0.mk (Kd.V_lower (Kd.V_mono (ok' := fun k_ => True) ho0 (fun k_ hk_ => trivial)) (below_size (zB HB))); have n3_ := Aside0.mk (below_step (zB HB) hb); clear HO312; clear HO315; clear HB; have HO312 := n0_; have HO315 := n1_; have HO320 := n2_; have HB := n3_; clear n0_ n1_ n2_ n3_; (try clear hb); (try clear hb2); (try clear hk); (try clear hi); (try clear ho0)) | ((with_reducible refine gate_callee (f := 36) rfl ?_); refine goesL_ (some 44) rfl rfl Try.func36 (by kernel_rfl) rfl #[.slice Ao13 t310.length co13, .int .i64 a2] rfl zP ?_; (with_reducible refine (sema_Queued.calls _ _ t310 a2 t323 t324 _ ?side1 ?side2 A8.out).mono ?_); (case side1 => repeat (first | exact (Kd.N_reads' HO312.out).2.2 | (with_reducible refine Kd.C_alloc ?_ _) | (with_reducible refine Kd.C_drewN ?_ _) | (with_reducible refine Kd.C_drew ?_))); (case side2 => exact (Kd.N_reads' HO312.out).2.1); rintro e w16 ⟨rfl, hb⟩; refine ⟨_, rfl, ?_⟩; have n0_ := Aside0.mk (Kd.N_below (zN HO312) hb); have n1_ := Aside0.mk (Kd.V_below (zV HO315) hb); have n2_ := Aside0.mk (Kd.V_below (zV HO320) hb); have n3_ := Aside0.mk (below_step (zB HB) hb); clear HO312; clear HO315; clear HO320; clear HB; have HO312 := n0_; have HO315 := n1_; have HO320 := n2_; have HB := n3_; clear n0_ n1_ n2_ n3_; (try clear hb); (try clear hb2); (try clear hk); (try clear hi)) | ((with_reducible refine gate_callee (f := 33) rfl ?_); refine goesL_ (some 47) rfl rfl Try.func33 (by kernel_rfl) rfl #[] rfl zP ?_; (with_reducible refine (deadboltlaw10_alive.calls k  true _ A9.out).mono ?_); rintro e w17 ⟨rfl, hb⟩; refine ⟨_, rfl, ?_⟩; have n0_ := Aside0.mk (Kd.N_below (zN HO312) hb); have n1_ := Aside0.mk (Kd.V_below (zV HO315) hb); have n2_ := Aside0.mk (Kd.V_below (zV HO320) hb); have n3_ := Aside0.mk (below_step (zB HB) hb); clear HO312; clear HO315; clear HO320; clear HB; have HO312 := n0_; have HO315 := n1_; have HO320 := n2_; have HB := n3_; clear n0_ n1_ n2_ n3_; (try clear hb); (try clear hb2); (try clear hk); (try clear hi)))
  (try simp only [Act.put, List.setIfInBounds_toArray, List.set_cons_zero, List.set_cons_succ])
  go_cut [55] (fun v55 wc => ∃ (kq : Nat) (x55_10 : Bool), v55 = .bool x55_10 ∧ Aside0 (semaTells_p.j0 kq t310 a1 a2 a3 t313 t316 t317 t318 t321 t322 t323 t324 x55_10 = some r) ∧ Aside0 (kq ≤ k) ∧ Aside0 (Kd.N k33 33 wc w.heap.size (fun _ => True) (.slice Ao13 t310.length co13) t310) ∧ Aside0 (Kd.V k33 33 wc w.heap.size (fun _ => True) v314 t313) ∧ Aside0 (Kd.V k33 33 wc w.heap.size (fun _ => True) v319 t318) ∧ Aside0 (Below w.heap.size w wc))
  case first =>
   have H := HC11.out
   clear HC11
   replace H := Option.bind_eq_some_iff.mp H
   obtain ⟨t326, A180, H⟩ := H
   replace H : (if t326 = true then (semaTells_p.j0 k t310 a1 a2 a3 t313 t316 t317 t318 t321 t322 t323 t324 (decide (a2 < 0))) else (semaTells_p.j0 k t310 a1 a2 a3 t313 t316 t317 t318 t321 t322 t323 t324 true)) = some r := H
   have A18 := Aside0.mk A180
   clear A180
   by_cases c19 : t326 = true
   ·subst c19
    have H1 : (semaTells_p.j0 k t310 a1 a2 a3 t313 t316 t317 t318 t321 t322 t323 t324 (decide (a2 < 0))) = some r := by rw [if_pos rfl] at H; exact H
    clear H
    have H := H1
    clear H1
    have H' := Aside0.mk H
    clear H
    go_wp2_with (first | ((with_reducible refine gate_callee (f := 18) rfl ?_); refine goesL_ (some 50) rfl rfl Try.func18 (by kernel_rfl) rfl #[.slice Ao13 t310.length co13] rfl zP ?_; (with_reducible refine (deadboltref09_Right.calls k _ _ t310 true _ ?side1 ?side2 A18.out).mono ?_); (case side1 => repeat (first | exact (Kd.N_reads' HO312.out).2.2 | (with_reducible refine Kd.C_alloc ?_ _) | (with_reducible refine Kd.C_drewN ?_ _) | (with_reducible refine Kd.C_drew ?_))); (case side2 => exact (Kd.N_reads' HO312.out).2.1); rintro e w20 ⟨rfl, hb⟩; refine ⟨_, rfl, ?_⟩; have n0_ := Aside0.mk (Kd.N_below (zN HO312) hb); have n1_ := Aside0.mk (Kd.V_below (zV HO315) hb); have n2_ := Aside0.mk (Kd.V_below (zV HO320) hb); have n3_ := Aside0.mk (below_step (zB HB) hb); clear HO312; clear HO315; clear HO320; clear HB; have HO312 := n0_; have HO315 := n1_; have HO320 := n2_; have HB := n3_; clear n0_ n1_ n2_ n3_; (try clear hb); (try clear hb2); (try clear hk); (try clear hi)))
    go_meet
    case rel => exact ⟨_, (decide (a2 < 0)), (by first | rfl | (simp; done) | (simp [*]; done)), H', ⟨by first | omega | exact Nat.le_refl _⟩, ⟨by (with_reducible repeat (first | apply Kd.N_alloc | apply Kd.N_drewN | apply Kd.N_drew)); exact HO312.out⟩, ⟨by (with_reducible repeat (first | apply Kd.V_alloc | apply Kd.V_drewN | apply Kd.V_drew)); exact HO315.out⟩, ⟨by (with_reducible repeat (first | apply Kd.V_alloc | apply Kd.V_drewN | apply Kd.V_drew)); exact HO320.out⟩, ⟨zB HB⟩⟩
   ·replace c19 := Bool.eq_false_iff.mpr c19
    subst c19
    have H1 : (semaTells_p.j0 k t310 a1 a2 a3 t313 t316 t317 t318 t321 t322 t323 t324 true) = some r := by rw [if_neg (show ¬ (false = true) by decide)] at H; exact H
    clear H
    have H := H1
    clear H1
    have H' := Aside0.mk H
    clear H
    go_wp2_with (first | ((with_reducible refine gate_callee (f := 18) rfl ?_); refine goesL_ (some 50) rfl rfl Try.func18 (by kernel_rfl) rfl #[.slice Ao13 t310.length co13] rfl zP ?_; (with_reducible refine (deadboltref09_Right.calls k _ _ t310 false _ ?side1 ?side2 A18.out).mono ?_); (case side1 => repeat (first | exact (Kd.N_reads' HO312.out).2.2 | (with_reducible refine Kd.C_alloc ?_ _) | (with_reducible refine Kd.C_drewN ?_ _) | (with_reducible refine Kd.C_drew ?_))); (case side2 => exact (Kd.N_reads' HO312.out).2.1); rintro e w21 ⟨rfl, hb⟩; refine ⟨_, rfl, ?_⟩; have n0_ := Aside0.mk (Kd.N_below (zN HO312) hb); have n1_ := Aside0.mk (Kd.V_below (zV HO315) hb); have n2_ := Aside0.mk (Kd.V_below (zV HO320) hb); have n3_ := Aside0.mk (below_step (zB HB) hb); clear HO312; clear HO315; clear HO320; clear HB; have HO312 := n0_; have HO315 := n1_; have HO320 := n2_; have HB := n3_; clear n0_ n1_ n2_ n3_; (try clear hb); (try clear hb2); (try clear hk); (try clear hi)))
    go_meet
    case rel => exact ⟨_, (true), (by first | rfl | (simp; done) | (simp [*]; done)), H', ⟨by first | omega | exact Nat.le_refl _⟩, ⟨by (with_reducible repeat (first | apply Kd.N_alloc | apply Kd.N_drewN | apply Kd.N_drew)); exact HO312.out⟩, ⟨by (with_reducible repeat (first | apply Kd.V_alloc | apply Kd.V_drewN | apply Kd.V_drew)); exact HO315.out⟩, ⟨by (with_reducible repeat (first | apply Kd.V_alloc | apply Kd.V_drewN | apply Kd.V_drew)); exact HO320.out⟩, ⟨zB HB⟩⟩
  case rest =>
   clear HC11
   try clear c1
   try clear p2
   try clear c3
   try clear c8
   try clear c10
   try clear c18
   try clear c19
   obtain ⟨kq, x55_10, rfl, HA, HJ10, HO_0, HO_9, HO_12, HB⟩ := hcut
   cases kq with
   | zero => exact absurd HA.out (by simp [semaTells_p.j0])
   | succ kj10 =>
    have H := HA.out
    clear HA
    simp only [semaTells_p.j0] at H
    have HC22 := Aside0.mk H
    clear H
    go_upto_if 55 with (fail)
    go_cut [] (fun wc => ∃ (kq : Nat), Aside0 (semaTells_p.j1 kq t310 a1 a2 a3 t313 t316 t317 t318 t321 t322 = some r) ∧ Aside0 (kq ≤ kj10) ∧ Aside0 (Kd.N k33 33 wc w.heap.size (fun _ => True) (.slice Ao13 t310.length co13) t310) ∧ Aside0 (Kd.V k33 33 wc w.heap.size (fun _ => True) v314 t313) ∧ Aside0 (Kd.V k33 33 wc w.heap.size (fun _ => True) v319 t318) ∧ Aside0 (Below w.heap.size w wc))
    case first =>
     have H := HC22.out
     clear HC22
     by_cases c23 : x55_10 = true
     ·subst c23
      have H1 : (if t324 = 1 then (if t323 = 0 then (semaTells_p.j1 kj10 t310 a1 a2 a3 t313 t316 t317 t318 t321 t322) else (none)) else (none)) = some r := by rw [if_pos rfl] at H; exact H
      clear H
      have H := H1
      clear H1
      by_cases c24 : t324 = 1
      ·rw [if_pos c24] at H
       have c24b0 : (t324 == 1) = true := beq_iff_eq.mpr c24
       have c24b1 : (t324 != 1) = false := bne_eq_false_iff_eq.mpr c24
       clear c24
       (first | rw [c24b0] | (simp only [i64_w, i32_w]; rw [c24b0]) | skip)
       by_cases c25 : t323 = 0
       ·rw [if_pos c25] at H
        have c25b0 : (t323 == 0) = true := beq_iff_eq.mpr c25
        have c25b1 : (t323 != 0) = false := bne_eq_false_iff_eq.mpr c25
        clear c25
        have H' := Aside0.mk H
        clear H
        go_wp2
        go_meet
        case rel => exact ⟨_, H', ⟨by have := HJ10.out; first | omega | exact Nat.le_refl _⟩, ⟨by (with_reducible repeat (first | apply Kd.N_alloc | apply Kd.N_drewN | apply Kd.N_drew)); exact HO_0.out⟩, ⟨by (with_reducible repeat (first | apply Kd.V_alloc | apply Kd.V_drewN | apply Kd.V_drew)); exact HO_9.out⟩, ⟨by (with_reducible repeat (first | apply Kd.V_alloc | apply Kd.V_drewN | apply Kd.V_drew)); exact HO_12.out⟩, ⟨zB HB⟩⟩
       ·rw [if_neg c25] at H
        exact absurd H (by simp)
      ·rw [if_neg c24] at H
       exact absurd H (by simp)
     ·replace c23 := Bool.eq_false_iff.mpr c23
      subst c23
      have H1 : (if t324 = 0 then ((deadboltref10_Queued.f kj10 t310 a2).bind fun t327 => (if t323 = t327 then (semaTells_p.j1 kj10 t310 a1 a2 a3 t313 t316 t317 t318 t321 t322) else (none))) else (none)) = some r := by rw [if_neg (show ¬ (false = true) by decide)] at H; exact H
      clear H
      have H := H1
      clear H1
      by_cases c26 : t324 = 0
      ·rw [if_pos c26] at H
       have c26b0 : (t324 == 0) = true := beq_iff_eq.mpr c26
       have c26b1 : (t324 != 0) = false := bne_eq_false_iff_eq.mpr c26
       clear c26
       replace H := Option.bind_eq_some_iff.mp H
       obtain ⟨t327, A270, H⟩ := H
       replace H : (if t323 = t327 then (semaTells_p.j1 kj10 t310 a1 a2 a3 t313 t316 t317 t318 t321 t322) else (none)) = some r := H
       have A27 := Aside0.mk A270
       clear A270
       by_cases c28 : t323 = t327
       ·rw [if_pos c28] at H
        have c28b0 : (t323 == t327) = true := beq_iff_eq.mpr c28
        have c28b1 : (t323 != t327) = false := bne_eq_false_iff_eq.mpr c28
        clear c28
        have H' := Aside0.mk H
        clear H
        go_wp2_with (first | (go_at_call 37; (with_reducible refine (deadboltref10_Queued.calls kj10 _ _ t310 a2 t327 _ ?side1 ?side2 A27.out).mono ?_); (case side1 => repeat (first | exact (Kd.N_reads' HO_0.out).2.2 | (with_reducible refine Kd.C_alloc ?_ _) | (with_reducible refine Kd.C_drewN ?_ _) | (with_reducible refine Kd.C_drew ?_))); (case side2 => exact (Kd.N_reads' HO_0.out).2.1); rintro e w29 ⟨rfl, hb⟩; have n0_ := Aside0.mk (Kd.N_below (zN HO_0) hb); have n1_ := Aside0.mk (Kd.V_below (zV HO_9) hb); have n2_ := Aside0.mk (Kd.V_below (zV HO_12) hb); have n3_ := Aside0.mk (below_step (zB HB) hb); clear HO_0; clear HO_9; clear HO_12; clear HB; have HO_0 := n0_; have HO_9 := n1_; have HO_12 := n2_; have HB := n3_; clear n0_ n1_ n2_ n3_; (try clear hb); (try clear hb2); (try clear hk); (try clear hi)))
        go_meet
        case rel => exact ⟨_, H', ⟨by have := HJ10.out; first | omega | exact Nat.le_refl _⟩, ⟨by (with_reducible repeat (first | apply Kd.N_alloc | apply Kd.N_drewN | apply Kd.N_drew)); exact HO_0.out⟩, ⟨by (with_reducible repeat (first | apply Kd.V_alloc | apply Kd.V_drewN | apply Kd.V_drew)); exact HO_9.out⟩, ⟨by (with_reducible repeat (first | apply Kd.V_alloc | apply Kd.V_drewN | apply Kd.V_drew)); exact HO_12.out⟩, ⟨zB HB⟩⟩
       ·rw [if_neg c28] at H
        exact absurd H (by simp)
      ·rw [if_neg c26] at H
       exact absurd H (by simp)
    case rest =>
     clear HC22
     try clear c1
     try clear c2
     try clear p2
     try clear c3
     try clear c8
     try clear c10
     try clear c18
     try clear c19
     try clear c23
     try clear c24
     try clear c24b0
     try clear c24b1
     try clear c25
     try clear c25b0
     try clear c25b1
     try clear c26
     try clear c26b0
     try clear c26b1
     try clear c28
     try clear c28b0
     try clear c28b1
     try clear p2
     obtain ⟨kq, HA, HJ21, HO_0, HO_9, HO_12, HB⟩ := hcut
     cases kq with
     | zero => exact absurd HA.out (by simp [semaTells_p.j1])
     | succ kj21 =>
      have H := HA.out
      clear HA
      simp only [semaTells_p.j1] at H
      replace H := Option.bind_eq_some_iff.mp H
      obtain ⟨t328, A300, H⟩ := H
      replace H : (if t328 = true then ((deadboltref10_Release.f kj21 t310 a1).bind fun bt329 => (if t322 = bt329.2.2 then (if t321 = bt329.2.1 then ((deadboltref09_Same.f kj21 t318 bt329.1).bind fun t334 => (semaTells_p.j2 kj21 t310 a1 a2 a3 t313 t316 t317 (!t334))) else (none)) else (none))) else (if t317 = 1 then (if t322 = 1 then (if (t313.length : Int) = 0 then (if (t318.length : Int) = 0 then (if t316 = true then (none) else (some (t321 == 0))) else (none)) else (none)) else (none)) else (none))) = some r := H
      have A30 := Aside0.mk A300
      clear A300
      by_cases c31 : t328 = true
      ·subst c31
       have H1 : ((deadboltref10_Release.f kj21 t310 a1).bind fun bt329 => (if t322 = bt329.2.2 then (if t321 = bt329.2.1 then ((deadboltref09_Same.f kj21 t318 bt329.1).bind fun t334 => (semaTells_p.j2 kj21 t310 a1 a2 a3 t313 t316 t317 (!t334))) else (none)) else (none))) = some r := by rw [if_pos rfl] at H; exact H
       clear H
       have H := H1
       clear H1
       replace H := Option.bind_eq_some_iff.mp H
       obtain ⟨⟨t329, t332, t333⟩, A320, H⟩ := H
       replace H : (if t322 = t333 then (if t321 = t332 then ((deadboltref09_Same.f kj21 t318 t329).bind fun t334 => (semaTells_p.j2 kj21 t310 a1 a2 a3 t313 t316 t317 (!t334))) else (none)) else (none)) = some r := H
       have A32 := Aside0.mk A320
       clear A320
       have HC33 := Aside0.mk H
       clear H
       go_upto_region 15 with (first | ((with_reducible refine gate_callee (f := 35) rfl ?_); refine goesL_ (some 73) rfl rfl Try.func35 (by kernel_rfl) rfl #[.slice Ao13 t310.length co13, .int .i64 a1] rfl zP ?_; (with_reducible refine (deadboltref10_May.calls kj21 _ _ t310 a1 true _ ?side1 ?side2 A30.out).mono ?_); (case side1 => repeat (first | exact (Kd.N_reads' HO_0.out).2.2 | (with_reducible refine Kd.C_alloc ?_ _) | (with_reducible refine Kd.C_drewN ?_ _) | (with_reducible refine Kd.C_drew ?_))); (case side2 => exact (Kd.N_reads' HO_0.out).2.1); rintro e w34 ⟨rfl, hb⟩; refine ⟨_, rfl, ?_⟩; have n0_ := Aside0.mk (Kd.N_below (zN HO_0) hb); have n1_ := Aside0.mk (Kd.V_below (zV HO_9) hb); have n2_ := Aside0.mk (Kd.V_below (zV HO_12) hb); have n3_ := Aside0.mk (below_step (zB HB) hb); clear HO_0; clear HO_9; clear HO_12; clear HB; have HO_0 := n0_; have HO_9 := n1_; have HO_12 := n2_; have HB := n3_; clear n0_ n1_ n2_ n3_; (try clear hb); (try clear hb2); (try clear hk); (try clear hi)) | ((with_reducible refine gate_callee (f := 38) rfl ?_); refine goesL_ (some 102) rfl rfl Try.func38 (by kernel_rfl) rfl #[.slice Ao13 t310.length co13, .int .i64 a1] rfl zP ?_; (with_reducible refine (deadboltref10_Release.calls kj21 (fun k_ => True) _ _ t310 a1 t329 t332 t333 _ ?side1 A32.out).mono ?_); (case side1 => exact Kd.N_V (HO_0.out)); rintro e w35 ⟨v330, rfl, ho0, hb⟩; refine ⟨_, rfl, ?_⟩; have n0_ := Aside0.mk (Kd.N_elder' (zN HO_0) (Kd.N_base ho0) hb); have n1_ := Aside0.mk (Kd.V_elder' (zV HO_9) (Kd.N_base ho0) hb); have n2_ := Aside0.mk (Kd.V_elder' (zV HO_12) (Kd.N_base ho0) hb); have n3_ := Aside0.mk (Kd.N_lower (Kd.N_mono (ok' := fun k_ => True) ho0 (fun k_ hk_ => trivial)) (below_size (zB HB))); have n4_ := Aside0.mk (below_step (zB HB) hb); clear HO_0; clear HO_9; clear HO_12; clear HB; have HO_0 := n0_; have HO_9 := n1_; have HO_12 := n2_; have HO331 := n3_; have HB := n4_; clear n0_ n1_ n2_ n3_ n4_; (try clear hb); (try clear hb2); (try clear hk); (try clear hi); (try clear ho0)))
       (try simp only [Act.put, List.setIfInBounds_toArray, List.set_cons_zero, List.set_cons_succ])
       go_cut [119] (fun v119 wc => ∃ (kq : Nat) (x119_32 : Bool), v119 = .bool x119_32 ∧ Aside0 (semaTells_p.j2 kq t310 a1 a2 a3 t313 t316 t317 x119_32 = some r) ∧ Aside0 (kq ≤ kj21) ∧ Aside0 (Kd.N k33 33 wc w.heap.size (fun _ => True) (.slice Ao13 t310.length co13) t310) ∧ Aside0 (Kd.V k33 33 wc w.heap.size (fun _ => True) v314 t313) ∧ Aside0 (Below w.heap.size w wc))
       case first =>
        have H := HC33.out
        clear HC33
        by_cases c36 : t322 = t333
        ·rw [if_pos c36] at H
         have c36b0 : (t322 == t333) = true := beq_iff_eq.mpr c36
         have c36b1 : (t322 != t333) = false := bne_eq_false_iff_eq.mpr c36
         clear c36
         (first | rw [c36b0] | (simp only [i64_w, i32_w]; rw [c36b0]) | skip)
         by_cases c37 : t321 = t332
         ·rw [if_pos c37] at H
          have c37b0 : (t321 == t332) = true := beq_iff_eq.mpr c37
          have c37b1 : (t321 != t332) = false := bne_eq_false_iff_eq.mpr c37
          clear c37
          replace H := Option.bind_eq_some_iff.mp H
          obtain ⟨t334, A380, H⟩ := H
          replace H : (semaTells_p.j2 kj21 t310 a1 a2 a3 t313 t316 t317 (!t334)) = some r := H
          have A38 := Aside0.mk A380
          clear A380
          have H' := Aside0.mk H
          clear H
          obtain ⟨Ao39, co39, eo39⟩ := Kd.V_slice HO_12.out
          subst eo39
          obtain ⟨Ao40, co40, eo40⟩ := Kd.N_slice HO331.out
          subst eo40
          go_wp2_with (first | (go_at_call 27; (with_reducible refine (deadboltref09_Same.calls kj21 _ _ t318 _ _ t329 t334 _ ?side1 ?side2 ?side3 ?side4 A38.out).mono ?_); (case side1 => repeat (first | exact (Kd.V_reads' HO_12.out).2.2 | (with_reducible refine Kd.C_alloc ?_ _) | (with_reducible refine Kd.C_drewN ?_ _) | (with_reducible refine Kd.C_drew ?_))); (case side2 => exact (Kd.V_reads' HO_12.out).2.1); (case side3 => repeat (first | exact (Kd.N_reads' HO331.out).2.2 | (with_reducible refine Kd.C_alloc ?_ _) | (with_reducible refine Kd.C_drewN ?_ _) | (with_reducible refine Kd.C_drew ?_))); (case side4 => exact (Kd.N_reads' HO331.out).2.1); rintro e w41 ⟨rfl, hb⟩; have n0_ := Aside0.mk (Kd.N_below (zN HO_0) hb); have n1_ := Aside0.mk (Kd.V_below (zV HO_9) hb); have n2_ := Aside0.mk (Kd.V_below (zV HO_12) hb); have n3_ := Aside0.mk (Kd.N_below (zN HO331) hb); have n4_ := Aside0.mk (below_step (zB HB) hb); clear HO_0; clear HO_9; clear HO_12; clear HO331; clear HB; have HO_0 := n0_; have HO_9 := n1_; have HO_12 := n2_; have HO331 := n3_; have HB := n4_; clear n0_ n1_ n2_ n3_ n4_; (try clear hb); (try clear hb2); (try clear hk); (try clear hi)))
          go_meet
          case rel => exact ⟨_, (!t334), (by first | rfl | (simp; done) | (simp [*]; done)), H', ⟨by have := HJ10.out; have := HJ21.out; first | omega | exact Nat.le_refl _⟩, ⟨by (with_reducible repeat (first | apply Kd.N_alloc | apply Kd.N_drewN | apply Kd.N_drew)); exact Kd.N_mono HO_0.out (fun _ hk => trivial)⟩, ⟨by (with_reducible repeat (first | apply Kd.V_alloc | apply Kd.V_drewN | apply Kd.V_drew)); exact Kd.V_mono HO_9.out (fun _ hk => trivial)⟩, ⟨zB HB⟩⟩
         ·rw [if_neg c37] at H
          exact absurd H (by simp)
        ·rw [if_neg c36] at H
         exact absurd H (by simp)
       case rest =>
        clear HC33
        try clear c1
        try clear c2
        try clear p2
        try clear c3
        try clear c8
        try clear c10
        try clear c18
        try clear c19
        try clear c23
        try clear c24
        try clear c24b0
        try clear c24b1
        try clear c25
        try clear c25b0
        try clear c25b1
        try clear c26
        try clear c26b0
        try clear c26b1
        try clear c28
        try clear c28b0
        try clear c28b1
        try clear c30
        try clear c31
        try clear c32
        try clear c33
        try clear c34
        try clear c35
        try clear c36
        try clear c36b0
        try clear c36b1
        try clear c37
        try clear c37b0
        try clear c37b1
        try clear c38
        try clear p2
        obtain ⟨kq, x119_32, rfl, HA, HJ32, HO_0, HO_9, HB⟩ := hcut
        cases kq with
        | zero => exact absurd HA.out (by simp [semaTells_p.j2])
        | succ kj32 =>
         have H := HA.out
         clear HA
         simp only [semaTells_p.j2] at H
         by_cases c42 : x119_32 = true
         ·subst c42
          have H1 : (none) = some r := by rw [if_pos rfl] at H; exact H
          clear H
          have H := H1
          clear H1
          exact absurd H (by simp)
         ·replace c42 := Bool.eq_false_iff.mpr c42
          subst c42
          have H1 : (if a2 < 0 then (if t317 = 1 then (if (t313.length : Int) = 0 then (some (!t316)) else (none)) else (none)) else ((deadboltref10_Acquire.f kj32 t310 a1 a2 a3).bind fun bt335 => (if t317 = bt335.2.2 then (if (t316 == bt335.2.1) = true then ((deadboltref09_Same.f kj32 t313 bt335.1).bind fun t340 => (some t340)) else (none)) else (none)))) = some r := by rw [if_neg (show ¬ (false = true) by decide)] at H; exact H
          clear H
          have H := H1
          clear H1
          by_cases c43 : a2 < 0
          ·rw [if_pos c43] at H
           have c43b0 : decide (a2 < 0) = true := decide_eq_true c43
           clear c43
           by_cases c44 : t317 = 1
           ·rw [if_pos c44] at H
            have c44b0 : (t317 == 1) = true := beq_iff_eq.mpr c44
            have c44b1 : (t317 != 1) = false := bne_eq_false_iff_eq.mpr c44
            clear c44
            by_cases c45 : (t313.length : Int) = 0
            ·rw [if_pos c45] at H
             have c45b0 : ((t313.length : Int) == 0) = true := beq_iff_eq.mpr c45
             have c45b1 : ((t313.length : Int) != 0) = false := bne_eq_false_iff_eq.mpr c45
             clear c45
             obtain rfl := Option.some.inj H
             obtain ⟨Ao46, co46, eo46⟩ := Kd.V_slice HO_9.out
             subst eo46
             go_wp2
             go_ret
             exact ⟨by first | rfl | (simp [errW_none, errW_some] <;> rfl) | (simp [*, errW_none, errW_some] <;> rfl), zB HB⟩
            ·rw [if_neg c45] at H
             exact absurd H (by simp)
           ·rw [if_neg c44] at H
            exact absurd H (by simp)
          ·rw [if_neg c43] at H
           have c43b0 : decide (a2 < 0) = false := decide_eq_false c43
           clear c43
           replace H := Option.bind_eq_some_iff.mp H
           obtain ⟨⟨t335, t338, t339⟩, A470, H⟩ := H
           replace H : (if t317 = t339 then (if (t316 == t338) = true then ((deadboltref09_Same.f kj32 t313 t335).bind fun t340 => (some t340)) else (none)) else (none)) = some r := H
           have A47 := Aside0.mk A470
           clear A470
           by_cases c48 : t317 = t339
           ·rw [if_pos c48] at H
            have c48b0 : (t317 == t339) = true := beq_iff_eq.mpr c48
            have c48b1 : (t317 != t339) = false := bne_eq_false_iff_eq.mpr c48
            clear c48
            by_cases c49 : (t316 == t338) = true
            ·rw [if_pos c49] at H
             have c49b0 : (t316 == t338) = true := c49
             (try (have c49b1 : decide (t316 = t338) = true := by simpa using c49))
             (try (have c49b2 : (t316 == t338) = true := by simpa using c49))
             clear c49
             replace H := Option.bind_eq_some_iff.mp H
             obtain ⟨t340, A500, H⟩ := H
             replace H : (some t340) = some r := H
             have A50 := Aside0.mk A500
             clear A500
             obtain rfl := Option.some.inj H
             go_wp2_with (first | ((with_reducible refine gate_callee (f := 39) rfl ?_); refine goesL_ (some 138) rfl rfl Try.func39 (by kernel_rfl) rfl #[.slice Ao13 t310.length co13, .int .i64 a1, .int .i64 a2, .bool a3] rfl zP ?_; (with_reducible refine (deadboltref10_Acquire.calls kj32 (fun k_ => True) _ _ t310 a1 a2 a3 t335 t338 t339 _ ?side1 A47.out).mono ?_); (case side1 => exact Kd.N_V (HO_0.out)); rintro e w51 ⟨v336, rfl, ho0, hb⟩; refine ⟨_, rfl, ?_⟩; have n0_ := Aside0.mk (Kd.N_elder' (zN HO_0) (Kd.N_base ho0) hb); have n1_ := Aside0.mk (Kd.V_elder' (zV HO_9) (Kd.N_base ho0) hb); have n2_ := Aside0.mk (Kd.N_lower (Kd.N_mono (ok' := fun k_ => True) ho0 (fun k_ hk_ => trivial)) (below_size (zB HB))); have n3_ := Aside0.mk (below_step (zB HB) hb); clear HO_0; clear HO_9; clear HB; have HO_0 := n0_; have HO_9 := n1_; have HO337 := n2_; have HB := n3_; clear n0_ n1_ n2_ n3_; (try clear hb); (try clear hb2); (try clear hk); (try clear hi); (try clear ho0); obtain ⟨Ao52, co52, eo52⟩ := Kd.V_slice HO_9.out; subst eo52; obtain ⟨Ao53, co53, eo53⟩ := Kd.N_slice HO337.out; subst eo53) | (go_at_call 27; (with_reducible refine (deadboltref09_Same.calls kj32 _ _ t313 _ _ t335 t340 _ ?side1 ?side2 ?side3 ?side4 A50.out).mono ?_); (case side1 => repeat (first | exact (Kd.V_reads' HO_9.out).2.2 | (with_reducible refine Kd.C_alloc ?_ _) | (with_reducible refine Kd.C_drewN ?_ _) | (with_reducible refine Kd.C_drew ?_))); (case side2 => exact (Kd.V_reads' HO_9.out).2.1); (case side3 => repeat (first | exact (Kd.N_reads' HO337.out).2.2 | (with_reducible refine Kd.C_alloc ?_ _) | (with_reducible refine Kd.C_drewN ?_ _) | (with_reducible refine Kd.C_drew ?_))); (case side4 => exact (Kd.N_reads' HO337.out).2.1); rintro e w54 ⟨rfl, hb⟩; have n0_ := Aside0.mk (Kd.N_below (zN HO_0) hb); have n1_ := Aside0.mk (Kd.V_below (zV HO_9) hb); have n2_ := Aside0.mk (Kd.N_below (zN HO337) hb); have n3_ := Aside0.mk (below_step (zB HB) hb); clear HO_0; clear HO_9; clear HO337; clear HB; have HO_0 := n0_; have HO_9 := n1_; have HO337 := n2_; have HB := n3_; clear n0_ n1_ n2_ n3_; (try clear hb); (try clear hb2); (try clear hk); (try clear hi)))
             go_ret
             exact ⟨by first | rfl | (simp [errW_none, errW_some] <;> rfl) | (simp [*, errW_none, errW_some] <;> rfl), zB HB⟩
            ·rw [if_neg c49] at H
             exact absurd H (by simp)
           ·rw [if_neg c48] at H
            exact absurd H (by simp)
      ·replace c31 := Bool.eq_false_iff.mpr c31
       subst c31
       have H1 : (if t317 = 1 then (if t322 = 1 then (if (t313.length : Int) = 0 then (if (t318.length : Int) = 0 then (if t316 = true then (none) else (some (t321 == 0))) else (none)) else (none)) else (none)) else (none)) = some r := by rw [if_neg (show ¬ (false = true) by decide)] at H; exact H
       clear H
       have H := H1
       clear H1
       by_cases c55 : t317 = 1
       ·rw [if_pos c55] at H
        have c55b0 : (t317 == 1) = true := beq_iff_eq.mpr c55
        have c55b1 : (t317 != 1) = false := bne_eq_false_iff_eq.mpr c55
        clear c55
        by_cases c56 : t322 = 1
        ·rw [if_pos c56] at H
         have c56b0 : (t322 == 1) = true := beq_iff_eq.mpr c56
         have c56b1 : (t322 != 1) = false := bne_eq_false_iff_eq.mpr c56
         clear c56
         by_cases c57 : (t313.length : Int) = 0
         ·rw [if_pos c57] at H
          have c57b0 : ((t313.length : Int) == 0) = true := beq_iff_eq.mpr c57
          have c57b1 : ((t313.length : Int) != 0) = false := bne_eq_false_iff_eq.mpr c57
          clear c57
          by_cases c58 : (t318.length : Int) = 0
          ·rw [if_pos c58] at H
           have c58b0 : ((t318.length : Int) == 0) = true := beq_iff_eq.mpr c58
           have c58b1 : ((t318.length : Int) != 0) = false := bne_eq_false_iff_eq.mpr c58
           clear c58
           by_cases c59 : t316 = true
           ·subst c59
            have H1 : (none) = some r := by rw [if_pos rfl] at H; exact H
            clear H
            have H := H1
            clear H1
            exact absurd H (by simp)
           ·replace c59 := Bool.eq_false_iff.mpr c59
            subst c59
            have H1 : (some (t321 == 0)) = some r := by rw [if_neg (show ¬ (false = true) by decide)] at H; exact H
            clear H
            have H := H1
            clear H1
            obtain rfl := Option.some.inj H
            go_wp2_with (first | ((with_reducible refine gate_callee (f := 35) rfl ?_); refine goesL_ (some 73) rfl rfl Try.func35 (by kernel_rfl) rfl #[.slice Ao13 t310.length co13, .int .i64 a1] rfl zP ?_; (with_reducible refine (deadboltref10_May.calls kj21 _ _ t310 a1 false _ ?side1 ?side2 A30.out).mono ?_); (case side1 => repeat (first | exact (Kd.N_reads' HO_0.out).2.2 | (with_reducible refine Kd.C_alloc ?_ _) | (with_reducible refine Kd.C_drewN ?_ _) | (with_reducible refine Kd.C_drew ?_))); (case side2 => exact (Kd.N_reads' HO_0.out).2.1); rintro e w60 ⟨rfl, hb⟩; refine ⟨_, rfl, ?_⟩; have n0_ := Aside0.mk (Kd.N_below (zN HO_0) hb); have n1_ := Aside0.mk (Kd.V_below (zV HO_9) hb); have n2_ := Aside0.mk (Kd.V_below (zV HO_12) hb); have n3_ := Aside0.mk (below_step (zB HB) hb); clear HO_0; clear HO_9; clear HO_12; clear HB; have HO_0 := n0_; have HO_9 := n1_; have HO_12 := n2_; have HB := n3_; clear n0_ n1_ n2_ n3_; (try clear hb); (try clear hb2); (try clear hk); (try clear hi); obtain ⟨Ao61, co61, eo61⟩ := Kd.V_slice HO_9.out; subst eo61; obtain ⟨Ao62, co62, eo62⟩ := Kd.V_slice HO_12.out; subst eo62))
            go_ret
            exact ⟨by first | rfl | (simp [errW_none, errW_some] <;> rfl) | (simp [*, errW_none, errW_some] <;> rfl), zB HB⟩
          ·rw [if_neg c58] at H
           exact absurd H (by simp)
         ·rw [if_neg c57] at H
          exact absurd H (by simp)
        ·rw [if_neg c56] at H
         exact absurd H (by simp)
       ·rw [if_neg c55] at H
        exact absurd H (by simp)
 ·replace c10 := Bool.eq_false_iff.mpr c10
  subst c10
  have H1 : (none) = some r := by rw [if_neg (show ¬ (false = true) by decide)] at H; exact H
  clear H
  have H := H1
  clear H1
  exact absurd H (by simp)

end Go.Proofs.Ytnjnjajgpkmfhaa.PX

/-
 The law SemaTells, told of its printed form.
-/
namespace Go.Proofs.Ytnjnjajgpkmfhaa.PX
open Go.RowKit Go.Proofs.YtnjnjajgpkmfhaaW.PrintWords Go.Proofs.YtnjnjajgpkmfhaaW.PrintLast Go.Proofs.YtnjnjajgpkmfhaaW.PrintMore
theorem semtells_j1 {L : List Sp} (hL : L.length ≤ 80) (h2 : ∀ s ∈ L, s.f2.length ≤ 1000) (a who : Int) (first : Bool) (A : List Sp × Bool × Int) (hA : sema_Acquire.f 5000 L a who first = some A) (R : List Sp × Int × Int) (hR : sema_Release.f L a = some R) {k : Nat} (hk : 4000 ≤ k) :
  semaTells_p.j1 k L a who first A.1 A.2.1 A.2.2 R.1 R.2.1 R.2.2 = some true := by
 obtain ⟨k, rfl⟩ : ∃ q, k = q + 1 + 1 := ⟨k - 2, by omega⟩
 obtain ⟨mb, m1, m2⟩ := may_f (l := L) (by omega) h2 a (k := k + 1) (by omega)
 rw [semaTells_p.j1, m1]
 simp only [Option.bind_some]
 cases mb with
 | false =>
  have hn : ¬ Tab L ∨ isAddrB a = false := by
   by_cases h : Tab L
   ·refine .inr ?_
    cases hb : isAddrB a with
    | false => rfl
    | true => have := m2.2 ⟨h, hb⟩; cases this
   ·exact .inl h
  rw [rel_bad hL h2 hn] at hR
  rw [acq_bad hL h2 (hn.elim .inl (fun h => .inr (.inl h))) (by omega)] at hA
  obtain rfl := Option.some.inj hR
  obtain rfl := Option.some.inj hA
  rfl
 | true =>
  obtain ⟨hT, ha'⟩ := m2.1 rfl
  have ha := (addr_iff a).1 ha'
  rw [rel_f hT ha] at hR
  obtain rfl := Option.some.inj hR
  rw [if_pos rfl, refrel_f hT ha (by omega)]
  simp only [Option.bind_some]
  rw [if_pos trivial, if_pos trivial, same_small (small_rel hT ha) (by omega)]
  simp only [Option.bind_some]
  rw [show (!true) = false from rfl, semaTells_p.j2, if_neg Bool.false_ne_true]
  by_cases hw : who < 0
  ·rw [acq_bad hL h2 (.inr (.inr hw)) (by omega)] at hA
   obtain rfl := Option.some.inj hA
   rw [if_pos hw]
   rfl
  ·rw [acq_f hT ha (by omega) first (by omega)] at hA
   obtain rfl := Option.some.inj hA
   rw [if_neg hw, refacq_f hT ha who first (by omega)]
   simp only [Option.bind_some]
   rw [if_pos trivial, if_pos (by simp), same_small (small_acq hT ha who first) (by omega)]
   rfl
theorem semtells_all (l : List Sp) (a who : Int) (first : Bool) : semaTells_p.f 5000 l a who first = some true := by
 have hL : (fewF l).length ≤ 80 := by have := few_len l; omega
 have h2 := few_lens l
 unfold semaTells_p.f
 rw [few10_f l (by omega)]
 simp only [Option.bind_some]
 generalize fewF l = L at *
 obtain ⟨A, hA⟩ : ∃ A, sema_Acquire.f 5000 L a who first = some A := by
  by_cases h : Tab L ∧ isAddrB a = true ∧ 0 ≤ who
  ·exact ⟨_, acq_f h.1 ((addr_iff a).1 h.2.1) h.2.2 first (by omega)⟩
  ·refine ⟨_, acq_bad hL h2 ?_ (by omega)⟩
   by_cases h1 : Tab L
   ·by_cases h3 : isAddrB a = true
    ·exact .inr (.inr (by have : ¬ 0 ≤ who := fun h4 => h ⟨h1, h3, h4⟩; omega))
    ·exact .inr (.inl (by simpa using h3))
   ·exact .inl h1
 obtain ⟨R, hR⟩ : ∃ R, sema_Release.f L a = some R := by
  by_cases h : Tab L ∧ isAddrB a = true
  ·exact ⟨_, rel_f h.1 ((addr_iff a).1 h.2)⟩
  ·refine ⟨_, rel_bad hL h2 ?_⟩
   by_cases h1 : Tab L
   ·exact .inr (by have : ¬ isAddrB a = true := fun h4 => h ⟨h1, h4⟩; simpa using this)
   ·exact .inl h1
 have j1 := fun k (hk : 4000 ≤ k) => semtells_j1 hL h2 a who first A hA R hR hk
 obtain ⟨tb, t1, t2⟩ := refright_f L (by omega) h2 (k := 5000) (by omega)
 rw [hA, hR]
 simp only [Option.bind_some]
 by_cases hq : Tab L ∧ 0 ≤ who
 ·obtain rfl := t2.2 hq.1
  have hw : ¬ who < 0 := by have := hq.2; omega
  rw [queued_f hq.1 hq.2, semalive_ok (by omega), t1]
  simp only [Option.bind_some]
  rw [if_pos trivial, if_pos trivial, semaTells_p.j0, if_neg (by simp; omega), if_pos rfl, refqueued_f L who (by omega) h2 (by omega)]
  simp only [Option.bind_some]
  rw [if_pos trivial]
  exact j1 4999 (by omega)
 ·have hbad : ¬ Tab L ∨ who < 0 := by
   by_cases h1 : Tab L
   ·exact .inr (by have : ¬ 0 ≤ who := fun h4 => hq ⟨h1, h4⟩; omega)
   ·exact .inl h1
  have hj : semaTells_p.j0 5000 L a who first A.1 A.2.1 A.2.2 R.1 R.2.1 R.2.2 0 1 true = some true := by
   rw [semaTells_p.j0, if_pos rfl, if_pos rfl, if_pos rfl]
   exact j1 4999 (by omega)
  rw [queued_bad hL h2 hbad, semalive_ok (by omega), t1]
  simp only [Option.bind_some]
  rw [if_pos trivial]
  cases tb with
  | false => rw [if_neg Bool.false_ne_true]; exact hj
  | true =>
   have hw : who < 0 := hbad.resolve_left (fun hn => hn (t2.1 rfl))
   rw [if_pos rfl, decide_eq_true hw]
   exact hj
end Go.Proofs.Ytnjnjajgpkmfhaa.PX

/-
 A spot, opened.
-/
namespace Go.Proofs.Ytnjnjajgpkmfhaa.PX
open Go.RowKit Go.Proofs.YtnjnjajgpkmfhaaW.PrintWords
theorem opensP {H : Type} {enc : TypeId × Value → H} {w : World} : Opens enc Try.prog w 33 k33 (fun x => (Lit.int .i64 x.f0).wf = true ∧ (Lit.int .i64 x.f1).wf = true) := by
 intro fuel cs x h
 obtain ⟨a, hk, hw⟩ := Opens.struct (g := fun x : S33 => (x.f0, x.f1, x.f2)) Try.underlying33 (by kernel_rfl) (fun x : Int × Int × List Int => ⟨x.1, x.2.1, x.2.2⟩) (fun _ => rfl)
  (OpensF.cons rfl (by kernel_rfl) (Opens.int Try.underlying3) rfl (OpensF.cons rfl (by kernel_rfl) (Opens.int Try.underlying3) rfl (OpensF.one rfl (by kernel_rfl) (Opens.slice Try.underlying25 (by kernel_rfl) (Opens.int Try.underlying3))))) fuel cs x h
 exact ⟨a, hk, hw.1, hw.2.1⟩
end Go.Proofs.Ytnjnjajgpkmfhaa.PX

/-
 The statement on SemaTells, out of what its printed form comes to: for every input the call returns true, and each argument reads behind it as it read before.
-/
namespace Go.Proofs.Ytnjnjajgpkmfhaa.semaTells
open Go.ChangeShapes Go.WideShapes Go.ChangeAt Go.RowKit Go.Proofs.YtnjnjajgpkmfhaaW.PrintWords Go.Proofs.Ytnjnjajgpkmfhaa.PX
set_option linter.unusedVariables false
theorem own : ownKnob Try.prog.godebug = none := by kernel_rfl
set_option maxRecDepth 100000 in
theorem lifted (os : Os) (started : os.Started) (H : Type) (enc : TypeId × Value → H) :
  ReturnsInHanded {} Try.checked os 8 .any (Rows.semaTellsSpec.pre6 enc Try.prog Try.f8 Rows.semaTellsRow.domain false) (Rows.semaTellsSpec.post enc Try.prog Try.f8 false true false false) := by
 refine returnsInHanded_of_change (C := Try.checked) own started (by kernel_rfl) Try.func8
  (ChangeSpec.witness6 (enc := enc) (C := Try.checked) false ⟨#[], #[.slice none 0 0, .int .i64 0, .int .i64 0, .bool false], []⟩ 8 (by kernel_rfl) (by kernel_rfl) (by kernel_rfl) (by kernel_rfl)) ?_
 intro W base args ds gs before hval0 hW hcnd _
 have hval : ∀ (j : Nat) t v, Try.f8.params[j]? = some t → args[j]? = some v → Value.okWide Try.prog W .any base t v := hval0
 have hW' := hW
 obtain ⟨p, q, hA0, hV, hpq, hfz, hnd⟩ := hW
 have hA : DataW.TrodAll enc Try.prog W 0 (fun _ => true) true Try.f8.params.toList args.toList ds p := hA0
 rw [Try.params8] at hA hval
 obtain ⟨v0, vs0, d0, ds0, p0, q0, hargs, rfl, hp0, h0, r0⟩ := trodAll_cons hA
 obtain ⟨v1, vs1, d1, ds1, p1, q1, rfl, rfl, hp1, h1, r1⟩ := trodAll_cons r0
 obtain ⟨v2, vs2, d2, ds2, p2, q2, rfl, rfl, hp2, h2, r2⟩ := trodAll_cons r1
 obtain ⟨v3, vs3, d3, ds3, p3, q3, rfl, rfl, hp3, h3, r3⟩ := trodAll_cons r2
 obtain ⟨rfl, rfl, _⟩ := trodAll_nil r3
 obtain rfl : args = #[v0, v1, v2, v3] := by cases args; simp_all
 obtain ⟨rfl, _⟩ := trodVars_none hV
 obtain ⟨A0, c0, l0, rfl, hl0, hC0, hw0⟩ := open_C Try.underlying22 (by kernel_rfl) opensP (hval 0 22 v0 rfl rfl) h0
 obtain ⟨a1, rfl, _, _, w1⟩ := open_int Try.underlying3 (hval 1 3 v1 rfl rfl) h1
 obtain ⟨a2, rfl, _, _, w2⟩ := open_int Try.underlying3 (hval 2 3 v2 rfl rfl) h2
 obtain ⟨a3, rfl, _⟩ := open_bool Try.underlying4 (hval 3 4 v3 rfl rfl) h3
 refine (semaTells_p.calls 5000 A0 c0 l0 a1 a2 a3 true W hC0 hl0 (semtells_all l0 a1 a2 a3)).mono fun e W' ⟨he, hb⟩ => ?_
 subst he
 exact ⟨_, rfl, law_post (by kernel_rfl) (by kernel_rfl) (by kernel_rfl) Try.underlying4 rfl hW' rfl hb⟩

theorem rowOver : Rows.semaTellsRow.holds Try.pinned (OpenSpec.ofChange Rows.semaTellsSpec) :=
 OpenClaim.holds_of_wide 8 Try.f8 rfl rfl rfl rfl rfl rfl rfl ⟨rfl, rfl, rfl, rfl, rfl⟩ rfl rfl rfl rfl rfl (by kernel_rfl) Try.func8 (by kernel_rfl)
  (of_decide_eq_true (by kernel_rfl)) (by unfold Func.isWrapper; first | (rw [if_pos (by decide +kernel)]; kernel_rfl) | (rw [if_neg (by decide +kernel)]; exact ⟨rfl, rfl⟩))
  (fun os started H enc _ => lifted os started H enc)

theorem proved : Rows.SemaTellsSaid := rowOver
#print axioms proved
end Go.Proofs.Ytnjnjajgpkmfhaa.semaTells
