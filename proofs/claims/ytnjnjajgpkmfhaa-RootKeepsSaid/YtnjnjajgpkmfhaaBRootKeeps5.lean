/-
  Texts of this claim, one behind the other: PXyrootKeeps. All are cut down to the theorems that the claim leans on; those named W.. and PXx.. were written by the kit's print.
-/
import Derived.Test.YtnjnjajgpkmfhaaBRootKeeps4
namespace Go.Proofs.Ytnjnjajgpkmfhaa.PX
open Go.RowKit Go.Proofs.YtnjnjajgpkmfhaaW.PrintWords Go.Proofs.YtnjnjajgpkmfhaaW.PrintLast Go.Proofs.YtnjnjajgpkmfhaaW.PrintMore
attribute [local go_sem] max2_int min2_int max_two min_two max_three min_three max_four min_four   -- for this text's walks alone
set_option linter.unusedVariables false
set_option linter.unusedSimpArgs false

/-! ### rootKeeps: function 5 -/
mutual
def rootKeeps.j0 : Nat → List (S33) → List (S33) → Bool → Int → Int → List Int → Int → Int → List Int → Option (Bool)
 | 0, _, _, _, _, _, _, _, _, _ => none
 | k + 1, x0, x9, x99, x158000, x158001, x158002, x159000, x159001, x159002 => if x99 = true then (none) else ((root_Root.f x158000).bind fun bt204 => ((root_Under.f k x9 bt204.1).bind fun bt206 => (if bt204.2 = 0 then (if bt206.2 = 0 then ((deadboltref07_Place.f k bt206.1 x158000).bind fun t210 => ((deadboltref09_Empty.f x158000 x158001 x158002).bind fun t211 => (rootKeeps.j1 k x0 x9 ((decide (t210 ≥ 0)) != (!t211)) x158000 x158001 x158002 x159000 x159001 x159002))) else (none)) else (none))))
def rootKeeps.j1 : Nat → List (S33) → List (S33) → Bool → Int → Int → List Int → Int → Int → List Int → Option (Bool)
 | 0, _, _, _, _, _, _, _, _, _ => none
 | k + 1, x0, x9, x128, x158000, x158001, x158002, x159000, x159001, x159002 => if x128 = true then (none) else ((root_Set.f x9 x159000 x159001 x159002).bind fun bt212 => ((root_Set.f x0 x159000 x159001 x159002).bind fun bt216 => ((root_Set.f bt216.1 x158000 x158001 x158002).bind fun bt220 => (if bt212.2 = 0 then (if bt216.2 = 0 then (if bt220.2 = 0 then (if x158000 = x159000 then (some true) else ((deadboltref09_Same.f k bt212.1 bt220.1).bind fun t224 => (some t224))) else (some true)) else (some true)) else (some true)))))
end
def rootKeeps.f (k : Nat) (l0 : List (S33)) (a1_0 : Int) (a1_1 : Int) (l1_2 : List Int) (a2_0 : Int) (a2_1 : Int) (l2_2 : List Int) (a3 : Int) : Option (Bool) := (deadboltlaw09_few.f k l0).bind fun t159 => ((deadboltlaw09_cut.f a1_0 a1_1 l1_2).bind fun bt162 => ((deadboltlaw09_cut.f a2_0 a2_1 l2_2).bind fun bt167 => ((root_Set.f t159 bt162.1 bt162.2.1 bt162.2.2).bind fun bt172 => (if bt172.2 = 0 then ((root_Get.f bt172.1 bt162.1).bind fun bt177 => ((root_Get.f t159 a3).bind fun bt184 => ((root_Get.f bt172.1 a3).bind fun bt191 => (if bt177.2.2.2 = 0 then ((deadboltref09_Spots.f k bt177.1 bt177.2.1 bt177.2.2.1 bt162.1 bt162.2.1 bt162.2.2).bind fun t198 => (if t198 = true then (if bt184.2.2.2 = bt191.2.2.2 then (if a3 = bt162.1 then ((root_Right.f k bt172.1).bind fun t199 => (if t199 = true then ((deadboltlaw09_alive.f).bind fun t200 => (rootKeeps.j0 k t159 bt172.1 (!t200) bt162.1 bt162.2.1 bt162.2.2 bt167.1 bt167.2.1 bt167.2.2)) else (none))) else ((deadboltref09_Spots.f k bt184.1 bt184.2.1 bt184.2.2.1 bt191.1 bt191.2.1 bt191.2.2.1).bind fun t201 => (if t201 = true then ((root_Right.f k bt172.1).bind fun t202 => (if t202 = true then ((deadboltlaw09_alive.f).bind fun t203 => (rootKeeps.j0 k t159 bt172.1 (!t203) bt162.1 bt162.2.1 bt162.2.2 bt167.1 bt167.2.1 bt167.2.2)) else (none))) else (none)))) else (none)) else (none))) else (none))))) else ((deadboltlaw09_alive.f).bind fun t176 => (if t176 = true then (some ((bt172.1.length : Int) == 0)) else (none)))))))
def rootKeeps.T1 : Bool × List (List Nat × List Nat) := (true, [([], []), ([0], [0]), ([], []), ([2, 1], [2]), ([], []), ([4, 3], [4]), ([1, 5, 0, 1], [0, 1]), ([3, 6, 0, 1, 2, 3, 6], [3]), ([5, 7, 0, 1, 2, 3, 4, 5, 6, 7], [5])])
def rootKeeps.B1 : List Nat := [0, 1, 0, 7, 0, 31, 63, 127, 255]
theorem rootKeeps.tab1 : rtab .any (opsOf Try.f5 1) = rootKeeps.T1 := by kernel_rfl
theorem rootKeeps.bits1 : waitsOk rootKeeps.T1.2 rootKeeps.B1 = true := by kernel_rfl
def rootKeeps.T12 : Bool × List (List Nat × List Nat) := (true, [([], []), ([0], [0]), ([1], [1]), ([2], [2]), ([3, 2], [2, 3]), ([2, 4], [2, 4]), ([5, 2], [5]), ([6], [6]), ([6], [6]), ([8, 6], [6, 8]), ([7, 9, 6, 6], [6, 7, 9]), ([10, 6], [6, 10]), ([6], [6]), ([12, 10, 6], [6, 12]), ([13, 6], [6, 13]), ([11, 14, 6], [6, 11, 14]), ([6, 15], [6, 15])])
def rootKeeps.B12 : List Nat := [0, 1, 3, 7, 15, 31, 63, 127, 127, 383, 1023, 2047, 127, 6143, 14335, 32767, 65535]
theorem rootKeeps.tab12 : rtab .any (opsOf Try.f5 12) = rootKeeps.T12 := by kernel_rfl
theorem rootKeeps.bits12 : waitsOk rootKeeps.T12.2 rootKeeps.B12 = true := by kernel_rfl
set_option maxHeartbeats 8000000 in
set_option maxRecDepth 100000 in
theorem rootKeeps.calls (k : Nat) (A0 : Option Addr) (c0 : Nat) (l0 : List (S33)) (a1_0 : Int) (a1_1 : Int) (A1_2 : Option Addr) (c1_2 : Nat) (l1_2 : List Int) (a2_0 : Int) (a2_1 : Int) (A2_2 : Option Addr) (c2_2 : Nat) (l2_2 : List Int) (a3 : Int) (r : Bool) (w : World) (hr0 : Kd.C k33 w A0 l0.length l0) (hc0 : l0.length ≤ c0) (hr1_2 : Kd.C (Kd.int .i64) w A1_2 l1_2.length l1_2) (hc1_2 : l1_2.length ≤ c1_2) (hr2_2 : Kd.C (Kd.int .i64) w A2_2 l2_2.length l2_2) (hc2_2 : l2_2.length ≤ c2_2) (h : rootKeeps.f k l0 a1_0 a1_1 l1_2 a2_0 a2_1 l2_2 a3 = some r) :
  Calls Try.prog 5 #[.slice A0 l0.length c0, .agg #[.int .i64 a1_0, .int .i64 a1_1, .slice A1_2 l1_2.length c1_2], .agg #[.int .i64 a2_0, .int .i64 a2_1, .slice A2_2 l2_2.length c2_2], .int .i64 a3] w fun e w' => e = .returned (.bool r) ∧ Below w.heap.size w w' := by
 have hu33 := Try.underlying33
 have HR0 := Aside0.mk hr0
 have HC0 := Aside0.mk hc0
 clear hr0 hc0
 have HR1_2 := Aside0.mk hr1_2
 have HC1_2 := Aside0.mk hc1_2
 clear hr1_2 hc1_2
 have HR2_2 := Aside0.mk hr2_2
 have HC2_2 := Aside0.mk hc2_2
 clear hr2_2 hc2_2
 have HB := Aside0.mk (Below.refl w.heap.size w)
 have H : ((deadboltlaw09_few.f k l0).bind fun t159 => ((deadboltlaw09_cut.f a1_0 a1_1 l1_2).bind fun bt162 => ((deadboltlaw09_cut.f a2_0 a2_1 l2_2).bind fun bt167 => ((root_Set.f t159 bt162.1 bt162.2.1 bt162.2.2).bind fun bt172 => (if bt172.2 = 0 then ((root_Get.f bt172.1 bt162.1).bind fun bt177 => ((root_Get.f t159 a3).bind fun bt184 => ((root_Get.f bt172.1 a3).bind fun bt191 => (if bt177.2.2.2 = 0 then ((deadboltref09_Spots.f k bt177.1 bt177.2.1 bt177.2.2.1 bt162.1 bt162.2.1 bt162.2.2).bind fun t198 => (if t198 = true then (if bt184.2.2.2 = bt191.2.2.2 then (if a3 = bt162.1 then ((root_Right.f k bt172.1).bind fun t199 => (if t199 = true then ((deadboltlaw09_alive.f).bind fun t200 => (rootKeeps.j0 k t159 bt172.1 (!t200) bt162.1 bt162.2.1 bt162.2.2 bt167.1 bt167.2.1 bt167.2.2)) else (none))) else ((deadboltref09_Spots.f k bt184.1 bt184.2.1 bt184.2.2.1 bt191.1 bt191.2.1 bt191.2.2.1).bind fun t201 => (if t201 = true then ((root_Right.f k bt172.1).bind fun t202 => (if t202 = true then ((deadboltlaw09_alive.f).bind fun t203 => (rootKeeps.j0 k t159 bt172.1 (!t203) bt162.1 bt162.2.1 bt162.2.2 bt167.1 bt167.2.1 bt167.2.2)) else (none))) else (none)))) else (none)) else (none))) else (none))))) else ((deadboltlaw09_alive.f).bind fun t176 => (if t176 = true then (some ((bt172.1.length : Int) == 0)) else (none)))))))) = some r := h
 clear h
 replace H := Option.bind_eq_some_iff.mp H
 obtain ⟨t159, A50, H⟩ := H
 replace H : ((deadboltlaw09_cut.f a1_0 a1_1 l1_2).bind fun bt162 => ((deadboltlaw09_cut.f a2_0 a2_1 l2_2).bind fun bt167 => ((root_Set.f t159 bt162.1 bt162.2.1 bt162.2.2).bind fun bt172 => (if bt172.2 = 0 then ((root_Get.f bt172.1 bt162.1).bind fun bt177 => ((root_Get.f t159 a3).bind fun bt184 => ((root_Get.f bt172.1 a3).bind fun bt191 => (if bt177.2.2.2 = 0 then ((deadboltref09_Spots.f k bt177.1 bt177.2.1 bt177.2.2.1 bt162.1 bt162.2.1 bt162.2.2).bind fun t198 => (if t198 = true then (if bt184.2.2.2 = bt191.2.2.2 then (if a3 = bt162.1 then ((root_Right.f k bt172.1).bind fun t199 => (if t199 = true then ((deadboltlaw09_alive.f).bind fun t200 => (rootKeeps.j0 k t159 bt172.1 (!t200) bt162.1 bt162.2.1 bt162.2.2 bt167.1 bt167.2.1 bt167.2.2)) else (none))) else ((deadboltref09_Spots.f k bt184.1 bt184.2.1 bt184.2.2.1 bt191.1 bt191.2.1 bt191.2.2.1).bind fun t201 => (if t201 = true then ((root_Right.f k bt172.1).bind fun t202 => (if t202 = true then ((deadboltlaw09_alive.f).bind fun t203 => (rootKeeps.j0 k t159 bt172.1 (!t203) bt162.1 bt162.2.1 bt162.2.2 bt167.1 bt167.2.1 bt167.2.2)) else (none))) else (none)))) else (none)) else (none))) else (none))))) else ((deadboltlaw09_alive.f).bind fun t176 => (if t176 = true then (some ((bt172.1.length : Int) == 0)) else (none))))))) = some r := H
 have A5 := Aside0.mk A50
 clear A50
 replace H := Option.bind_eq_some_iff.mp H
 obtain ⟨⟨t162, t163, t164⟩, A60, H⟩ := H
 replace H : ((deadboltlaw09_cut.f a2_0 a2_1 l2_2).bind fun bt167 => ((root_Set.f t159 t162 t163 t164).bind fun bt172 => (if bt172.2 = 0 then ((root_Get.f bt172.1 t162).bind fun bt177 => ((root_Get.f t159 a3).bind fun bt184 => ((root_Get.f bt172.1 a3).bind fun bt191 => (if bt177.2.2.2 = 0 then ((deadboltref09_Spots.f k bt177.1 bt177.2.1 bt177.2.2.1 t162 t163 t164).bind fun t198 => (if t198 = true then (if bt184.2.2.2 = bt191.2.2.2 then (if a3 = t162 then ((root_Right.f k bt172.1).bind fun t199 => (if t199 = true then ((deadboltlaw09_alive.f).bind fun t200 => (rootKeeps.j0 k t159 bt172.1 (!t200) t162 t163 t164 bt167.1 bt167.2.1 bt167.2.2)) else (none))) else ((deadboltref09_Spots.f k bt184.1 bt184.2.1 bt184.2.2.1 bt191.1 bt191.2.1 bt191.2.2.1).bind fun t201 => (if t201 = true then ((root_Right.f k bt172.1).bind fun t202 => (if t202 = true then ((deadboltlaw09_alive.f).bind fun t203 => (rootKeeps.j0 k t159 bt172.1 (!t203) t162 t163 t164 bt167.1 bt167.2.1 bt167.2.2)) else (none))) else (none)))) else (none)) else (none))) else (none))))) else ((deadboltlaw09_alive.f).bind fun t176 => (if t176 = true then (some ((bt172.1.length : Int) == 0)) else (none)))))) = some r := H
 have A6 := Aside0.mk A60
 clear A60
 replace H := Option.bind_eq_some_iff.mp H
 obtain ⟨⟨t167, t168, t169⟩, A70, H⟩ := H
 replace H : ((root_Set.f t159 t162 t163 t164).bind fun bt172 => (if bt172.2 = 0 then ((root_Get.f bt172.1 t162).bind fun bt177 => ((root_Get.f t159 a3).bind fun bt184 => ((root_Get.f bt172.1 a3).bind fun bt191 => (if bt177.2.2.2 = 0 then ((deadboltref09_Spots.f k bt177.1 bt177.2.1 bt177.2.2.1 t162 t163 t164).bind fun t198 => (if t198 = true then (if bt184.2.2.2 = bt191.2.2.2 then (if a3 = t162 then ((root_Right.f k bt172.1).bind fun t199 => (if t199 = true then ((deadboltlaw09_alive.f).bind fun t200 => (rootKeeps.j0 k t159 bt172.1 (!t200) t162 t163 t164 t167 t168 t169)) else (none))) else ((deadboltref09_Spots.f k bt184.1 bt184.2.1 bt184.2.2.1 bt191.1 bt191.2.1 bt191.2.2.1).bind fun t201 => (if t201 = true then ((root_Right.f k bt172.1).bind fun t202 => (if t202 = true then ((deadboltlaw09_alive.f).bind fun t203 => (rootKeeps.j0 k t159 bt172.1 (!t203) t162 t163 t164 t167 t168 t169)) else (none))) else (none)))) else (none)) else (none))) else (none))))) else ((deadboltlaw09_alive.f).bind fun t176 => (if t176 = true then (some ((bt172.1.length : Int) == 0)) else (none))))) = some r := H
 have A7 := Aside0.mk A70
 clear A70
 replace H := Option.bind_eq_some_iff.mp H
 obtain ⟨⟨t172, t175⟩, A80, H⟩ := H
 replace H : (if t175 = 0 then ((root_Get.f t172 t162).bind fun bt177 => ((root_Get.f t159 a3).bind fun bt184 => ((root_Get.f t172 a3).bind fun bt191 => (if bt177.2.2.2 = 0 then ((deadboltref09_Spots.f k bt177.1 bt177.2.1 bt177.2.2.1 t162 t163 t164).bind fun t198 => (if t198 = true then (if bt184.2.2.2 = bt191.2.2.2 then (if a3 = t162 then ((root_Right.f k t172).bind fun t199 => (if t199 = true then ((deadboltlaw09_alive.f).bind fun t200 => (rootKeeps.j0 k t159 t172 (!t200) t162 t163 t164 t167 t168 t169)) else (none))) else ((deadboltref09_Spots.f k bt184.1 bt184.2.1 bt184.2.2.1 bt191.1 bt191.2.1 bt191.2.2.1).bind fun t201 => (if t201 = true then ((root_Right.f k t172).bind fun t202 => (if t202 = true then ((deadboltlaw09_alive.f).bind fun t203 => (rootKeeps.j0 k t159 t172 (!t203) t162 t163 t164 t167 t168 t169)) else (none))) else (none)))) else (none)) else (none))) else (none))))) else ((deadboltlaw09_alive.f).bind fun t176 => (if t176 = true then (some ((t172.length : Int) == 0)) else (none)))) = some r := H
 have A8 := Aside0.mk A80
 clear A80
 by_cases c9 : t175 = 0
 ·rw [if_pos c9] at H
  have c9b0 : (t175 == 0) = true := beq_iff_eq.mpr c9
  have c9b1 : (t175 != 0) = false := bne_eq_false_iff_eq.mpr c9
  clear c9
  replace H := Option.bind_eq_some_iff.mp H
  obtain ⟨⟨t177, t178, t179, t182⟩, A100, H⟩ := H
  replace H : ((root_Get.f t159 a3).bind fun bt184 => ((root_Get.f t172 a3).bind fun bt191 => (if t182 = 0 then ((deadboltref09_Spots.f k t177 t178 t179 t162 t163 t164).bind fun t198 => (if t198 = true then (if bt184.2.2.2 = bt191.2.2.2 then (if a3 = t162 then ((root_Right.f k t172).bind fun t199 => (if t199 = true then ((deadboltlaw09_alive.f).bind fun t200 => (rootKeeps.j0 k t159 t172 (!t200) t162 t163 t164 t167 t168 t169)) else (none))) else ((deadboltref09_Spots.f k bt184.1 bt184.2.1 bt184.2.2.1 bt191.1 bt191.2.1 bt191.2.2.1).bind fun t201 => (if t201 = true then ((root_Right.f k t172).bind fun t202 => (if t202 = true then ((deadboltlaw09_alive.f).bind fun t203 => (rootKeeps.j0 k t159 t172 (!t203) t162 t163 t164 t167 t168 t169)) else (none))) else (none)))) else (none)) else (none))) else (none)))) = some r := H
  have A10 := Aside0.mk A100
  clear A100
  replace H := Option.bind_eq_some_iff.mp H
  obtain ⟨⟨t184, t185, t186, t189⟩, A110, H⟩ := H
  replace H : ((root_Get.f t172 a3).bind fun bt191 => (if t182 = 0 then ((deadboltref09_Spots.f k t177 t178 t179 t162 t163 t164).bind fun t198 => (if t198 = true then (if t189 = bt191.2.2.2 then (if a3 = t162 then ((root_Right.f k t172).bind fun t199 => (if t199 = true then ((deadboltlaw09_alive.f).bind fun t200 => (rootKeeps.j0 k t159 t172 (!t200) t162 t163 t164 t167 t168 t169)) else (none))) else ((deadboltref09_Spots.f k t184 t185 t186 bt191.1 bt191.2.1 bt191.2.2.1).bind fun t201 => (if t201 = true then ((root_Right.f k t172).bind fun t202 => (if t202 = true then ((deadboltlaw09_alive.f).bind fun t203 => (rootKeeps.j0 k t159 t172 (!t203) t162 t163 t164 t167 t168 t169)) else (none))) else (none)))) else (none)) else (none))) else (none))) = some r := H
  have A11 := Aside0.mk A110
  clear A110
  replace H := Option.bind_eq_some_iff.mp H
  obtain ⟨⟨t191, t192, t193, t196⟩, A120, H⟩ := H
  replace H : (if t182 = 0 then ((deadboltref09_Spots.f k t177 t178 t179 t162 t163 t164).bind fun t198 => (if t198 = true then (if t189 = t196 then (if a3 = t162 then ((root_Right.f k t172).bind fun t199 => (if t199 = true then ((deadboltlaw09_alive.f).bind fun t200 => (rootKeeps.j0 k t159 t172 (!t200) t162 t163 t164 t167 t168 t169)) else (none))) else ((deadboltref09_Spots.f k t184 t185 t186 t191 t192 t193).bind fun t201 => (if t201 = true then ((root_Right.f k t172).bind fun t202 => (if t202 = true then ((deadboltlaw09_alive.f).bind fun t203 => (rootKeeps.j0 k t159 t172 (!t203) t162 t163 t164 t167 t168 t169)) else (none))) else (none)))) else (none)) else (none))) else (none)) = some r := H
  have A12 := Aside0.mk A120
  clear A120
  have HC13 := Aside0.mk H
  clear H
  go_enter Try.func5, Try.ntmps5
  try go_wp2_with (first | ((with_reducible refine gate_dst (N := 5) rfl ?_); (try (refine gate_guard (by rfl) ?_; dsimp only)); refine box_event ?hg (N := 5) ?hd (cs := #[.int .i64 a1_0, .int .i64 a1_1, .slice A1_2 l1_2.length c1_2]) (t := 33) ?hr ?_; (case hd => rfl); (case hg => rfl); (case hr => first | (go_simp; done) | (go_simp; rfl)); intro gb157 hg w14 hbox hb; have n0_ := Aside0.mk (below_step (zB HB) hb); have n1_ := Aside0.mk (hbox); have n2_ := Aside0.mk ((by rw [hg]; exact (below_size (zB HB)) : w.heap.size ≤ gb157)); have n3_ := Aside0.mk ((by rw [hg]; exact (below_size (zB HB)) : w.heap.size ≤ gb157)); clear HB; have HB := n0_; have BK157 := n1_; have GW157 := n2_; have GE157 := n3_; clear n0_ n1_ n2_ n3_; clear hb hbox hg) | ((with_reducible refine gate_dst (N := 6) rfl ?_); (try (refine gate_guard (by rfl) ?_; dsimp only)); refine box_event ?hg (N := 6) ?hd (cs := #[.int .i64 a2_0, .int .i64 a2_1, .slice A2_2 l2_2.length c2_2]) (t := 33) ?hr ?_; (case hd => rfl); (case hg => rfl); (case hr => first | (go_simp; done) | (go_simp; rfl)); intro gb158 hg w15 hbox hb; have n0_ := Aside0.mk (blk_below (g := gb157) (o := .cells #[.int .i64 a1_0, .int .i64 a1_1, .slice A1_2 l1_2.length c1_2] 33 (0, 0)) (zK BK157) hb); have n1_ := Aside0.mk (below_step (zB1 HB GE157) hb); have n2_ := Aside0.mk (hbox); have n3_ := Aside0.mk ((by rw [hg]; exact (below_size (zB1 HB GE157)) : w.heap.size ≤ gb158)); have n4_ := Aside0.mk ((by rw [hg]; exact (below_size (zB1 HB GE157)) : w.heap.size ≤ gb158)); have n5_ := Aside0.mk ((by rw [hg]; exact Nat.ne_of_lt (blk_lt (g := gb157) (o := .cells #[.int .i64 a1_0, .int .i64 a1_1, .slice A1_2 l1_2.length c1_2] 33 (0, 0)) (zK BK157)) : gb157 ≠ gb158)); have n6_ := Aside0.mk ((by rw [hg]; exact Nat.ne_of_gt (blk_lt (g := gb157) (o := .cells #[.int .i64 a1_0, .int .i64 a1_1, .slice A1_2 l1_2.length c1_2] 33 (0, 0)) (zK BK157)) : gb158 ≠ gb157)); clear BK157; clear HB; have BK157 := n0_; have HB := n1_; have BK158 := n2_; have GW158 := n3_; have GE158 := n4_; have NB157_158 := n5_; have NB158_157 := n6_; clear n0_ n1_ n2_ n3_ n4_ n5_ n6_; clear hb hbox hg))
  have n0_ := Aside0.mk (blk_drew BK157.out)
  have n1_ := Aside0.mk (blk_drew BK158.out)
  have n2_ := Aside0.mk (below_drew1 HB.out)
  clear BK157
  clear BK158
  clear HB
  have BK157 := n0_
  have BK158 := n1_
  have HB := n2_
  clear n0_ n1_ n2_
  refine start_ (n := 9) (S := fun w' => w'.cell? ⟨gb157, 0, none⟩ = some (.int .i64 a1_0) ∧ w'.cell? ⟨gb157, 1, none⟩ = some (.int .i64 a1_1) ∧ w'.cell? ⟨gb157, 2, none⟩ = some (.slice A1_2 l1_2.length c1_2) ∧ w'.cell? ⟨gb158, 0, none⟩ = some (.int .i64 a2_0) ∧ w'.cell? ⟨gb158, 1, none⟩ = some (.int .i64 a2_1) ∧ w'.cell? ⟨gb158, 2, none⟩ = some (.slice A2_2 l2_2.length c2_2)) (ds := [7, 8]) #[false, false, false, false, false, false, false, false, false] (by kernel_rfl) rfl rfl ⟨(blk_cell BK157.out 0).trans rfl, (blk_cell BK157.out 1).trans rfl, (blk_cell BK157.out 2).trans rfl, (blk_cell BK158.out 0).trans rfl, (blk_cell BK158.out 1).trans rfl, (blk_cell BK158.out 2).trans rfl⟩ (fun hHeld => ?_); refine with_tabW rootKeeps.tab1 rootKeeps.bits1 (fun HT_ HW_ => ?_)
  generalize w15.drew = w16 at BK157 BK158 HB hHeld ⊢
  refine pure_ (i := 0) (N := some 27) (v := ?_) (a' := ?_) #[true, false, false, false, false, false, false, false, false] rfl rfl (any_of HT_.out (by kernel_rfl)) (fun _ _ _ h => h) (Or.inl ⟨by rfl, ?_⟩) ?_ ?_
  rotate_left
  ·intro w'
   go_simp
   with_reducible rfl
  rotate_left
  ·simp only [Act.put, List.setIfInBounds_toArray, List.set_cons_zero, List.set_cons_succ, i64_w, i32_w]
   rfl
  refine take_ (i := 2) (N := some 29) (v := ?_) (a' := ?_) #[true, false, true, false, false, false, false, false, false] rfl rfl (take_ofW HT_.out HW_.out (by kernel_rfl)) (fun _ _ _ h => h) (Or.inl ⟨by rfl, ?_⟩) hHeld ?_ ?_
  rotate_left
  ·rintro w' ⟨s0, s1, s2, s3, s4, s5⟩
   go_simp
   with_reducible rfl
  rotate_left
  ·simp only [Act.put, List.setIfInBounds_toArray, List.set_cons_zero, List.set_cons_succ, i64_w, i32_w]
   rfl
  refine take_ (i := 4) (N := some 31) (v := ?_) (a' := ?_) #[true, false, true, false, true, false, false, false, false] rfl rfl (take_ofW HT_.out HW_.out (by kernel_rfl)) (fun _ _ _ h => h) (Or.inl ⟨by rfl, ?_⟩) hHeld ?_ ?_
  rotate_left
  ·rintro w' ⟨s0, s1, s2, s3, s4, s5⟩
   go_simp
   with_reducible rfl
  rotate_left
  ·simp only [Act.put, List.setIfInBounds_toArray, List.set_cons_zero, List.set_cons_succ, i64_w, i32_w]
   rfl
  refine one_ (i := 1) (N := some 28) #[true, true, true, false, true, false, false, false, false] rfl rfl (one_of HT_.out (by kernel_rfl)) (by decide) (fun K hK => ?_)
  refine goes_ Try.func10 (by kernel_rfl) rfl #[.slice A0 l0.length c0] (by rfl) rfl rfl zP ?_
  with_reducible refine (deadboltlaw09_few.calls k (fun k_ => k_ < w.heap.size) _ _ l0 t159 _ ?side1 A5.out).mono ?_
  (case side1 => exact Kd.V_mk HC0.out (Kd.F_below (Kd.C_F k33_heap HR0.out) (zB2 HB GE157 GE158)))
  rintro e w17 ⟨v160, rfl, ho0, hb⟩
  refine ⟨_, rfl, ?_⟩
  have n0_ := Aside0.mk (Kd.N_lower (Kd.N_mono (ok' := fun k_ => k_ ≠ gb157 ∧ k_ ≠ gb158) ho0 (fun k_ hk_ => ⟨Or.elim hk_ (fun hs_ => fun e_ => Nat.not_le.2 hs_ (by rw [e_]; exact GW157.out)) (fun hn_ => (Kd.freshB (g := gb157) (o := .cells #[.int .i64 a1_0, .int .i64 a1_1, .slice A1_2 l1_2.length c1_2] 33 (0, 0)) (zK BK157) k_ hn_)), Or.elim hk_ (fun hs_ => fun e_ => Nat.not_le.2 hs_ (by rw [e_]; exact GW158.out)) (fun hn_ => (Kd.freshB (g := gb158) (o := .cells #[.int .i64 a2_0, .int .i64 a2_1, .slice A2_2 l2_2.length c2_2] 33 (0, 0)) (zK BK158) k_ hn_))⟩)) (below_size (zB2 HB GE157 GE158)))
  have n1_ := Aside0.mk (blk_below (g := gb157) (o := .cells #[.int .i64 a1_0, .int .i64 a1_1, .slice A1_2 l1_2.length c1_2] 33 (0, 0)) (zK BK157) hb)
  have n2_ := Aside0.mk (blk_below (g := gb158) (o := .cells #[.int .i64 a2_0, .int .i64 a2_1, .slice A2_2 l2_2.length c2_2] 33 (0, 0)) (zK BK158) hb)
  have n3_ := Aside0.mk (below_step (zB2 HB GE157 GE158) hb)
  clear BK157
  clear BK158
  clear HB
  have HO161 := n0_
  have BK157 := n1_
  have BK158 := n2_
  have HB := n3_
  clear n0_ n1_ n2_ n3_
  (try clear hb)
  (try clear hb2)
  (try clear hk)
  (try clear hi)
  (try clear ho0)
  refine hK.out _ _ ⟨(blk_cell BK157.out 0).trans rfl, (blk_cell BK157.out 1).trans rfl, (blk_cell BK157.out 2).trans rfl, (blk_cell BK158.out 0).trans rfl, (blk_cell BK158.out 1).trans rfl, (blk_cell BK158.out 2).trans rfl⟩ (fun hHeld => ?_)
  clear hK K
  refine norm_ (a' := ?_) ?_ ?_
  rotate_left
  ·show Act.put _ (some 28) _ = _
   simp only [Act.put, List.setIfInBounds_toArray, List.set_cons_zero, List.set_cons_succ, i64_w, i32_w]
   rfl
  refine one_ (i := 3) (N := some 30) #[true, true, true, true, true, false, false, false, false] rfl rfl (one_of HT_.out (by kernel_rfl)) (by decide) (fun K hK => ?_)
  refine goes_ Try.func15 (by kernel_rfl) rfl #[.agg #[.int .i64 a1_0, .int .i64 a1_1, .slice A1_2 l1_2.length c1_2]] (by rfl) rfl rfl zP ?_
  with_reducible refine (deadboltlaw09_cut.calls a1_0 a1_1 (fun k_ => k_ < w.heap.size) _ _ l1_2 t162 t163 t164 _ ?side1 A6.out).mono ?_
  (case side1 => exact Kd.V_mk HC1_2.out (Kd.F_below (Kd.C_F (Kd.heap_int .i64) HR1_2.out) (zB2 HB GE157 GE158)))
  rintro e w18 ⟨v165, rfl, ho0, hb⟩
  refine ⟨_, rfl, ?_⟩
  have n0_ := Aside0.mk (Kd.N_below (zN HO161) hb)
  have n1_ := Aside0.mk (Kd.V_lower (Kd.V_mono (ok' := fun k_ => some k_ ≠ (v160 : Value).ownBlock ∧ k_ ≠ gb157 ∧ k_ ≠ gb158) ho0 (fun k_ hk_ => ⟨Or.elim hk_ (fun hs_ => fun e_ => Nat.not_le.2 hs_ (Kd.N_base HO161.out k_ e_.symm)) (fun hn_ => (Kd.fresh' (Kd.N_lt (zN HO161)) k_ hn_)), Or.elim hk_ (fun hs_ => fun e_ => Nat.not_le.2 hs_ (by rw [e_]; exact GW157.out)) (fun hn_ => (Kd.freshB (g := gb157) (o := .cells #[.int .i64 a1_0, .int .i64 a1_1, .slice A1_2 l1_2.length c1_2] 33 (0, 0)) (zK BK157) k_ hn_)), Or.elim hk_ (fun hs_ => fun e_ => Nat.not_le.2 hs_ (by rw [e_]; exact GW158.out)) (fun hn_ => (Kd.freshB (g := gb158) (o := .cells #[.int .i64 a2_0, .int .i64 a2_1, .slice A2_2 l2_2.length c2_2] 33 (0, 0)) (zK BK158) k_ hn_))⟩)) (below_size (zB2 HB GE157 GE158)))
  have n2_ := Aside0.mk (blk_below (g := gb157) (o := .cells #[.int .i64 a1_0, .int .i64 a1_1, .slice A1_2 l1_2.length c1_2] 33 (0, 0)) (zK BK157) hb)
  have n3_ := Aside0.mk (blk_below (g := gb158) (o := .cells #[.int .i64 a2_0, .int .i64 a2_1, .slice A2_2 l2_2.length c2_2] 33 (0, 0)) (zK BK158) hb)
  have n4_ := Aside0.mk (below_step (zB2 HB GE157 GE158) hb)
  clear HO161
  clear BK157
  clear BK158
  clear HB
  have HO161 := n0_
  have HO166 := n1_
  have BK157 := n2_
  have BK158 := n3_
  have HB := n4_
  clear n0_ n1_ n2_ n3_ n4_
  (try clear hb)
  (try clear hb2)
  (try clear hk)
  (try clear hi)
  (try clear ho0)
  refine hK.out _ _ ⟨(blk_cell BK157.out 0).trans rfl, (blk_cell BK157.out 1).trans rfl, (blk_cell BK157.out 2).trans rfl, (blk_cell BK158.out 0).trans rfl, (blk_cell BK158.out 1).trans rfl, (blk_cell BK158.out 2).trans rfl⟩ (fun hHeld => ?_)
  clear hK K
  refine norm_ (a' := ?_) ?_ ?_
  rotate_left
  ·show Act.put _ (some 30) _ = _
   simp only [Act.put, List.setIfInBounds_toArray, List.set_cons_zero, List.set_cons_succ, i64_w, i32_w]
   rfl
  refine one_ (i := 5) (N := some 32) #[true, true, true, true, true, true, false, false, false] rfl rfl (one_of HT_.out (by kernel_rfl)) (by decide) (fun K hK => ?_)
  refine goes_ Try.func15 (by kernel_rfl) rfl #[.agg #[.int .i64 a2_0, .int .i64 a2_1, .slice A2_2 l2_2.length c2_2]] (by rfl) rfl rfl zP ?_
  with_reducible refine (deadboltlaw09_cut.calls a2_0 a2_1 (fun k_ => k_ < w.heap.size) _ _ l2_2 t167 t168 t169 _ ?side1 A7.out).mono ?_
  (case side1 => exact Kd.V_mk HC2_2.out (Kd.F_below (Kd.C_F (Kd.heap_int .i64) HR2_2.out) (zB2 HB GE157 GE158)))
  rintro e w19 ⟨v170, rfl, ho0, hb⟩
  refine ⟨_, rfl, ?_⟩
  have n0_ := Aside0.mk (Kd.N_below (zN HO161) hb)
  have n1_ := Aside0.mk (Kd.V_below (zV HO166) hb)
  have n2_ := Aside0.mk (Kd.V_lower (Kd.V_mono (ok' := fun k_ => some k_ ≠ (v160 : Value).ownBlock ∧ k_ ≠ gb157 ∧ k_ ≠ gb158) ho0 (fun k_ hk_ => ⟨Or.elim hk_ (fun hs_ => fun e_ => Nat.not_le.2 hs_ (Kd.N_base HO161.out k_ e_.symm)) (fun hn_ => (Kd.fresh' (Kd.N_lt (zN HO161)) k_ hn_)), Or.elim hk_ (fun hs_ => fun e_ => Nat.not_le.2 hs_ (by rw [e_]; exact GW157.out)) (fun hn_ => (Kd.freshB (g := gb157) (o := .cells #[.int .i64 a1_0, .int .i64 a1_1, .slice A1_2 l1_2.length c1_2] 33 (0, 0)) (zK BK157) k_ hn_)), Or.elim hk_ (fun hs_ => fun e_ => Nat.not_le.2 hs_ (by rw [e_]; exact GW158.out)) (fun hn_ => (Kd.freshB (g := gb158) (o := .cells #[.int .i64 a2_0, .int .i64 a2_1, .slice A2_2 l2_2.length c2_2] 33 (0, 0)) (zK BK158) k_ hn_))⟩)) (below_size (zB2 HB GE157 GE158)))
  have n3_ := Aside0.mk (blk_below (g := gb157) (o := .cells #[.int .i64 a1_0, .int .i64 a1_1, .slice A1_2 l1_2.length c1_2] 33 (0, 0)) (zK BK157) hb)
  have n4_ := Aside0.mk (blk_below (g := gb158) (o := .cells #[.int .i64 a2_0, .int .i64 a2_1, .slice A2_2 l2_2.length c2_2] 33 (0, 0)) (zK BK158) hb)
  have n5_ := Aside0.mk (below_step (zB2 HB GE157 GE158) hb)
  clear HO161
  clear HO166
  clear BK157
  clear BK158
  clear HB
  have HO161 := n0_
  have HO166 := n1_
  have HO171 := n2_
  have BK157 := n3_
  have BK158 := n4_
  have HB := n5_
  clear n0_ n1_ n2_ n3_ n4_ n5_
  (try clear hb)
  (try clear hb2)
  (try clear hk)
  (try clear hi)
  (try clear ho0)
  obtain ⟨Ao22, co22, eo22⟩ := Kd.V_slice HO166.out
  (first | subst eo22 | (injection eo22 with f1_ f2_ f3_; have f4_ := f1_.symm; have f5_ := f3_.symm; clear f1_ f2_ f3_; subst f4_; subst f5_))
  obtain ⟨Ao26, co26, eo26⟩ := Kd.V_slice HO171.out
  (first | subst eo26 | (injection eo26 with f1_ f2_ f3_; have f4_ := f1_.symm; have f5_ := f3_.symm; clear f1_ f2_ f3_; subst f4_; subst f5_))
  refine hK.out _ _ ⟨(blk_cell BK157.out 0).trans rfl, (blk_cell BK157.out 1).trans rfl, (blk_cell BK157.out 2).trans rfl, (blk_cell BK158.out 0).trans rfl, (blk_cell BK158.out 1).trans rfl, (blk_cell BK158.out 2).trans rfl⟩ (fun hHeld => ?_)
  clear hK K
  refine norm_ (a' := ?_) ?_ ?_
  rotate_left
  ·show Act.put _ (some 32) _ = _
   simp only [Act.put, List.setIfInBounds_toArray, List.set_cons_zero, List.set_cons_succ, i64_w, i32_w]
   rfl
  refine pure_ (i := 6) (N := some 0) (v := ?_) (a' := ?_) #[true, true, true, true, true, true, true, false, false] rfl rfl (any_of HT_.out (by kernel_rfl)) (fun _ _ _ h => h) (Or.inl ⟨by rfl, ?_⟩) ?_ ?_
  rotate_left
  ·intro w'
   go_simp
   with_reducible rfl
  rotate_left
  ·simp only [Act.put, List.setIfInBounds_toArray, List.set_cons_zero, List.set_cons_succ, i64_w, i32_w]
   rfl
  refine last_ (i := 7) (N := none) #[true, true, true, true, true, true, true, true, false] rfl rfl (one_of HT_.out (by kernel_rfl)) (by decide) (fun K hK => ?_)
  have hs20 : w19.cell? ⟨gb157, 0, none⟩ = some (.int .i64 a1_0) := (blk_cell BK157.out 0).trans rfl
  have hfs20 := blk_frozen BK157.out 0
  have hns20_1 := NB158_157.out
  have hms20_1 := NB157_158.out
  have hs21 : w19.cell? ⟨gb157, 1, none⟩ = some (.int .i64 a1_1) := (blk_cell BK157.out 1).trans rfl
  have hfs21 := blk_frozen BK157.out 1
  have hns21_1 := NB158_157.out
  have hms21_1 := NB157_158.out
  have hs23 : w19.cell? ⟨gb157, 2, none⟩ = some (.slice A1_2 l1_2.length c1_2) := (blk_cell BK157.out 2).trans rfl
  have hfs23 := blk_frozen BK157.out 2
  have hns23_1 := NB158_157.out
  have hms23_1 := NB157_158.out
  refine skip_ (w1 := ?_) (by rfl) rfl ?_ ?_
  rotate_left
  ·go_simp
   rfl
  refine hK.out _ _ ?_
  clear hK K
  refine last_ (i := 8) (N := none) #[true, true, true, true, true, true, true, true, true] rfl rfl (one_of HT_.out (by kernel_rfl)) (by decide) (fun K hK => ?_)
  have hs24 : w19.cell? ⟨gb158, 0, none⟩ = some (.int .i64 a2_0) := (blk_cell BK158.out 0).trans rfl
  have hfs24 := blk_frozen BK158.out 0
  have hns24_0 := NB157_158.out
  have hms24_0 := NB158_157.out
  have hs25 : w19.cell? ⟨gb158, 1, none⟩ = some (.int .i64 a2_1) := (blk_cell BK158.out 1).trans rfl
  have hfs25 := blk_frozen BK158.out 1
  have hns25_0 := NB157_158.out
  have hms25_0 := NB158_157.out
  have hs27 : w19.cell? ⟨gb158, 2, none⟩ = some (.slice A2_2 l2_2.length c2_2) := (blk_cell BK158.out 2).trans rfl
  have hfs27 := blk_frozen BK158.out 2
  have hns27_0 := NB157_158.out
  have hms27_0 := NB158_157.out
  refine skip_ (w1 := ?_) (by rfl) rfl ?_ ?_
  rotate_left
  ·go_simp
   rfl
  refine hK.out _ _ ?_
  clear hK K
  refine done_ (done_of HT_.out (by kernel_rfl)) ?_
  have n0_ : Aside0 (Kd.N k33 33 ((((((w19.setCell ⟨gb157, 0, none⟩ (.int .i64 t162)).setCell ⟨gb157, 1, none⟩ (.int .i64 t163)).setCell ⟨gb157, 2, none⟩ (.slice Ao22 t164.length co22)).setCell ⟨gb158, 0, none⟩ (.int .i64 t167)).setCell ⟨gb158, 1, none⟩ (.int .i64 t168)).setCell ⟨gb158, 2, none⟩ (.slice Ao26 t169.length co26)) w.heap.size (fun k_ => k_ ≠ gb157 ∧ k_ ≠ gb158) v160 t159) := ⟨by (with_reducible repeat (first | apply Kd.N_alloc | apply Kd.N_drewN | apply Kd.N_drew)); exact Kd.N_mono (Kd.N_far (p := ⟨gb158, 2, none⟩) (Kd.N_far (p := ⟨gb158, 1, none⟩) (Kd.N_far (p := ⟨gb158, 0, none⟩) (Kd.N_far (p := ⟨gb157, 2, none⟩) (Kd.N_far (p := ⟨gb157, 1, none⟩) (Kd.N_far (p := ⟨gb157, 0, none⟩) (Kd.N_mono (Kd.N_mono HO161.out (fun k_ hk => (⟨hk, hk.1⟩ : _ ∧ k_ ≠ gb157))) (fun k_ hk => (⟨hk, hk.1.2⟩ : _ ∧ k_ ≠ gb158))) (fun _ hk => hk.1.2) (.int .i64 t162)) (fun _ hk => hk.1.2) (.int .i64 t163)) (fun _ hk => hk.1.2) (.slice Ao22 t164.length co22)) (fun _ hk => hk.2) (.int .i64 t167)) (fun _ hk => hk.2) (.int .i64 t168)) (fun _ hk => hk.2) (.slice Ao26 t169.length co26)) (fun _ hk => ⟨hk.1.1.1, hk.1.1.2⟩)⟩
  have n1_ : Aside0 (Kd.V (Kd.int .i64) 3 ((((((w19.setCell ⟨gb157, 0, none⟩ (.int .i64 t162)).setCell ⟨gb157, 1, none⟩ (.int .i64 t163)).setCell ⟨gb157, 2, none⟩ (.slice Ao22 t164.length co22)).setCell ⟨gb158, 0, none⟩ (.int .i64 t167)).setCell ⟨gb158, 1, none⟩ (.int .i64 t168)).setCell ⟨gb158, 2, none⟩ (.slice Ao26 t169.length co26)) w.heap.size (fun k_ => some k_ ≠ (v160 : Value).ownBlock ∧ k_ ≠ gb157 ∧ k_ ≠ gb158) (.slice Ao22 t164.length co22) t164) := ⟨by (with_reducible repeat (first | apply Kd.V_alloc | apply Kd.V_drewN | apply Kd.V_drew)); exact Kd.V_mono (Kd.V_far (p := ⟨gb158, 2, none⟩) (Kd.V_far (p := ⟨gb158, 1, none⟩) (Kd.V_far (p := ⟨gb158, 0, none⟩) (Kd.V_far (p := ⟨gb157, 2, none⟩) (Kd.V_far (p := ⟨gb157, 1, none⟩) (Kd.V_far (p := ⟨gb157, 0, none⟩) (Kd.V_mono (Kd.V_mono HO166.out (fun k_ hk => (⟨hk, hk.2.1⟩ : _ ∧ k_ ≠ gb157))) (fun k_ hk => (⟨hk, hk.1.2.2⟩ : _ ∧ k_ ≠ gb158))) (fun _ hk => hk.1.2) (.int .i64 t162)) (fun _ hk => hk.1.2) (.int .i64 t163)) (fun _ hk => hk.1.2) (.slice Ao22 t164.length co22)) (fun _ hk => hk.2) (.int .i64 t167)) (fun _ hk => hk.2) (.int .i64 t168)) (fun _ hk => hk.2) (.slice Ao26 t169.length co26)) (fun _ hk => ⟨hk.1.1.1, ⟨hk.1.1.2.1, hk.1.1.2.2⟩⟩)⟩
  have n2_ : Aside0 (Kd.V (Kd.int .i64) 3 ((((((w19.setCell ⟨gb157, 0, none⟩ (.int .i64 t162)).setCell ⟨gb157, 1, none⟩ (.int .i64 t163)).setCell ⟨gb157, 2, none⟩ (.slice Ao22 t164.length co22)).setCell ⟨gb158, 0, none⟩ (.int .i64 t167)).setCell ⟨gb158, 1, none⟩ (.int .i64 t168)).setCell ⟨gb158, 2, none⟩ (.slice Ao26 t169.length co26)) w.heap.size (fun k_ => some k_ ≠ (v160 : Value).ownBlock ∧ k_ ≠ gb157 ∧ k_ ≠ gb158) (.slice Ao26 t169.length co26) t169) := ⟨by (with_reducible repeat (first | apply Kd.V_alloc | apply Kd.V_drewN | apply Kd.V_drew)); exact Kd.V_mono (Kd.V_far (p := ⟨gb158, 2, none⟩) (Kd.V_far (p := ⟨gb158, 1, none⟩) (Kd.V_far (p := ⟨gb158, 0, none⟩) (Kd.V_far (p := ⟨gb157, 2, none⟩) (Kd.V_far (p := ⟨gb157, 1, none⟩) (Kd.V_far (p := ⟨gb157, 0, none⟩) (Kd.V_mono (Kd.V_mono HO171.out (fun k_ hk => (⟨hk, hk.2.1⟩ : _ ∧ k_ ≠ gb157))) (fun k_ hk => (⟨hk, hk.1.2.2⟩ : _ ∧ k_ ≠ gb158))) (fun _ hk => hk.1.2) (.int .i64 t162)) (fun _ hk => hk.1.2) (.int .i64 t163)) (fun _ hk => hk.1.2) (.slice Ao22 t164.length co22)) (fun _ hk => hk.2) (.int .i64 t167)) (fun _ hk => hk.2) (.int .i64 t168)) (fun _ hk => hk.2) (.slice Ao26 t169.length co26)) (fun _ hk => ⟨hk.1.1.1, ⟨hk.1.1.2.1, hk.1.1.2.2⟩⟩)⟩
  have n3_ : Aside0 (((((((w19.setCell ⟨gb157, 0, none⟩ (.int .i64 t162)).setCell ⟨gb157, 1, none⟩ (.int .i64 t163)).setCell ⟨gb157, 2, none⟩ (.slice Ao22 t164.length co22)).setCell ⟨gb158, 0, none⟩ (.int .i64 t167)).setCell ⟨gb158, 1, none⟩ (.int .i64 t168)).setCell ⟨gb158, 2, none⟩ (.slice Ao26 t169.length co26)).heap[gb157]? = some (.cells #[.int .i64 t162, .int .i64 t163, .slice Ao22 t164.length co22] 33 (0, 0))) := ⟨by (with_reducible repeat (first | refine blk_drewN ?_ _ | refine blk_drew ?_ | refine blk_alloc ?_ _)); refine blk_far ?_ NB157_158.out _; (with_reducible repeat (first | refine blk_drewN ?_ _ | refine blk_drew ?_ | refine blk_alloc ?_ _)); refine blk_far ?_ NB157_158.out _; (with_reducible repeat (first | refine blk_drewN ?_ _ | refine blk_drew ?_ | refine blk_alloc ?_ _)); refine blk_far ?_ NB157_158.out _; (with_reducible repeat (first | refine blk_drewN ?_ _ | refine blk_drew ?_ | refine blk_alloc ?_ _)); refine blk_put (cs := #[.int .i64 t162, .int .i64 t163, .slice A1_2 l1_2.length c1_2]) ?_ 2 _ rfl; (with_reducible repeat (first | refine blk_drewN ?_ _ | refine blk_drew ?_ | refine blk_alloc ?_ _)); refine blk_put (cs := #[.int .i64 t162, .int .i64 a1_1, .slice A1_2 l1_2.length c1_2]) ?_ 1 _ rfl; (with_reducible repeat (first | refine blk_drewN ?_ _ | refine blk_drew ?_ | refine blk_alloc ?_ _)); refine blk_put (cs := #[.int .i64 a1_0, .int .i64 a1_1, .slice A1_2 l1_2.length c1_2]) ?_ 0 _ rfl; (with_reducible repeat (first | refine blk_drewN ?_ _ | refine blk_drew ?_ | refine blk_alloc ?_ _)); exact BK157.out⟩
  have n4_ : Aside0 (((((((w19.setCell ⟨gb157, 0, none⟩ (.int .i64 t162)).setCell ⟨gb157, 1, none⟩ (.int .i64 t163)).setCell ⟨gb157, 2, none⟩ (.slice Ao22 t164.length co22)).setCell ⟨gb158, 0, none⟩ (.int .i64 t167)).setCell ⟨gb158, 1, none⟩ (.int .i64 t168)).setCell ⟨gb158, 2, none⟩ (.slice Ao26 t169.length co26)).heap[gb158]? = some (.cells #[.int .i64 t167, .int .i64 t168, .slice Ao26 t169.length co26] 33 (0, 0))) := ⟨by (with_reducible repeat (first | refine blk_drewN ?_ _ | refine blk_drew ?_ | refine blk_alloc ?_ _)); refine blk_put (cs := #[.int .i64 t167, .int .i64 t168, .slice A2_2 l2_2.length c2_2]) ?_ 2 _ rfl; (with_reducible repeat (first | refine blk_drewN ?_ _ | refine blk_drew ?_ | refine blk_alloc ?_ _)); refine blk_put (cs := #[.int .i64 t167, .int .i64 a2_1, .slice A2_2 l2_2.length c2_2]) ?_ 1 _ rfl; (with_reducible repeat (first | refine blk_drewN ?_ _ | refine blk_drew ?_ | refine blk_alloc ?_ _)); refine blk_put (cs := #[.int .i64 a2_0, .int .i64 a2_1, .slice A2_2 l2_2.length c2_2]) ?_ 0 _ rfl; (with_reducible repeat (first | refine blk_drewN ?_ _ | refine blk_drew ?_ | refine blk_alloc ?_ _)); refine blk_far ?_ NB158_157.out _; (with_reducible repeat (first | refine blk_drewN ?_ _ | refine blk_drew ?_ | refine blk_alloc ?_ _)); refine blk_far ?_ NB158_157.out _; (with_reducible repeat (first | refine blk_drewN ?_ _ | refine blk_drew ?_ | refine blk_alloc ?_ _)); refine blk_far ?_ NB158_157.out _; (with_reducible repeat (first | refine blk_drewN ?_ _ | refine blk_drew ?_ | refine blk_alloc ?_ _)); exact BK158.out⟩
  have n5_ : Aside0 (Below w.heap.size w ((((((w19.setCell ⟨gb157, 0, none⟩ (.int .i64 t162)).setCell ⟨gb157, 1, none⟩ (.int .i64 t163)).setCell ⟨gb157, 2, none⟩ (.slice Ao22 t164.length co22)).setCell ⟨gb158, 0, none⟩ (.int .i64 t167)).setCell ⟨gb158, 1, none⟩ (.int .i64 t168)).setCell ⟨gb158, 2, none⟩ (.slice Ao26 t169.length co26))) := ⟨zB2 HB GE157 GE158⟩
  (try clear HO161)
  (try clear HO166)
  (try clear HO171)
  (try clear BK157)
  (try clear BK158)
  (try clear HB)
  generalize ((((((w19.setCell ⟨gb157, 0, none⟩ (.int .i64 t162)).setCell ⟨gb157, 1, none⟩ (.int .i64 t163)).setCell ⟨gb157, 2, none⟩ (.slice Ao22 t164.length co22)).setCell ⟨gb158, 0, none⟩ (.int .i64 t167)).setCell ⟨gb158, 1, none⟩ (.int .i64 t168)).setCell ⟨gb158, 2, none⟩ (.slice Ao26 t169.length co26)) = w28 at n0_ n1_ n2_ n3_ n4_ n5_ ⊢
  have HO161 := n0_
  have HO166 := n1_
  have HO171 := n2_
  have BK157 := n3_
  have BK158 := n4_
  have HB := n5_
  clear n0_ n1_ n2_ n3_ n4_ n5_
  have hnb29 := NB157_158.out
  have hnc29 := NB158_157.out
  have hcz30_0 : w28.cell? ⟨gb157, 0, none⟩ = some (.int .i64 t162) := (blk_cell BK157.out 0).trans rfl
  have hcz30_1 : w28.cell? ⟨gb157, 1, none⟩ = some (.int .i64 t163) := (blk_cell BK157.out 1).trans rfl
  have hcz30_2 : w28.cell? ⟨gb157, 2, none⟩ = some (.slice Ao22 t164.length co22) := (blk_cell BK157.out 2).trans rfl
  have hfz30_0 := blk_frozen BK157.out 0
  have hfz30_1 := blk_frozen BK157.out 1
  have hfz30_2 := blk_frozen BK157.out 2
  obtain ⟨Ao31, co31, eo31⟩ := Kd.N_slice HO161.out
  subst eo31
  go_upto_region 8 with (first | ((with_reducible refine gate_callee (f := 17) rfl ?_); refine goesL_ (some 36) rfl rfl Try.func17 (by kernel_rfl) rfl #[.slice Ao31 t159.length co31, .agg #[.int .i64 t162, .int .i64 t163, .slice Ao22 t164.length co22]] rfl zP ?_; (with_reducible refine (root_Set.calls (fun k_ => (k_ ≠ gb157 ∧ k_ ≠ gb158)) _ _ t159 t162 t163 (fun k_ => (some k_ ≠ (.slice Ao31 t159.length co31 : Value).ownBlock ∧ (k_ ≠ gb157 ∧ k_ ≠ gb158))) _ _ t164 t172 t175 _ ?side1 ?side2 A8.out).mono ?_); (case side1 => exact Kd.N_V (HO161.out)); (case side2 => exact HO166.out); rintro e w32 ⟨v173, rfl, ho0, hb⟩; refine ⟨_, rfl, ?_⟩; have n0_ := Aside0.mk (Kd.N_below (zN HO161) hb); have n1_ := Aside0.mk (Kd.V_below (zV HO166) hb); have n2_ := Aside0.mk (Kd.V_below (zV HO171) hb); have n3_ := Aside0.mk (Kd.V_lower (Kd.V_mono (ok' := fun k_ => k_ ≠ gb157 ∧ k_ ≠ gb158) ho0 (fun k_ hk_ => ⟨Or.elim hk_ (fun hs_ => Or.elim hs_ (fun hs_ => hs_.1) (fun hs_ => hs_.2.1)) (fun hn_ => (Kd.freshB (g := gb157) (o := .cells #[.int .i64 t162, .int .i64 t163, .slice Ao22 t164.length co22] 33 (0, 0)) (zK BK157) k_ hn_)), Or.elim hk_ (fun hs_ => Or.elim hs_ (fun hs_ => hs_.2) (fun hs_ => hs_.2.2)) (fun hn_ => (Kd.freshB (g := gb158) (o := .cells #[.int .i64 t167, .int .i64 t168, .slice Ao26 t169.length co26] 33 (0, 0)) (zK BK158) k_ hn_))⟩)) (below_size (zB2 HB GE157 GE158))); have n4_ := Aside0.mk (blk_below (g := gb157) (o := .cells #[.int .i64 t162, .int .i64 t163, .slice Ao22 t164.length co22] 33 (0, 0)) (zK BK157) hb); have n5_ := Aside0.mk (blk_below (g := gb158) (o := .cells #[.int .i64 t167, .int .i64 t168, .slice Ao26 t169.length co26] 33 (0, 0)) (zK BK158) hb); have n6_ := Aside0.mk (below_step (zB2 HB GE157 GE158) hb); clear HO161; clear HO166; clear HO171; clear BK157; clear BK158; clear HB; have HO161 := n0_; have HO166 := n1_; have HO171 := n2_; have HO174 := n3_; have BK157 := n4_; have BK158 := n5_; have HB := n6_; clear n0_ n1_ n2_ n3_ n4_ n5_ n6_; (try clear hb); (try clear hb2); (try clear hk); (try clear hi); (try clear ho0); have hcz33_0 : w32.cell? ⟨gb157, 0, none⟩ = some (.int .i64 t162) := (blk_cell BK157.out 0).trans rfl; have hcz33_1 : w32.cell? ⟨gb157, 1, none⟩ = some (.int .i64 t163) := (blk_cell BK157.out 1).trans rfl; have hcz33_2 : w32.cell? ⟨gb157, 2, none⟩ = some (.slice Ao22 t164.length co22) := (blk_cell BK157.out 2).trans rfl; have hfz33_0 := blk_frozen BK157.out 0; have hfz33_1 := blk_frozen BK157.out 1; have hfz33_2 := blk_frozen BK157.out 2; obtain ⟨Ao34, co34, eo34⟩ := Kd.V_slice HO174.out; subst eo34) | ((with_reducible refine gate_callee (f := 16) rfl ?_); refine goesL_ (some 51) rfl rfl Try.func16 (by kernel_rfl) rfl #[.slice Ao34 t172.length co34, .int .i64 t162] rfl zP ?_; (with_reducible refine (root_Get.calls (fun k_ => (k_ ≠ gb157 ∧ k_ ≠ gb158)) _ _ t172 t162 t177 t178 t179 t182 _ ?side1 A10.out).mono ?_); (case side1 => exact HO174.out); rintro e w35 ⟨v180, rfl, ho0, hb⟩; refine ⟨_, rfl, ?_⟩; have n0_ := Aside0.mk (Kd.N_below (zN HO161) hb); have n1_ := Aside0.mk (Kd.V_below (zV HO166) hb); have n2_ := Aside0.mk (Kd.V_below (zV HO171) hb); have n3_ := Aside0.mk (Kd.V_below (zV HO174) hb); have n4_ := Aside0.mk (Kd.V_lower (Kd.V_mono (ok' := fun k_ => k_ ≠ gb157 ∧ k_ ≠ gb158) ho0 (fun k_ hk_ => ⟨Or.elim hk_ (fun hs_ => hs_.1) (fun hn_ => (Kd.freshB (g := gb157) (o := .cells #[.int .i64 t162, .int .i64 t163, .slice Ao22 t164.length co22] 33 (0, 0)) (zK BK157) k_ hn_)), Or.elim hk_ (fun hs_ => hs_.2) (fun hn_ => (Kd.freshB (g := gb158) (o := .cells #[.int .i64 t167, .int .i64 t168, .slice Ao26 t169.length co26] 33 (0, 0)) (zK BK158) k_ hn_))⟩)) (below_size (zB2 HB GE157 GE158))); have n5_ := Aside0.mk (blk_below (g := gb157) (o := .cells #[.int .i64 t162, .int .i64 t163, .slice Ao22 t164.length co22] 33 (0, 0)) (zK BK157) hb); have n6_ := Aside0.mk (blk_below (g := gb158) (o := .cells #[.int .i64 t167, .int .i64 t168, .slice Ao26 t169.length co26] 33 (0, 0)) (zK BK158) hb); have n7_ := Aside0.mk (below_step (zB2 HB GE157 GE158) hb); clear HO161; clear HO166; clear HO171; clear HO174; clear BK157; clear BK158; clear HB; have HO161 := n0_; have HO166 := n1_; have HO171 := n2_; have HO174 := n3_; have HO181 := n4_; have BK157 := n5_; have BK158 := n6_; have HB := n7_; clear n0_ n1_ n2_ n3_ n4_ n5_ n6_ n7_; (try clear hb); (try clear hb2); (try clear hk); (try clear hi); (try clear ho0)) | ((with_reducible refine gate_dst (N := 11) rfl ?_); (try (refine gate_guard (by rfl) ?_; dsimp only)); refine box_event ?hg (N := 11) ?hd (cs := #[.int .i64 0, .int .i64 0, .slice none 0 0]) (t := 33) ?hr ?_; (case hd => rfl); (case hg => rfl); (case hr => first | (go_simp; done) | (go_simp; rfl)); intro gb183 hg w36 hbox hb; have n0_ := Aside0.mk (Kd.N_below (Kd.N_elderB (zN HO161) gb183 (Nat.le_of_eq hg.symm)) hb); have n1_ := Aside0.mk (Kd.V_below (Kd.V_elderB (zV HO166) gb183 (Nat.le_of_eq hg.symm)) hb); have n2_ := Aside0.mk (Kd.V_below (Kd.V_elderB (zV HO171) gb183 (Nat.le_of_eq hg.symm)) hb); have n3_ := Aside0.mk (Kd.V_below (Kd.V_elderB (zV HO174) gb183 (Nat.le_of_eq hg.symm)) hb); have n4_ := Aside0.mk (Kd.V_below (Kd.V_elderB (zV HO181) gb183 (Nat.le_of_eq hg.symm)) hb); have n5_ := Aside0.mk (blk_below (g := gb157) (o := .cells #[.int .i64 t162, .int .i64 t163, .slice Ao22 t164.length co22] 33 (0, 0)) (zK BK157) hb); have n6_ := Aside0.mk (blk_below (g := gb158) (o := .cells #[.int .i64 t167, .int .i64 t168, .slice Ao26 t169.length co26] 33 (0, 0)) (zK BK158) hb); have n7_ := Aside0.mk (below_step (zB2 HB GE157 GE158) hb); have n8_ := Aside0.mk (hbox); have n9_ := Aside0.mk ((by rw [hg]; exact (below_size (zB2 HB GE157 GE158)) : w.heap.size ≤ gb183)); have n10_ := Aside0.mk ((by rw [hg]; exact (below_size (zB2 HB GE157 GE158)) : w.heap.size ≤ gb183)); have n11_ := Aside0.mk ((by rw [hg]; exact Nat.ne_of_lt (blk_lt (g := gb157) (o := .cells #[.int .i64 t162, .int .i64 t163, .slice Ao22 t164.length co22] 33 (0, 0)) (zK BK157)) : gb157 ≠ gb183)); have n12_ := Aside0.mk ((by rw [hg]; exact Nat.ne_of_gt (blk_lt (g := gb157) (o := .cells #[.int .i64 t162, .int .i64 t163, .slice Ao22 t164.length co22] 33 (0, 0)) (zK BK157)) : gb183 ≠ gb157)); have n13_ := Aside0.mk ((by rw [hg]; exact Nat.ne_of_lt (blk_lt (g := gb158) (o := .cells #[.int .i64 t167, .int .i64 t168, .slice Ao26 t169.length co26] 33 (0, 0)) (zK BK158)) : gb158 ≠ gb183)); have n14_ := Aside0.mk ((by rw [hg]; exact Nat.ne_of_gt (blk_lt (g := gb158) (o := .cells #[.int .i64 t167, .int .i64 t168, .slice Ao26 t169.length co26] 33 (0, 0)) (zK BK158)) : gb183 ≠ gb158)); clear HO161; clear HO166; clear HO171; clear HO174; clear HO181; clear BK157; clear BK158; clear HB; have HO161 := n0_; have HO166 := n1_; have HO171 := n2_; have HO174 := n3_; have HO181 := n4_; have BK157 := n5_; have BK158 := n6_; have HB := n7_; have BK183 := n8_; have GW183 := n9_; have GE183 := n10_; have NB157_183 := n11_; have NB183_157 := n12_; have NB158_183 := n13_; have NB183_158 := n14_; clear n0_ n1_ n2_ n3_ n4_ n5_ n6_ n7_ n8_ n9_ n10_ n11_ n12_ n13_ n14_; clear hb hbox hg; have hnb37 := NB183_157.out; have hnc37 := NB157_183.out; have hnb38 := NB183_158.out; have hnc38 := NB158_183.out; have hcz39_0 : w36.cell? ⟨gb183, 0, none⟩ = some (.int .i64 0) := (blk_cell BK183.out 0).trans rfl; have hcz39_1 : w36.cell? ⟨gb183, 1, none⟩ = some (.int .i64 0) := (blk_cell BK183.out 1).trans rfl; have hcz39_2 : w36.cell? ⟨gb183, 2, none⟩ = some (.slice none 0 0) := (blk_cell BK183.out 2).trans rfl; have hfz39_0 := blk_frozen BK183.out 0; have hfz39_1 := blk_frozen BK183.out 1; have hfz39_2 := blk_frozen BK183.out 2; obtain ⟨Ao40, co40, eo40⟩ := Kd.V_slice HO181.out; subst eo40) | ((with_reducible refine gate_store (t := 33) (p := 11) rfl ?_); refine store_event (t := 33) (p := 11) (v := ?vo_w41) (w1 := (((w36.setCell ⟨gb183, 0, none⟩ (.int .i64 t177)).setCell ⟨gb183, 1, none⟩ (.int .i64 t178)).setCell ⟨gb183, 2, none⟩ (.slice Ao40 t179.length co40))) ?hg ?ho ?hn ?hr ?_; (case ho => rfl); (case hg => rfl); (case hn => rfl); (case hr => first | (go_simp; done) | (go_simp; rfl)); intro w41 hw; have n0_ : Aside0 (Kd.N k33 33 w41 w.heap.size (fun k_ => k_ ≠ gb157 ∧ k_ ≠ gb158 ∧ k_ ≠ gb183) (.slice Ao31 t159.length co31) t159) := ⟨(by rw [hw]; exact (by (with_reducible repeat (first | apply Kd.N_alloc | apply Kd.N_drewN | apply Kd.N_drew)); exact Kd.N_mono (Kd.N_far (p := ⟨gb183, 2, none⟩) (Kd.N_far (p := ⟨gb183, 1, none⟩) (Kd.N_far (p := ⟨gb183, 0, none⟩) (Kd.N_mono HO161.out (fun k_ hk => (⟨hk, hk.2⟩ : _ ∧ k_ ≠ gb183))) (fun _ hk => hk.2) (.int .i64 t177)) (fun _ hk => hk.2) (.int .i64 t178)) (fun _ hk => hk.2) (.slice Ao40 t179.length co40)) (fun _ hk => ⟨hk.1.1.1, ⟨hk.1.1.2, hk.1.2⟩⟩)))⟩; have n1_ : Aside0 (Kd.V (Kd.int .i64) 3 w41 w.heap.size (fun k_ => some k_ ≠ (.slice Ao31 t159.length co31 : Value).ownBlock ∧ k_ ≠ gb157 ∧ k_ ≠ gb158 ∧ k_ ≠ gb183) (.slice Ao22 t164.length co22) t164) := ⟨(by rw [hw]; exact (by (with_reducible repeat (first | apply Kd.V_alloc | apply Kd.V_drewN | apply Kd.V_drew)); exact Kd.V_mono (Kd.V_far (p := ⟨gb183, 2, none⟩) (Kd.V_far (p := ⟨gb183, 1, none⟩) (Kd.V_far (p := ⟨gb183, 0, none⟩) (Kd.V_mono HO166.out (fun k_ hk => (⟨hk, hk.2⟩ : _ ∧ k_ ≠ gb183))) (fun _ hk => hk.2) (.int .i64 t177)) (fun _ hk => hk.2) (.int .i64 t178)) (fun _ hk => hk.2) (.slice Ao40 t179.length co40)) (fun _ hk => ⟨hk.1.1.1, ⟨hk.1.1.2.1, ⟨hk.1.1.2.2, hk.1.2⟩⟩⟩)))⟩; have n2_ : Aside0 (Kd.V (Kd.int .i64) 3 w41 w.heap.size (fun k_ => some k_ ≠ (.slice Ao31 t159.length co31 : Value).ownBlock ∧ k_ ≠ gb157 ∧ k_ ≠ gb158 ∧ k_ ≠ gb183) (.slice Ao26 t169.length co26) t169) := ⟨(by rw [hw]; exact (by (with_reducible repeat (first | apply Kd.V_alloc | apply Kd.V_drewN | apply Kd.V_drew)); exact Kd.V_mono (Kd.V_far (p := ⟨gb183, 2, none⟩) (Kd.V_far (p := ⟨gb183, 1, none⟩) (Kd.V_far (p := ⟨gb183, 0, none⟩) (Kd.V_mono HO171.out (fun k_ hk => (⟨hk, hk.2⟩ : _ ∧ k_ ≠ gb183))) (fun _ hk => hk.2) (.int .i64 t177)) (fun _ hk => hk.2) (.int .i64 t178)) (fun _ hk => hk.2) (.slice Ao40 t179.length co40)) (fun _ hk => ⟨hk.1.1.1, ⟨hk.1.1.2.1, ⟨hk.1.1.2.2, hk.1.2⟩⟩⟩)))⟩; have n3_ : Aside0 (Kd.V k33 33 w41 w.heap.size (fun k_ => k_ ≠ gb157 ∧ k_ ≠ gb158 ∧ k_ ≠ gb183) (.slice Ao34 t172.length co34) t172) := ⟨(by rw [hw]; exact (by (with_reducible repeat (first | apply Kd.V_alloc | apply Kd.V_drewN | apply Kd.V_drew)); exact Kd.V_mono (Kd.V_far (p := ⟨gb183, 2, none⟩) (Kd.V_far (p := ⟨gb183, 1, none⟩) (Kd.V_far (p := ⟨gb183, 0, none⟩) (Kd.V_mono HO174.out (fun k_ hk => (⟨hk, hk.2⟩ : _ ∧ k_ ≠ gb183))) (fun _ hk => hk.2) (.int .i64 t177)) (fun _ hk => hk.2) (.int .i64 t178)) (fun _ hk => hk.2) (.slice Ao40 t179.length co40)) (fun _ hk => ⟨hk.1.1.1, ⟨hk.1.1.2, hk.1.2⟩⟩)))⟩; have n4_ : Aside0 (Kd.V (Kd.int .i64) 3 w41 w.heap.size (fun k_ => k_ ≠ gb157 ∧ k_ ≠ gb158 ∧ k_ ≠ gb183) (.slice Ao40 t179.length co40) t179) := ⟨(by rw [hw]; exact (by (with_reducible repeat (first | apply Kd.V_alloc | apply Kd.V_drewN | apply Kd.V_drew)); exact Kd.V_mono (Kd.V_far (p := ⟨gb183, 2, none⟩) (Kd.V_far (p := ⟨gb183, 1, none⟩) (Kd.V_far (p := ⟨gb183, 0, none⟩) (Kd.V_mono HO181.out (fun k_ hk => (⟨hk, hk.2⟩ : _ ∧ k_ ≠ gb183))) (fun _ hk => hk.2) (.int .i64 t177)) (fun _ hk => hk.2) (.int .i64 t178)) (fun _ hk => hk.2) (.slice Ao40 t179.length co40)) (fun _ hk => ⟨hk.1.1.1, ⟨hk.1.1.2, hk.1.2⟩⟩)))⟩; have n5_ : Aside0 (w41.heap[gb157]? = some (.cells #[.int .i64 t162, .int .i64 t163, .slice Ao22 t164.length co22] 33 (0, 0))) := ⟨(by rw [hw]; exact (by (with_reducible repeat (first | refine blk_drewN ?_ _ | refine blk_drew ?_ | refine blk_alloc ?_ _)); refine blk_far ?_ NB157_183.out _; (with_reducible repeat (first | refine blk_drewN ?_ _ | refine blk_drew ?_ | refine blk_alloc ?_ _)); refine blk_far ?_ NB157_183.out _; (with_reducible repeat (first | refine blk_drewN ?_ _ | refine blk_drew ?_ | refine blk_alloc ?_ _)); refine blk_far ?_ NB157_183.out _; (with_reducible repeat (first | refine blk_drewN ?_ _ | refine blk_drew ?_ | refine blk_alloc ?_ _)); exact BK157.out))⟩; have n6_ : Aside0 (w41.heap[gb158]? = some (.cells #[.int .i64 t167, .int .i64 t168, .slice Ao26 t169.length co26] 33 (0, 0))) := ⟨(by rw [hw]; exact (by (with_reducible repeat (first | refine blk_drewN ?_ _ | refine blk_drew ?_ | refine blk_alloc ?_ _)); refine blk_far ?_ NB158_183.out _; (with_reducible repeat (first | refine blk_drewN ?_ _ | refine blk_drew ?_ | refine blk_alloc ?_ _)); refine blk_far ?_ NB158_183.out _; (with_reducible repeat (first | refine blk_drewN ?_ _ | refine blk_drew ?_ | refine blk_alloc ?_ _)); refine blk_far ?_ NB158_183.out _; (with_reducible repeat (first | refine blk_drewN ?_ _ | refine blk_drew ?_ | refine blk_alloc ?_ _)); exact BK158.out))⟩; have n7_ : Aside0 (w41.heap[gb183]? = some (.cells #[.int .i64 t177, .int .i64 t178, .slice Ao40 t179.length co40] 33 (0, 0))) := ⟨(by rw [hw]; exact (by (with_reducible repeat (first | refine blk_drewN ?_ _ | refine blk_drew ?_ | refine blk_alloc ?_ _)); refine blk_put (cs := #[.int .i64 t177, .int .i64 t178, .slice none 0 0]) ?_ 2 _ rfl; (with_reducible repeat (first | refine blk_drewN ?_ _ | refine blk_drew ?_ | refine blk_alloc ?_ _)); refine blk_put (cs := #[.int .i64 t177, .int .i64 0, .slice none 0 0]) ?_ 1 _ rfl; (with_reducible repeat (first | refine blk_drewN ?_ _ | refine blk_drew ?_ | refine blk_alloc ?_ _)); refine blk_put (cs := #[.int .i64 0, .int .i64 0, .slice none 0 0]) ?_ 0 _ rfl; (with_reducible repeat (first | refine blk_drewN ?_ _ | refine blk_drew ?_ | refine blk_alloc ?_ _)); exact BK183.out))⟩; have n8_ : Aside0 (Below w.heap.size w w41) := ⟨(by rw [hw]; exact (by repeat (first | (with_reducible first | exact HB.out | apply below_alloc | apply pw_below_drewN | apply below_drew1 | refine below_set ?_ GE157.out | refine below_set ?_ GE158.out | refine below_set ?_ GE183.out) | exact HB.out)))⟩; clear hw; clear HO161; clear HO166; clear HO171; clear HO174; clear HO181; clear BK157; clear BK158; clear BK183; clear HB; have HO161 := n0_; have HO166 := n1_; have HO171 := n2_; have HO174 := n3_; have HO181 := n4_; have BK157 := n5_; have BK158 := n6_; have BK183 := n7_; have HB := n8_; clear n0_ n1_ n2_ n3_ n4_ n5_ n6_ n7_ n8_) | ((with_reducible refine gate_callee (f := 16) rfl ?_); refine goesL_ (some 57) rfl rfl Try.func16 (by kernel_rfl) rfl #[.slice Ao31 t159.length co31, .int .i64 a3] rfl zP ?_; (with_reducible refine (root_Get.calls (fun k_ => (k_ ≠ gb157 ∧ (k_ ≠ gb158 ∧ k_ ≠ gb183))) _ _ t159 a3 t184 t185 t186 t189 _ ?side1 A11.out).mono ?_); (case side1 => exact Kd.N_V (HO161.out)); rintro e w42 ⟨v187, rfl, ho0, hb⟩; refine ⟨_, rfl, ?_⟩; have n0_ := Aside0.mk (Kd.N_below (zN HO161) hb); have n1_ := Aside0.mk (Kd.V_below (zV HO166) hb); have n2_ := Aside0.mk (Kd.V_below (zV HO171) hb); have n3_ := Aside0.mk (Kd.V_below (zV HO174) hb); have n4_ := Aside0.mk (Kd.V_below (zV HO181) hb); have n5_ := Aside0.mk (Kd.V_lower (Kd.V_mono (ok' := fun k_ => k_ ≠ gb157 ∧ k_ ≠ gb158 ∧ k_ ≠ gb183) ho0 (fun k_ hk_ => ⟨Or.elim hk_ (fun hs_ => hs_.1) (fun hn_ => (Kd.freshB (g := gb157) (o := .cells #[.int .i64 t162, .int .i64 t163, .slice Ao22 t164.length co22] 33 (0, 0)) (zK BK157) k_ hn_)), Or.elim hk_ (fun hs_ => hs_.2.1) (fun hn_ => (Kd.freshB (g := gb158) (o := .cells #[.int .i64 t167, .int .i64 t168, .slice Ao26 t169.length co26] 33 (0, 0)) (zK BK158) k_ hn_)), Or.elim hk_ (fun hs_ => hs_.2.2) (fun hn_ => (Kd.freshB (g := gb183) (o := .cells #[.int .i64 t177, .int .i64 t178, .slice Ao40 t179.length co40] 33 (0, 0)) (zK BK183) k_ hn_))⟩)) (below_size (by repeat (first | (with_reducible first | exact HB.out | apply below_alloc | apply pw_below_drewN | apply below_drew1 | refine below_set ?_ GE157.out | refine below_set ?_ GE158.out | refine below_set ?_ GE183.out) | exact HB.out)))); have n6_ := Aside0.mk (blk_below (g := gb157) (o := .cells #[.int .i64 t162, .int .i64 t163, .slice Ao22 t164.length co22] 33 (0, 0)) (zK BK157) hb); have n7_ := Aside0.mk (blk_below (g := gb158) (o := .cells #[.int .i64 t167, .int .i64 t168, .slice Ao26 t169.length co26] 33 (0, 0)) (zK BK158) hb); have n8_ := Aside0.mk (blk_below (g := gb183) (o := .cells #[.int .i64 t177, .int .i64 t178, .slice Ao40 t179.length co40] 33 (0, 0)) (zK BK183) hb); have n9_ := Aside0.mk (below_step (by repeat (first | (with_reducible first | exact HB.out | apply below_alloc | apply pw_below_drewN | apply below_drew1 | refine below_set ?_ GE157.out | refine below_set ?_ GE158.out | refine below_set ?_ GE183.out) | exact HB.out)) hb); clear HO161; clear HO166; clear HO171; clear HO174; clear HO181; clear BK157; clear BK158; clear BK183; clear HB; have HO161 := n0_; have HO166 := n1_; have HO171 := n2_; have HO174 := n3_; have HO181 := n4_; have HO188 := n5_; have BK157 := n6_; have BK158 := n7_; have BK183 := n8_; have HB := n9_; clear n0_ n1_ n2_ n3_ n4_ n5_ n6_ n7_ n8_ n9_; (try clear hb); (try clear hb2); (try clear hk); (try clear hi); (try clear ho0)) | ((with_reducible refine gate_dst (N := 13) rfl ?_); (try (refine gate_guard (by rfl) ?_; dsimp only)); refine box_event ?hg (N := 13) ?hd (cs := #[.int .i64 0, .int .i64 0, .slice none 0 0]) (t := 33) ?hr ?_; (case hd => rfl); (case hg => rfl); (case hr => first | (go_simp; done) | (go_simp; rfl)); intro gb190 hg w43 hbox hb; have n0_ := Aside0.mk (Kd.N_below (Kd.N_elderB (zN HO161) gb190 (Nat.le_of_eq hg.symm)) hb); have n1_ := Aside0.mk (Kd.V_below (Kd.V_elderB (zV HO166) gb190 (Nat.le_of_eq hg.symm)) hb); have n2_ := Aside0.mk (Kd.V_below (Kd.V_elderB (zV HO171) gb190 (Nat.le_of_eq hg.symm)) hb); have n3_ := Aside0.mk (Kd.V_below (Kd.V_elderB (zV HO174) gb190 (Nat.le_of_eq hg.symm)) hb); have n4_ := Aside0.mk (Kd.V_below (Kd.V_elderB (zV HO181) gb190 (Nat.le_of_eq hg.symm)) hb); have n5_ := Aside0.mk (Kd.V_below (Kd.V_elderB (zV HO188) gb190 (Nat.le_of_eq hg.symm)) hb); have n6_ := Aside0.mk (blk_below (g := gb157) (o := .cells #[.int .i64 t162, .int .i64 t163, .slice Ao22 t164.length co22] 33 (0, 0)) (zK BK157) hb); have n7_ := Aside0.mk (blk_below (g := gb158) (o := .cells #[.int .i64 t167, .int .i64 t168, .slice Ao26 t169.length co26] 33 (0, 0)) (zK BK158) hb); have n8_ := Aside0.mk (blk_below (g := gb183) (o := .cells #[.int .i64 t177, .int .i64 t178, .slice Ao40 t179.length co40] 33 (0, 0)) (zK BK183) hb); have n9_ := Aside0.mk (below_step (by repeat (first | (with_reducible first | exact HB.out | apply below_alloc | apply pw_below_drewN | apply below_drew1 | refine below_set ?_ GE157.out | refine below_set ?_ GE158.out | refine below_set ?_ GE183.out) | exact HB.out)) hb); have n10_ := Aside0.mk (hbox); have n11_ := Aside0.mk ((by rw [hg]; exact (below_size (by repeat (first | (with_reducible first | exact HB.out | apply below_alloc | apply pw_below_drewN | apply below_drew1 | refine below_set ?_ GE157.out | refine below_set ?_ GE158.out | refine below_set ?_ GE183.out) | exact HB.out))) : w.heap.size ≤ gb190)); have n12_ := Aside0.mk ((by rw [hg]; exact (below_size (by repeat (first | (with_reducible first | exact HB.out | apply below_alloc | apply pw_below_drewN | apply below_drew1 | refine below_set ?_ GE157.out | refine below_set ?_ GE158.out | refine below_set ?_ GE183.out) | exact HB.out))) : w.heap.size ≤ gb190)); have n13_ := Aside0.mk ((by rw [hg]; exact Nat.ne_of_lt (blk_lt (g := gb157) (o := .cells #[.int .i64 t162, .int .i64 t163, .slice Ao22 t164.length co22] 33 (0, 0)) (zK BK157)) : gb157 ≠ gb190)); have n14_ := Aside0.mk ((by rw [hg]; exact Nat.ne_of_gt (blk_lt (g := gb157) (o := .cells #[.int .i64 t162, .int .i64 t163, .slice Ao22 t164.length co22] 33 (0, 0)) (zK BK157)) : gb190 ≠ gb157)); have n15_ := Aside0.mk ((by rw [hg]; exact Nat.ne_of_lt (blk_lt (g := gb158) (o := .cells #[.int .i64 t167, .int .i64 t168, .slice Ao26 t169.length co26] 33 (0, 0)) (zK BK158)) : gb158 ≠ gb190)); have n16_ := Aside0.mk ((by rw [hg]; exact Nat.ne_of_gt (blk_lt (g := gb158) (o := .cells #[.int .i64 t167, .int .i64 t168, .slice Ao26 t169.length co26] 33 (0, 0)) (zK BK158)) : gb190 ≠ gb158)); have n17_ := Aside0.mk ((by rw [hg]; exact Nat.ne_of_lt (blk_lt (g := gb183) (o := .cells #[.int .i64 t177, .int .i64 t178, .slice Ao40 t179.length co40] 33 (0, 0)) (zK BK183)) : gb183 ≠ gb190)); have n18_ := Aside0.mk ((by rw [hg]; exact Nat.ne_of_gt (blk_lt (g := gb183) (o := .cells #[.int .i64 t177, .int .i64 t178, .slice Ao40 t179.length co40] 33 (0, 0)) (zK BK183)) : gb190 ≠ gb183)); clear HO161; clear HO166; clear HO171; clear HO174; clear HO181; clear HO188; clear BK157; clear BK158; clear BK183; clear HB; have HO161 := n0_; have HO166 := n1_; have HO171 := n2_; have HO174 := n3_; have HO181 := n4_; have HO188 := n5_; have BK157 := n6_; have BK158 := n7_; have BK183 := n8_; have HB := n9_; have BK190 := n10_; have GW190 := n11_; have GE190 := n12_; have NB157_190 := n13_; have NB190_157 := n14_; have NB158_190 := n15_; have NB190_158 := n16_; have NB183_190 := n17_; have NB190_183 := n18_; clear n0_ n1_ n2_ n3_ n4_ n5_ n6_ n7_ n8_ n9_ n10_ n11_ n12_ n13_ n14_ n15_ n16_ n17_ n18_; clear hb hbox hg; have hnb44 := NB190_157.out; have hnc44 := NB157_190.out; have hnb45 := NB190_158.out; have hnc45 := NB158_190.out; have hnb46 := NB190_183.out; have hnc46 := NB183_190.out; have hcz47_0 : w43.cell? ⟨gb190, 0, none⟩ = some (.int .i64 0) := (blk_cell BK190.out 0).trans rfl; have hcz47_1 : w43.cell? ⟨gb190, 1, none⟩ = some (.int .i64 0) := (blk_cell BK190.out 1).trans rfl; have hcz47_2 : w43.cell? ⟨gb190, 2, none⟩ = some (.slice none 0 0) := (blk_cell BK190.out 2).trans rfl; have hfz47_0 := blk_frozen BK190.out 0; have hfz47_1 := blk_frozen BK190.out 1; have hfz47_2 := blk_frozen BK190.out 2; obtain ⟨Ao48, co48, eo48⟩ := Kd.V_slice HO188.out; subst eo48) | ((with_reducible refine gate_store (t := 33) (p := 13) rfl ?_); refine store_event (t := 33) (p := 13) (v := ?vo_w49) (w1 := (((w43.setCell ⟨gb190, 0, none⟩ (.int .i64 t184)).setCell ⟨gb190, 1, none⟩ (.int .i64 t185)).setCell ⟨gb190, 2, none⟩ (.slice Ao48 t186.length co48))) ?hg ?ho ?hn ?hr ?_; (case ho => rfl); (case hg => rfl); (case hn => rfl); (case hr => first | (go_simp; done) | (go_simp; rfl)); intro w49 hw; have n0_ : Aside0 (Kd.N k33 33 w49 w.heap.size (fun k_ => k_ ≠ gb157 ∧ k_ ≠ gb158 ∧ k_ ≠ gb183 ∧ k_ ≠ gb190) (.slice Ao31 t159.length co31) t159) := ⟨(by rw [hw]; exact (by (with_reducible repeat (first | apply Kd.N_alloc | apply Kd.N_drewN | apply Kd.N_drew)); exact Kd.N_mono (Kd.N_far (p := ⟨gb190, 2, none⟩) (Kd.N_far (p := ⟨gb190, 1, none⟩) (Kd.N_far (p := ⟨gb190, 0, none⟩) (Kd.N_mono HO161.out (fun k_ hk => (⟨hk, hk.2⟩ : _ ∧ k_ ≠ gb190))) (fun _ hk => hk.2) (.int .i64 t184)) (fun _ hk => hk.2) (.int .i64 t185)) (fun _ hk => hk.2) (.slice Ao48 t186.length co48)) (fun _ hk => ⟨hk.1.1.1, ⟨hk.1.1.2.1, ⟨hk.1.1.2.2, hk.1.2⟩⟩⟩)))⟩; have n1_ : Aside0 (Kd.V (Kd.int .i64) 3 w49 w.heap.size (fun k_ => some k_ ≠ (.slice Ao31 t159.length co31 : Value).ownBlock ∧ k_ ≠ gb157 ∧ k_ ≠ gb158 ∧ k_ ≠ gb183 ∧ k_ ≠ gb190) (.slice Ao22 t164.length co22) t164) := ⟨(by rw [hw]; exact (by (with_reducible repeat (first | apply Kd.V_alloc | apply Kd.V_drewN | apply Kd.V_drew)); exact Kd.V_mono (Kd.V_far (p := ⟨gb190, 2, none⟩) (Kd.V_far (p := ⟨gb190, 1, none⟩) (Kd.V_far (p := ⟨gb190, 0, none⟩) (Kd.V_mono HO166.out (fun k_ hk => (⟨hk, hk.2⟩ : _ ∧ k_ ≠ gb190))) (fun _ hk => hk.2) (.int .i64 t184)) (fun _ hk => hk.2) (.int .i64 t185)) (fun _ hk => hk.2) (.slice Ao48 t186.length co48)) (fun _ hk => ⟨hk.1.1.1, ⟨hk.1.1.2.1, ⟨hk.1.1.2.2.1, ⟨hk.1.1.2.2.2, hk.1.2⟩⟩⟩⟩)))⟩; have n2_ : Aside0 (Kd.V (Kd.int .i64) 3 w49 w.heap.size (fun k_ => some k_ ≠ (.slice Ao31 t159.length co31 : Value).ownBlock ∧ k_ ≠ gb157 ∧ k_ ≠ gb158 ∧ k_ ≠ gb183 ∧ k_ ≠ gb190) (.slice Ao26 t169.length co26) t169) := ⟨(by rw [hw]; exact (by (with_reducible repeat (first | apply Kd.V_alloc | apply Kd.V_drewN | apply Kd.V_drew)); exact Kd.V_mono (Kd.V_far (p := ⟨gb190, 2, none⟩) (Kd.V_far (p := ⟨gb190, 1, none⟩) (Kd.V_far (p := ⟨gb190, 0, none⟩) (Kd.V_mono HO171.out (fun k_ hk => (⟨hk, hk.2⟩ : _ ∧ k_ ≠ gb190))) (fun _ hk => hk.2) (.int .i64 t184)) (fun _ hk => hk.2) (.int .i64 t185)) (fun _ hk => hk.2) (.slice Ao48 t186.length co48)) (fun _ hk => ⟨hk.1.1.1, ⟨hk.1.1.2.1, ⟨hk.1.1.2.2.1, ⟨hk.1.1.2.2.2, hk.1.2⟩⟩⟩⟩)))⟩; have n3_ : Aside0 (Kd.V k33 33 w49 w.heap.size (fun k_ => k_ ≠ gb157 ∧ k_ ≠ gb158 ∧ k_ ≠ gb183 ∧ k_ ≠ gb190) (.slice Ao34 t172.length co34) t172) := ⟨(by rw [hw]; exact (by (with_reducible repeat (first | apply Kd.V_alloc | apply Kd.V_drewN | apply Kd.V_drew)); exact Kd.V_mono (Kd.V_far (p := ⟨gb190, 2, none⟩) (Kd.V_far (p := ⟨gb190, 1, none⟩) (Kd.V_far (p := ⟨gb190, 0, none⟩) (Kd.V_mono HO174.out (fun k_ hk => (⟨hk, hk.2⟩ : _ ∧ k_ ≠ gb190))) (fun _ hk => hk.2) (.int .i64 t184)) (fun _ hk => hk.2) (.int .i64 t185)) (fun _ hk => hk.2) (.slice Ao48 t186.length co48)) (fun _ hk => ⟨hk.1.1.1, ⟨hk.1.1.2.1, ⟨hk.1.1.2.2, hk.1.2⟩⟩⟩)))⟩; have n4_ : Aside0 (Kd.V (Kd.int .i64) 3 w49 w.heap.size (fun k_ => k_ ≠ gb157 ∧ k_ ≠ gb158 ∧ k_ ≠ gb183 ∧ k_ ≠ gb190) (.slice Ao40 t179.length co40) t179) := ⟨(by rw [hw]; exact (by (with_reducible repeat (first | apply Kd.V_alloc | apply Kd.V_drewN | apply Kd.V_drew)); exact Kd.V_mono (Kd.V_far (p := ⟨gb190, 2, none⟩) (Kd.V_far (p := ⟨gb190, 1, none⟩) (Kd.V_far (p := ⟨gb190, 0, none⟩) (Kd.V_mono HO181.out (fun k_ hk => (⟨hk, hk.2⟩ : _ ∧ k_ ≠ gb190))) (fun _ hk => hk.2) (.int .i64 t184)) (fun _ hk => hk.2) (.int .i64 t185)) (fun _ hk => hk.2) (.slice Ao48 t186.length co48)) (fun _ hk => ⟨hk.1.1.1, ⟨hk.1.1.2.1, ⟨hk.1.1.2.2, hk.1.2⟩⟩⟩)))⟩; have n5_ : Aside0 (Kd.V (Kd.int .i64) 3 w49 w.heap.size (fun k_ => k_ ≠ gb157 ∧ k_ ≠ gb158 ∧ k_ ≠ gb183 ∧ k_ ≠ gb190) (.slice Ao48 t186.length co48) t186) := ⟨(by rw [hw]; exact (by (with_reducible repeat (first | apply Kd.V_alloc | apply Kd.V_drewN | apply Kd.V_drew)); exact Kd.V_mono (Kd.V_far (p := ⟨gb190, 2, none⟩) (Kd.V_far (p := ⟨gb190, 1, none⟩) (Kd.V_far (p := ⟨gb190, 0, none⟩) (Kd.V_mono HO188.out (fun k_ hk => (⟨hk, hk.2⟩ : _ ∧ k_ ≠ gb190))) (fun _ hk => hk.2) (.int .i64 t184)) (fun _ hk => hk.2) (.int .i64 t185)) (fun _ hk => hk.2) (.slice Ao48 t186.length co48)) (fun _ hk => ⟨hk.1.1.1, ⟨hk.1.1.2.1, ⟨hk.1.1.2.2, hk.1.2⟩⟩⟩)))⟩; have n6_ : Aside0 (w49.heap[gb157]? = some (.cells #[.int .i64 t162, .int .i64 t163, .slice Ao22 t164.length co22] 33 (0, 0))) := ⟨(by rw [hw]; exact (by (with_reducible repeat (first | refine blk_drewN ?_ _ | refine blk_drew ?_ | refine blk_alloc ?_ _)); refine blk_far ?_ NB157_190.out _; (with_reducible repeat (first | refine blk_drewN ?_ _ | refine blk_drew ?_ | refine blk_alloc ?_ _)); refine blk_far ?_ NB157_190.out _; (with_reducible repeat (first | refine blk_drewN ?_ _ | refine blk_drew ?_ | refine blk_alloc ?_ _)); refine blk_far ?_ NB157_190.out _; (with_reducible repeat (first | refine blk_drewN ?_ _ | refine blk_drew ?_ | refine blk_alloc ?_ _)); exact BK157.out))⟩; have n7_ : Aside0 (w49.heap[gb158]? = some (.cells #[.int .i64 t167, .int .i64 t168, .slice Ao26 t169.length co26] 33 (0, 0))) := ⟨(by rw [hw]; exact (by (with_reducible repeat (first | refine blk_drewN ?_ _ | refine blk_drew ?_ | refine blk_alloc ?_ _)); refine blk_far ?_ NB158_190.out _; (with_reducible repeat (first | refine blk_drewN ?_ _ | refine blk_drew ?_ | refine blk_alloc ?_ _)); refine blk_far ?_ NB158_190.out _; (with_reducible repeat (first | refine blk_drewN ?_ _ | refine blk_drew ?_ | refine blk_alloc ?_ _)); refine blk_far ?_ NB158_190.out _; (with_reducible repeat (first | refine blk_drewN ?_ _ | refine blk_drew ?_ | refine blk_alloc ?_ _)); exact BK158.out))⟩; have n8_ : Aside0 (w49.heap[gb183]? = some (.cells #[.int .i64 t177, .int .i64 t178, .slice Ao40 t179.length co40] 33 (0, 0))) := ⟨(by rw [hw]; exact (by (with_reducible repeat (first | refine blk_drewN ?_ _ | refine blk_drew ?_ | refine blk_alloc ?_ _)); refine blk_far ?_ NB183_190.out _; (with_reducible repeat (first | refine blk_drewN ?_ _ | refine blk_drew ?_ | refine blk_alloc ?_ _)); refine blk_far ?_ NB183_190.out _; (with_reducible repeat (first | refine blk_drewN ?_ _ | refine blk_drew ?_ | refine blk_alloc ?_ _)); refine blk_far ?_ NB183_190.out _; (with_reducible repeat (first | refine blk_drewN ?_ _ | refine blk_drew ?_ | refine blk_alloc ?_ _)); exact BK183.out))⟩; have n9_ : Aside0 (w49.heap[gb190]? = some (.cells #[.int .i64 t184, .int .i64 t185, .slice Ao48 t186.length co48] 33 (0, 0))) := ⟨(by rw [hw]; exact (by (with_reducible repeat (first | refine blk_drewN ?_ _ | refine blk_drew ?_ | refine blk_alloc ?_ _)); refine blk_put (cs := #[.int .i64 t184, .int .i64 t185, .slice none 0 0]) ?_ 2 _ rfl; (with_reducible repeat (first | refine blk_drewN ?_ _ | refine blk_drew ?_ | refine blk_alloc ?_ _)); refine blk_put (cs := #[.int .i64 t184, .int .i64 0, .slice none 0 0]) ?_ 1 _ rfl; (with_reducible repeat (first | refine blk_drewN ?_ _ | refine blk_drew ?_ | refine blk_alloc ?_ _)); refine blk_put (cs := #[.int .i64 0, .int .i64 0, .slice none 0 0]) ?_ 0 _ rfl; (with_reducible repeat (first | refine blk_drewN ?_ _ | refine blk_drew ?_ | refine blk_alloc ?_ _)); exact BK190.out))⟩; have n10_ : Aside0 (Below w.heap.size w w49) := ⟨(by rw [hw]; exact (by repeat (first | (with_reducible first | exact HB.out | apply below_alloc | apply pw_below_drewN | apply below_drew1 | refine below_set ?_ GE157.out | refine below_set ?_ GE158.out | refine below_set ?_ GE183.out | refine below_set ?_ GE190.out) | exact HB.out)))⟩; clear hw; clear HO161; clear HO166; clear HO171; clear HO174; clear HO181; clear HO188; clear BK157; clear BK158; clear BK183; clear BK190; clear HB; have HO161 := n0_; have HO166 := n1_; have HO171 := n2_; have HO174 := n3_; have HO181 := n4_; have HO188 := n5_; have BK157 := n6_; have BK158 := n7_; have BK183 := n8_; have BK190 := n9_; have HB := n10_; clear n0_ n1_ n2_ n3_ n4_ n5_ n6_ n7_ n8_ n9_ n10_) | ((with_reducible refine gate_callee (f := 16) rfl ?_); refine goesL_ (some 63) rfl rfl Try.func16 (by kernel_rfl) rfl #[.slice Ao34 t172.length co34, .int .i64 a3] rfl zP ?_; (with_reducible refine (root_Get.calls (fun k_ => (k_ ≠ gb157 ∧ (k_ ≠ gb158 ∧ (k_ ≠ gb183 ∧ k_ ≠ gb190)))) _ _ t172 a3 t191 t192 t193 t196 _ ?side1 A12.out).mono ?_); (case side1 => exact HO174.out); rintro e w50 ⟨v194, rfl, ho0, hb⟩; refine ⟨_, rfl, ?_⟩; have n0_ := Aside0.mk (Kd.N_below (zN HO161) hb); have n1_ := Aside0.mk (Kd.V_below (zV HO166) hb); have n2_ := Aside0.mk (Kd.V_below (zV HO171) hb); have n3_ := Aside0.mk (Kd.V_below (zV HO174) hb); have n4_ := Aside0.mk (Kd.V_below (zV HO181) hb); have n5_ := Aside0.mk (Kd.V_below (zV HO188) hb); have n6_ := Aside0.mk (Kd.V_lower (Kd.V_mono (ok' := fun k_ => k_ ≠ gb157 ∧ k_ ≠ gb158 ∧ k_ ≠ gb183 ∧ k_ ≠ gb190) ho0 (fun k_ hk_ => ⟨Or.elim hk_ (fun hs_ => hs_.1) (fun hn_ => (Kd.freshB (g := gb157) (o := .cells #[.int .i64 t162, .int .i64 t163, .slice Ao22 t164.length co22] 33 (0, 0)) (zK BK157) k_ hn_)), Or.elim hk_ (fun hs_ => hs_.2.1) (fun hn_ => (Kd.freshB (g := gb158) (o := .cells #[.int .i64 t167, .int .i64 t168, .slice Ao26 t169.length co26] 33 (0, 0)) (zK BK158) k_ hn_)), Or.elim hk_ (fun hs_ => hs_.2.2.1) (fun hn_ => (Kd.freshB (g := gb183) (o := .cells #[.int .i64 t177, .int .i64 t178, .slice Ao40 t179.length co40] 33 (0, 0)) (zK BK183) k_ hn_)), Or.elim hk_ (fun hs_ => hs_.2.2.2) (fun hn_ => (Kd.freshB (g := gb190) (o := .cells #[.int .i64 t184, .int .i64 t185, .slice Ao48 t186.length co48] 33 (0, 0)) (zK BK190) k_ hn_))⟩)) (below_size (by repeat (first | (with_reducible first | exact HB.out | apply below_alloc | apply pw_below_drewN | apply below_drew1 | refine below_set ?_ GE157.out | refine below_set ?_ GE158.out | refine below_set ?_ GE183.out | refine below_set ?_ GE190.out) | exact HB.out)))); have n7_ := Aside0.mk (blk_below (g := gb157) (o := .cells #[.int .i64 t162, .int .i64 t163, .slice Ao22 t164.length co22] 33 (0, 0)) (zK BK157) hb); have n8_ := Aside0.mk (blk_below (g := gb158) (o := .cells #[.int .i64 t167, .int .i64 t168, .slice Ao26 t169.length co26] 33 (0, 0)) (zK BK158) hb); have n9_ := Aside0.mk (blk_below (g := gb183) (o := .cells #[.int .i64 t177, .int .i64 t178, .slice Ao40 t179.length co40] 33 (0, 0)) (zK BK183) hb); have n10_ := Aside0.mk (blk_below (g := gb190) (o := .cells #[.int .i64 t184, .int .i64 t185, .slice Ao48 t186.length co48] 33 (0, 0)) (zK BK190) hb); have n11_ := Aside0.mk (below_step (by repeat (first | (with_reducible first | exact HB.out | apply below_alloc | apply pw_below_drewN | apply below_drew1 | refine below_set ?_ GE157.out | refine below_set ?_ GE158.out | refine below_set ?_ GE183.out | refine below_set ?_ GE190.out) | exact HB.out)) hb); clear HO161; clear HO166; clear HO171; clear HO174; clear HO181; clear HO188; clear BK157; clear BK158; clear BK183; clear BK190; clear HB; have HO161 := n0_; have HO166 := n1_; have HO171 := n2_; have HO174 := n3_; have HO181 := n4_; have HO188 := n5_; have HO195 := n6_; have BK157 := n7_; have BK158 := n8_; have BK183 := n9_; have BK190 := n10_; have HB := n11_; clear n0_ n1_ n2_ n3_ n4_ n5_ n6_ n7_ n8_ n9_ n10_ n11_; (try clear hb); (try clear hb2); (try clear hk); (try clear hi); (try clear ho0)) | ((with_reducible refine gate_dst (N := 15) rfl ?_); (try (refine gate_guard (by rfl) ?_; dsimp only)); refine box_event ?hg (N := 15) ?hd (cs := #[.int .i64 0, .int .i64 0, .slice none 0 0]) (t := 33) ?hr ?_; (case hd => rfl); (case hg => rfl); (case hr => first | (go_simp; done) | (go_simp; rfl)); intro gb197 hg w51 hbox hb; have n0_ := Aside0.mk (Kd.N_below (Kd.N_elderB (zN HO161) gb197 (Nat.le_of_eq hg.symm)) hb); have n1_ := Aside0.mk (Kd.V_below (Kd.V_elderB (zV HO166) gb197 (Nat.le_of_eq hg.symm)) hb); have n2_ := Aside0.mk (Kd.V_below (Kd.V_elderB (zV HO171) gb197 (Nat.le_of_eq hg.symm)) hb); have n3_ := Aside0.mk (Kd.V_below (Kd.V_elderB (zV HO174) gb197 (Nat.le_of_eq hg.symm)) hb); have n4_ := Aside0.mk (Kd.V_below (Kd.V_elderB (zV HO181) gb197 (Nat.le_of_eq hg.symm)) hb); have n5_ := Aside0.mk (Kd.V_below (Kd.V_elderB (zV HO188) gb197 (Nat.le_of_eq hg.symm)) hb); have n6_ := Aside0.mk (Kd.V_below (Kd.V_elderB (zV HO195) gb197 (Nat.le_of_eq hg.symm)) hb); have n7_ := Aside0.mk (blk_below (g := gb157) (o := .cells #[.int .i64 t162, .int .i64 t163, .slice Ao22 t164.length co22] 33 (0, 0)) (zK BK157) hb); have n8_ := Aside0.mk (blk_below (g := gb158) (o := .cells #[.int .i64 t167, .int .i64 t168, .slice Ao26 t169.length co26] 33 (0, 0)) (zK BK158) hb); have n9_ := Aside0.mk (blk_below (g := gb183) (o := .cells #[.int .i64 t177, .int .i64 t178, .slice Ao40 t179.length co40] 33 (0, 0)) (zK BK183) hb); have n10_ := Aside0.mk (blk_below (g := gb190) (o := .cells #[.int .i64 t184, .int .i64 t185, .slice Ao48 t186.length co48] 33 (0, 0)) (zK BK190) hb); have n11_ := Aside0.mk (below_step (by repeat (first | (with_reducible first | exact HB.out | apply below_alloc | apply pw_below_drewN | apply below_drew1 | refine below_set ?_ GE157.out | refine below_set ?_ GE158.out | refine below_set ?_ GE183.out | refine below_set ?_ GE190.out) | exact HB.out)) hb); have n12_ := Aside0.mk (hbox); have n13_ := Aside0.mk ((by rw [hg]; exact (below_size (by repeat (first | (with_reducible first | exact HB.out | apply below_alloc | apply pw_below_drewN | apply below_drew1 | refine below_set ?_ GE157.out | refine below_set ?_ GE158.out | refine below_set ?_ GE183.out | refine below_set ?_ GE190.out) | exact HB.out))) : w.heap.size ≤ gb197)); have n14_ := Aside0.mk ((by rw [hg]; exact (below_size (by repeat (first | (with_reducible first | exact HB.out | apply below_alloc | apply pw_below_drewN | apply below_drew1 | refine below_set ?_ GE157.out | refine below_set ?_ GE158.out | refine below_set ?_ GE183.out | refine below_set ?_ GE190.out) | exact HB.out))) : w.heap.size ≤ gb197)); have n15_ := Aside0.mk ((by rw [hg]; exact Nat.ne_of_lt (blk_lt (g := gb157) (o := .cells #[.int .i64 t162, .int .i64 t163, .slice Ao22 t164.length co22] 33 (0, 0)) (zK BK157)) : gb157 ≠ gb197)); have n16_ := Aside0.mk ((by rw [hg]; exact Nat.ne_of_gt (blk_lt (g := gb157) (o := .cells #[.int .i64 t162, .int .i64 t163, .slice Ao22 t164.length co22] 33 (0, 0)) (zK BK157)) : gb197 ≠ gb157)); have n17_ := Aside0.mk ((by rw [hg]; exact Nat.ne_of_lt (blk_lt (g := gb158) (o := .cells #[.int .i64 t167, .int .i64 t168, .slice Ao26 t169.length co26] 33 (0, 0)) (zK BK158)) : gb158 ≠ gb197)); have n18_ := Aside0.mk ((by rw [hg]; exact Nat.ne_of_gt (blk_lt (g := gb158) (o := .cells #[.int .i64 t167, .int .i64 t168, .slice Ao26 t169.length co26] 33 (0, 0)) (zK BK158)) : gb197 ≠ gb158)); have n19_ := Aside0.mk ((by rw [hg]; exact Nat.ne_of_lt (blk_lt (g := gb183) (o := .cells #[.int .i64 t177, .int .i64 t178, .slice Ao40 t179.length co40] 33 (0, 0)) (zK BK183)) : gb183 ≠ gb197)); have n20_ := Aside0.mk ((by rw [hg]; exact Nat.ne_of_gt (blk_lt (g := gb183) (o := .cells #[.int .i64 t177, .int .i64 t178, .slice Ao40 t179.length co40] 33 (0, 0)) (zK BK183)) : gb197 ≠ gb183)); have n21_ := Aside0.mk ((by rw [hg]; exact Nat.ne_of_lt (blk_lt (g := gb190) (o := .cells #[.int .i64 t184, .int .i64 t185, .slice Ao48 t186.length co48] 33 (0, 0)) (zK BK190)) : gb190 ≠ gb197)); have n22_ := Aside0.mk ((by rw [hg]; exact Nat.ne_of_gt (blk_lt (g := gb190) (o := .cells #[.int .i64 t184, .int .i64 t185, .slice Ao48 t186.length co48] 33 (0, 0)) (zK BK190)) : gb197 ≠ gb190)); clear HO161; clear HO166; clear HO171; clear HO174; clear HO181; clear HO188; clear HO195; clear BK157; clear BK158; clear BK183; clear BK190; clear HB; have HO161 := n0_; have HO166 := n1_; have HO171 := n2_; have HO174 := n3_; have HO181 := n4_; have HO188 := n5_; have HO195 := n6_; have BK157 := n7_; have BK158 := n8_; have BK183 := n9_; have BK190 := n10_; have HB := n11_; have BK197 := n12_; have GW197 := n13_; have GE197 := n14_; have NB157_197 := n15_; have NB197_157 := n16_; have NB158_197 := n17_; have NB197_158 := n18_; have NB183_197 := n19_; have NB197_183 := n20_; have NB190_197 := n21_; have NB197_190 := n22_; clear n0_ n1_ n2_ n3_ n4_ n5_ n6_ n7_ n8_ n9_ n10_ n11_ n12_ n13_ n14_ n15_ n16_ n17_ n18_ n19_ n20_ n21_ n22_; clear hb hbox hg; have hnb52 := NB197_157.out; have hnc52 := NB157_197.out; have hnb53 := NB197_158.out; have hnc53 := NB158_197.out; have hnb54 := NB197_183.out; have hnc54 := NB183_197.out; have hnb55 := NB197_190.out; have hnc55 := NB190_197.out; have hcz56_0 : w51.cell? ⟨gb197, 0, none⟩ = some (.int .i64 0) := (blk_cell BK197.out 0).trans rfl; have hcz56_1 : w51.cell? ⟨gb197, 1, none⟩ = some (.int .i64 0) := (blk_cell BK197.out 1).trans rfl; have hcz56_2 : w51.cell? ⟨gb197, 2, none⟩ = some (.slice none 0 0) := (blk_cell BK197.out 2).trans rfl; have hfz56_0 := blk_frozen BK197.out 0; have hfz56_1 := blk_frozen BK197.out 1; have hfz56_2 := blk_frozen BK197.out 2; obtain ⟨Ao57, co57, eo57⟩ := Kd.V_slice HO195.out; subst eo57))
  (try simp only [Act.put, List.setIfInBounds_toArray, List.set_cons_zero, List.set_cons_succ])
  go_cut [99] (fun v99 wc => ∃ (kq : Nat) (x99_12 : Bool), v99 = .bool x99_12 ∧ Aside0 (rootKeeps.j0 kq t159 t172 x99_12 t162 t163 t164 t167 t168 t169 = some r) ∧ Aside0 (kq ≤ k) ∧ Aside0 (Kd.N k33 33 wc w.heap.size (fun k_ => k_ ≠ gb157 ∧ k_ ≠ gb158 ∧ k_ ≠ gb183 ∧ k_ ≠ gb190 ∧ k_ ≠ gb197) (.slice Ao31 t159.length co31) t159) ∧ Aside0 (Kd.V k33 33 wc w.heap.size (fun k_ => k_ ≠ gb157 ∧ k_ ≠ gb158 ∧ k_ ≠ gb183 ∧ k_ ≠ gb190 ∧ k_ ≠ gb197) (.slice Ao34 t172.length co34) t172) ∧ Aside0 (Kd.V (Kd.int .i64) 3 wc w.heap.size (fun k_ => some k_ ≠ ((.slice Ao31 t159.length co31) : Value).ownBlock ∧ k_ ≠ gb157 ∧ k_ ≠ gb158 ∧ k_ ≠ gb183 ∧ k_ ≠ gb190 ∧ k_ ≠ gb197) (.slice Ao22 t164.length co22) t164) ∧ Aside0 (Kd.V (Kd.int .i64) 3 wc w.heap.size (fun k_ => some k_ ≠ ((.slice Ao31 t159.length co31) : Value).ownBlock ∧ k_ ≠ gb157 ∧ k_ ≠ gb158 ∧ k_ ≠ gb183 ∧ k_ ≠ gb190 ∧ k_ ≠ gb197) (.slice Ao26 t169.length co26) t169) ∧ Aside0 (Kd.V (Kd.int .i64) 3 wc w.heap.size (fun k_ => k_ ≠ gb157 ∧ k_ ≠ gb158 ∧ k_ ≠ gb183 ∧ k_ ≠ gb190 ∧ k_ ≠ gb197) (.slice Ao40 t179.length co40) t179) ∧ Aside0 (Kd.V (Kd.int .i64) 3 wc w.heap.size (fun k_ => k_ ≠ gb157 ∧ k_ ≠ gb158 ∧ k_ ≠ gb183 ∧ k_ ≠ gb190 ∧ k_ ≠ gb197) (.slice Ao48 t186.length co48) t186) ∧ Aside0 (Kd.V (Kd.int .i64) 3 wc w.heap.size (fun k_ => k_ ≠ gb157 ∧ k_ ≠ gb158 ∧ k_ ≠ gb183 ∧ k_ ≠ gb190 ∧ k_ ≠ gb197) (.slice Ao57 t193.length co57) t193) ∧ Aside0 (wc.heap[gb157]? = some (.cells #[.int .i64 t162, .int .i64 t163, (.slice Ao22 t164.length co22)] 33 (0, 0))) ∧ Aside0 (wc.heap[gb158]? = some (.cells #[.int .i64 t167, .int .i64 t168, (.slice Ao26 t169.length co26)] 33 (0, 0))) ∧ Aside0 (wc.heap[gb183]? = some (.cells #[.int .i64 t177, .int .i64 t178, (.slice Ao40 t179.length co40)] 33 (0, 0))) ∧ Aside0 (wc.heap[gb190]? = some (.cells #[.int .i64 t184, .int .i64 t185, (.slice Ao48 t186.length co48)] 33 (0, 0))) ∧ Aside0 (wc.heap[gb197]? = some (.cells #[.int .i64 t191, .int .i64 t192, (.slice Ao57 t193.length co57)] 33 (0, 0))) ∧ Aside0 (Below w.heap.size w wc))
  case first =>
   have H := HC13.out
   clear HC13
   by_cases c58 : t182 = 0
   ·rw [if_pos c58] at H
    have c58b0 : (t182 == 0) = true := beq_iff_eq.mpr c58
    have c58b1 : (t182 != 0) = false := bne_eq_false_iff_eq.mpr c58
    clear c58
    (first | rw [c58b0] | (simp only [i64_w, i32_w]; rw [c58b0]) | skip)
    replace H := Option.bind_eq_some_iff.mp H
    obtain ⟨t198, A590, H⟩ := H
    replace H : (if t198 = true then (if t189 = t196 then (if a3 = t162 then ((root_Right.f k t172).bind fun t199 => (if t199 = true then ((deadboltlaw09_alive.f).bind fun t200 => (rootKeeps.j0 k t159 t172 (!t200) t162 t163 t164 t167 t168 t169)) else (none))) else ((deadboltref09_Spots.f k t184 t185 t186 t191 t192 t193).bind fun t201 => (if t201 = true then ((root_Right.f k t172).bind fun t202 => (if t202 = true then ((deadboltlaw09_alive.f).bind fun t203 => (rootKeeps.j0 k t159 t172 (!t203) t162 t163 t164 t167 t168 t169)) else (none))) else (none)))) else (none)) else (none)) = some r := H
    have A59 := Aside0.mk A590
    clear A590
    by_cases c60 : t198 = true
    ·subst c60
     have H1 : (if t189 = t196 then (if a3 = t162 then ((root_Right.f k t172).bind fun t199 => (if t199 = true then ((deadboltlaw09_alive.f).bind fun t200 => (rootKeeps.j0 k t159 t172 (!t200) t162 t163 t164 t167 t168 t169)) else (none))) else ((deadboltref09_Spots.f k t184 t185 t186 t191 t192 t193).bind fun t201 => (if t201 = true then ((root_Right.f k t172).bind fun t202 => (if t202 = true then ((deadboltlaw09_alive.f).bind fun t203 => (rootKeeps.j0 k t159 t172 (!t203) t162 t163 t164 t167 t168 t169)) else (none))) else (none)))) else (none)) = some r := by rw [if_pos rfl] at H; exact H
     clear H
     have H := H1
     clear H1
     by_cases c61 : t189 = t196
     ·rw [if_pos c61] at H
      have c61b0 : (t189 == t196) = true := beq_iff_eq.mpr c61
      have c61b1 : (t189 != t196) = false := bne_eq_false_iff_eq.mpr c61
      clear c61
      by_cases c62 : a3 = t162
      ·rw [if_pos c62] at H
       have c62b0 : (a3 == t162) = true := beq_iff_eq.mpr c62
       have c62b1 : (a3 != t162) = false := bne_eq_false_iff_eq.mpr c62
       clear c62
       replace H := Option.bind_eq_some_iff.mp H
       obtain ⟨t199, A630, H⟩ := H
       replace H : (if t199 = true then ((deadboltlaw09_alive.f).bind fun t200 => (rootKeeps.j0 k t159 t172 (!t200) t162 t163 t164 t167 t168 t169)) else (none)) = some r := H
       have A63 := Aside0.mk A630
       clear A630
       by_cases c64 : t199 = true
       ·subst c64
        have H1 : ((deadboltlaw09_alive.f).bind fun t200 => (rootKeeps.j0 k t159 t172 (!t200) t162 t163 t164 t167 t168 t169)) = some r := by rw [if_pos rfl] at H; exact H
        clear H
        have H := H1
        clear H1
        replace H := Option.bind_eq_some_iff.mp H
        obtain ⟨t200, A650, H⟩ := H
        replace H : (rootKeeps.j0 k t159 t172 (!t200) t162 t163 t164 t167 t168 t169) = some r := H
        have A65 := Aside0.mk A650
        clear A650
        have H' := Aside0.mk H
        clear H
        have hnb66 := NB183_157.out
        have hnc66 := NB157_183.out
        have hnb67 := NB183_158.out
        have hnc67 := NB158_183.out
        have hnb68 := NB183_190.out
        have hnc68 := NB190_183.out
        have hnb69 := NB183_197.out
        have hnc69 := NB197_183.out
        have hcz70_0 : w51.cell? ⟨gb183, 0, none⟩ = some (.int .i64 t177) := (blk_cell BK183.out 0).trans rfl
        have hcz70_1 : w51.cell? ⟨gb183, 1, none⟩ = some (.int .i64 t178) := (blk_cell BK183.out 1).trans rfl
        have hcz70_2 : w51.cell? ⟨gb183, 2, none⟩ = some (.slice Ao40 t179.length co40) := (blk_cell BK183.out 2).trans rfl
        have hfz70_0 := blk_frozen BK183.out 0
        have hfz70_1 := blk_frozen BK183.out 1
        have hfz70_2 := blk_frozen BK183.out 2
        have hnb71 := NB157_158.out
        have hnc71 := NB158_157.out
        have hnb72 := NB157_190.out
        have hnc72 := NB190_157.out
        have hnb73 := NB157_197.out
        have hnc73 := NB197_157.out
        have hcz74_0 : w51.cell? ⟨gb157, 0, none⟩ = some (.int .i64 t162) := (blk_cell BK157.out 0).trans rfl
        have hcz74_1 : w51.cell? ⟨gb157, 1, none⟩ = some (.int .i64 t163) := (blk_cell BK157.out 1).trans rfl
        have hcz74_2 : w51.cell? ⟨gb157, 2, none⟩ = some (.slice Ao22 t164.length co22) := (blk_cell BK157.out 2).trans rfl
        have hfz74_0 := blk_frozen BK157.out 0
        have hfz74_1 := blk_frozen BK157.out 1
        have hfz74_2 := blk_frozen BK157.out 2
        go_wp2_with (first | (go_at_call 21; (with_reducible refine (deadboltref09_Spots.calls k t177 t178 _ _ t179 t162 t163 _ _ t164 true _ ?side1 ?side2 ?side3 ?side4 A59.out).mono ?_); (case side1 => refine (Kd.V_reads' (e := 3) (base := w.heap.size) (ok := fun k_ => ((k_ ≠ gb157 ∧ (k_ ≠ gb158 ∧ (k_ ≠ gb183 ∧ k_ ≠ gb190))) ∧ k_ ≠ gb197)) (n := t179.length) (c := co40) ?_).2.2; exact (by (with_reducible repeat (first | apply Kd.V_alloc | apply Kd.V_drewN | apply Kd.V_drew)); exact (Kd.V_mono (Kd.V_far (p := ⟨gb197, 2, none⟩) (Kd.V_far (p := ⟨gb197, 1, none⟩) (Kd.V_far (p := ⟨gb197, 0, none⟩) (Kd.V_mono HO181.out (fun k_ hk => (⟨hk, hk.2⟩ : _ ∧ k_ ≠ gb197))) (fun _ hk => hk.2) (.int .i64 t191)) (fun _ hk => hk.2) (.int .i64 t192)) (fun _ hk => hk.2) (.slice Ao57 t193.length co57)) (fun _ h_ => h_.1)))); (case side2 => exact (Kd.V_reads' HO181.out).2.1); (case side3 => refine (Kd.V_reads' (e := 3) (base := w.heap.size) (ok := fun k_ => ((some k_ ≠ (.slice Ao31 t159.length co31 : Value).ownBlock ∧ (k_ ≠ gb157 ∧ (k_ ≠ gb158 ∧ (k_ ≠ gb183 ∧ k_ ≠ gb190)))) ∧ k_ ≠ gb197)) (n := t164.length) (c := co22) ?_).2.2; exact (by (with_reducible repeat (first | apply Kd.V_alloc | apply Kd.V_drewN | apply Kd.V_drew)); exact (Kd.V_mono (Kd.V_far (p := ⟨gb197, 2, none⟩) (Kd.V_far (p := ⟨gb197, 1, none⟩) (Kd.V_far (p := ⟨gb197, 0, none⟩) (Kd.V_mono HO166.out (fun k_ hk => (⟨hk, hk.2⟩ : _ ∧ k_ ≠ gb197))) (fun _ hk => hk.2) (.int .i64 t191)) (fun _ hk => hk.2) (.int .i64 t192)) (fun _ hk => hk.2) (.slice Ao57 t193.length co57)) (fun _ h_ => h_.1)))); (case side4 => exact (Kd.V_reads' HO166.out).2.1); rintro e w75 ⟨rfl, hb⟩; have n0_ := Aside0.mk (Kd.N_below (by (with_reducible repeat (first | apply Kd.N_alloc | apply Kd.N_drewN | apply Kd.N_drew)); exact (Kd.N_mono (Kd.N_far (p := ⟨gb197, 2, none⟩) (Kd.N_far (p := ⟨gb197, 1, none⟩) (Kd.N_far (p := ⟨gb197, 0, none⟩) (Kd.N_mono HO161.out (fun k_ hk => (⟨hk, hk.2⟩ : _ ∧ k_ ≠ gb197))) (fun _ hk => hk.2) (.int .i64 t191)) (fun _ hk => hk.2) (.int .i64 t192)) (fun _ hk => hk.2) (.slice Ao57 t193.length co57)) (fun _ h_ => h_.1))) hb); have n1_ := Aside0.mk (Kd.V_below (by (with_reducible repeat (first | apply Kd.V_alloc | apply Kd.V_drewN | apply Kd.V_drew)); exact (Kd.V_mono (Kd.V_far (p := ⟨gb197, 2, none⟩) (Kd.V_far (p := ⟨gb197, 1, none⟩) (Kd.V_far (p := ⟨gb197, 0, none⟩) (Kd.V_mono HO166.out (fun k_ hk => (⟨hk, hk.2⟩ : _ ∧ k_ ≠ gb197))) (fun _ hk => hk.2) (.int .i64 t191)) (fun _ hk => hk.2) (.int .i64 t192)) (fun _ hk => hk.2) (.slice Ao57 t193.length co57)) (fun _ h_ => h_.1))) hb); have n2_ := Aside0.mk (Kd.V_below (by (with_reducible repeat (first | apply Kd.V_alloc | apply Kd.V_drewN | apply Kd.V_drew)); exact (Kd.V_mono (Kd.V_far (p := ⟨gb197, 2, none⟩) (Kd.V_far (p := ⟨gb197, 1, none⟩) (Kd.V_far (p := ⟨gb197, 0, none⟩) (Kd.V_mono HO171.out (fun k_ hk => (⟨hk, hk.2⟩ : _ ∧ k_ ≠ gb197))) (fun _ hk => hk.2) (.int .i64 t191)) (fun _ hk => hk.2) (.int .i64 t192)) (fun _ hk => hk.2) (.slice Ao57 t193.length co57)) (fun _ h_ => h_.1))) hb); have n3_ := Aside0.mk (Kd.V_below (by (with_reducible repeat (first | apply Kd.V_alloc | apply Kd.V_drewN | apply Kd.V_drew)); exact (Kd.V_mono (Kd.V_far (p := ⟨gb197, 2, none⟩) (Kd.V_far (p := ⟨gb197, 1, none⟩) (Kd.V_far (p := ⟨gb197, 0, none⟩) (Kd.V_mono HO174.out (fun k_ hk => (⟨hk, hk.2⟩ : _ ∧ k_ ≠ gb197))) (fun _ hk => hk.2) (.int .i64 t191)) (fun _ hk => hk.2) (.int .i64 t192)) (fun _ hk => hk.2) (.slice Ao57 t193.length co57)) (fun _ h_ => h_.1))) hb); have n4_ := Aside0.mk (Kd.V_below (by (with_reducible repeat (first | apply Kd.V_alloc | apply Kd.V_drewN | apply Kd.V_drew)); exact (Kd.V_mono (Kd.V_far (p := ⟨gb197, 2, none⟩) (Kd.V_far (p := ⟨gb197, 1, none⟩) (Kd.V_far (p := ⟨gb197, 0, none⟩) (Kd.V_mono HO181.out (fun k_ hk => (⟨hk, hk.2⟩ : _ ∧ k_ ≠ gb197))) (fun _ hk => hk.2) (.int .i64 t191)) (fun _ hk => hk.2) (.int .i64 t192)) (fun _ hk => hk.2) (.slice Ao57 t193.length co57)) (fun _ h_ => h_.1))) hb); have n5_ := Aside0.mk (Kd.V_below (by (with_reducible repeat (first | apply Kd.V_alloc | apply Kd.V_drewN | apply Kd.V_drew)); exact (Kd.V_mono (Kd.V_far (p := ⟨gb197, 2, none⟩) (Kd.V_far (p := ⟨gb197, 1, none⟩) (Kd.V_far (p := ⟨gb197, 0, none⟩) (Kd.V_mono HO188.out (fun k_ hk => (⟨hk, hk.2⟩ : _ ∧ k_ ≠ gb197))) (fun _ hk => hk.2) (.int .i64 t191)) (fun _ hk => hk.2) (.int .i64 t192)) (fun _ hk => hk.2) (.slice Ao57 t193.length co57)) (fun _ h_ => h_.1))) hb); have n6_ := Aside0.mk (Kd.V_below (by (with_reducible repeat (first | apply Kd.V_alloc | apply Kd.V_drewN | apply Kd.V_drew)); exact (Kd.V_mono (Kd.V_far (p := ⟨gb197, 2, none⟩) (Kd.V_far (p := ⟨gb197, 1, none⟩) (Kd.V_far (p := ⟨gb197, 0, none⟩) (Kd.V_mono HO195.out (fun k_ hk => (⟨hk, hk.2⟩ : _ ∧ k_ ≠ gb197))) (fun _ hk => hk.2) (.int .i64 t191)) (fun _ hk => hk.2) (.int .i64 t192)) (fun _ hk => hk.2) (.slice Ao57 t193.length co57)) (fun _ h_ => h_.1))) hb); have n7_ := Aside0.mk (blk_below (g := gb157) (o := .cells #[.int .i64 t162, .int .i64 t163, .slice Ao22 t164.length co22] 33 (0, 0)) (by (with_reducible repeat (first | refine blk_drewN ?_ _ | refine blk_drew ?_ | refine blk_alloc ?_ _)); refine blk_far ?_ NB157_197.out _; (with_reducible repeat (first | refine blk_drewN ?_ _ | refine blk_drew ?_ | refine blk_alloc ?_ _)); refine blk_far ?_ NB157_197.out _; (with_reducible repeat (first | refine blk_drewN ?_ _ | refine blk_drew ?_ | refine blk_alloc ?_ _)); refine blk_far ?_ NB157_197.out _; (with_reducible repeat (first | refine blk_drewN ?_ _ | refine blk_drew ?_ | refine blk_alloc ?_ _)); exact BK157.out) hb); have n8_ := Aside0.mk (blk_below (g := gb158) (o := .cells #[.int .i64 t167, .int .i64 t168, .slice Ao26 t169.length co26] 33 (0, 0)) (by (with_reducible repeat (first | refine blk_drewN ?_ _ | refine blk_drew ?_ | refine blk_alloc ?_ _)); refine blk_far ?_ NB158_197.out _; (with_reducible repeat (first | refine blk_drewN ?_ _ | refine blk_drew ?_ | refine blk_alloc ?_ _)); refine blk_far ?_ NB158_197.out _; (with_reducible repeat (first | refine blk_drewN ?_ _ | refine blk_drew ?_ | refine blk_alloc ?_ _)); refine blk_far ?_ NB158_197.out _; (with_reducible repeat (first | refine blk_drewN ?_ _ | refine blk_drew ?_ | refine blk_alloc ?_ _)); exact BK158.out) hb); have n9_ := Aside0.mk (blk_below (g := gb183) (o := .cells #[.int .i64 t177, .int .i64 t178, .slice Ao40 t179.length co40] 33 (0, 0)) (by (with_reducible repeat (first | refine blk_drewN ?_ _ | refine blk_drew ?_ | refine blk_alloc ?_ _)); refine blk_far ?_ NB183_197.out _; (with_reducible repeat (first | refine blk_drewN ?_ _ | refine blk_drew ?_ | refine blk_alloc ?_ _)); refine blk_far ?_ NB183_197.out _; (with_reducible repeat (first | refine blk_drewN ?_ _ | refine blk_drew ?_ | refine blk_alloc ?_ _)); refine blk_far ?_ NB183_197.out _; (with_reducible repeat (first | refine blk_drewN ?_ _ | refine blk_drew ?_ | refine blk_alloc ?_ _)); exact BK183.out) hb); have n10_ := Aside0.mk (blk_below (g := gb190) (o := .cells #[.int .i64 t184, .int .i64 t185, .slice Ao48 t186.length co48] 33 (0, 0)) (by (with_reducible repeat (first | refine blk_drewN ?_ _ | refine blk_drew ?_ | refine blk_alloc ?_ _)); refine blk_far ?_ NB190_197.out _; (with_reducible repeat (first | refine blk_drewN ?_ _ | refine blk_drew ?_ | refine blk_alloc ?_ _)); refine blk_far ?_ NB190_197.out _; (with_reducible repeat (first | refine blk_drewN ?_ _ | refine blk_drew ?_ | refine blk_alloc ?_ _)); refine blk_far ?_ NB190_197.out _; (with_reducible repeat (first | refine blk_drewN ?_ _ | refine blk_drew ?_ | refine blk_alloc ?_ _)); exact BK190.out) hb); have n11_ := Aside0.mk (blk_below (g := gb197) (o := .cells #[.int .i64 t191, .int .i64 t192, .slice Ao57 t193.length co57] 33 (0, 0)) (by (with_reducible repeat (first | refine blk_drewN ?_ _ | refine blk_drew ?_ | refine blk_alloc ?_ _)); refine blk_put (cs := #[.int .i64 t191, .int .i64 t192, .slice none 0 0]) ?_ 2 _ rfl; (with_reducible repeat (first | refine blk_drewN ?_ _ | refine blk_drew ?_ | refine blk_alloc ?_ _)); refine blk_put (cs := #[.int .i64 t191, .int .i64 0, .slice none 0 0]) ?_ 1 _ rfl; (with_reducible repeat (first | refine blk_drewN ?_ _ | refine blk_drew ?_ | refine blk_alloc ?_ _)); refine blk_put (cs := #[.int .i64 0, .int .i64 0, .slice none 0 0]) ?_ 0 _ rfl; (with_reducible repeat (first | refine blk_drewN ?_ _ | refine blk_drew ?_ | refine blk_alloc ?_ _)); exact BK197.out) hb); have n12_ := Aside0.mk (below_step (by repeat (first | (with_reducible first | exact HB.out | apply below_alloc | apply pw_below_drewN | apply below_drew1 | refine below_set ?_ GE157.out | refine below_set ?_ GE158.out | refine below_set ?_ GE183.out | refine below_set ?_ GE190.out | refine below_set ?_ GE197.out) | exact HB.out)) hb); clear HO161; clear HO166; clear HO171; clear HO174; clear HO181; clear HO188; clear HO195; clear BK157; clear BK158; clear BK183; clear BK190; clear BK197; clear HB; have HO161 := n0_; have HO166 := n1_; have HO171 := n2_; have HO174 := n3_; have HO181 := n4_; have HO188 := n5_; have HO195 := n6_; have BK157 := n7_; have BK158 := n8_; have BK183 := n9_; have BK190 := n10_; have BK197 := n11_; have HB := n12_; clear n0_ n1_ n2_ n3_ n4_ n5_ n6_ n7_ n8_ n9_ n10_ n11_ n12_; (try clear hb); (try clear hb2); (try clear hk); (try clear hi); have hcz76_0 : w75.cell? ⟨gb157, 0, none⟩ = some (.int .i64 t162) := (blk_cell BK157.out 0).trans rfl; have hcz76_1 : w75.cell? ⟨gb157, 1, none⟩ = some (.int .i64 t163) := (blk_cell BK157.out 1).trans rfl; have hcz76_2 : w75.cell? ⟨gb157, 2, none⟩ = some (.slice Ao22 t164.length co22) := (blk_cell BK157.out 2).trans rfl; have hfz76_0 := blk_frozen BK157.out 0; have hfz76_1 := blk_frozen BK157.out 1; have hfz76_2 := blk_frozen BK157.out 2) | (go_at_call 11; (with_reducible refine (root_Right.calls k _ _ t172 true _ ?side1 ?side2 A63.out).mono ?_); (case side1 => repeat (first | exact (Kd.V_reads' HO174.out).2.2 | (with_reducible refine Kd.C_alloc ?_ _) | (with_reducible refine Kd.C_drewN ?_ _) | (with_reducible refine Kd.C_drew ?_))); (case side2 => exact (Kd.V_reads' HO174.out).2.1); rintro e w77 ⟨rfl, hb⟩; have n0_ := Aside0.mk (Kd.N_below (zN HO161) hb); have n1_ := Aside0.mk (Kd.V_below (zV HO166) hb); have n2_ := Aside0.mk (Kd.V_below (zV HO171) hb); have n3_ := Aside0.mk (Kd.V_below (zV HO174) hb); have n4_ := Aside0.mk (Kd.V_below (zV HO181) hb); have n5_ := Aside0.mk (Kd.V_below (zV HO188) hb); have n6_ := Aside0.mk (Kd.V_below (zV HO195) hb); have n7_ := Aside0.mk (blk_below (g := gb157) (o := .cells #[.int .i64 t162, .int .i64 t163, .slice Ao22 t164.length co22] 33 (0, 0)) (zK BK157) hb); have n8_ := Aside0.mk (blk_below (g := gb158) (o := .cells #[.int .i64 t167, .int .i64 t168, .slice Ao26 t169.length co26] 33 (0, 0)) (zK BK158) hb); have n9_ := Aside0.mk (blk_below (g := gb183) (o := .cells #[.int .i64 t177, .int .i64 t178, .slice Ao40 t179.length co40] 33 (0, 0)) (zK BK183) hb); have n10_ := Aside0.mk (blk_below (g := gb190) (o := .cells #[.int .i64 t184, .int .i64 t185, .slice Ao48 t186.length co48] 33 (0, 0)) (zK BK190) hb); have n11_ := Aside0.mk (blk_below (g := gb197) (o := .cells #[.int .i64 t191, .int .i64 t192, .slice Ao57 t193.length co57] 33 (0, 0)) (zK BK197) hb); have n12_ := Aside0.mk (below_step (by repeat (first | (with_reducible first | exact HB.out | apply below_alloc | apply pw_below_drewN | apply below_drew1 | refine below_set ?_ GE157.out | refine below_set ?_ GE158.out | refine below_set ?_ GE183.out | refine below_set ?_ GE190.out | refine below_set ?_ GE197.out) | exact HB.out)) hb); clear HO161; clear HO166; clear HO171; clear HO174; clear HO181; clear HO188; clear HO195; clear BK157; clear BK158; clear BK183; clear BK190; clear BK197; clear HB; have HO161 := n0_; have HO166 := n1_; have HO171 := n2_; have HO174 := n3_; have HO181 := n4_; have HO188 := n5_; have HO195 := n6_; have BK157 := n7_; have BK158 := n8_; have BK183 := n9_; have BK190 := n10_; have BK197 := n11_; have HB := n12_; clear n0_ n1_ n2_ n3_ n4_ n5_ n6_ n7_ n8_ n9_ n10_ n11_ n12_; (try clear hb); (try clear hb2); (try clear hk); (try clear hi)) | (go_at_call 13; (with_reducible refine (deadboltlaw09_alive.calls  t200 _ A65.out).mono ?_); rintro e w78 ⟨rfl, hb⟩; have n0_ := Aside0.mk (Kd.N_below (zN HO161) hb); have n1_ := Aside0.mk (Kd.V_below (zV HO166) hb); have n2_ := Aside0.mk (Kd.V_below (zV HO171) hb); have n3_ := Aside0.mk (Kd.V_below (zV HO174) hb); have n4_ := Aside0.mk (Kd.V_below (zV HO181) hb); have n5_ := Aside0.mk (Kd.V_below (zV HO188) hb); have n6_ := Aside0.mk (Kd.V_below (zV HO195) hb); have n7_ := Aside0.mk (blk_below (g := gb157) (o := .cells #[.int .i64 t162, .int .i64 t163, .slice Ao22 t164.length co22] 33 (0, 0)) (zK BK157) hb); have n8_ := Aside0.mk (blk_below (g := gb158) (o := .cells #[.int .i64 t167, .int .i64 t168, .slice Ao26 t169.length co26] 33 (0, 0)) (zK BK158) hb); have n9_ := Aside0.mk (blk_below (g := gb183) (o := .cells #[.int .i64 t177, .int .i64 t178, .slice Ao40 t179.length co40] 33 (0, 0)) (zK BK183) hb); have n10_ := Aside0.mk (blk_below (g := gb190) (o := .cells #[.int .i64 t184, .int .i64 t185, .slice Ao48 t186.length co48] 33 (0, 0)) (zK BK190) hb); have n11_ := Aside0.mk (blk_below (g := gb197) (o := .cells #[.int .i64 t191, .int .i64 t192, .slice Ao57 t193.length co57] 33 (0, 0)) (zK BK197) hb); have n12_ := Aside0.mk (below_step (by repeat (first | (with_reducible first | exact HB.out | apply below_alloc | apply pw_below_drewN | apply below_drew1 | refine below_set ?_ GE157.out | refine below_set ?_ GE158.out | refine below_set ?_ GE183.out | refine below_set ?_ GE190.out | refine below_set ?_ GE197.out) | exact HB.out)) hb); clear HO161; clear HO166; clear HO171; clear HO174; clear HO181; clear HO188; clear HO195; clear BK157; clear BK158; clear BK183; clear BK190; clear BK197; clear HB; have HO161 := n0_; have HO166 := n1_; have HO171 := n2_; have HO174 := n3_; have HO181 := n4_; have HO188 := n5_; have HO195 := n6_; have BK157 := n7_; have BK158 := n8_; have BK183 := n9_; have BK190 := n10_; have BK197 := n11_; have HB := n12_; clear n0_ n1_ n2_ n3_ n4_ n5_ n6_ n7_ n8_ n9_ n10_ n11_ n12_; (try clear hb); (try clear hb2); (try clear hk); (try clear hi)))
        go_meet
        case rel => exact ⟨_, (!t200), (by first | rfl | (simp; done) | (simp [*]; done)), H', ⟨by first | omega | exact Nat.le_refl _⟩, ⟨by (with_reducible repeat (first | apply Kd.N_alloc | apply Kd.N_drewN | apply Kd.N_drew)); exact Kd.N_mono HO161.out (fun _ hk => ⟨hk.1.1, ⟨hk.1.2.1, ⟨hk.1.2.2.1, ⟨hk.1.2.2.2, hk.2⟩⟩⟩⟩)⟩, ⟨by (with_reducible repeat (first | apply Kd.V_alloc | apply Kd.V_drewN | apply Kd.V_drew)); exact Kd.V_mono HO174.out (fun _ hk => ⟨hk.1.1, ⟨hk.1.2.1, ⟨hk.1.2.2.1, ⟨hk.1.2.2.2, hk.2⟩⟩⟩⟩)⟩, ⟨by (with_reducible repeat (first | apply Kd.V_alloc | apply Kd.V_drewN | apply Kd.V_drew)); exact Kd.V_mono HO166.out (fun _ hk => ⟨hk.1.1, ⟨hk.1.2.1, ⟨hk.1.2.2.1, ⟨hk.1.2.2.2.1, ⟨hk.1.2.2.2.2, hk.2⟩⟩⟩⟩⟩)⟩, ⟨by (with_reducible repeat (first | apply Kd.V_alloc | apply Kd.V_drewN | apply Kd.V_drew)); exact Kd.V_mono HO171.out (fun _ hk => ⟨hk.1.1, ⟨hk.1.2.1, ⟨hk.1.2.2.1, ⟨hk.1.2.2.2.1, ⟨hk.1.2.2.2.2, hk.2⟩⟩⟩⟩⟩)⟩, ⟨by (with_reducible repeat (first | apply Kd.V_alloc | apply Kd.V_drewN | apply Kd.V_drew)); exact Kd.V_mono HO181.out (fun _ hk => ⟨hk.1.1, ⟨hk.1.2.1, ⟨hk.1.2.2.1, ⟨hk.1.2.2.2, hk.2⟩⟩⟩⟩)⟩, ⟨by (with_reducible repeat (first | apply Kd.V_alloc | apply Kd.V_drewN | apply Kd.V_drew)); exact Kd.V_mono HO188.out (fun _ hk => ⟨hk.1.1, ⟨hk.1.2.1, ⟨hk.1.2.2.1, ⟨hk.1.2.2.2, hk.2⟩⟩⟩⟩)⟩, ⟨by (with_reducible repeat (first | apply Kd.V_alloc | apply Kd.V_drewN | apply Kd.V_drew)); exact Kd.V_mono HO195.out (fun _ hk => ⟨hk.1.1, ⟨hk.1.2.1, ⟨hk.1.2.2.1, ⟨hk.1.2.2.2, hk.2⟩⟩⟩⟩)⟩, ⟨by (with_reducible repeat (first | refine blk_drewN ?_ _ | refine blk_drew ?_ | refine blk_alloc ?_ _)); exact BK157.out⟩, ⟨by (with_reducible repeat (first | refine blk_drewN ?_ _ | refine blk_drew ?_ | refine blk_alloc ?_ _)); exact BK158.out⟩, ⟨by (with_reducible repeat (first | refine blk_drewN ?_ _ | refine blk_drew ?_ | refine blk_alloc ?_ _)); exact BK183.out⟩, ⟨by (with_reducible repeat (first | refine blk_drewN ?_ _ | refine blk_drew ?_ | refine blk_alloc ?_ _)); exact BK190.out⟩, ⟨by (with_reducible repeat (first | refine blk_drewN ?_ _ | refine blk_drew ?_ | refine blk_alloc ?_ _)); exact BK197.out⟩, ⟨by repeat (first | (with_reducible first | exact HB.out | apply below_alloc | apply pw_below_drewN | apply below_drew1 | refine below_set ?_ GE157.out | refine below_set ?_ GE158.out | refine below_set ?_ GE183.out | refine below_set ?_ GE190.out | refine below_set ?_ GE197.out) | exact HB.out)⟩⟩
       ·replace c64 := Bool.eq_false_iff.mpr c64
        subst c64
        have H1 : (none) = some r := by rw [if_neg (show ¬ (false = true) by decide)] at H; exact H
        clear H
        have H := H1
        clear H1
        exact absurd H (by simp)
      ·rw [if_neg c62] at H
       have c62b0 : (a3 == t162) = false := beq_eq_false_iff_ne.mpr c62
       have c62b1 : (a3 != t162) = true := bne_iff_ne.mpr c62
       replace H := Option.bind_eq_some_iff.mp H
       obtain ⟨t201, A790, H⟩ := H
       replace H : (if t201 = true then ((root_Right.f k t172).bind fun t202 => (if t202 = true then ((deadboltlaw09_alive.f).bind fun t203 => (rootKeeps.j0 k t159 t172 (!t203) t162 t163 t164 t167 t168 t169)) else (none))) else (none)) = some r := H
       have A79 := Aside0.mk A790
       clear A790
       by_cases c80 : t201 = true
       ·subst c80
        have H1 : ((root_Right.f k t172).bind fun t202 => (if t202 = true then ((deadboltlaw09_alive.f).bind fun t203 => (rootKeeps.j0 k t159 t172 (!t203) t162 t163 t164 t167 t168 t169)) else (none))) = some r := by rw [if_pos rfl] at H; exact H
        clear H
        have H := H1
        clear H1
        replace H := Option.bind_eq_some_iff.mp H
        obtain ⟨t202, A810, H⟩ := H
        replace H : (if t202 = true then ((deadboltlaw09_alive.f).bind fun t203 => (rootKeeps.j0 k t159 t172 (!t203) t162 t163 t164 t167 t168 t169)) else (none)) = some r := H
        have A81 := Aside0.mk A810
        clear A810
        by_cases c82 : t202 = true
        ·subst c82
         have H1 : ((deadboltlaw09_alive.f).bind fun t203 => (rootKeeps.j0 k t159 t172 (!t203) t162 t163 t164 t167 t168 t169)) = some r := by rw [if_pos rfl] at H; exact H
         clear H
         have H := H1
         clear H1
         replace H := Option.bind_eq_some_iff.mp H
         obtain ⟨t203, A830, H⟩ := H
         replace H : (rootKeeps.j0 k t159 t172 (!t203) t162 t163 t164 t167 t168 t169) = some r := H
         have A83 := Aside0.mk A830
         clear A830
         have H' := Aside0.mk H
         clear H
         have hnb84 := NB183_157.out
         have hnc84 := NB157_183.out
         have hnb85 := NB183_158.out
         have hnc85 := NB158_183.out
         have hnb86 := NB183_190.out
         have hnc86 := NB190_183.out
         have hnb87 := NB183_197.out
         have hnc87 := NB197_183.out
         have hcz88_0 : w51.cell? ⟨gb183, 0, none⟩ = some (.int .i64 t177) := (blk_cell BK183.out 0).trans rfl
         have hcz88_1 : w51.cell? ⟨gb183, 1, none⟩ = some (.int .i64 t178) := (blk_cell BK183.out 1).trans rfl
         have hcz88_2 : w51.cell? ⟨gb183, 2, none⟩ = some (.slice Ao40 t179.length co40) := (blk_cell BK183.out 2).trans rfl
         have hfz88_0 := blk_frozen BK183.out 0
         have hfz88_1 := blk_frozen BK183.out 1
         have hfz88_2 := blk_frozen BK183.out 2
         have hnb89 := NB157_158.out
         have hnc89 := NB158_157.out
         have hnb90 := NB157_190.out
         have hnc90 := NB190_157.out
         have hnb91 := NB157_197.out
         have hnc91 := NB197_157.out
         have hcz92_0 : w51.cell? ⟨gb157, 0, none⟩ = some (.int .i64 t162) := (blk_cell BK157.out 0).trans rfl
         have hcz92_1 : w51.cell? ⟨gb157, 1, none⟩ = some (.int .i64 t163) := (blk_cell BK157.out 1).trans rfl
         have hcz92_2 : w51.cell? ⟨gb157, 2, none⟩ = some (.slice Ao22 t164.length co22) := (blk_cell BK157.out 2).trans rfl
         have hfz92_0 := blk_frozen BK157.out 0
         have hfz92_1 := blk_frozen BK157.out 1
         have hfz92_2 := blk_frozen BK157.out 2
         go_wp2_with (first | (go_at_call 21; (with_reducible refine (deadboltref09_Spots.calls k t177 t178 _ _ t179 t162 t163 _ _ t164 true _ ?side1 ?side2 ?side3 ?side4 A59.out).mono ?_); (case side1 => refine (Kd.V_reads' (e := 3) (base := w.heap.size) (ok := fun k_ => ((k_ ≠ gb157 ∧ (k_ ≠ gb158 ∧ (k_ ≠ gb183 ∧ k_ ≠ gb190))) ∧ k_ ≠ gb197)) (n := t179.length) (c := co40) ?_).2.2; exact (by (with_reducible repeat (first | apply Kd.V_alloc | apply Kd.V_drewN | apply Kd.V_drew)); exact (Kd.V_mono (Kd.V_far (p := ⟨gb197, 2, none⟩) (Kd.V_far (p := ⟨gb197, 1, none⟩) (Kd.V_far (p := ⟨gb197, 0, none⟩) (Kd.V_mono HO181.out (fun k_ hk => (⟨hk, hk.2⟩ : _ ∧ k_ ≠ gb197))) (fun _ hk => hk.2) (.int .i64 t191)) (fun _ hk => hk.2) (.int .i64 t192)) (fun _ hk => hk.2) (.slice Ao57 t193.length co57)) (fun _ h_ => h_.1)))); (case side2 => exact (Kd.V_reads' HO181.out).2.1); (case side3 => refine (Kd.V_reads' (e := 3) (base := w.heap.size) (ok := fun k_ => ((some k_ ≠ (.slice Ao31 t159.length co31 : Value).ownBlock ∧ (k_ ≠ gb157 ∧ (k_ ≠ gb158 ∧ (k_ ≠ gb183 ∧ k_ ≠ gb190)))) ∧ k_ ≠ gb197)) (n := t164.length) (c := co22) ?_).2.2; exact (by (with_reducible repeat (first | apply Kd.V_alloc | apply Kd.V_drewN | apply Kd.V_drew)); exact (Kd.V_mono (Kd.V_far (p := ⟨gb197, 2, none⟩) (Kd.V_far (p := ⟨gb197, 1, none⟩) (Kd.V_far (p := ⟨gb197, 0, none⟩) (Kd.V_mono HO166.out (fun k_ hk => (⟨hk, hk.2⟩ : _ ∧ k_ ≠ gb197))) (fun _ hk => hk.2) (.int .i64 t191)) (fun _ hk => hk.2) (.int .i64 t192)) (fun _ hk => hk.2) (.slice Ao57 t193.length co57)) (fun _ h_ => h_.1)))); (case side4 => exact (Kd.V_reads' HO166.out).2.1); rintro e w93 ⟨rfl, hb⟩; have n0_ := Aside0.mk (Kd.N_below (by (with_reducible repeat (first | apply Kd.N_alloc | apply Kd.N_drewN | apply Kd.N_drew)); exact (Kd.N_mono (Kd.N_far (p := ⟨gb197, 2, none⟩) (Kd.N_far (p := ⟨gb197, 1, none⟩) (Kd.N_far (p := ⟨gb197, 0, none⟩) (Kd.N_mono HO161.out (fun k_ hk => (⟨hk, hk.2⟩ : _ ∧ k_ ≠ gb197))) (fun _ hk => hk.2) (.int .i64 t191)) (fun _ hk => hk.2) (.int .i64 t192)) (fun _ hk => hk.2) (.slice Ao57 t193.length co57)) (fun _ h_ => h_.1))) hb); have n1_ := Aside0.mk (Kd.V_below (by (with_reducible repeat (first | apply Kd.V_alloc | apply Kd.V_drewN | apply Kd.V_drew)); exact (Kd.V_mono (Kd.V_far (p := ⟨gb197, 2, none⟩) (Kd.V_far (p := ⟨gb197, 1, none⟩) (Kd.V_far (p := ⟨gb197, 0, none⟩) (Kd.V_mono HO166.out (fun k_ hk => (⟨hk, hk.2⟩ : _ ∧ k_ ≠ gb197))) (fun _ hk => hk.2) (.int .i64 t191)) (fun _ hk => hk.2) (.int .i64 t192)) (fun _ hk => hk.2) (.slice Ao57 t193.length co57)) (fun _ h_ => h_.1))) hb); have n2_ := Aside0.mk (Kd.V_below (by (with_reducible repeat (first | apply Kd.V_alloc | apply Kd.V_drewN | apply Kd.V_drew)); exact (Kd.V_mono (Kd.V_far (p := ⟨gb197, 2, none⟩) (Kd.V_far (p := ⟨gb197, 1, none⟩) (Kd.V_far (p := ⟨gb197, 0, none⟩) (Kd.V_mono HO171.out (fun k_ hk => (⟨hk, hk.2⟩ : _ ∧ k_ ≠ gb197))) (fun _ hk => hk.2) (.int .i64 t191)) (fun _ hk => hk.2) (.int .i64 t192)) (fun _ hk => hk.2) (.slice Ao57 t193.length co57)) (fun _ h_ => h_.1))) hb); have n3_ := Aside0.mk (Kd.V_below (by (with_reducible repeat (first | apply Kd.V_alloc | apply Kd.V_drewN | apply Kd.V_drew)); exact (Kd.V_mono (Kd.V_far (p := ⟨gb197, 2, none⟩) (Kd.V_far (p := ⟨gb197, 1, none⟩) (Kd.V_far (p := ⟨gb197, 0, none⟩) (Kd.V_mono HO174.out (fun k_ hk => (⟨hk, hk.2⟩ : _ ∧ k_ ≠ gb197))) (fun _ hk => hk.2) (.int .i64 t191)) (fun _ hk => hk.2) (.int .i64 t192)) (fun _ hk => hk.2) (.slice Ao57 t193.length co57)) (fun _ h_ => h_.1))) hb); have n4_ := Aside0.mk (Kd.V_below (by (with_reducible repeat (first | apply Kd.V_alloc | apply Kd.V_drewN | apply Kd.V_drew)); exact (Kd.V_mono (Kd.V_far (p := ⟨gb197, 2, none⟩) (Kd.V_far (p := ⟨gb197, 1, none⟩) (Kd.V_far (p := ⟨gb197, 0, none⟩) (Kd.V_mono HO181.out (fun k_ hk => (⟨hk, hk.2⟩ : _ ∧ k_ ≠ gb197))) (fun _ hk => hk.2) (.int .i64 t191)) (fun _ hk => hk.2) (.int .i64 t192)) (fun _ hk => hk.2) (.slice Ao57 t193.length co57)) (fun _ h_ => h_.1))) hb); have n5_ := Aside0.mk (Kd.V_below (by (with_reducible repeat (first | apply Kd.V_alloc | apply Kd.V_drewN | apply Kd.V_drew)); exact (Kd.V_mono (Kd.V_far (p := ⟨gb197, 2, none⟩) (Kd.V_far (p := ⟨gb197, 1, none⟩) (Kd.V_far (p := ⟨gb197, 0, none⟩) (Kd.V_mono HO188.out (fun k_ hk => (⟨hk, hk.2⟩ : _ ∧ k_ ≠ gb197))) (fun _ hk => hk.2) (.int .i64 t191)) (fun _ hk => hk.2) (.int .i64 t192)) (fun _ hk => hk.2) (.slice Ao57 t193.length co57)) (fun _ h_ => h_.1))) hb); have n6_ := Aside0.mk (Kd.V_below (by (with_reducible repeat (first | apply Kd.V_alloc | apply Kd.V_drewN | apply Kd.V_drew)); exact (Kd.V_mono (Kd.V_far (p := ⟨gb197, 2, none⟩) (Kd.V_far (p := ⟨gb197, 1, none⟩) (Kd.V_far (p := ⟨gb197, 0, none⟩) (Kd.V_mono HO195.out (fun k_ hk => (⟨hk, hk.2⟩ : _ ∧ k_ ≠ gb197))) (fun _ hk => hk.2) (.int .i64 t191)) (fun _ hk => hk.2) (.int .i64 t192)) (fun _ hk => hk.2) (.slice Ao57 t193.length co57)) (fun _ h_ => h_.1))) hb); have n7_ := Aside0.mk (blk_below (g := gb157) (o := .cells #[.int .i64 t162, .int .i64 t163, .slice Ao22 t164.length co22] 33 (0, 0)) (by (with_reducible repeat (first | refine blk_drewN ?_ _ | refine blk_drew ?_ | refine blk_alloc ?_ _)); refine blk_far ?_ NB157_197.out _; (with_reducible repeat (first | refine blk_drewN ?_ _ | refine blk_drew ?_ | refine blk_alloc ?_ _)); refine blk_far ?_ NB157_197.out _; (with_reducible repeat (first | refine blk_drewN ?_ _ | refine blk_drew ?_ | refine blk_alloc ?_ _)); refine blk_far ?_ NB157_197.out _; (with_reducible repeat (first | refine blk_drewN ?_ _ | refine blk_drew ?_ | refine blk_alloc ?_ _)); exact BK157.out) hb); have n8_ := Aside0.mk (blk_below (g := gb158) (o := .cells #[.int .i64 t167, .int .i64 t168, .slice Ao26 t169.length co26] 33 (0, 0)) (by (with_reducible repeat (first | refine blk_drewN ?_ _ | refine blk_drew ?_ | refine blk_alloc ?_ _)); refine blk_far ?_ NB158_197.out _; (with_reducible repeat (first | refine blk_drewN ?_ _ | refine blk_drew ?_ | refine blk_alloc ?_ _)); refine blk_far ?_ NB158_197.out _; (with_reducible repeat (first | refine blk_drewN ?_ _ | refine blk_drew ?_ | refine blk_alloc ?_ _)); refine blk_far ?_ NB158_197.out _; (with_reducible repeat (first | refine blk_drewN ?_ _ | refine blk_drew ?_ | refine blk_alloc ?_ _)); exact BK158.out) hb); have n9_ := Aside0.mk (blk_below (g := gb183) (o := .cells #[.int .i64 t177, .int .i64 t178, .slice Ao40 t179.length co40] 33 (0, 0)) (by (with_reducible repeat (first | refine blk_drewN ?_ _ | refine blk_drew ?_ | refine blk_alloc ?_ _)); refine blk_far ?_ NB183_197.out _; (with_reducible repeat (first | refine blk_drewN ?_ _ | refine blk_drew ?_ | refine blk_alloc ?_ _)); refine blk_far ?_ NB183_197.out _; (with_reducible repeat (first | refine blk_drewN ?_ _ | refine blk_drew ?_ | refine blk_alloc ?_ _)); refine blk_far ?_ NB183_197.out _; (with_reducible repeat (first | refine blk_drewN ?_ _ | refine blk_drew ?_ | refine blk_alloc ?_ _)); exact BK183.out) hb); have n10_ := Aside0.mk (blk_below (g := gb190) (o := .cells #[.int .i64 t184, .int .i64 t185, .slice Ao48 t186.length co48] 33 (0, 0)) (by (with_reducible repeat (first | refine blk_drewN ?_ _ | refine blk_drew ?_ | refine blk_alloc ?_ _)); refine blk_far ?_ NB190_197.out _; (with_reducible repeat (first | refine blk_drewN ?_ _ | refine blk_drew ?_ | refine blk_alloc ?_ _)); refine blk_far ?_ NB190_197.out _; (with_reducible repeat (first | refine blk_drewN ?_ _ | refine blk_drew ?_ | refine blk_alloc ?_ _)); refine blk_far ?_ NB190_197.out _; (with_reducible repeat (first | refine blk_drewN ?_ _ | refine blk_drew ?_ | refine blk_alloc ?_ _)); exact BK190.out) hb); have n11_ := Aside0.mk (blk_below (g := gb197) (o := .cells #[.int .i64 t191, .int .i64 t192, .slice Ao57 t193.length co57] 33 (0, 0)) (by (with_reducible repeat (first | refine blk_drewN ?_ _ | refine blk_drew ?_ | refine blk_alloc ?_ _)); refine blk_put (cs := #[.int .i64 t191, .int .i64 t192, .slice none 0 0]) ?_ 2 _ rfl; (with_reducible repeat (first | refine blk_drewN ?_ _ | refine blk_drew ?_ | refine blk_alloc ?_ _)); refine blk_put (cs := #[.int .i64 t191, .int .i64 0, .slice none 0 0]) ?_ 1 _ rfl; (with_reducible repeat (first | refine blk_drewN ?_ _ | refine blk_drew ?_ | refine blk_alloc ?_ _)); refine blk_put (cs := #[.int .i64 0, .int .i64 0, .slice none 0 0]) ?_ 0 _ rfl; (with_reducible repeat (first | refine blk_drewN ?_ _ | refine blk_drew ?_ | refine blk_alloc ?_ _)); exact BK197.out) hb); have n12_ := Aside0.mk (below_step (by repeat (first | (with_reducible first | exact HB.out | apply below_alloc | apply pw_below_drewN | apply below_drew1 | refine below_set ?_ GE157.out | refine below_set ?_ GE158.out | refine below_set ?_ GE183.out | refine below_set ?_ GE190.out | refine below_set ?_ GE197.out) | exact HB.out)) hb); clear HO161; clear HO166; clear HO171; clear HO174; clear HO181; clear HO188; clear HO195; clear BK157; clear BK158; clear BK183; clear BK190; clear BK197; clear HB; have HO161 := n0_; have HO166 := n1_; have HO171 := n2_; have HO174 := n3_; have HO181 := n4_; have HO188 := n5_; have HO195 := n6_; have BK157 := n7_; have BK158 := n8_; have BK183 := n9_; have BK190 := n10_; have BK197 := n11_; have HB := n12_; clear n0_ n1_ n2_ n3_ n4_ n5_ n6_ n7_ n8_ n9_ n10_ n11_ n12_; (try clear hb); (try clear hb2); (try clear hk); (try clear hi); have hcz94_0 : w93.cell? ⟨gb157, 0, none⟩ = some (.int .i64 t162) := (blk_cell BK157.out 0).trans rfl; have hcz94_1 : w93.cell? ⟨gb157, 1, none⟩ = some (.int .i64 t163) := (blk_cell BK157.out 1).trans rfl; have hcz94_2 : w93.cell? ⟨gb157, 2, none⟩ = some (.slice Ao22 t164.length co22) := (blk_cell BK157.out 2).trans rfl; have hfz94_0 := blk_frozen BK157.out 0; have hfz94_1 := blk_frozen BK157.out 1; have hfz94_2 := blk_frozen BK157.out 2; have hnb95 := NB190_158.out; have hnc95 := NB158_190.out; have hnb96 := NB190_197.out; have hnc96 := NB197_190.out; have hcz97_0 : w93.cell? ⟨gb190, 0, none⟩ = some (.int .i64 t184) := (blk_cell BK190.out 0).trans rfl; have hcz97_1 : w93.cell? ⟨gb190, 1, none⟩ = some (.int .i64 t185) := (blk_cell BK190.out 1).trans rfl; have hcz97_2 : w93.cell? ⟨gb190, 2, none⟩ = some (.slice Ao48 t186.length co48) := (blk_cell BK190.out 2).trans rfl; have hfz97_0 := blk_frozen BK190.out 0; have hfz97_1 := blk_frozen BK190.out 1; have hfz97_2 := blk_frozen BK190.out 2; have hnb98 := NB197_158.out; have hnc98 := NB158_197.out; have hcz99_0 : w93.cell? ⟨gb197, 0, none⟩ = some (.int .i64 t191) := (blk_cell BK197.out 0).trans rfl; have hcz99_1 : w93.cell? ⟨gb197, 1, none⟩ = some (.int .i64 t192) := (blk_cell BK197.out 1).trans rfl; have hcz99_2 : w93.cell? ⟨gb197, 2, none⟩ = some (.slice Ao57 t193.length co57) := (blk_cell BK197.out 2).trans rfl; have hfz99_0 := blk_frozen BK197.out 0; have hfz99_1 := blk_frozen BK197.out 1; have hfz99_2 := blk_frozen BK197.out 2) | (go_at_call 21; (with_reducible refine (deadboltref09_Spots.calls k t184 t185 _ _ t186 t191 t192 _ _ t193 true _ ?side1 ?side2 ?side3 ?side4 A79.out).mono ?_); (case side1 => repeat (first | exact (Kd.V_reads' HO188.out).2.2 | (with_reducible refine Kd.C_alloc ?_ _) | (with_reducible refine Kd.C_drewN ?_ _) | (with_reducible refine Kd.C_drew ?_))); (case side2 => exact (Kd.V_reads' HO188.out).2.1); (case side3 => repeat (first | exact (Kd.V_reads' HO195.out).2.2 | (with_reducible refine Kd.C_alloc ?_ _) | (with_reducible refine Kd.C_drewN ?_ _) | (with_reducible refine Kd.C_drew ?_))); (case side4 => exact (Kd.V_reads' HO195.out).2.1); rintro e w100 ⟨rfl, hb⟩; have n0_ := Aside0.mk (Kd.N_below (zN HO161) hb); have n1_ := Aside0.mk (Kd.V_below (zV HO166) hb); have n2_ := Aside0.mk (Kd.V_below (zV HO171) hb); have n3_ := Aside0.mk (Kd.V_below (zV HO174) hb); have n4_ := Aside0.mk (Kd.V_below (zV HO181) hb); have n5_ := Aside0.mk (Kd.V_below (zV HO188) hb); have n6_ := Aside0.mk (Kd.V_below (zV HO195) hb); have n7_ := Aside0.mk (blk_below (g := gb157) (o := .cells #[.int .i64 t162, .int .i64 t163, .slice Ao22 t164.length co22] 33 (0, 0)) (zK BK157) hb); have n8_ := Aside0.mk (blk_below (g := gb158) (o := .cells #[.int .i64 t167, .int .i64 t168, .slice Ao26 t169.length co26] 33 (0, 0)) (zK BK158) hb); have n9_ := Aside0.mk (blk_below (g := gb183) (o := .cells #[.int .i64 t177, .int .i64 t178, .slice Ao40 t179.length co40] 33 (0, 0)) (zK BK183) hb); have n10_ := Aside0.mk (blk_below (g := gb190) (o := .cells #[.int .i64 t184, .int .i64 t185, .slice Ao48 t186.length co48] 33 (0, 0)) (zK BK190) hb); have n11_ := Aside0.mk (blk_below (g := gb197) (o := .cells #[.int .i64 t191, .int .i64 t192, .slice Ao57 t193.length co57] 33 (0, 0)) (zK BK197) hb); have n12_ := Aside0.mk (below_step (by repeat (first | (with_reducible first | exact HB.out | apply below_alloc | apply pw_below_drewN | apply below_drew1 | refine below_set ?_ GE157.out | refine below_set ?_ GE158.out | refine below_set ?_ GE183.out | refine below_set ?_ GE190.out | refine below_set ?_ GE197.out) | exact HB.out)) hb); clear HO161; clear HO166; clear HO171; clear HO174; clear HO181; clear HO188; clear HO195; clear BK157; clear BK158; clear BK183; clear BK190; clear BK197; clear HB; have HO161 := n0_; have HO166 := n1_; have HO171 := n2_; have HO174 := n3_; have HO181 := n4_; have HO188 := n5_; have HO195 := n6_; have BK157 := n7_; have BK158 := n8_; have BK183 := n9_; have BK190 := n10_; have BK197 := n11_; have HB := n12_; clear n0_ n1_ n2_ n3_ n4_ n5_ n6_ n7_ n8_ n9_ n10_ n11_ n12_; (try clear hb); (try clear hb2); (try clear hk); (try clear hi)) | (go_at_call 11; (with_reducible refine (root_Right.calls k _ _ t172 true _ ?side1 ?side2 A81.out).mono ?_); (case side1 => repeat (first | exact (Kd.V_reads' HO174.out).2.2 | (with_reducible refine Kd.C_alloc ?_ _) | (with_reducible refine Kd.C_drewN ?_ _) | (with_reducible refine Kd.C_drew ?_))); (case side2 => exact (Kd.V_reads' HO174.out).2.1); rintro e w101 ⟨rfl, hb⟩; have n0_ := Aside0.mk (Kd.N_below (zN HO161) hb); have n1_ := Aside0.mk (Kd.V_below (zV HO166) hb); have n2_ := Aside0.mk (Kd.V_below (zV HO171) hb); have n3_ := Aside0.mk (Kd.V_below (zV HO174) hb); have n4_ := Aside0.mk (Kd.V_below (zV HO181) hb); have n5_ := Aside0.mk (Kd.V_below (zV HO188) hb); have n6_ := Aside0.mk (Kd.V_below (zV HO195) hb); have n7_ := Aside0.mk (blk_below (g := gb157) (o := .cells #[.int .i64 t162, .int .i64 t163, .slice Ao22 t164.length co22] 33 (0, 0)) (zK BK157) hb); have n8_ := Aside0.mk (blk_below (g := gb158) (o := .cells #[.int .i64 t167, .int .i64 t168, .slice Ao26 t169.length co26] 33 (0, 0)) (zK BK158) hb); have n9_ := Aside0.mk (blk_below (g := gb183) (o := .cells #[.int .i64 t177, .int .i64 t178, .slice Ao40 t179.length co40] 33 (0, 0)) (zK BK183) hb); have n10_ := Aside0.mk (blk_below (g := gb190) (o := .cells #[.int .i64 t184, .int .i64 t185, .slice Ao48 t186.length co48] 33 (0, 0)) (zK BK190) hb); have n11_ := Aside0.mk (blk_below (g := gb197) (o := .cells #[.int .i64 t191, .int .i64 t192, .slice Ao57 t193.length co57] 33 (0, 0)) (zK BK197) hb); have n12_ := Aside0.mk (below_step (by repeat (first | (with_reducible first | exact HB.out | apply below_alloc | apply pw_below_drewN | apply below_drew1 | refine below_set ?_ GE157.out | refine below_set ?_ GE158.out | refine below_set ?_ GE183.out | refine below_set ?_ GE190.out | refine below_set ?_ GE197.out) | exact HB.out)) hb); clear HO161; clear HO166; clear HO171; clear HO174; clear HO181; clear HO188; clear HO195; clear BK157; clear BK158; clear BK183; clear BK190; clear BK197; clear HB; have HO161 := n0_; have HO166 := n1_; have HO171 := n2_; have HO174 := n3_; have HO181 := n4_; have HO188 := n5_; have HO195 := n6_; have BK157 := n7_; have BK158 := n8_; have BK183 := n9_; have BK190 := n10_; have BK197 := n11_; have HB := n12_; clear n0_ n1_ n2_ n3_ n4_ n5_ n6_ n7_ n8_ n9_ n10_ n11_ n12_; (try clear hb); (try clear hb2); (try clear hk); (try clear hi)) | (go_at_call 13; (with_reducible refine (deadboltlaw09_alive.calls  t203 _ A83.out).mono ?_); rintro e w102 ⟨rfl, hb⟩; have n0_ := Aside0.mk (Kd.N_below (zN HO161) hb); have n1_ := Aside0.mk (Kd.V_below (zV HO166) hb); have n2_ := Aside0.mk (Kd.V_below (zV HO171) hb); have n3_ := Aside0.mk (Kd.V_below (zV HO174) hb); have n4_ := Aside0.mk (Kd.V_below (zV HO181) hb); have n5_ := Aside0.mk (Kd.V_below (zV HO188) hb); have n6_ := Aside0.mk (Kd.V_below (zV HO195) hb); have n7_ := Aside0.mk (blk_below (g := gb157) (o := .cells #[.int .i64 t162, .int .i64 t163, .slice Ao22 t164.length co22] 33 (0, 0)) (zK BK157) hb); have n8_ := Aside0.mk (blk_below (g := gb158) (o := .cells #[.int .i64 t167, .int .i64 t168, .slice Ao26 t169.length co26] 33 (0, 0)) (zK BK158) hb); have n9_ := Aside0.mk (blk_below (g := gb183) (o := .cells #[.int .i64 t177, .int .i64 t178, .slice Ao40 t179.length co40] 33 (0, 0)) (zK BK183) hb); have n10_ := Aside0.mk (blk_below (g := gb190) (o := .cells #[.int .i64 t184, .int .i64 t185, .slice Ao48 t186.length co48] 33 (0, 0)) (zK BK190) hb); have n11_ := Aside0.mk (blk_below (g := gb197) (o := .cells #[.int .i64 t191, .int .i64 t192, .slice Ao57 t193.length co57] 33 (0, 0)) (zK BK197) hb); have n12_ := Aside0.mk (below_step (by repeat (first | (with_reducible first | exact HB.out | apply below_alloc | apply pw_below_drewN | apply below_drew1 | refine below_set ?_ GE157.out | refine below_set ?_ GE158.out | refine below_set ?_ GE183.out | refine below_set ?_ GE190.out | refine below_set ?_ GE197.out) | exact HB.out)) hb); clear HO161; clear HO166; clear HO171; clear HO174; clear HO181; clear HO188; clear HO195; clear BK157; clear BK158; clear BK183; clear BK190; clear BK197; clear HB; have HO161 := n0_; have HO166 := n1_; have HO171 := n2_; have HO174 := n3_; have HO181 := n4_; have HO188 := n5_; have HO195 := n6_; have BK157 := n7_; have BK158 := n8_; have BK183 := n9_; have BK190 := n10_; have BK197 := n11_; have HB := n12_; clear n0_ n1_ n2_ n3_ n4_ n5_ n6_ n7_ n8_ n9_ n10_ n11_ n12_; (try clear hb); (try clear hb2); (try clear hk); (try clear hi)))
         go_meet
         case rel => exact ⟨_, (!t203), (by first | rfl | (simp; done) | (simp [*]; done)), H', ⟨by first | omega | exact Nat.le_refl _⟩, ⟨by (with_reducible repeat (first | apply Kd.N_alloc | apply Kd.N_drewN | apply Kd.N_drew)); exact Kd.N_mono HO161.out (fun _ hk => ⟨hk.1.1, ⟨hk.1.2.1, ⟨hk.1.2.2.1, ⟨hk.1.2.2.2, hk.2⟩⟩⟩⟩)⟩, ⟨by (with_reducible repeat (first | apply Kd.V_alloc | apply Kd.V_drewN | apply Kd.V_drew)); exact Kd.V_mono HO174.out (fun _ hk => ⟨hk.1.1, ⟨hk.1.2.1, ⟨hk.1.2.2.1, ⟨hk.1.2.2.2, hk.2⟩⟩⟩⟩)⟩, ⟨by (with_reducible repeat (first | apply Kd.V_alloc | apply Kd.V_drewN | apply Kd.V_drew)); exact Kd.V_mono HO166.out (fun _ hk => ⟨hk.1.1, ⟨hk.1.2.1, ⟨hk.1.2.2.1, ⟨hk.1.2.2.2.1, ⟨hk.1.2.2.2.2, hk.2⟩⟩⟩⟩⟩)⟩, ⟨by (with_reducible repeat (first | apply Kd.V_alloc | apply Kd.V_drewN | apply Kd.V_drew)); exact Kd.V_mono HO171.out (fun _ hk => ⟨hk.1.1, ⟨hk.1.2.1, ⟨hk.1.2.2.1, ⟨hk.1.2.2.2.1, ⟨hk.1.2.2.2.2, hk.2⟩⟩⟩⟩⟩)⟩, ⟨by (with_reducible repeat (first | apply Kd.V_alloc | apply Kd.V_drewN | apply Kd.V_drew)); exact Kd.V_mono HO181.out (fun _ hk => ⟨hk.1.1, ⟨hk.1.2.1, ⟨hk.1.2.2.1, ⟨hk.1.2.2.2, hk.2⟩⟩⟩⟩)⟩, ⟨by (with_reducible repeat (first | apply Kd.V_alloc | apply Kd.V_drewN | apply Kd.V_drew)); exact Kd.V_mono HO188.out (fun _ hk => ⟨hk.1.1, ⟨hk.1.2.1, ⟨hk.1.2.2.1, ⟨hk.1.2.2.2, hk.2⟩⟩⟩⟩)⟩, ⟨by (with_reducible repeat (first | apply Kd.V_alloc | apply Kd.V_drewN | apply Kd.V_drew)); exact Kd.V_mono HO195.out (fun _ hk => ⟨hk.1.1, ⟨hk.1.2.1, ⟨hk.1.2.2.1, ⟨hk.1.2.2.2, hk.2⟩⟩⟩⟩)⟩, ⟨by (with_reducible repeat (first | refine blk_drewN ?_ _ | refine blk_drew ?_ | refine blk_alloc ?_ _)); exact BK157.out⟩, ⟨by (with_reducible repeat (first | refine blk_drewN ?_ _ | refine blk_drew ?_ | refine blk_alloc ?_ _)); exact BK158.out⟩, ⟨by (with_reducible repeat (first | refine blk_drewN ?_ _ | refine blk_drew ?_ | refine blk_alloc ?_ _)); exact BK183.out⟩, ⟨by (with_reducible repeat (first | refine blk_drewN ?_ _ | refine blk_drew ?_ | refine blk_alloc ?_ _)); exact BK190.out⟩, ⟨by (with_reducible repeat (first | refine blk_drewN ?_ _ | refine blk_drew ?_ | refine blk_alloc ?_ _)); exact BK197.out⟩, ⟨by repeat (first | (with_reducible first | exact HB.out | apply below_alloc | apply pw_below_drewN | apply below_drew1 | refine below_set ?_ GE157.out | refine below_set ?_ GE158.out | refine below_set ?_ GE183.out | refine below_set ?_ GE190.out | refine below_set ?_ GE197.out) | exact HB.out)⟩⟩
        ·replace c82 := Bool.eq_false_iff.mpr c82
         subst c82
         have H1 : (none) = some r := by rw [if_neg (show ¬ (false = true) by decide)] at H; exact H
         clear H
         have H := H1
         clear H1
         exact absurd H (by simp)
       ·replace c80 := Bool.eq_false_iff.mpr c80
        subst c80
        have H1 : (none) = some r := by rw [if_neg (show ¬ (false = true) by decide)] at H; exact H
        clear H
        have H := H1
        clear H1
        exact absurd H (by simp)
     ·rw [if_neg c61] at H
      exact absurd H (by simp)
    ·replace c60 := Bool.eq_false_iff.mpr c60
     subst c60
     have H1 : (none) = some r := by rw [if_neg (show ¬ (false = true) by decide)] at H; exact H
     clear H
     have H := H1
     clear H1
     exact absurd H (by simp)
   ·rw [if_neg c58] at H
    exact absurd H (by simp)
  case rest =>
   clear HC13
   try clear c1
   try clear c2
   try clear p2
   try clear c3
   try clear c4
   try clear c5
   try clear c6
   try clear c7
   try clear c8
   try clear c9
   try clear c9b0
   try clear c9b1
   try clear c10
   try clear c15
   try clear c16
   try clear c17
   try clear c29
   try clear c37
   try clear c38
   try clear c44
   try clear c45
   try clear c46
   try clear c52
   try clear c53
   try clear c54
   try clear c55
   try clear c58
   try clear c58b0
   try clear c58b1
   try clear c60
   try clear c61
   try clear c61b0
   try clear c61b1
   try clear c62
   try clear c62b0
   try clear c62b1
   try clear c64
   try clear c66
   try clear c67
   try clear c68
   try clear c69
   try clear c71
   try clear c72
   try clear c73
   try clear c80
   try clear c82
   try clear c84
   try clear c85
   try clear c86
   try clear c87
   try clear c89
   try clear c90
   try clear c91
   try clear c95
   try clear c96
   try clear c98
   try clear hcz30_0
   try clear hcz30_1
   try clear hcz30_2
   try clear hcz33_0
   try clear hcz33_1
   try clear hcz33_2
   try clear hcz39_0
   try clear hcz39_1
   try clear hcz39_2
   try clear hcz47_0
   try clear hcz47_1
   try clear hcz47_2
   try clear hcz56_0
   try clear hcz56_1
   try clear hcz56_2
   try clear hcz70_0
   try clear hcz70_1
   try clear hcz70_2
   try clear hcz74_0
   try clear hcz74_1
   try clear hcz74_2
   try clear hcz76_0
   try clear hcz76_1
   try clear hcz76_2
   try clear hcz88_0
   try clear hcz88_1
   try clear hcz88_2
   try clear hcz92_0
   try clear hcz92_1
   try clear hcz92_2
   try clear hcz94_0
   try clear hcz94_1
   try clear hcz94_2
   try clear hcz97_0
   try clear hcz97_1
   try clear hcz97_2
   try clear hcz99_0
   try clear hcz99_1
   try clear hcz99_2
   try clear hfz30_0
   try clear hfz30_1
   try clear hfz30_2
   try clear hfz33_0
   try clear hfz33_1
   try clear hfz33_2
   try clear hfz39_0
   try clear hfz39_1
   try clear hfz39_2
   try clear hfz47_0
   try clear hfz47_1
   try clear hfz47_2
   try clear hfz56_0
   try clear hfz56_1
   try clear hfz56_2
   try clear hfz70_0
   try clear hfz70_1
   try clear hfz70_2
   try clear hfz74_0
   try clear hfz74_1
   try clear hfz74_2
   try clear hfz76_0
   try clear hfz76_1
   try clear hfz76_2
   try clear hfz88_0
   try clear hfz88_1
   try clear hfz88_2
   try clear hfz92_0
   try clear hfz92_1
   try clear hfz92_2
   try clear hfz94_0
   try clear hfz94_1
   try clear hfz94_2
   try clear hfz97_0
   try clear hfz97_1
   try clear hfz97_2
   try clear hfz99_0
   try clear hfz99_1
   try clear hfz99_2
   obtain ⟨kq, x99_12, rfl, HA, HJ12, HO_0, HO_9, HO_158002, HO_159002, HO_184002, HO_191002, HO_198002, BK157, BK158, BK183, BK190, BK197, HB⟩ := hcut
   cases kq with
   | zero => exact absurd HA.out (by simp [rootKeeps.j0])
   | succ kj12 =>
    have H := HA.out
    clear HA
    simp only [rootKeeps.j0] at H
    by_cases c103 : x99_12 = true
    ·subst c103
     have H1 : (none) = some r := by rw [if_pos rfl] at H; exact H
     clear H
     have H := H1
     clear H1
     exact absurd H (by simp)
    ·replace c103 := Bool.eq_false_iff.mpr c103
     subst c103
     have H1 : ((root_Root.f t162).bind fun bt204 => ((root_Under.f kj12 t172 bt204.1).bind fun bt206 => (if bt204.2 = 0 then (if bt206.2 = 0 then ((deadboltref07_Place.f kj12 bt206.1 t162).bind fun t210 => ((deadboltref09_Empty.f t162 t163 t164).bind fun t211 => (rootKeeps.j1 kj12 t159 t172 ((decide (t210 ≥ 0)) != (!t211)) t162 t163 t164 t167 t168 t169))) else (none)) else (none)))) = some r := by rw [if_neg (show ¬ (false = true) by decide)] at H; exact H
     clear H
     have H := H1
     clear H1
     replace H := Option.bind_eq_some_iff.mp H
     obtain ⟨⟨t204, t205⟩, A1040, H⟩ := H
     replace H : ((root_Under.f kj12 t172 t204).bind fun bt206 => (if t205 = 0 then (if bt206.2 = 0 then ((deadboltref07_Place.f kj12 bt206.1 t162).bind fun t210 => ((deadboltref09_Empty.f t162 t163 t164).bind fun t211 => (rootKeeps.j1 kj12 t159 t172 ((decide (t210 ≥ 0)) != (!t211)) t162 t163 t164 t167 t168 t169))) else (none)) else (none))) = some r := H
     have A104 := Aside0.mk A1040
     clear A1040
     replace H := Option.bind_eq_some_iff.mp H
     obtain ⟨⟨t206, t207⟩, A1050, H⟩ := H
     replace H : (if t205 = 0 then (if t207 = 0 then ((deadboltref07_Place.f kj12 t206 t162).bind fun t210 => ((deadboltref09_Empty.f t162 t163 t164).bind fun t211 => (rootKeeps.j1 kj12 t159 t172 ((decide (t210 ≥ 0)) != (!t211)) t162 t163 t164 t167 t168 t169))) else (none)) else (none)) = some r := H
     have A105 := Aside0.mk A1050
     clear A1050
     have HC106 := Aside0.mk H
     clear H
     have hnb107 := NB157_158.out
     have hnc107 := NB158_157.out
     have hnb108 := NB157_183.out
     have hnc108 := NB183_157.out
     have hnb109 := NB157_190.out
     have hnc109 := NB190_157.out
     have hnb110 := NB157_197.out
     have hnc110 := NB197_157.out
     have hcz111_0 : wc.cell? ⟨gb157, 0, none⟩ = some (.int .i64 t162) := (blk_cell BK157.out 0).trans rfl
     have hcz111_1 : wc.cell? ⟨gb157, 1, none⟩ = some (.int .i64 t163) := (blk_cell BK157.out 1).trans rfl
     have hcz111_2 : wc.cell? ⟨gb157, 2, none⟩ = some (.slice Ao22 t164.length co22) := (blk_cell BK157.out 2).trans rfl
     have hfz111_0 := blk_frozen BK157.out 0
     have hfz111_1 := blk_frozen BK157.out 1
     have hfz111_2 := blk_frozen BK157.out 2
     go_upto_region 12 with (first | ((with_reducible refine gate_callee (f := 14) rfl ?_); refine goesL_ (some 103) rfl rfl Try.func14 (by kernel_rfl) rfl #[.int .i64 t162] rfl zP ?_; (with_reducible refine (root_Root.calls t162 t204 t205 _ A104.out).mono ?_); rintro e w' ⟨rfl, ⟨nd, rfl⟩⟩; refine ⟨_, rfl, ?_⟩) | ((with_reducible refine gate_callee (f := 12) rfl ?_); refine goesL_ (some 109) rfl rfl Try.func12 (by kernel_rfl) rfl #[.slice Ao34 t172.length co34, .int .i64 t204] rfl zP ?_; (with_reducible refine (root_Under.calls kj12 _ _ t172 t204 t206 t207 _ ?side1 ?side2 A105.out).mono ?_); (case side1 => repeat (first | exact (Kd.V_reads' HO_9.out).2.2 | (with_reducible refine Kd.C_alloc ?_ _) | (with_reducible refine Kd.C_drewN ?_ _) | (with_reducible refine Kd.C_drew ?_))); (case side2 => exact (Kd.V_reads' HO_9.out).2.1); rintro e w112 ⟨v208, rfl, ho0, hb⟩; refine ⟨_, rfl, ?_⟩; have n0_ := Aside0.mk (Kd.N_elder' (zN HO_0) (Kd.R_base ho0) hb); have n1_ := Aside0.mk (Kd.V_elder' (zV HO_9) (Kd.R_base ho0) hb); have n2_ := Aside0.mk (Kd.V_elder' (zV HO_158002) (Kd.R_base ho0) hb); have n3_ := Aside0.mk (Kd.V_elder' (zV HO_159002) (Kd.R_base ho0) hb); have n4_ := Aside0.mk (Kd.V_elder' (zV HO_184002) (Kd.R_base ho0) hb); have n5_ := Aside0.mk (Kd.V_elder' (zV HO_191002) (Kd.R_base ho0) hb); have n6_ := Aside0.mk (Kd.V_elder' (zV HO_198002) (Kd.R_base ho0) hb); have n7_ := Aside0.mk (Kd.R_lower ho0 (below_size (by repeat (first | (with_reducible first | exact HB.out | apply below_alloc | apply pw_below_drewN | apply below_drew1 | refine below_set ?_ GE157.out | refine below_set ?_ GE158.out | refine below_set ?_ GE183.out | refine below_set ?_ GE190.out | refine below_set ?_ GE197.out) | exact HB.out)))); have n8_ := Aside0.mk (blk_below (g := gb157) (o := .cells #[.int .i64 t162, .int .i64 t163, .slice Ao22 t164.length co22] 33 (0, 0)) (zK BK157) hb); have n9_ := Aside0.mk (blk_below (g := gb158) (o := .cells #[.int .i64 t167, .int .i64 t168, .slice Ao26 t169.length co26] 33 (0, 0)) (zK BK158) hb); have n10_ := Aside0.mk (blk_below (g := gb183) (o := .cells #[.int .i64 t177, .int .i64 t178, .slice Ao40 t179.length co40] 33 (0, 0)) (zK BK183) hb); have n11_ := Aside0.mk (blk_below (g := gb190) (o := .cells #[.int .i64 t184, .int .i64 t185, .slice Ao48 t186.length co48] 33 (0, 0)) (zK BK190) hb); have n12_ := Aside0.mk (blk_below (g := gb197) (o := .cells #[.int .i64 t191, .int .i64 t192, .slice Ao57 t193.length co57] 33 (0, 0)) (zK BK197) hb); have n13_ := Aside0.mk (below_step (by repeat (first | (with_reducible first | exact HB.out | apply below_alloc | apply pw_below_drewN | apply below_drew1 | refine below_set ?_ GE157.out | refine below_set ?_ GE158.out | refine below_set ?_ GE183.out | refine below_set ?_ GE190.out | refine below_set ?_ GE197.out) | exact HB.out)) hb); clear HO_0; clear HO_9; clear HO_158002; clear HO_159002; clear HO_184002; clear HO_191002; clear HO_198002; clear BK157; clear BK158; clear BK183; clear BK190; clear BK197; clear HB; have HO_0 := n0_; have HO_9 := n1_; have HO_158002 := n2_; have HO_159002 := n3_; have HO_184002 := n4_; have HO_191002 := n5_; have HO_198002 := n6_; have HO209 := n7_; have BK157 := n8_; have BK158 := n9_; have BK183 := n10_; have BK190 := n11_; have BK197 := n12_; have HB := n13_; clear n0_ n1_ n2_ n3_ n4_ n5_ n6_ n7_ n8_ n9_ n10_ n11_ n12_ n13_; (try clear hb); (try clear hb2); (try clear hk); (try clear hi); (try clear ho0)))
     (try simp only [Act.put, List.setIfInBounds_toArray, List.set_cons_zero, List.set_cons_succ])
     go_cut [128] (fun v128 wc => ∃ (kq : Nat) (x128_105 : Bool), v128 = .bool x128_105 ∧ Aside0 (rootKeeps.j1 kq t159 t172 x128_105 t162 t163 t164 t167 t168 t169 = some r) ∧ Aside0 (kq ≤ kj12) ∧ Aside0 (Kd.N k33 33 wc w.heap.size (fun k_ => k_ ≠ gb157 ∧ k_ ≠ gb158 ∧ k_ ≠ gb183 ∧ k_ ≠ gb190 ∧ k_ ≠ gb197) (.slice Ao31 t159.length co31) t159) ∧ Aside0 (Kd.V k33 33 wc w.heap.size (fun k_ => k_ ≠ gb157 ∧ k_ ≠ gb158 ∧ k_ ≠ gb183 ∧ k_ ≠ gb190 ∧ k_ ≠ gb197) (.slice Ao34 t172.length co34) t172) ∧ Aside0 (Kd.V (Kd.int .i64) 3 wc w.heap.size (fun k_ => some k_ ≠ ((.slice Ao31 t159.length co31) : Value).ownBlock ∧ k_ ≠ gb157 ∧ k_ ≠ gb158 ∧ k_ ≠ gb183 ∧ k_ ≠ gb190 ∧ k_ ≠ gb197) (.slice Ao22 t164.length co22) t164) ∧ Aside0 (Kd.V (Kd.int .i64) 3 wc w.heap.size (fun k_ => some k_ ≠ ((.slice Ao31 t159.length co31) : Value).ownBlock ∧ k_ ≠ gb157 ∧ k_ ≠ gb158 ∧ k_ ≠ gb183 ∧ k_ ≠ gb190 ∧ k_ ≠ gb197) (.slice Ao26 t169.length co26) t169) ∧ Aside0 (Kd.V (Kd.int .i64) 3 wc w.heap.size (fun k_ => k_ ≠ gb157 ∧ k_ ≠ gb158 ∧ k_ ≠ gb183 ∧ k_ ≠ gb190 ∧ k_ ≠ gb197) (.slice Ao40 t179.length co40) t179) ∧ Aside0 (Kd.V (Kd.int .i64) 3 wc w.heap.size (fun k_ => k_ ≠ gb157 ∧ k_ ≠ gb158 ∧ k_ ≠ gb183 ∧ k_ ≠ gb190 ∧ k_ ≠ gb197) (.slice Ao48 t186.length co48) t186) ∧ Aside0 (Kd.V (Kd.int .i64) 3 wc w.heap.size (fun k_ => k_ ≠ gb157 ∧ k_ ≠ gb158 ∧ k_ ≠ gb183 ∧ k_ ≠ gb190 ∧ k_ ≠ gb197) (.slice Ao57 t193.length co57) t193) ∧ Aside0 (wc.heap[gb157]? = some (.cells #[.int .i64 t162, .int .i64 t163, (.slice Ao22 t164.length co22)] 33 (0, 0))) ∧ Aside0 (wc.heap[gb158]? = some (.cells #[.int .i64 t167, .int .i64 t168, (.slice Ao26 t169.length co26)] 33 (0, 0))) ∧ Aside0 (wc.heap[gb183]? = some (.cells #[.int .i64 t177, .int .i64 t178, (.slice Ao40 t179.length co40)] 33 (0, 0))) ∧ Aside0 (wc.heap[gb190]? = some (.cells #[.int .i64 t184, .int .i64 t185, (.slice Ao48 t186.length co48)] 33 (0, 0))) ∧ Aside0 (wc.heap[gb197]? = some (.cells #[.int .i64 t191, .int .i64 t192, (.slice Ao57 t193.length co57)] 33 (0, 0))) ∧ Aside0 (Below w.heap.size w wc))
     case first =>
      have H := HC106.out
      clear HC106
      by_cases c113 : t205 = 0
      ·rw [if_pos c113] at H
       have c113b0 : (t205 == 0) = true := beq_iff_eq.mpr c113
       have c113b1 : (t205 != 0) = false := bne_eq_false_iff_eq.mpr c113
       clear c113
       (first | rw [c113b0] | (simp only [i64_w, i32_w]; rw [c113b0]) | skip)
       by_cases c114 : t207 = 0
       ·rw [if_pos c114] at H
        have c114b0 : (t207 == 0) = true := beq_iff_eq.mpr c114
        have c114b1 : (t207 != 0) = false := bne_eq_false_iff_eq.mpr c114
        clear c114
        replace H := Option.bind_eq_some_iff.mp H
        obtain ⟨t210, A1150, H⟩ := H
        replace H : ((deadboltref09_Empty.f t162 t163 t164).bind fun t211 => (rootKeeps.j1 kj12 t159 t172 ((decide (t210 ≥ 0)) != (!t211)) t162 t163 t164 t167 t168 t169)) = some r := H
        have A115 := Aside0.mk A1150
        clear A1150
        replace H := Option.bind_eq_some_iff.mp H
        obtain ⟨t211, A1160, H⟩ := H
        replace H : (rootKeeps.j1 kj12 t159 t172 ((decide (t210 ≥ 0)) != (!t211)) t162 t163 t164 t167 t168 t169) = some r := H
        have A116 := Aside0.mk A1160
        clear A1160
        have H' := Aside0.mk H
        clear H
        try go_wp2
        have n0_ := Aside0.mk (Kd.N_drew HO_0.out)
        have n1_ := Aside0.mk (Kd.V_drew HO_9.out)
        have n2_ := Aside0.mk (Kd.V_drew HO_158002.out)
        have n3_ := Aside0.mk (Kd.V_drew HO_159002.out)
        have n4_ := Aside0.mk (Kd.V_drew HO_184002.out)
        have n5_ := Aside0.mk (Kd.V_drew HO_191002.out)
        have n6_ := Aside0.mk (Kd.V_drew HO_198002.out)
        have n7_ := Aside0.mk (Kd.R_drew HO209.out)
        have n8_ := Aside0.mk (blk_drew BK157.out)
        have n9_ := Aside0.mk (blk_drew BK158.out)
        have n10_ := Aside0.mk (blk_drew BK183.out)
        have n11_ := Aside0.mk (blk_drew BK190.out)
        have n12_ := Aside0.mk (blk_drew BK197.out)
        have n13_ := Aside0.mk (below_drew1 HB.out)
        clear HO_0
        clear HO_9
        clear HO_158002
        clear HO_159002
        clear HO_184002
        clear HO_191002
        clear HO_198002
        clear HO209
        clear BK157
        clear BK158
        clear BK183
        clear BK190
        clear BK197
        clear HB
        have HO_0 := n0_
        have HO_9 := n1_
        have HO_158002 := n2_
        have HO_159002 := n3_
        have HO_184002 := n4_
        have HO_191002 := n5_
        have HO_198002 := n6_
        have HO209 := n7_
        have BK157 := n8_
        have BK158 := n9_
        have BK183 := n10_
        have BK190 := n11_
        have BK197 := n12_
        have HB := n13_
        clear n0_ n1_ n2_ n3_ n4_ n5_ n6_ n7_ n8_ n9_ n10_ n11_ n12_ n13_
        obtain ⟨Ao118, co118, eo118⟩ := Kd.R_slice HO209.out
        (first | subst eo118 | (injection eo118 with f1_ f2_ f3_; have f4_ := f1_.symm; have f5_ := f3_.symm; clear f1_ f2_ f3_; subst f4_; subst f5_))
        refine start_ (n := 17) (S := fun w' => w'.cell? ⟨gb157, 0, none⟩ = some (.int .i64 t162) ∧ w'.cell? ⟨gb157, 1, none⟩ = some (.int .i64 t163) ∧ w'.cell? ⟨gb157, 2, none⟩ = some (.slice Ao22 t164.length co22)) (ds := []) #[false, false, false, false, false, false, false, false, false, false, false, false, false, false, false, false, false] (by kernel_rfl) rfl rfl ⟨(blk_cell BK157.out 0).trans rfl, (blk_cell BK157.out 1).trans rfl, (blk_cell BK157.out 2).trans rfl⟩ (fun hHeld => ?_); refine with_tabW rootKeeps.tab12 rootKeeps.bits12 (fun HT_ HW_ => ?_)
        generalize w112.drew = w117 at HO_0 HO_9 HO_158002 HO_159002 HO_184002 HO_191002 HO_198002 HO209 BK157 BK158 BK183 BK190 BK197 HB hHeld ⊢
        refine pure_ (i := 0) (N := some 112) (v := ?_) (a' := ?_) #[true, false, false, false, false, false, false, false, false, false, false, false, false, false, false, false, false] rfl rfl (any_of HT_.out (by kernel_rfl)) (fun _ _ _ h => h) (Or.inl ⟨by rfl, ?_⟩) ?_ ?_
        rotate_left
        ·intro w'
         go_simp
         with_reducible rfl
        rotate_left
        ·simp only [Act.put, List.setIfInBounds_toArray, List.set_cons_zero, List.set_cons_succ, i64_w, i32_w]
         rfl
        refine pure_ (i := 1) (N := some 113) (v := ?_) (a' := ?_) #[true, true, false, false, false, false, false, false, false, false, false, false, false, false, false, false, false] rfl rfl (any_of HT_.out (by kernel_rfl)) (fun _ _ _ h => h) (Or.inl ⟨by rfl, ?_⟩) ?_ ?_
        rotate_left
        ·intro w'
         go_simp
         with_reducible rfl
        rotate_left
        ·simp only [Act.put, List.setIfInBounds_toArray, List.set_cons_zero, List.set_cons_succ, i64_w, i32_w]
         rfl
        refine pure_ (i := 2) (N := some 114) (v := ?_) (a' := ?_) #[true, true, true, false, false, false, false, false, false, false, false, false, false, false, false, false, false] rfl rfl (any_of HT_.out (by kernel_rfl)) (fun _ _ _ h => h) (Or.inl ⟨by rfl, ?_⟩) ?_ ?_
        rotate_left
        ·intro w'
         go_simp
         with_reducible rfl
        rotate_left
        ·simp only [Act.put, List.setIfInBounds_toArray, List.set_cons_zero, List.set_cons_succ, i64_w, i32_w]
         rfl
        refine pure_ (i := 3) (N := some 115) (v := ?_) (a' := ?_) #[true, true, true, true, false, false, false, false, false, false, false, false, false, false, false, false, false] rfl rfl (any_of HT_.out (by kernel_rfl)) (fun _ _ _ h => h) (Or.inl ⟨by rfl, ?_⟩) ?_ ?_
        rotate_left
        ·intro w'
         go_simp
         with_reducible rfl
        rotate_left
        ·simp only [Act.put, List.setIfInBounds_toArray, List.set_cons_zero, List.set_cons_succ, i64_w, i32_w]
         rfl
        refine pure_ (i := 4) (N := some 116) (v := ?_) (a' := ?_) #[true, true, true, true, true, false, false, false, false, false, false, false, false, false, false, false, false] rfl rfl (any_of HT_.out (by kernel_rfl)) (fun _ _ _ h => h) (Or.inl ⟨by rfl, ?_⟩) ?_ ?_
        rotate_left
        ·intro w'
         go_simp
         with_reducible rfl
        rotate_left
        ·simp only [Act.put, List.setIfInBounds_toArray, List.set_cons_zero, List.set_cons_succ, i64_w, i32_w]
         rfl
        refine pure_ (i := 5) (N := some 117) (v := ?_) (a' := ?_) #[true, true, true, true, true, true, false, false, false, false, false, false, false, false, false, false, false] rfl rfl (any_of HT_.out (by kernel_rfl)) (fun _ _ _ h => h) (Or.inl ⟨by rfl, ?_⟩) ?_ ?_
        rotate_left
        ·intro w'
         go_simp
         with_reducible rfl
        rotate_left
        ·simp only [Act.put, List.setIfInBounds_toArray, List.set_cons_zero, List.set_cons_succ, i64_w, i32_w]
         rfl
        refine pure_ (i := 6) (N := some 118) (v := ?_) (a' := ?_) #[true, true, true, true, true, true, true, false, false, false, false, false, false, false, false, false, false] rfl rfl (any_of HT_.out (by kernel_rfl)) (fun _ _ _ h => h) (Or.inl ⟨by rfl, ?_⟩) ?_ ?_
        rotate_left
        ·intro w'
         go_simp
         with_reducible rfl
        rotate_left
        ·simp only [Act.put, List.setIfInBounds_toArray, List.set_cons_zero, List.set_cons_succ, i64_w, i32_w]
         rfl
        refine pure_ (i := 7) (N := some 119) (v := ?_) (a' := ?_) #[true, true, true, true, true, true, true, true, false, false, false, false, false, false, false, false, false] rfl rfl (any_of HT_.out (by kernel_rfl)) (fun _ _ _ h => h) (Or.inl ⟨by rfl, ?_⟩) ?_ ?_
        rotate_left
        ·intro w'
         go_simp
         with_reducible rfl
        rotate_left
        ·simp only [Act.put, List.setIfInBounds_toArray, List.set_cons_zero, List.set_cons_succ, i64_w, i32_w]
         rfl
        refine pure_ (i := 8) (N := some 120) (v := ?_) (a' := ?_) #[true, true, true, true, true, true, true, true, true, false, false, false, false, false, false, false, false] rfl rfl (any_of HT_.out (by kernel_rfl)) (fun _ _ _ h => h) (Or.inl ⟨by rfl, ?_⟩) ?_ ?_
        rotate_left
        ·intro w'
         go_simp
         with_reducible rfl
        rotate_left
        ·simp only [Act.put, List.setIfInBounds_toArray, List.set_cons_zero, List.set_cons_succ, i64_w, i32_w]
         rfl
        refine take_ (i := 9) (N := some 121) (v := ?_) (a' := ?_) #[true, true, true, true, true, true, true, true, true, true, false, false, false, false, false, false, false] rfl rfl (take_ofW HT_.out HW_.out (by kernel_rfl)) (fun _ _ _ h => h) (Or.inl ⟨by rfl, ?_⟩) hHeld ?_ ?_
        rotate_left
        ·rintro w' ⟨s0, s1, s2⟩
         go_simp
         with_reducible rfl
        rotate_left
        ·simp only [Act.put, List.setIfInBounds_toArray, List.set_cons_zero, List.set_cons_succ, i64_w, i32_w]
         rfl
        refine take_ (i := 12) (N := some 124) (v := ?_) (a' := ?_) #[true, true, true, true, true, true, true, true, true, true, false, false, true, false, false, false, false] rfl rfl (take_ofW HT_.out HW_.out (by kernel_rfl)) (fun _ _ _ h => h) (Or.inl ⟨by rfl, ?_⟩) hHeld ?_ ?_
        rotate_left
        ·rintro w' ⟨s0, s1, s2⟩
         go_simp
         with_reducible rfl
        rotate_left
        ·simp only [Act.put, List.setIfInBounds_toArray, List.set_cons_zero, List.set_cons_succ, i64_w, i32_w]
         rfl
        refine one_ (i := 10) (N := some 122) #[true, true, true, true, true, true, true, true, true, true, true, false, true, false, false, false, false] rfl rfl (one_of HT_.out (by kernel_rfl)) (by decide) (fun K hK => ?_)
        refine goes_ Try.func28 (by kernel_rfl) rfl #[.slice Ao118 t206.length co118, .int .i64 t162] (by rfl) rfl rfl zP ?_
        with_reducible refine (deadboltref07_Place.calls kj12 _ _ t206 t162 t210 _ ?side1 ?side2 A115.out).mono ?_
        (case side1 => repeat (first | exact (Kd.R_reads' HO209.out).2.2 | (with_reducible refine Kd.C_alloc ?_ _) | (with_reducible refine Kd.C_drewN ?_ _) | (with_reducible refine Kd.C_drew ?_)))
        (case side2 => exact (Kd.R_reads' HO209.out).2.1)
        rintro e w' ⟨rfl, ⟨nd, rfl⟩⟩
        refine ⟨_, rfl, ?_⟩
        refine hK.out _ _ ⟨(blk_cell BK157.out 0).trans rfl, (blk_cell BK157.out 1).trans rfl, (blk_cell BK157.out 2).trans rfl⟩ (fun hHeld => ?_)
        clear hK K
        refine norm_ (a' := ?_) ?_ ?_
        rotate_left
        ·show Act.put _ (some 122) _ = _
         simp only [Act.put, List.setIfInBounds_toArray, List.set_cons_zero, List.set_cons_succ, i64_w, i32_w]
         rfl
        refine pure_ (i := 11) (N := some 123) (v := ?_) (a' := ?_) #[true, true, true, true, true, true, true, true, true, true, true, true, true, false, false, false, false] rfl rfl (any_of HT_.out (by kernel_rfl)) (fun _ _ _ h => h) (Or.inl ⟨by rfl, ?_⟩) ?_ ?_
        rotate_left
        ·intro w'
         go_simp
         with_reducible rfl
        rotate_left
        ·simp only [Act.put, List.setIfInBounds_toArray, List.set_cons_zero, List.set_cons_succ, i64_w, i32_w]
         rfl
        refine one_ (i := 13) (N := some 125) #[true, true, true, true, true, true, true, true, true, true, true, true, true, true, false, false, false] rfl rfl (one_of HT_.out (by kernel_rfl)) (by decide) (fun K hK => ?_)
        refine goes_ Try.func29 (by kernel_rfl) rfl #[.agg #[.int .i64 t162, .int .i64 t163, .slice Ao22 t164.length co22]] (by rfl) rfl rfl zP ?_
        with_reducible refine (deadboltref09_Empty.calls t162 t163 _ _ t164 t211 _ ?side1 ?side2 A116.out).mono ?_
        (case side1 => repeat (first | exact (Kd.V_reads' HO_158002.out).2.2 | (with_reducible refine Kd.C_alloc ?_ _) | (with_reducible refine Kd.C_drewN ?_ _) | (with_reducible refine Kd.C_drew ?_)))
        (case side2 => exact (Kd.V_reads' HO_158002.out).2.1)
        rintro e w119 ⟨rfl, hb⟩
        refine ⟨_, rfl, ?_⟩
        have n0_ := Aside0.mk (Kd.N_below (zN HO_0) hb)
        have n1_ := Aside0.mk (Kd.V_below (zV HO_9) hb)
        have n2_ := Aside0.mk (Kd.V_below (zV HO_158002) hb)
        have n3_ := Aside0.mk (Kd.V_below (zV HO_159002) hb)
        have n4_ := Aside0.mk (Kd.V_below (zV HO_184002) hb)
        have n5_ := Aside0.mk (Kd.V_below (zV HO_191002) hb)
        have n6_ := Aside0.mk (Kd.V_below (zV HO_198002) hb)
        have n7_ := Aside0.mk (Kd.R_below (zR HO209) hb)
        have n8_ := Aside0.mk (blk_below (g := gb157) (o := .cells #[.int .i64 t162, .int .i64 t163, .slice Ao22 t164.length co22] 33 (0, 0)) (zK BK157) hb)
        have n9_ := Aside0.mk (blk_below (g := gb158) (o := .cells #[.int .i64 t167, .int .i64 t168, .slice Ao26 t169.length co26] 33 (0, 0)) (zK BK158) hb)
        have n10_ := Aside0.mk (blk_below (g := gb183) (o := .cells #[.int .i64 t177, .int .i64 t178, .slice Ao40 t179.length co40] 33 (0, 0)) (zK BK183) hb)
        have n11_ := Aside0.mk (blk_below (g := gb190) (o := .cells #[.int .i64 t184, .int .i64 t185, .slice Ao48 t186.length co48] 33 (0, 0)) (zK BK190) hb)
        have n12_ := Aside0.mk (blk_below (g := gb197) (o := .cells #[.int .i64 t191, .int .i64 t192, .slice Ao57 t193.length co57] 33 (0, 0)) (zK BK197) hb)
        have n13_ := Aside0.mk (below_step (by repeat (first | (with_reducible first | exact HB.out | apply below_alloc | apply pw_below_drewN | apply below_drew1 | refine below_set ?_ GE157.out | refine below_set ?_ GE158.out | refine below_set ?_ GE183.out | refine below_set ?_ GE190.out | refine below_set ?_ GE197.out) | exact HB.out)) hb)
        clear HO_0
        clear HO_9
        clear HO_158002
        clear HO_159002
        clear HO_184002
        clear HO_191002
        clear HO_198002
        clear HO209
        clear BK157
        clear BK158
        clear BK183
        clear BK190
        clear BK197
        clear HB
        have HO_0 := n0_
        have HO_9 := n1_
        have HO_158002 := n2_
        have HO_159002 := n3_
        have HO_184002 := n4_
        have HO_191002 := n5_
        have HO_198002 := n6_
        have HO209 := n7_
        have BK157 := n8_
        have BK158 := n9_
        have BK183 := n10_
        have BK190 := n11_
        have BK197 := n12_
        have HB := n13_
        clear n0_ n1_ n2_ n3_ n4_ n5_ n6_ n7_ n8_ n9_ n10_ n11_ n12_ n13_
        (try clear hb)
        (try clear hb2)
        (try clear hk)
        (try clear hi)
        refine hK.out _ _ ⟨(blk_cell BK157.out 0).trans rfl, (blk_cell BK157.out 1).trans rfl, (blk_cell BK157.out 2).trans rfl⟩ (fun hHeld => ?_)
        clear hK K
        refine norm_ (a' := ?_) ?_ ?_
        rotate_left
        ·show Act.put _ (some 125) _ = _
         simp only [Act.put, List.setIfInBounds_toArray, List.set_cons_zero, List.set_cons_succ, i64_w, i32_w]
         rfl
        refine pure_ (i := 14) (N := some 126) (v := ?_) (a' := ?_) #[true, true, true, true, true, true, true, true, true, true, true, true, true, true, true, false, false] rfl rfl (any_of HT_.out (by kernel_rfl)) (fun _ _ _ h => h) (Or.inl ⟨by rfl, ?_⟩) ?_ ?_
        rotate_left
        ·intro w'
         go_simp
         with_reducible rfl
        rotate_left
        ·simp only [Act.put, List.setIfInBounds_toArray, List.set_cons_zero, List.set_cons_succ, i64_w, i32_w]
         rfl
        refine pure_ (i := 15) (N := some 127) (v := ?_) (a' := ?_) #[true, true, true, true, true, true, true, true, true, true, true, true, true, true, true, true, false] rfl rfl (any_of HT_.out (by kernel_rfl)) (fun _ _ _ h => h) (Or.inl ⟨by rfl, ?_⟩) ?_ ?_
        rotate_left
        ·intro w'
         go_simp
         with_reducible rfl
        rotate_left
        ·simp only [Act.put, List.setIfInBounds_toArray, List.set_cons_zero, List.set_cons_succ, i64_w, i32_w]
         rfl
        refine pure_ (i := 16) (N := some 128) (v := ?_) (a' := ?_) #[true, true, true, true, true, true, true, true, true, true, true, true, true, true, true, true, true] rfl rfl (any_of HT_.out (by kernel_rfl)) (fun _ _ _ h => h) (Or.inl ⟨by rfl, ?_⟩) ?_ ?_
        rotate_left
        ·intro w'
         go_simp
         with_reducible rfl
        rotate_left
        ·simp only [Act.put, List.setIfInBounds_toArray, List.set_cons_zero, List.set_cons_succ, i64_w, i32_w]
         rfl
        refine done_ (done_of HT_.out (by kernel_rfl)) ?_
        try go_wp2
        go_meet
        case rel => exact ⟨_, (((decide (t210 ≥ 0)) != (!t211))), (by first | rfl | (simp; done) | (simp [*]; done)), H', ⟨by have := HJ12.out; first | omega | exact Nat.le_refl _⟩, ⟨by (with_reducible repeat (first | apply Kd.N_alloc | apply Kd.N_drewN | apply Kd.N_drew)); exact Kd.N_mono HO_0.out (fun _ hk => ⟨hk.1.1, ⟨hk.1.2.1, ⟨hk.1.2.2.1, ⟨hk.1.2.2.2.1, hk.1.2.2.2.2⟩⟩⟩⟩)⟩, ⟨by (with_reducible repeat (first | apply Kd.V_alloc | apply Kd.V_drewN | apply Kd.V_drew)); exact Kd.V_mono HO_9.out (fun _ hk => ⟨hk.1.1, ⟨hk.1.2.1, ⟨hk.1.2.2.1, ⟨hk.1.2.2.2.1, hk.1.2.2.2.2⟩⟩⟩⟩)⟩, ⟨by (with_reducible repeat (first | apply Kd.V_alloc | apply Kd.V_drewN | apply Kd.V_drew)); exact Kd.V_mono HO_158002.out (fun _ hk => ⟨hk.1.1, ⟨hk.1.2.1, ⟨hk.1.2.2.1, ⟨hk.1.2.2.2.1, ⟨hk.1.2.2.2.2.1, hk.1.2.2.2.2.2⟩⟩⟩⟩⟩)⟩, ⟨by (with_reducible repeat (first | apply Kd.V_alloc | apply Kd.V_drewN | apply Kd.V_drew)); exact Kd.V_mono HO_159002.out (fun _ hk => ⟨hk.1.1, ⟨hk.1.2.1, ⟨hk.1.2.2.1, ⟨hk.1.2.2.2.1, ⟨hk.1.2.2.2.2.1, hk.1.2.2.2.2.2⟩⟩⟩⟩⟩)⟩, ⟨by (with_reducible repeat (first | apply Kd.V_alloc | apply Kd.V_drewN | apply Kd.V_drew)); exact Kd.V_mono HO_184002.out (fun _ hk => ⟨hk.1.1, ⟨hk.1.2.1, ⟨hk.1.2.2.1, ⟨hk.1.2.2.2.1, hk.1.2.2.2.2⟩⟩⟩⟩)⟩, ⟨by (with_reducible repeat (first | apply Kd.V_alloc | apply Kd.V_drewN | apply Kd.V_drew)); exact Kd.V_mono HO_191002.out (fun _ hk => ⟨hk.1.1, ⟨hk.1.2.1, ⟨hk.1.2.2.1, ⟨hk.1.2.2.2.1, hk.1.2.2.2.2⟩⟩⟩⟩)⟩, ⟨by (with_reducible repeat (first | apply Kd.V_alloc | apply Kd.V_drewN | apply Kd.V_drew)); exact Kd.V_mono HO_198002.out (fun _ hk => ⟨hk.1.1, ⟨hk.1.2.1, ⟨hk.1.2.2.1, ⟨hk.1.2.2.2.1, hk.1.2.2.2.2⟩⟩⟩⟩)⟩, ⟨by (with_reducible repeat (first | refine blk_drewN ?_ _ | refine blk_drew ?_ | refine blk_alloc ?_ _)); exact BK157.out⟩, ⟨by (with_reducible repeat (first | refine blk_drewN ?_ _ | refine blk_drew ?_ | refine blk_alloc ?_ _)); exact BK158.out⟩, ⟨by (with_reducible repeat (first | refine blk_drewN ?_ _ | refine blk_drew ?_ | refine blk_alloc ?_ _)); exact BK183.out⟩, ⟨by (with_reducible repeat (first | refine blk_drewN ?_ _ | refine blk_drew ?_ | refine blk_alloc ?_ _)); exact BK190.out⟩, ⟨by (with_reducible repeat (first | refine blk_drewN ?_ _ | refine blk_drew ?_ | refine blk_alloc ?_ _)); exact BK197.out⟩, ⟨by repeat (first | (with_reducible first | exact HB.out | apply below_alloc | apply pw_below_drewN | apply below_drew1 | refine below_set ?_ GE157.out | refine below_set ?_ GE158.out | refine below_set ?_ GE183.out | refine below_set ?_ GE190.out | refine below_set ?_ GE197.out) | exact HB.out)⟩⟩
       ·rw [if_neg c114] at H
        have c114b0 : (t207 == 0) = false := beq_eq_false_iff_ne.mpr c114
        have c114b1 : (t207 != 0) = true := bne_iff_ne.mpr c114
        exact absurd H (by simp)
      ·rw [if_neg c113] at H
       have c113b0 : (t205 == 0) = false := beq_eq_false_iff_ne.mpr c113
       have c113b1 : (t205 != 0) = true := bne_iff_ne.mpr c113
       (first | rw [c113b0] | (simp only [i64_w, i32_w]; rw [c113b0]) | skip)
       exact absurd H (by simp)
     case rest =>
      clear HC106
      try clear c1
      try clear c2
      try clear p2
      try clear c3
      try clear c4
      try clear c5
      try clear c6
      try clear c7
      try clear c8
      try clear c9
      try clear c9b0
      try clear c9b1
      try clear c10
      try clear c11
      try clear c12
      try clear c14
      try clear c15
      try clear c16
      try clear c17
      try clear c28
      try clear c29
      try clear c37
      try clear c38
      try clear c44
      try clear c45
      try clear c46
      try clear c52
      try clear c53
      try clear c54
      try clear c55
      try clear c58
      try clear c58b0
      try clear c58b1
      try clear c60
      try clear c61
      try clear c61b0
      try clear c61b1
      try clear c62
      try clear c62b0
      try clear c62b1
      try clear c64
      try clear c66
      try clear c67
      try clear c68
      try clear c69
      try clear c71
      try clear c72
      try clear c73
      try clear c80
      try clear c82
      try clear c84
      try clear c85
      try clear c86
      try clear c87
      try clear c89
      try clear c90
      try clear c91
      try clear c95
      try clear c96
      try clear c98
      try clear c103
      try clear c107
      try clear c108
      try clear c109
      try clear c110
      try clear c113
      try clear c113b0
      try clear c113b1
      try clear c114
      try clear c114b0
      try clear c114b1
      try clear hcz111_0
      try clear hcz111_1
      try clear hcz111_2
      try clear hcz30_0
      try clear hcz30_1
      try clear hcz30_2
      try clear hcz33_0
      try clear hcz33_1
      try clear hcz33_2
      try clear hcz39_0
      try clear hcz39_1
      try clear hcz39_2
      try clear hcz47_0
      try clear hcz47_1
      try clear hcz47_2
      try clear hcz56_0
      try clear hcz56_1
      try clear hcz56_2
      try clear hcz70_0
      try clear hcz70_1
      try clear hcz70_2
      try clear hcz74_0
      try clear hcz74_1
      try clear hcz74_2
      try clear hcz76_0
      try clear hcz76_1
      try clear hcz76_2
      try clear hcz88_0
      try clear hcz88_1
      try clear hcz88_2
      try clear hcz92_0
      try clear hcz92_1
      try clear hcz92_2
      try clear hcz94_0
      try clear hcz94_1
      try clear hcz94_2
      try clear hcz97_0
      try clear hcz97_1
      try clear hcz97_2
      try clear hcz99_0
      try clear hcz99_1
      try clear hcz99_2
      try clear hfz111_0
      try clear hfz111_1
      try clear hfz111_2
      try clear hfz30_0
      try clear hfz30_1
      try clear hfz30_2
      try clear hfz33_0
      try clear hfz33_1
      try clear hfz33_2
      try clear hfz39_0
      try clear hfz39_1
      try clear hfz39_2
      try clear hfz47_0
      try clear hfz47_1
      try clear hfz47_2
      try clear hfz56_0
      try clear hfz56_1
      try clear hfz56_2
      try clear hfz70_0
      try clear hfz70_1
      try clear hfz70_2
      try clear hfz74_0
      try clear hfz74_1
      try clear hfz74_2
      try clear hfz76_0
      try clear hfz76_1
      try clear hfz76_2
      try clear hfz88_0
      try clear hfz88_1
      try clear hfz88_2
      try clear hfz92_0
      try clear hfz92_1
      try clear hfz92_2
      try clear hfz94_0
      try clear hfz94_1
      try clear hfz94_2
      try clear hfz97_0
      try clear hfz97_1
      try clear hfz97_2
      try clear hfz99_0
      try clear hfz99_1
      try clear hfz99_2
      try clear p2
      obtain ⟨kq, x128_105, rfl, HA, HJ105, HO_0, HO_9, HO_158002, HO_159002, HO_184002, HO_191002, HO_198002, BK157, BK158, BK183, BK190, BK197, HB⟩ := hcut
      cases kq with
      | zero => exact absurd HA.out (by simp [rootKeeps.j1])
      | succ kj105 =>
       have H := HA.out
       clear HA
       simp only [rootKeeps.j1] at H
       by_cases c120 : x128_105 = true
       ·subst c120
        have H1 : (none) = some r := by rw [if_pos rfl] at H; exact H
        clear H
        have H := H1
        clear H1
        exact absurd H (by simp)
       ·replace c120 := Bool.eq_false_iff.mpr c120
        subst c120
        have H1 : ((root_Set.f t172 t167 t168 t169).bind fun bt212 => ((root_Set.f t159 t167 t168 t169).bind fun bt216 => ((root_Set.f bt216.1 t162 t163 t164).bind fun bt220 => (if bt212.2 = 0 then (if bt216.2 = 0 then (if bt220.2 = 0 then (if t162 = t167 then (some true) else ((deadboltref09_Same.f kj105 bt212.1 bt220.1).bind fun t224 => (some t224))) else (some true)) else (some true)) else (some true))))) = some r := by rw [if_neg (show ¬ (false = true) by decide)] at H; exact H
        clear H
        have H := H1
        clear H1
        replace H := Option.bind_eq_some_iff.mp H
        obtain ⟨⟨t212, t215⟩, A1210, H⟩ := H
        replace H : ((root_Set.f t159 t167 t168 t169).bind fun bt216 => ((root_Set.f bt216.1 t162 t163 t164).bind fun bt220 => (if t215 = 0 then (if bt216.2 = 0 then (if bt220.2 = 0 then (if t162 = t167 then (some true) else ((deadboltref09_Same.f kj105 t212 bt220.1).bind fun t224 => (some t224))) else (some true)) else (some true)) else (some true)))) = some r := H
        have A121 := Aside0.mk A1210
        clear A1210
        replace H := Option.bind_eq_some_iff.mp H
        obtain ⟨⟨t216, t219⟩, A1220, H⟩ := H
        replace H : ((root_Set.f t216 t162 t163 t164).bind fun bt220 => (if t215 = 0 then (if t219 = 0 then (if bt220.2 = 0 then (if t162 = t167 then (some true) else ((deadboltref09_Same.f kj105 t212 bt220.1).bind fun t224 => (some t224))) else (some true)) else (some true)) else (some true))) = some r := H
        have A122 := Aside0.mk A1220
        clear A1220
        replace H := Option.bind_eq_some_iff.mp H
        obtain ⟨⟨t220, t223⟩, A1230, H⟩ := H
        replace H : (if t215 = 0 then (if t219 = 0 then (if t223 = 0 then (if t162 = t167 then (some true) else ((deadboltref09_Same.f kj105 t212 t220).bind fun t224 => (some t224))) else (some true)) else (some true)) else (some true)) = some r := H
        have A123 := Aside0.mk A1230
        clear A1230
        by_cases c124 : t215 = 0
        ·rw [if_pos c124] at H
         have c124b0 : (t215 == 0) = true := beq_iff_eq.mpr c124
         have c124b1 : (t215 != 0) = false := bne_eq_false_iff_eq.mpr c124
         clear c124
         by_cases c125 : t219 = 0
         ·rw [if_pos c125] at H
          have c125b0 : (t219 == 0) = true := beq_iff_eq.mpr c125
          have c125b1 : (t219 != 0) = false := bne_eq_false_iff_eq.mpr c125
          clear c125
          by_cases c126 : t223 = 0
          ·rw [if_pos c126] at H
           have c126b0 : (t223 == 0) = true := beq_iff_eq.mpr c126
           have c126b1 : (t223 != 0) = false := bne_eq_false_iff_eq.mpr c126
           clear c126
           by_cases c127 : t162 = t167
           ·rw [if_pos c127] at H
            have c127b0 : (t162 == t167) = true := beq_iff_eq.mpr c127
            have c127b1 : (t162 != t167) = false := bne_eq_false_iff_eq.mpr c127
            clear c127
            obtain rfl := Option.some.inj H
            have hnb128 := NB158_157.out
            have hnc128 := NB157_158.out
            have hnb129 := NB158_183.out
            have hnc129 := NB183_158.out
            have hnb130 := NB158_190.out
            have hnc130 := NB190_158.out
            have hnb131 := NB158_197.out
            have hnc131 := NB197_158.out
            have hcz132_0 : wc.cell? ⟨gb158, 0, none⟩ = some (.int .i64 t167) := (blk_cell BK158.out 0).trans rfl
            have hcz132_1 : wc.cell? ⟨gb158, 1, none⟩ = some (.int .i64 t168) := (blk_cell BK158.out 1).trans rfl
            have hcz132_2 : wc.cell? ⟨gb158, 2, none⟩ = some (.slice Ao26 t169.length co26) := (blk_cell BK158.out 2).trans rfl
            have hfz132_0 := blk_frozen BK158.out 0
            have hfz132_1 := blk_frozen BK158.out 1
            have hfz132_2 := blk_frozen BK158.out 2
            go_wp2_with (first | ((with_reducible refine gate_callee (f := 17) rfl ?_); refine goesL_ (some 132) rfl rfl Try.func17 (by kernel_rfl) rfl #[.slice Ao34 t172.length co34, .agg #[.int .i64 t167, .int .i64 t168, .slice Ao26 t169.length co26]] rfl zP ?_; (with_reducible refine (root_Set.calls (fun k_ => (k_ ≠ gb157 ∧ (k_ ≠ gb158 ∧ (k_ ≠ gb183 ∧ (k_ ≠ gb190 ∧ k_ ≠ gb197))))) _ _ t172 t167 t168 (fun k_ => (some k_ ≠ (.slice Ao31 t159.length co31 : Value).ownBlock ∧ (k_ ≠ gb157 ∧ (k_ ≠ gb158 ∧ (k_ ≠ gb183 ∧ (k_ ≠ gb190 ∧ k_ ≠ gb197)))))) _ _ t169 t212 t215 _ ?side1 ?side2 A121.out).mono ?_); (case side1 => exact HO_9.out); (case side2 => exact HO_159002.out); rintro e w133 ⟨v213, rfl, ho0, hb⟩; refine ⟨_, rfl, ?_⟩; have n0_ := Aside0.mk (Kd.N_below (zN HO_0) hb); have n1_ := Aside0.mk (Kd.V_below (zV HO_9) hb); have n2_ := Aside0.mk (Kd.V_below (zV HO_158002) hb); have n3_ := Aside0.mk (Kd.V_below (zV HO_159002) hb); have n4_ := Aside0.mk (Kd.V_below (zV HO_184002) hb); have n5_ := Aside0.mk (Kd.V_below (zV HO_191002) hb); have n6_ := Aside0.mk (Kd.V_below (zV HO_198002) hb); have n7_ := Aside0.mk (Kd.V_lower (Kd.V_mono (ok' := fun k_ => k_ ≠ gb157 ∧ k_ ≠ gb158 ∧ k_ ≠ gb183 ∧ k_ ≠ gb190 ∧ k_ ≠ gb197) ho0 (fun k_ hk_ => ⟨Or.elim hk_ (fun hs_ => Or.elim hs_ (fun hs_ => hs_.1) (fun hs_ => hs_.2.1)) (fun hn_ => (Kd.freshB (g := gb157) (o := .cells #[.int .i64 t162, .int .i64 t163, .slice Ao22 t164.length co22] 33 (0, 0)) (zK BK157) k_ hn_)), Or.elim hk_ (fun hs_ => Or.elim hs_ (fun hs_ => hs_.2.1) (fun hs_ => hs_.2.2.1)) (fun hn_ => (Kd.freshB (g := gb158) (o := .cells #[.int .i64 t167, .int .i64 t168, .slice Ao26 t169.length co26] 33 (0, 0)) (zK BK158) k_ hn_)), Or.elim hk_ (fun hs_ => Or.elim hs_ (fun hs_ => hs_.2.2.1) (fun hs_ => hs_.2.2.2.1)) (fun hn_ => (Kd.freshB (g := gb183) (o := .cells #[.int .i64 t177, .int .i64 t178, .slice Ao40 t179.length co40] 33 (0, 0)) (zK BK183) k_ hn_)), Or.elim hk_ (fun hs_ => Or.elim hs_ (fun hs_ => hs_.2.2.2.1) (fun hs_ => hs_.2.2.2.2.1)) (fun hn_ => (Kd.freshB (g := gb190) (o := .cells #[.int .i64 t184, .int .i64 t185, .slice Ao48 t186.length co48] 33 (0, 0)) (zK BK190) k_ hn_)), Or.elim hk_ (fun hs_ => Or.elim hs_ (fun hs_ => hs_.2.2.2.2) (fun hs_ => hs_.2.2.2.2.2)) (fun hn_ => (Kd.freshB (g := gb197) (o := .cells #[.int .i64 t191, .int .i64 t192, .slice Ao57 t193.length co57] 33 (0, 0)) (zK BK197) k_ hn_))⟩)) (below_size (by repeat (first | (with_reducible first | exact HB.out | apply below_alloc | apply pw_below_drewN | apply below_drew1 | refine below_set ?_ GE157.out | refine below_set ?_ GE158.out | refine below_set ?_ GE183.out | refine below_set ?_ GE190.out | refine below_set ?_ GE197.out) | exact HB.out)))); have n8_ := Aside0.mk (blk_below (g := gb157) (o := .cells #[.int .i64 t162, .int .i64 t163, .slice Ao22 t164.length co22] 33 (0, 0)) (zK BK157) hb); have n9_ := Aside0.mk (blk_below (g := gb158) (o := .cells #[.int .i64 t167, .int .i64 t168, .slice Ao26 t169.length co26] 33 (0, 0)) (zK BK158) hb); have n10_ := Aside0.mk (blk_below (g := gb183) (o := .cells #[.int .i64 t177, .int .i64 t178, .slice Ao40 t179.length co40] 33 (0, 0)) (zK BK183) hb); have n11_ := Aside0.mk (blk_below (g := gb190) (o := .cells #[.int .i64 t184, .int .i64 t185, .slice Ao48 t186.length co48] 33 (0, 0)) (zK BK190) hb); have n12_ := Aside0.mk (blk_below (g := gb197) (o := .cells #[.int .i64 t191, .int .i64 t192, .slice Ao57 t193.length co57] 33 (0, 0)) (zK BK197) hb); have n13_ := Aside0.mk (below_step (by repeat (first | (with_reducible first | exact HB.out | apply below_alloc | apply pw_below_drewN | apply below_drew1 | refine below_set ?_ GE157.out | refine below_set ?_ GE158.out | refine below_set ?_ GE183.out | refine below_set ?_ GE190.out | refine below_set ?_ GE197.out) | exact HB.out)) hb); clear HO_0; clear HO_9; clear HO_158002; clear HO_159002; clear HO_184002; clear HO_191002; clear HO_198002; clear BK157; clear BK158; clear BK183; clear BK190; clear BK197; clear HB; have HO_0 := n0_; have HO_9 := n1_; have HO_158002 := n2_; have HO_159002 := n3_; have HO_184002 := n4_; have HO_191002 := n5_; have HO_198002 := n6_; have HO214 := n7_; have BK157 := n8_; have BK158 := n9_; have BK183 := n10_; have BK190 := n11_; have BK197 := n12_; have HB := n13_; clear n0_ n1_ n2_ n3_ n4_ n5_ n6_ n7_ n8_ n9_ n10_ n11_ n12_ n13_; (try clear hb); (try clear hb2); (try clear hk); (try clear hi); (try clear ho0); have hcz134_0 : w133.cell? ⟨gb158, 0, none⟩ = some (.int .i64 t167) := (blk_cell BK158.out 0).trans rfl; have hcz134_1 : w133.cell? ⟨gb158, 1, none⟩ = some (.int .i64 t168) := (blk_cell BK158.out 1).trans rfl; have hcz134_2 : w133.cell? ⟨gb158, 2, none⟩ = some (.slice Ao26 t169.length co26) := (blk_cell BK158.out 2).trans rfl; have hfz134_0 := blk_frozen BK158.out 0; have hfz134_1 := blk_frozen BK158.out 1; have hfz134_2 := blk_frozen BK158.out 2) | ((with_reducible refine gate_callee (f := 17) rfl ?_); refine goesL_ (some 138) rfl rfl Try.func17 (by kernel_rfl) rfl #[.slice Ao31 t159.length co31, .agg #[.int .i64 t167, .int .i64 t168, .slice Ao26 t169.length co26]] rfl zP ?_; (with_reducible refine (root_Set.calls (fun k_ => (k_ ≠ gb157 ∧ (k_ ≠ gb158 ∧ (k_ ≠ gb183 ∧ (k_ ≠ gb190 ∧ k_ ≠ gb197))))) _ _ t159 t167 t168 (fun k_ => (some k_ ≠ (.slice Ao31 t159.length co31 : Value).ownBlock ∧ (k_ ≠ gb157 ∧ (k_ ≠ gb158 ∧ (k_ ≠ gb183 ∧ (k_ ≠ gb190 ∧ k_ ≠ gb197)))))) _ _ t169 t216 t219 _ ?side1 ?side2 A122.out).mono ?_); (case side1 => exact Kd.N_V (HO_0.out)); (case side2 => exact HO_159002.out); rintro e w135 ⟨v217, rfl, ho0, hb⟩; refine ⟨_, rfl, ?_⟩; have n0_ := Aside0.mk (Kd.N_below (zN HO_0) hb); have n1_ := Aside0.mk (Kd.V_below (zV HO_9) hb); have n2_ := Aside0.mk (Kd.V_below (zV HO_158002) hb); have n3_ := Aside0.mk (Kd.V_below (zV HO_159002) hb); have n4_ := Aside0.mk (Kd.V_below (zV HO_184002) hb); have n5_ := Aside0.mk (Kd.V_below (zV HO_191002) hb); have n6_ := Aside0.mk (Kd.V_below (zV HO_198002) hb); have n7_ := Aside0.mk (Kd.V_below (zV HO214) hb); have n8_ := Aside0.mk (Kd.V_lower (Kd.V_mono (ok' := fun k_ => k_ ≠ gb157 ∧ k_ ≠ gb158 ∧ k_ ≠ gb183 ∧ k_ ≠ gb190 ∧ k_ ≠ gb197) ho0 (fun k_ hk_ => ⟨Or.elim hk_ (fun hs_ => Or.elim hs_ (fun hs_ => hs_.1) (fun hs_ => hs_.2.1)) (fun hn_ => (Kd.freshB (g := gb157) (o := .cells #[.int .i64 t162, .int .i64 t163, .slice Ao22 t164.length co22] 33 (0, 0)) (zK BK157) k_ hn_)), Or.elim hk_ (fun hs_ => Or.elim hs_ (fun hs_ => hs_.2.1) (fun hs_ => hs_.2.2.1)) (fun hn_ => (Kd.freshB (g := gb158) (o := .cells #[.int .i64 t167, .int .i64 t168, .slice Ao26 t169.length co26] 33 (0, 0)) (zK BK158) k_ hn_)), Or.elim hk_ (fun hs_ => Or.elim hs_ (fun hs_ => hs_.2.2.1) (fun hs_ => hs_.2.2.2.1)) (fun hn_ => (Kd.freshB (g := gb183) (o := .cells #[.int .i64 t177, .int .i64 t178, .slice Ao40 t179.length co40] 33 (0, 0)) (zK BK183) k_ hn_)), Or.elim hk_ (fun hs_ => Or.elim hs_ (fun hs_ => hs_.2.2.2.1) (fun hs_ => hs_.2.2.2.2.1)) (fun hn_ => (Kd.freshB (g := gb190) (o := .cells #[.int .i64 t184, .int .i64 t185, .slice Ao48 t186.length co48] 33 (0, 0)) (zK BK190) k_ hn_)), Or.elim hk_ (fun hs_ => Or.elim hs_ (fun hs_ => hs_.2.2.2.2) (fun hs_ => hs_.2.2.2.2.2)) (fun hn_ => (Kd.freshB (g := gb197) (o := .cells #[.int .i64 t191, .int .i64 t192, .slice Ao57 t193.length co57] 33 (0, 0)) (zK BK197) k_ hn_))⟩)) (below_size (by repeat (first | (with_reducible first | exact HB.out | apply below_alloc | apply pw_below_drewN | apply below_drew1 | refine below_set ?_ GE157.out | refine below_set ?_ GE158.out | refine below_set ?_ GE183.out | refine below_set ?_ GE190.out | refine below_set ?_ GE197.out) | exact HB.out)))); have n9_ := Aside0.mk (blk_below (g := gb157) (o := .cells #[.int .i64 t162, .int .i64 t163, .slice Ao22 t164.length co22] 33 (0, 0)) (zK BK157) hb); have n10_ := Aside0.mk (blk_below (g := gb158) (o := .cells #[.int .i64 t167, .int .i64 t168, .slice Ao26 t169.length co26] 33 (0, 0)) (zK BK158) hb); have n11_ := Aside0.mk (blk_below (g := gb183) (o := .cells #[.int .i64 t177, .int .i64 t178, .slice Ao40 t179.length co40] 33 (0, 0)) (zK BK183) hb); have n12_ := Aside0.mk (blk_below (g := gb190) (o := .cells #[.int .i64 t184, .int .i64 t185, .slice Ao48 t186.length co48] 33 (0, 0)) (zK BK190) hb); have n13_ := Aside0.mk (blk_below (g := gb197) (o := .cells #[.int .i64 t191, .int .i64 t192, .slice Ao57 t193.length co57] 33 (0, 0)) (zK BK197) hb); have n14_ := Aside0.mk (below_step (by repeat (first | (with_reducible first | exact HB.out | apply below_alloc | apply pw_below_drewN | apply below_drew1 | refine below_set ?_ GE157.out | refine below_set ?_ GE158.out | refine below_set ?_ GE183.out | refine below_set ?_ GE190.out | refine below_set ?_ GE197.out) | exact HB.out)) hb); clear HO_0; clear HO_9; clear HO_158002; clear HO_159002; clear HO_184002; clear HO_191002; clear HO_198002; clear HO214; clear BK157; clear BK158; clear BK183; clear BK190; clear BK197; clear HB; have HO_0 := n0_; have HO_9 := n1_; have HO_158002 := n2_; have HO_159002 := n3_; have HO_184002 := n4_; have HO_191002 := n5_; have HO_198002 := n6_; have HO214 := n7_; have HO218 := n8_; have BK157 := n9_; have BK158 := n10_; have BK183 := n11_; have BK190 := n12_; have BK197 := n13_; have HB := n14_; clear n0_ n1_ n2_ n3_ n4_ n5_ n6_ n7_ n8_ n9_ n10_ n11_ n12_ n13_ n14_; (try clear hb); (try clear hb2); (try clear hk); (try clear hi); (try clear ho0); have hnb136 := NB157_183.out; have hnc136 := NB183_157.out; have hnb137 := NB157_190.out; have hnc137 := NB190_157.out; have hnb138 := NB157_197.out; have hnc138 := NB197_157.out; have hcz139_0 : w135.cell? ⟨gb157, 0, none⟩ = some (.int .i64 t162) := (blk_cell BK157.out 0).trans rfl; have hcz139_1 : w135.cell? ⟨gb157, 1, none⟩ = some (.int .i64 t163) := (blk_cell BK157.out 1).trans rfl; have hcz139_2 : w135.cell? ⟨gb157, 2, none⟩ = some (.slice Ao22 t164.length co22) := (blk_cell BK157.out 2).trans rfl; have hfz139_0 := blk_frozen BK157.out 0; have hfz139_1 := blk_frozen BK157.out 1; have hfz139_2 := blk_frozen BK157.out 2; obtain ⟨Ao140, co140, eo140⟩ := Kd.V_slice HO218.out; subst eo140) | ((with_reducible refine gate_callee (f := 17) rfl ?_); refine goesL_ (some 144) rfl rfl Try.func17 (by kernel_rfl) rfl #[.slice Ao140 t216.length co140, .agg #[.int .i64 t162, .int .i64 t163, .slice Ao22 t164.length co22]] rfl zP ?_; (with_reducible refine (root_Set.calls (fun k_ => (k_ ≠ gb157 ∧ (k_ ≠ gb158 ∧ (k_ ≠ gb183 ∧ (k_ ≠ gb190 ∧ k_ ≠ gb197))))) _ _ t216 t162 t163 (fun k_ => (some k_ ≠ (.slice Ao31 t159.length co31 : Value).ownBlock ∧ (k_ ≠ gb157 ∧ (k_ ≠ gb158 ∧ (k_ ≠ gb183 ∧ (k_ ≠ gb190 ∧ k_ ≠ gb197)))))) _ _ t164 t220 t223 _ ?side1 ?side2 A123.out).mono ?_); (case side1 => exact HO218.out); (case side2 => exact HO_158002.out); rintro e w141 ⟨v221, rfl, ho0, hb⟩; refine ⟨_, rfl, ?_⟩; have n0_ := Aside0.mk (Kd.N_below (zN HO_0) hb); have n1_ := Aside0.mk (Kd.V_below (zV HO_9) hb); have n2_ := Aside0.mk (Kd.V_below (zV HO_158002) hb); have n3_ := Aside0.mk (Kd.V_below (zV HO_159002) hb); have n4_ := Aside0.mk (Kd.V_below (zV HO_184002) hb); have n5_ := Aside0.mk (Kd.V_below (zV HO_191002) hb); have n6_ := Aside0.mk (Kd.V_below (zV HO_198002) hb); have n7_ := Aside0.mk (Kd.V_below (zV HO214) hb); have n8_ := Aside0.mk (Kd.V_below (zV HO218) hb); have n9_ := Aside0.mk (Kd.V_lower (Kd.V_mono (ok' := fun k_ => k_ ≠ gb157 ∧ k_ ≠ gb158 ∧ k_ ≠ gb183 ∧ k_ ≠ gb190 ∧ k_ ≠ gb197) ho0 (fun k_ hk_ => ⟨Or.elim hk_ (fun hs_ => Or.elim hs_ (fun hs_ => hs_.1) (fun hs_ => hs_.2.1)) (fun hn_ => (Kd.freshB (g := gb157) (o := .cells #[.int .i64 t162, .int .i64 t163, .slice Ao22 t164.length co22] 33 (0, 0)) (zK BK157) k_ hn_)), Or.elim hk_ (fun hs_ => Or.elim hs_ (fun hs_ => hs_.2.1) (fun hs_ => hs_.2.2.1)) (fun hn_ => (Kd.freshB (g := gb158) (o := .cells #[.int .i64 t167, .int .i64 t168, .slice Ao26 t169.length co26] 33 (0, 0)) (zK BK158) k_ hn_)), Or.elim hk_ (fun hs_ => Or.elim hs_ (fun hs_ => hs_.2.2.1) (fun hs_ => hs_.2.2.2.1)) (fun hn_ => (Kd.freshB (g := gb183) (o := .cells #[.int .i64 t177, .int .i64 t178, .slice Ao40 t179.length co40] 33 (0, 0)) (zK BK183) k_ hn_)), Or.elim hk_ (fun hs_ => Or.elim hs_ (fun hs_ => hs_.2.2.2.1) (fun hs_ => hs_.2.2.2.2.1)) (fun hn_ => (Kd.freshB (g := gb190) (o := .cells #[.int .i64 t184, .int .i64 t185, .slice Ao48 t186.length co48] 33 (0, 0)) (zK BK190) k_ hn_)), Or.elim hk_ (fun hs_ => Or.elim hs_ (fun hs_ => hs_.2.2.2.2) (fun hs_ => hs_.2.2.2.2.2)) (fun hn_ => (Kd.freshB (g := gb197) (o := .cells #[.int .i64 t191, .int .i64 t192, .slice Ao57 t193.length co57] 33 (0, 0)) (zK BK197) k_ hn_))⟩)) (below_size (by repeat (first | (with_reducible first | exact HB.out | apply below_alloc | apply pw_below_drewN | apply below_drew1 | refine below_set ?_ GE157.out | refine below_set ?_ GE158.out | refine below_set ?_ GE183.out | refine below_set ?_ GE190.out | refine below_set ?_ GE197.out) | exact HB.out)))); have n10_ := Aside0.mk (blk_below (g := gb157) (o := .cells #[.int .i64 t162, .int .i64 t163, .slice Ao22 t164.length co22] 33 (0, 0)) (zK BK157) hb); have n11_ := Aside0.mk (blk_below (g := gb158) (o := .cells #[.int .i64 t167, .int .i64 t168, .slice Ao26 t169.length co26] 33 (0, 0)) (zK BK158) hb); have n12_ := Aside0.mk (blk_below (g := gb183) (o := .cells #[.int .i64 t177, .int .i64 t178, .slice Ao40 t179.length co40] 33 (0, 0)) (zK BK183) hb); have n13_ := Aside0.mk (blk_below (g := gb190) (o := .cells #[.int .i64 t184, .int .i64 t185, .slice Ao48 t186.length co48] 33 (0, 0)) (zK BK190) hb); have n14_ := Aside0.mk (blk_below (g := gb197) (o := .cells #[.int .i64 t191, .int .i64 t192, .slice Ao57 t193.length co57] 33 (0, 0)) (zK BK197) hb); have n15_ := Aside0.mk (below_step (by repeat (first | (with_reducible first | exact HB.out | apply below_alloc | apply pw_below_drewN | apply below_drew1 | refine below_set ?_ GE157.out | refine below_set ?_ GE158.out | refine below_set ?_ GE183.out | refine below_set ?_ GE190.out | refine below_set ?_ GE197.out) | exact HB.out)) hb); clear HO_0; clear HO_9; clear HO_158002; clear HO_159002; clear HO_184002; clear HO_191002; clear HO_198002; clear HO214; clear HO218; clear BK157; clear BK158; clear BK183; clear BK190; clear BK197; clear HB; have HO_0 := n0_; have HO_9 := n1_; have HO_158002 := n2_; have HO_159002 := n3_; have HO_184002 := n4_; have HO_191002 := n5_; have HO_198002 := n6_; have HO214 := n7_; have HO218 := n8_; have HO222 := n9_; have BK157 := n10_; have BK158 := n11_; have BK183 := n12_; have BK190 := n13_; have BK197 := n14_; have HB := n15_; clear n0_ n1_ n2_ n3_ n4_ n5_ n6_ n7_ n8_ n9_ n10_ n11_ n12_ n13_ n14_ n15_; (try clear hb); (try clear hb2); (try clear hk); (try clear hi); (try clear ho0); have hcz142_0 : w141.cell? ⟨gb157, 0, none⟩ = some (.int .i64 t162) := (blk_cell BK157.out 0).trans rfl; have hcz142_1 : w141.cell? ⟨gb157, 1, none⟩ = some (.int .i64 t163) := (blk_cell BK157.out 1).trans rfl; have hcz142_2 : w141.cell? ⟨gb157, 2, none⟩ = some (.slice Ao22 t164.length co22) := (blk_cell BK157.out 2).trans rfl; have hfz142_0 := blk_frozen BK157.out 0; have hfz142_1 := blk_frozen BK157.out 1; have hfz142_2 := blk_frozen BK157.out 2; have hcz143_0 : w141.cell? ⟨gb158, 0, none⟩ = some (.int .i64 t167) := (blk_cell BK158.out 0).trans rfl; have hcz143_1 : w141.cell? ⟨gb158, 1, none⟩ = some (.int .i64 t168) := (blk_cell BK158.out 1).trans rfl; have hcz143_2 : w141.cell? ⟨gb158, 2, none⟩ = some (.slice Ao26 t169.length co26) := (blk_cell BK158.out 2).trans rfl; have hfz143_0 := blk_frozen BK158.out 0; have hfz143_1 := blk_frozen BK158.out 1; have hfz143_2 := blk_frozen BK158.out 2))
            go_ret
            exact ⟨by first | rfl | (simp [errW_none, errW_some] <;> rfl) | (simp [*, errW_none, errW_some] <;> rfl), by repeat (first | (with_reducible first | exact HB.out | apply below_alloc | apply pw_below_drewN | apply below_drew1 | refine below_set ?_ GE157.out | refine below_set ?_ GE158.out | refine below_set ?_ GE183.out | refine below_set ?_ GE190.out | refine below_set ?_ GE197.out) | exact HB.out)⟩
           ·rw [if_neg c127] at H
            have c127b0 : (t162 == t167) = false := beq_eq_false_iff_ne.mpr c127
            have c127b1 : (t162 != t167) = true := bne_iff_ne.mpr c127
            replace H := Option.bind_eq_some_iff.mp H
            obtain ⟨t224, A1440, H⟩ := H
            replace H : (some t224) = some r := H
            have A144 := Aside0.mk A1440
            clear A1440
            obtain rfl := Option.some.inj H
            have hnb145 := NB158_157.out
            have hnc145 := NB157_158.out
            have hnb146 := NB158_183.out
            have hnc146 := NB183_158.out
            have hnb147 := NB158_190.out
            have hnc147 := NB190_158.out
            have hnb148 := NB158_197.out
            have hnc148 := NB197_158.out
            have hcz149_0 : wc.cell? ⟨gb158, 0, none⟩ = some (.int .i64 t167) := (blk_cell BK158.out 0).trans rfl
            have hcz149_1 : wc.cell? ⟨gb158, 1, none⟩ = some (.int .i64 t168) := (blk_cell BK158.out 1).trans rfl
            have hcz149_2 : wc.cell? ⟨gb158, 2, none⟩ = some (.slice Ao26 t169.length co26) := (blk_cell BK158.out 2).trans rfl
            have hfz149_0 := blk_frozen BK158.out 0
            have hfz149_1 := blk_frozen BK158.out 1
            have hfz149_2 := blk_frozen BK158.out 2
            go_wp2_with (first | ((with_reducible refine gate_callee (f := 17) rfl ?_); refine goesL_ (some 132) rfl rfl Try.func17 (by kernel_rfl) rfl #[.slice Ao34 t172.length co34, .agg #[.int .i64 t167, .int .i64 t168, .slice Ao26 t169.length co26]] rfl zP ?_; (with_reducible refine (root_Set.calls (fun k_ => (k_ ≠ gb157 ∧ (k_ ≠ gb158 ∧ (k_ ≠ gb183 ∧ (k_ ≠ gb190 ∧ k_ ≠ gb197))))) _ _ t172 t167 t168 (fun k_ => (some k_ ≠ (.slice Ao31 t159.length co31 : Value).ownBlock ∧ (k_ ≠ gb157 ∧ (k_ ≠ gb158 ∧ (k_ ≠ gb183 ∧ (k_ ≠ gb190 ∧ k_ ≠ gb197)))))) _ _ t169 t212 t215 _ ?side1 ?side2 A121.out).mono ?_); (case side1 => exact HO_9.out); (case side2 => exact HO_159002.out); rintro e w150 ⟨v213, rfl, ho0, hb⟩; refine ⟨_, rfl, ?_⟩; have n0_ := Aside0.mk (Kd.N_below (zN HO_0) hb); have n1_ := Aside0.mk (Kd.V_below (zV HO_9) hb); have n2_ := Aside0.mk (Kd.V_below (zV HO_158002) hb); have n3_ := Aside0.mk (Kd.V_below (zV HO_159002) hb); have n4_ := Aside0.mk (Kd.V_below (zV HO_184002) hb); have n5_ := Aside0.mk (Kd.V_below (zV HO_191002) hb); have n6_ := Aside0.mk (Kd.V_below (zV HO_198002) hb); have n7_ := Aside0.mk (Kd.V_lower (Kd.V_mono (ok' := fun k_ => k_ ≠ gb157 ∧ k_ ≠ gb158 ∧ k_ ≠ gb183 ∧ k_ ≠ gb190 ∧ k_ ≠ gb197) ho0 (fun k_ hk_ => ⟨Or.elim hk_ (fun hs_ => Or.elim hs_ (fun hs_ => hs_.1) (fun hs_ => hs_.2.1)) (fun hn_ => (Kd.freshB (g := gb157) (o := .cells #[.int .i64 t162, .int .i64 t163, .slice Ao22 t164.length co22] 33 (0, 0)) (zK BK157) k_ hn_)), Or.elim hk_ (fun hs_ => Or.elim hs_ (fun hs_ => hs_.2.1) (fun hs_ => hs_.2.2.1)) (fun hn_ => (Kd.freshB (g := gb158) (o := .cells #[.int .i64 t167, .int .i64 t168, .slice Ao26 t169.length co26] 33 (0, 0)) (zK BK158) k_ hn_)), Or.elim hk_ (fun hs_ => Or.elim hs_ (fun hs_ => hs_.2.2.1) (fun hs_ => hs_.2.2.2.1)) (fun hn_ => (Kd.freshB (g := gb183) (o := .cells #[.int .i64 t177, .int .i64 t178, .slice Ao40 t179.length co40] 33 (0, 0)) (zK BK183) k_ hn_)), Or.elim hk_ (fun hs_ => Or.elim hs_ (fun hs_ => hs_.2.2.2.1) (fun hs_ => hs_.2.2.2.2.1)) (fun hn_ => (Kd.freshB (g := gb190) (o := .cells #[.int .i64 t184, .int .i64 t185, .slice Ao48 t186.length co48] 33 (0, 0)) (zK BK190) k_ hn_)), Or.elim hk_ (fun hs_ => Or.elim hs_ (fun hs_ => hs_.2.2.2.2) (fun hs_ => hs_.2.2.2.2.2)) (fun hn_ => (Kd.freshB (g := gb197) (o := .cells #[.int .i64 t191, .int .i64 t192, .slice Ao57 t193.length co57] 33 (0, 0)) (zK BK197) k_ hn_))⟩)) (below_size (by repeat (first | (with_reducible first | exact HB.out | apply below_alloc | apply pw_below_drewN | apply below_drew1 | refine below_set ?_ GE157.out | refine below_set ?_ GE158.out | refine below_set ?_ GE183.out | refine below_set ?_ GE190.out | refine below_set ?_ GE197.out) | exact HB.out)))); have n8_ := Aside0.mk (blk_below (g := gb157) (o := .cells #[.int .i64 t162, .int .i64 t163, .slice Ao22 t164.length co22] 33 (0, 0)) (zK BK157) hb); have n9_ := Aside0.mk (blk_below (g := gb158) (o := .cells #[.int .i64 t167, .int .i64 t168, .slice Ao26 t169.length co26] 33 (0, 0)) (zK BK158) hb); have n10_ := Aside0.mk (blk_below (g := gb183) (o := .cells #[.int .i64 t177, .int .i64 t178, .slice Ao40 t179.length co40] 33 (0, 0)) (zK BK183) hb); have n11_ := Aside0.mk (blk_below (g := gb190) (o := .cells #[.int .i64 t184, .int .i64 t185, .slice Ao48 t186.length co48] 33 (0, 0)) (zK BK190) hb); have n12_ := Aside0.mk (blk_below (g := gb197) (o := .cells #[.int .i64 t191, .int .i64 t192, .slice Ao57 t193.length co57] 33 (0, 0)) (zK BK197) hb); have n13_ := Aside0.mk (below_step (by repeat (first | (with_reducible first | exact HB.out | apply below_alloc | apply pw_below_drewN | apply below_drew1 | refine below_set ?_ GE157.out | refine below_set ?_ GE158.out | refine below_set ?_ GE183.out | refine below_set ?_ GE190.out | refine below_set ?_ GE197.out) | exact HB.out)) hb); clear HO_0; clear HO_9; clear HO_158002; clear HO_159002; clear HO_184002; clear HO_191002; clear HO_198002; clear BK157; clear BK158; clear BK183; clear BK190; clear BK197; clear HB; have HO_0 := n0_; have HO_9 := n1_; have HO_158002 := n2_; have HO_159002 := n3_; have HO_184002 := n4_; have HO_191002 := n5_; have HO_198002 := n6_; have HO214 := n7_; have BK157 := n8_; have BK158 := n9_; have BK183 := n10_; have BK190 := n11_; have BK197 := n12_; have HB := n13_; clear n0_ n1_ n2_ n3_ n4_ n5_ n6_ n7_ n8_ n9_ n10_ n11_ n12_ n13_; (try clear hb); (try clear hb2); (try clear hk); (try clear hi); (try clear ho0); have hcz151_0 : w150.cell? ⟨gb158, 0, none⟩ = some (.int .i64 t167) := (blk_cell BK158.out 0).trans rfl; have hcz151_1 : w150.cell? ⟨gb158, 1, none⟩ = some (.int .i64 t168) := (blk_cell BK158.out 1).trans rfl; have hcz151_2 : w150.cell? ⟨gb158, 2, none⟩ = some (.slice Ao26 t169.length co26) := (blk_cell BK158.out 2).trans rfl; have hfz151_0 := blk_frozen BK158.out 0; have hfz151_1 := blk_frozen BK158.out 1; have hfz151_2 := blk_frozen BK158.out 2) | ((with_reducible refine gate_callee (f := 17) rfl ?_); refine goesL_ (some 138) rfl rfl Try.func17 (by kernel_rfl) rfl #[.slice Ao31 t159.length co31, .agg #[.int .i64 t167, .int .i64 t168, .slice Ao26 t169.length co26]] rfl zP ?_; (with_reducible refine (root_Set.calls (fun k_ => (k_ ≠ gb157 ∧ (k_ ≠ gb158 ∧ (k_ ≠ gb183 ∧ (k_ ≠ gb190 ∧ k_ ≠ gb197))))) _ _ t159 t167 t168 (fun k_ => (some k_ ≠ (.slice Ao31 t159.length co31 : Value).ownBlock ∧ (k_ ≠ gb157 ∧ (k_ ≠ gb158 ∧ (k_ ≠ gb183 ∧ (k_ ≠ gb190 ∧ k_ ≠ gb197)))))) _ _ t169 t216 t219 _ ?side1 ?side2 A122.out).mono ?_); (case side1 => exact Kd.N_V (HO_0.out)); (case side2 => exact HO_159002.out); rintro e w152 ⟨v217, rfl, ho0, hb⟩; refine ⟨_, rfl, ?_⟩; have n0_ := Aside0.mk (Kd.N_below (zN HO_0) hb); have n1_ := Aside0.mk (Kd.V_below (zV HO_9) hb); have n2_ := Aside0.mk (Kd.V_below (zV HO_158002) hb); have n3_ := Aside0.mk (Kd.V_below (zV HO_159002) hb); have n4_ := Aside0.mk (Kd.V_below (zV HO_184002) hb); have n5_ := Aside0.mk (Kd.V_below (zV HO_191002) hb); have n6_ := Aside0.mk (Kd.V_below (zV HO_198002) hb); have n7_ := Aside0.mk (Kd.V_below (zV HO214) hb); have n8_ := Aside0.mk (Kd.V_lower (Kd.V_mono (ok' := fun k_ => k_ ≠ gb157 ∧ k_ ≠ gb158 ∧ k_ ≠ gb183 ∧ k_ ≠ gb190 ∧ k_ ≠ gb197) ho0 (fun k_ hk_ => ⟨Or.elim hk_ (fun hs_ => Or.elim hs_ (fun hs_ => hs_.1) (fun hs_ => hs_.2.1)) (fun hn_ => (Kd.freshB (g := gb157) (o := .cells #[.int .i64 t162, .int .i64 t163, .slice Ao22 t164.length co22] 33 (0, 0)) (zK BK157) k_ hn_)), Or.elim hk_ (fun hs_ => Or.elim hs_ (fun hs_ => hs_.2.1) (fun hs_ => hs_.2.2.1)) (fun hn_ => (Kd.freshB (g := gb158) (o := .cells #[.int .i64 t167, .int .i64 t168, .slice Ao26 t169.length co26] 33 (0, 0)) (zK BK158) k_ hn_)), Or.elim hk_ (fun hs_ => Or.elim hs_ (fun hs_ => hs_.2.2.1) (fun hs_ => hs_.2.2.2.1)) (fun hn_ => (Kd.freshB (g := gb183) (o := .cells #[.int .i64 t177, .int .i64 t178, .slice Ao40 t179.length co40] 33 (0, 0)) (zK BK183) k_ hn_)), Or.elim hk_ (fun hs_ => Or.elim hs_ (fun hs_ => hs_.2.2.2.1) (fun hs_ => hs_.2.2.2.2.1)) (fun hn_ => (Kd.freshB (g := gb190) (o := .cells #[.int .i64 t184, .int .i64 t185, .slice Ao48 t186.length co48] 33 (0, 0)) (zK BK190) k_ hn_)), Or.elim hk_ (fun hs_ => Or.elim hs_ (fun hs_ => hs_.2.2.2.2) (fun hs_ => hs_.2.2.2.2.2)) (fun hn_ => (Kd.freshB (g := gb197) (o := .cells #[.int .i64 t191, .int .i64 t192, .slice Ao57 t193.length co57] 33 (0, 0)) (zK BK197) k_ hn_))⟩)) (below_size (by repeat (first | (with_reducible first | exact HB.out | apply below_alloc | apply pw_below_drewN | apply below_drew1 | refine below_set ?_ GE157.out | refine below_set ?_ GE158.out | refine below_set ?_ GE183.out | refine below_set ?_ GE190.out | refine below_set ?_ GE197.out) | exact HB.out)))); have n9_ := Aside0.mk (blk_below (g := gb157) (o := .cells #[.int .i64 t162, .int .i64 t163, .slice Ao22 t164.length co22] 33 (0, 0)) (zK BK157) hb); have n10_ := Aside0.mk (blk_below (g := gb158) (o := .cells #[.int .i64 t167, .int .i64 t168, .slice Ao26 t169.length co26] 33 (0, 0)) (zK BK158) hb); have n11_ := Aside0.mk (blk_below (g := gb183) (o := .cells #[.int .i64 t177, .int .i64 t178, .slice Ao40 t179.length co40] 33 (0, 0)) (zK BK183) hb); have n12_ := Aside0.mk (blk_below (g := gb190) (o := .cells #[.int .i64 t184, .int .i64 t185, .slice Ao48 t186.length co48] 33 (0, 0)) (zK BK190) hb); have n13_ := Aside0.mk (blk_below (g := gb197) (o := .cells #[.int .i64 t191, .int .i64 t192, .slice Ao57 t193.length co57] 33 (0, 0)) (zK BK197) hb); have n14_ := Aside0.mk (below_step (by repeat (first | (with_reducible first | exact HB.out | apply below_alloc | apply pw_below_drewN | apply below_drew1 | refine below_set ?_ GE157.out | refine below_set ?_ GE158.out | refine below_set ?_ GE183.out | refine below_set ?_ GE190.out | refine below_set ?_ GE197.out) | exact HB.out)) hb); clear HO_0; clear HO_9; clear HO_158002; clear HO_159002; clear HO_184002; clear HO_191002; clear HO_198002; clear HO214; clear BK157; clear BK158; clear BK183; clear BK190; clear BK197; clear HB; have HO_0 := n0_; have HO_9 := n1_; have HO_158002 := n2_; have HO_159002 := n3_; have HO_184002 := n4_; have HO_191002 := n5_; have HO_198002 := n6_; have HO214 := n7_; have HO218 := n8_; have BK157 := n9_; have BK158 := n10_; have BK183 := n11_; have BK190 := n12_; have BK197 := n13_; have HB := n14_; clear n0_ n1_ n2_ n3_ n4_ n5_ n6_ n7_ n8_ n9_ n10_ n11_ n12_ n13_ n14_; (try clear hb); (try clear hb2); (try clear hk); (try clear hi); (try clear ho0); have hnb153 := NB157_183.out; have hnc153 := NB183_157.out; have hnb154 := NB157_190.out; have hnc154 := NB190_157.out; have hnb155 := NB157_197.out; have hnc155 := NB197_157.out; have hcz156_0 : w152.cell? ⟨gb157, 0, none⟩ = some (.int .i64 t162) := (blk_cell BK157.out 0).trans rfl; have hcz156_1 : w152.cell? ⟨gb157, 1, none⟩ = some (.int .i64 t163) := (blk_cell BK157.out 1).trans rfl; have hcz156_2 : w152.cell? ⟨gb157, 2, none⟩ = some (.slice Ao22 t164.length co22) := (blk_cell BK157.out 2).trans rfl; have hfz156_0 := blk_frozen BK157.out 0; have hfz156_1 := blk_frozen BK157.out 1; have hfz156_2 := blk_frozen BK157.out 2; obtain ⟨Ao157, co157, eo157⟩ := Kd.V_slice HO218.out; subst eo157) | ((with_reducible refine gate_callee (f := 17) rfl ?_); refine goesL_ (some 144) rfl rfl Try.func17 (by kernel_rfl) rfl #[.slice Ao157 t216.length co157, .agg #[.int .i64 t162, .int .i64 t163, .slice Ao22 t164.length co22]] rfl zP ?_; (with_reducible refine (root_Set.calls (fun k_ => (k_ ≠ gb157 ∧ (k_ ≠ gb158 ∧ (k_ ≠ gb183 ∧ (k_ ≠ gb190 ∧ k_ ≠ gb197))))) _ _ t216 t162 t163 (fun k_ => (some k_ ≠ (.slice Ao31 t159.length co31 : Value).ownBlock ∧ (k_ ≠ gb157 ∧ (k_ ≠ gb158 ∧ (k_ ≠ gb183 ∧ (k_ ≠ gb190 ∧ k_ ≠ gb197)))))) _ _ t164 t220 t223 _ ?side1 ?side2 A123.out).mono ?_); (case side1 => exact HO218.out); (case side2 => exact HO_158002.out); rintro e w158 ⟨v221, rfl, ho0, hb⟩; refine ⟨_, rfl, ?_⟩; have n0_ := Aside0.mk (Kd.N_below (zN HO_0) hb); have n1_ := Aside0.mk (Kd.V_below (zV HO_9) hb); have n2_ := Aside0.mk (Kd.V_below (zV HO_158002) hb); have n3_ := Aside0.mk (Kd.V_below (zV HO_159002) hb); have n4_ := Aside0.mk (Kd.V_below (zV HO_184002) hb); have n5_ := Aside0.mk (Kd.V_below (zV HO_191002) hb); have n6_ := Aside0.mk (Kd.V_below (zV HO_198002) hb); have n7_ := Aside0.mk (Kd.V_below (zV HO214) hb); have n8_ := Aside0.mk (Kd.V_below (zV HO218) hb); have n9_ := Aside0.mk (Kd.V_lower (Kd.V_mono (ok' := fun k_ => k_ ≠ gb157 ∧ k_ ≠ gb158 ∧ k_ ≠ gb183 ∧ k_ ≠ gb190 ∧ k_ ≠ gb197) ho0 (fun k_ hk_ => ⟨Or.elim hk_ (fun hs_ => Or.elim hs_ (fun hs_ => hs_.1) (fun hs_ => hs_.2.1)) (fun hn_ => (Kd.freshB (g := gb157) (o := .cells #[.int .i64 t162, .int .i64 t163, .slice Ao22 t164.length co22] 33 (0, 0)) (zK BK157) k_ hn_)), Or.elim hk_ (fun hs_ => Or.elim hs_ (fun hs_ => hs_.2.1) (fun hs_ => hs_.2.2.1)) (fun hn_ => (Kd.freshB (g := gb158) (o := .cells #[.int .i64 t167, .int .i64 t168, .slice Ao26 t169.length co26] 33 (0, 0)) (zK BK158) k_ hn_)), Or.elim hk_ (fun hs_ => Or.elim hs_ (fun hs_ => hs_.2.2.1) (fun hs_ => hs_.2.2.2.1)) (fun hn_ => (Kd.freshB (g := gb183) (o := .cells #[.int .i64 t177, .int .i64 t178, .slice Ao40 t179.length co40] 33 (0, 0)) (zK BK183) k_ hn_)), Or.elim hk_ (fun hs_ => Or.elim hs_ (fun hs_ => hs_.2.2.2.1) (fun hs_ => hs_.2.2.2.2.1)) (fun hn_ => (Kd.freshB (g := gb190) (o := .cells #[.int .i64 t184, .int .i64 t185, .slice Ao48 t186.length co48] 33 (0, 0)) (zK BK190) k_ hn_)), Or.elim hk_ (fun hs_ => Or.elim hs_ (fun hs_ => hs_.2.2.2.2) (fun hs_ => hs_.2.2.2.2.2)) (fun hn_ => (Kd.freshB (g := gb197) (o := .cells #[.int .i64 t191, .int .i64 t192, .slice Ao57 t193.length co57] 33 (0, 0)) (zK BK197) k_ hn_))⟩)) (below_size (by repeat (first | (with_reducible first | exact HB.out | apply below_alloc | apply pw_below_drewN | apply below_drew1 | refine below_set ?_ GE157.out | refine below_set ?_ GE158.out | refine below_set ?_ GE183.out | refine below_set ?_ GE190.out | refine below_set ?_ GE197.out) | exact HB.out)))); have n10_ := Aside0.mk (blk_below (g := gb157) (o := .cells #[.int .i64 t162, .int .i64 t163, .slice Ao22 t164.length co22] 33 (0, 0)) (zK BK157) hb); have n11_ := Aside0.mk (blk_below (g := gb158) (o := .cells #[.int .i64 t167, .int .i64 t168, .slice Ao26 t169.length co26] 33 (0, 0)) (zK BK158) hb); have n12_ := Aside0.mk (blk_below (g := gb183) (o := .cells #[.int .i64 t177, .int .i64 t178, .slice Ao40 t179.length co40] 33 (0, 0)) (zK BK183) hb); have n13_ := Aside0.mk (blk_below (g := gb190) (o := .cells #[.int .i64 t184, .int .i64 t185, .slice Ao48 t186.length co48] 33 (0, 0)) (zK BK190) hb); have n14_ := Aside0.mk (blk_below (g := gb197) (o := .cells #[.int .i64 t191, .int .i64 t192, .slice Ao57 t193.length co57] 33 (0, 0)) (zK BK197) hb); have n15_ := Aside0.mk (below_step (by repeat (first | (with_reducible first | exact HB.out | apply below_alloc | apply pw_below_drewN | apply below_drew1 | refine below_set ?_ GE157.out | refine below_set ?_ GE158.out | refine below_set ?_ GE183.out | refine below_set ?_ GE190.out | refine below_set ?_ GE197.out) | exact HB.out)) hb); clear HO_0; clear HO_9; clear HO_158002; clear HO_159002; clear HO_184002; clear HO_191002; clear HO_198002; clear HO214; clear HO218; clear BK157; clear BK158; clear BK183; clear BK190; clear BK197; clear HB; have HO_0 := n0_; have HO_9 := n1_; have HO_158002 := n2_; have HO_159002 := n3_; have HO_184002 := n4_; have HO_191002 := n5_; have HO_198002 := n6_; have HO214 := n7_; have HO218 := n8_; have HO222 := n9_; have BK157 := n10_; have BK158 := n11_; have BK183 := n12_; have BK190 := n13_; have BK197 := n14_; have HB := n15_; clear n0_ n1_ n2_ n3_ n4_ n5_ n6_ n7_ n8_ n9_ n10_ n11_ n12_ n13_ n14_ n15_; (try clear hb); (try clear hb2); (try clear hk); (try clear hi); (try clear ho0); have hcz159_0 : w158.cell? ⟨gb157, 0, none⟩ = some (.int .i64 t162) := (blk_cell BK157.out 0).trans rfl; have hcz159_1 : w158.cell? ⟨gb157, 1, none⟩ = some (.int .i64 t163) := (blk_cell BK157.out 1).trans rfl; have hcz159_2 : w158.cell? ⟨gb157, 2, none⟩ = some (.slice Ao22 t164.length co22) := (blk_cell BK157.out 2).trans rfl; have hfz159_0 := blk_frozen BK157.out 0; have hfz159_1 := blk_frozen BK157.out 1; have hfz159_2 := blk_frozen BK157.out 2; have hcz160_0 : w158.cell? ⟨gb158, 0, none⟩ = some (.int .i64 t167) := (blk_cell BK158.out 0).trans rfl; have hcz160_1 : w158.cell? ⟨gb158, 1, none⟩ = some (.int .i64 t168) := (blk_cell BK158.out 1).trans rfl; have hcz160_2 : w158.cell? ⟨gb158, 2, none⟩ = some (.slice Ao26 t169.length co26) := (blk_cell BK158.out 2).trans rfl; have hfz160_0 := blk_frozen BK158.out 0; have hfz160_1 := blk_frozen BK158.out 1; have hfz160_2 := blk_frozen BK158.out 2; obtain ⟨Ao161, co161, eo161⟩ := Kd.V_slice HO214.out; subst eo161; obtain ⟨Ao162, co162, eo162⟩ := Kd.V_slice HO222.out; subst eo162) | (go_at_call 27; (with_reducible refine (deadboltref09_Same.calls kj105 _ _ t212 _ _ t220 t224 _ ?side1 ?side2 ?side3 ?side4 A144.out).mono ?_); (case side1 => repeat (first | exact (Kd.V_reads' HO214.out).2.2 | (with_reducible refine Kd.C_alloc ?_ _) | (with_reducible refine Kd.C_drewN ?_ _) | (with_reducible refine Kd.C_drew ?_))); (case side2 => exact (Kd.V_reads' HO214.out).2.1); (case side3 => repeat (first | exact (Kd.V_reads' HO222.out).2.2 | (with_reducible refine Kd.C_alloc ?_ _) | (with_reducible refine Kd.C_drewN ?_ _) | (with_reducible refine Kd.C_drew ?_))); (case side4 => exact (Kd.V_reads' HO222.out).2.1); rintro e w163 ⟨rfl, hb⟩; have n0_ := Aside0.mk (Kd.N_below (zN HO_0) hb); have n1_ := Aside0.mk (Kd.V_below (zV HO_9) hb); have n2_ := Aside0.mk (Kd.V_below (zV HO_158002) hb); have n3_ := Aside0.mk (Kd.V_below (zV HO_159002) hb); have n4_ := Aside0.mk (Kd.V_below (zV HO_184002) hb); have n5_ := Aside0.mk (Kd.V_below (zV HO_191002) hb); have n6_ := Aside0.mk (Kd.V_below (zV HO_198002) hb); have n7_ := Aside0.mk (Kd.V_below (zV HO214) hb); have n8_ := Aside0.mk (Kd.V_below (zV HO218) hb); have n9_ := Aside0.mk (Kd.V_below (zV HO222) hb); have n10_ := Aside0.mk (blk_below (g := gb157) (o := .cells #[.int .i64 t162, .int .i64 t163, .slice Ao22 t164.length co22] 33 (0, 0)) (zK BK157) hb); have n11_ := Aside0.mk (blk_below (g := gb158) (o := .cells #[.int .i64 t167, .int .i64 t168, .slice Ao26 t169.length co26] 33 (0, 0)) (zK BK158) hb); have n12_ := Aside0.mk (blk_below (g := gb183) (o := .cells #[.int .i64 t177, .int .i64 t178, .slice Ao40 t179.length co40] 33 (0, 0)) (zK BK183) hb); have n13_ := Aside0.mk (blk_below (g := gb190) (o := .cells #[.int .i64 t184, .int .i64 t185, .slice Ao48 t186.length co48] 33 (0, 0)) (zK BK190) hb); have n14_ := Aside0.mk (blk_below (g := gb197) (o := .cells #[.int .i64 t191, .int .i64 t192, .slice Ao57 t193.length co57] 33 (0, 0)) (zK BK197) hb); have n15_ := Aside0.mk (below_step (by repeat (first | (with_reducible first | exact HB.out | apply below_alloc | apply pw_below_drewN | apply below_drew1 | refine below_set ?_ GE157.out | refine below_set ?_ GE158.out | refine below_set ?_ GE183.out | refine below_set ?_ GE190.out | refine below_set ?_ GE197.out) | exact HB.out)) hb); clear HO_0; clear HO_9; clear HO_158002; clear HO_159002; clear HO_184002; clear HO_191002; clear HO_198002; clear HO214; clear HO218; clear HO222; clear BK157; clear BK158; clear BK183; clear BK190; clear BK197; clear HB; have HO_0 := n0_; have HO_9 := n1_; have HO_158002 := n2_; have HO_159002 := n3_; have HO_184002 := n4_; have HO_191002 := n5_; have HO_198002 := n6_; have HO214 := n7_; have HO218 := n8_; have HO222 := n9_; have BK157 := n10_; have BK158 := n11_; have BK183 := n12_; have BK190 := n13_; have BK197 := n14_; have HB := n15_; clear n0_ n1_ n2_ n3_ n4_ n5_ n6_ n7_ n8_ n9_ n10_ n11_ n12_ n13_ n14_ n15_; (try clear hb); (try clear hb2); (try clear hk); (try clear hi)))
            go_ret
            exact ⟨by first | rfl | (simp [errW_none, errW_some] <;> rfl) | (simp [*, errW_none, errW_some] <;> rfl), by repeat (first | (with_reducible first | exact HB.out | apply below_alloc | apply pw_below_drewN | apply below_drew1 | refine below_set ?_ GE157.out | refine below_set ?_ GE158.out | refine below_set ?_ GE183.out | refine below_set ?_ GE190.out | refine below_set ?_ GE197.out) | exact HB.out)⟩
          ·rw [if_neg c126] at H
           have c126b0 : (t223 == 0) = false := beq_eq_false_iff_ne.mpr c126
           have c126b1 : (t223 != 0) = true := bne_iff_ne.mpr c126
           obtain rfl := Option.some.inj H
           have hnb164 := NB158_157.out
           have hnc164 := NB157_158.out
           have hnb165 := NB158_183.out
           have hnc165 := NB183_158.out
           have hnb166 := NB158_190.out
           have hnc166 := NB190_158.out
           have hnb167 := NB158_197.out
           have hnc167 := NB197_158.out
           have hcz168_0 : wc.cell? ⟨gb158, 0, none⟩ = some (.int .i64 t167) := (blk_cell BK158.out 0).trans rfl
           have hcz168_1 : wc.cell? ⟨gb158, 1, none⟩ = some (.int .i64 t168) := (blk_cell BK158.out 1).trans rfl
           have hcz168_2 : wc.cell? ⟨gb158, 2, none⟩ = some (.slice Ao26 t169.length co26) := (blk_cell BK158.out 2).trans rfl
           have hfz168_0 := blk_frozen BK158.out 0
           have hfz168_1 := blk_frozen BK158.out 1
           have hfz168_2 := blk_frozen BK158.out 2
           go_wp2_with (first | ((with_reducible refine gate_callee (f := 17) rfl ?_); refine goesL_ (some 132) rfl rfl Try.func17 (by kernel_rfl) rfl #[.slice Ao34 t172.length co34, .agg #[.int .i64 t167, .int .i64 t168, .slice Ao26 t169.length co26]] rfl zP ?_; (with_reducible refine (root_Set.calls (fun k_ => (k_ ≠ gb157 ∧ (k_ ≠ gb158 ∧ (k_ ≠ gb183 ∧ (k_ ≠ gb190 ∧ k_ ≠ gb197))))) _ _ t172 t167 t168 (fun k_ => (some k_ ≠ (.slice Ao31 t159.length co31 : Value).ownBlock ∧ (k_ ≠ gb157 ∧ (k_ ≠ gb158 ∧ (k_ ≠ gb183 ∧ (k_ ≠ gb190 ∧ k_ ≠ gb197)))))) _ _ t169 t212 t215 _ ?side1 ?side2 A121.out).mono ?_); (case side1 => exact HO_9.out); (case side2 => exact HO_159002.out); rintro e w169 ⟨v213, rfl, ho0, hb⟩; refine ⟨_, rfl, ?_⟩; have n0_ := Aside0.mk (Kd.N_below (zN HO_0) hb); have n1_ := Aside0.mk (Kd.V_below (zV HO_9) hb); have n2_ := Aside0.mk (Kd.V_below (zV HO_158002) hb); have n3_ := Aside0.mk (Kd.V_below (zV HO_159002) hb); have n4_ := Aside0.mk (Kd.V_below (zV HO_184002) hb); have n5_ := Aside0.mk (Kd.V_below (zV HO_191002) hb); have n6_ := Aside0.mk (Kd.V_below (zV HO_198002) hb); have n7_ := Aside0.mk (Kd.V_lower (Kd.V_mono (ok' := fun k_ => k_ ≠ gb157 ∧ k_ ≠ gb158 ∧ k_ ≠ gb183 ∧ k_ ≠ gb190 ∧ k_ ≠ gb197) ho0 (fun k_ hk_ => ⟨Or.elim hk_ (fun hs_ => Or.elim hs_ (fun hs_ => hs_.1) (fun hs_ => hs_.2.1)) (fun hn_ => (Kd.freshB (g := gb157) (o := .cells #[.int .i64 t162, .int .i64 t163, .slice Ao22 t164.length co22] 33 (0, 0)) (zK BK157) k_ hn_)), Or.elim hk_ (fun hs_ => Or.elim hs_ (fun hs_ => hs_.2.1) (fun hs_ => hs_.2.2.1)) (fun hn_ => (Kd.freshB (g := gb158) (o := .cells #[.int .i64 t167, .int .i64 t168, .slice Ao26 t169.length co26] 33 (0, 0)) (zK BK158) k_ hn_)), Or.elim hk_ (fun hs_ => Or.elim hs_ (fun hs_ => hs_.2.2.1) (fun hs_ => hs_.2.2.2.1)) (fun hn_ => (Kd.freshB (g := gb183) (o := .cells #[.int .i64 t177, .int .i64 t178, .slice Ao40 t179.length co40] 33 (0, 0)) (zK BK183) k_ hn_)), Or.elim hk_ (fun hs_ => Or.elim hs_ (fun hs_ => hs_.2.2.2.1) (fun hs_ => hs_.2.2.2.2.1)) (fun hn_ => (Kd.freshB (g := gb190) (o := .cells #[.int .i64 t184, .int .i64 t185, .slice Ao48 t186.length co48] 33 (0, 0)) (zK BK190) k_ hn_)), Or.elim hk_ (fun hs_ => Or.elim hs_ (fun hs_ => hs_.2.2.2.2) (fun hs_ => hs_.2.2.2.2.2)) (fun hn_ => (Kd.freshB (g := gb197) (o := .cells #[.int .i64 t191, .int .i64 t192, .slice Ao57 t193.length co57] 33 (0, 0)) (zK BK197) k_ hn_))⟩)) (below_size (by repeat (first | (with_reducible first | exact HB.out | apply below_alloc | apply pw_below_drewN | apply below_drew1 | refine below_set ?_ GE157.out | refine below_set ?_ GE158.out | refine below_set ?_ GE183.out | refine below_set ?_ GE190.out | refine below_set ?_ GE197.out) | exact HB.out)))); have n8_ := Aside0.mk (blk_below (g := gb157) (o := .cells #[.int .i64 t162, .int .i64 t163, .slice Ao22 t164.length co22] 33 (0, 0)) (zK BK157) hb); have n9_ := Aside0.mk (blk_below (g := gb158) (o := .cells #[.int .i64 t167, .int .i64 t168, .slice Ao26 t169.length co26] 33 (0, 0)) (zK BK158) hb); have n10_ := Aside0.mk (blk_below (g := gb183) (o := .cells #[.int .i64 t177, .int .i64 t178, .slice Ao40 t179.length co40] 33 (0, 0)) (zK BK183) hb); have n11_ := Aside0.mk (blk_below (g := gb190) (o := .cells #[.int .i64 t184, .int .i64 t185, .slice Ao48 t186.length co48] 33 (0, 0)) (zK BK190) hb); have n12_ := Aside0.mk (blk_below (g := gb197) (o := .cells #[.int .i64 t191, .int .i64 t192, .slice Ao57 t193.length co57] 33 (0, 0)) (zK BK197) hb); have n13_ := Aside0.mk (below_step (by repeat (first | (with_reducible first | exact HB.out | apply below_alloc | apply pw_below_drewN | apply below_drew1 | refine below_set ?_ GE157.out | refine below_set ?_ GE158.out | refine below_set ?_ GE183.out | refine below_set ?_ GE190.out | refine below_set ?_ GE197.out) | exact HB.out)) hb); clear HO_0; clear HO_9; clear HO_158002; clear HO_159002; clear HO_184002; clear HO_191002; clear HO_198002; clear BK157; clear BK158; clear BK183; clear BK190; clear BK197; clear HB; have HO_0 := n0_; have HO_9 := n1_; have HO_158002 := n2_; have HO_159002 := n3_; have HO_184002 := n4_; have HO_191002 := n5_; have HO_198002 := n6_; have HO214 := n7_; have BK157 := n8_; have BK158 := n9_; have BK183 := n10_; have BK190 := n11_; have BK197 := n12_; have HB := n13_; clear n0_ n1_ n2_ n3_ n4_ n5_ n6_ n7_ n8_ n9_ n10_ n11_ n12_ n13_; (try clear hb); (try clear hb2); (try clear hk); (try clear hi); (try clear ho0); have hcz170_0 : w169.cell? ⟨gb158, 0, none⟩ = some (.int .i64 t167) := (blk_cell BK158.out 0).trans rfl; have hcz170_1 : w169.cell? ⟨gb158, 1, none⟩ = some (.int .i64 t168) := (blk_cell BK158.out 1).trans rfl; have hcz170_2 : w169.cell? ⟨gb158, 2, none⟩ = some (.slice Ao26 t169.length co26) := (blk_cell BK158.out 2).trans rfl; have hfz170_0 := blk_frozen BK158.out 0; have hfz170_1 := blk_frozen BK158.out 1; have hfz170_2 := blk_frozen BK158.out 2) | ((with_reducible refine gate_callee (f := 17) rfl ?_); refine goesL_ (some 138) rfl rfl Try.func17 (by kernel_rfl) rfl #[.slice Ao31 t159.length co31, .agg #[.int .i64 t167, .int .i64 t168, .slice Ao26 t169.length co26]] rfl zP ?_; (with_reducible refine (root_Set.calls (fun k_ => (k_ ≠ gb157 ∧ (k_ ≠ gb158 ∧ (k_ ≠ gb183 ∧ (k_ ≠ gb190 ∧ k_ ≠ gb197))))) _ _ t159 t167 t168 (fun k_ => (some k_ ≠ (.slice Ao31 t159.length co31 : Value).ownBlock ∧ (k_ ≠ gb157 ∧ (k_ ≠ gb158 ∧ (k_ ≠ gb183 ∧ (k_ ≠ gb190 ∧ k_ ≠ gb197)))))) _ _ t169 t216 t219 _ ?side1 ?side2 A122.out).mono ?_); (case side1 => exact Kd.N_V (HO_0.out)); (case side2 => exact HO_159002.out); rintro e w171 ⟨v217, rfl, ho0, hb⟩; refine ⟨_, rfl, ?_⟩; have n0_ := Aside0.mk (Kd.N_below (zN HO_0) hb); have n1_ := Aside0.mk (Kd.V_below (zV HO_9) hb); have n2_ := Aside0.mk (Kd.V_below (zV HO_158002) hb); have n3_ := Aside0.mk (Kd.V_below (zV HO_159002) hb); have n4_ := Aside0.mk (Kd.V_below (zV HO_184002) hb); have n5_ := Aside0.mk (Kd.V_below (zV HO_191002) hb); have n6_ := Aside0.mk (Kd.V_below (zV HO_198002) hb); have n7_ := Aside0.mk (Kd.V_below (zV HO214) hb); have n8_ := Aside0.mk (Kd.V_lower (Kd.V_mono (ok' := fun k_ => k_ ≠ gb157 ∧ k_ ≠ gb158 ∧ k_ ≠ gb183 ∧ k_ ≠ gb190 ∧ k_ ≠ gb197) ho0 (fun k_ hk_ => ⟨Or.elim hk_ (fun hs_ => Or.elim hs_ (fun hs_ => hs_.1) (fun hs_ => hs_.2.1)) (fun hn_ => (Kd.freshB (g := gb157) (o := .cells #[.int .i64 t162, .int .i64 t163, .slice Ao22 t164.length co22] 33 (0, 0)) (zK BK157) k_ hn_)), Or.elim hk_ (fun hs_ => Or.elim hs_ (fun hs_ => hs_.2.1) (fun hs_ => hs_.2.2.1)) (fun hn_ => (Kd.freshB (g := gb158) (o := .cells #[.int .i64 t167, .int .i64 t168, .slice Ao26 t169.length co26] 33 (0, 0)) (zK BK158) k_ hn_)), Or.elim hk_ (fun hs_ => Or.elim hs_ (fun hs_ => hs_.2.2.1) (fun hs_ => hs_.2.2.2.1)) (fun hn_ => (Kd.freshB (g := gb183) (o := .cells #[.int .i64 t177, .int .i64 t178, .slice Ao40 t179.length co40] 33 (0, 0)) (zK BK183) k_ hn_)), Or.elim hk_ (fun hs_ => Or.elim hs_ (fun hs_ => hs_.2.2.2.1) (fun hs_ => hs_.2.2.2.2.1)) (fun hn_ => (Kd.freshB (g := gb190) (o := .cells #[.int .i64 t184, .int .i64 t185, .slice Ao48 t186.length co48] 33 (0, 0)) (zK BK190) k_ hn_)), Or.elim hk_ (fun hs_ => Or.elim hs_ (fun hs_ => hs_.2.2.2.2) (fun hs_ => hs_.2.2.2.2.2)) (fun hn_ => (Kd.freshB (g := gb197) (o := .cells #[.int .i64 t191, .int .i64 t192, .slice Ao57 t193.length co57] 33 (0, 0)) (zK BK197) k_ hn_))⟩)) (below_size (by repeat (first | (with_reducible first | exact HB.out | apply below_alloc | apply pw_below_drewN | apply below_drew1 | refine below_set ?_ GE157.out | refine below_set ?_ GE158.out | refine below_set ?_ GE183.out | refine below_set ?_ GE190.out | refine below_set ?_ GE197.out) | exact HB.out)))); have n9_ := Aside0.mk (blk_below (g := gb157) (o := .cells #[.int .i64 t162, .int .i64 t163, .slice Ao22 t164.length co22] 33 (0, 0)) (zK BK157) hb); have n10_ := Aside0.mk (blk_below (g := gb158) (o := .cells #[.int .i64 t167, .int .i64 t168, .slice Ao26 t169.length co26] 33 (0, 0)) (zK BK158) hb); have n11_ := Aside0.mk (blk_below (g := gb183) (o := .cells #[.int .i64 t177, .int .i64 t178, .slice Ao40 t179.length co40] 33 (0, 0)) (zK BK183) hb); have n12_ := Aside0.mk (blk_below (g := gb190) (o := .cells #[.int .i64 t184, .int .i64 t185, .slice Ao48 t186.length co48] 33 (0, 0)) (zK BK190) hb); have n13_ := Aside0.mk (blk_below (g := gb197) (o := .cells #[.int .i64 t191, .int .i64 t192, .slice Ao57 t193.length co57] 33 (0, 0)) (zK BK197) hb); have n14_ := Aside0.mk (below_step (by repeat (first | (with_reducible first | exact HB.out | apply below_alloc | apply pw_below_drewN | apply below_drew1 | refine below_set ?_ GE157.out | refine below_set ?_ GE158.out | refine below_set ?_ GE183.out | refine below_set ?_ GE190.out | refine below_set ?_ GE197.out) | exact HB.out)) hb); clear HO_0; clear HO_9; clear HO_158002; clear HO_159002; clear HO_184002; clear HO_191002; clear HO_198002; clear HO214; clear BK157; clear BK158; clear BK183; clear BK190; clear BK197; clear HB; have HO_0 := n0_; have HO_9 := n1_; have HO_158002 := n2_; have HO_159002 := n3_; have HO_184002 := n4_; have HO_191002 := n5_; have HO_198002 := n6_; have HO214 := n7_; have HO218 := n8_; have BK157 := n9_; have BK158 := n10_; have BK183 := n11_; have BK190 := n12_; have BK197 := n13_; have HB := n14_; clear n0_ n1_ n2_ n3_ n4_ n5_ n6_ n7_ n8_ n9_ n10_ n11_ n12_ n13_ n14_; (try clear hb); (try clear hb2); (try clear hk); (try clear hi); (try clear ho0); have hnb172 := NB157_183.out; have hnc172 := NB183_157.out; have hnb173 := NB157_190.out; have hnc173 := NB190_157.out; have hnb174 := NB157_197.out; have hnc174 := NB197_157.out; have hcz175_0 : w171.cell? ⟨gb157, 0, none⟩ = some (.int .i64 t162) := (blk_cell BK157.out 0).trans rfl; have hcz175_1 : w171.cell? ⟨gb157, 1, none⟩ = some (.int .i64 t163) := (blk_cell BK157.out 1).trans rfl; have hcz175_2 : w171.cell? ⟨gb157, 2, none⟩ = some (.slice Ao22 t164.length co22) := (blk_cell BK157.out 2).trans rfl; have hfz175_0 := blk_frozen BK157.out 0; have hfz175_1 := blk_frozen BK157.out 1; have hfz175_2 := blk_frozen BK157.out 2; obtain ⟨Ao176, co176, eo176⟩ := Kd.V_slice HO218.out; subst eo176) | ((with_reducible refine gate_callee (f := 17) rfl ?_); refine goesL_ (some 144) rfl rfl Try.func17 (by kernel_rfl) rfl #[.slice Ao176 t216.length co176, .agg #[.int .i64 t162, .int .i64 t163, .slice Ao22 t164.length co22]] rfl zP ?_; (with_reducible refine (root_Set.calls (fun k_ => (k_ ≠ gb157 ∧ (k_ ≠ gb158 ∧ (k_ ≠ gb183 ∧ (k_ ≠ gb190 ∧ k_ ≠ gb197))))) _ _ t216 t162 t163 (fun k_ => (some k_ ≠ (.slice Ao31 t159.length co31 : Value).ownBlock ∧ (k_ ≠ gb157 ∧ (k_ ≠ gb158 ∧ (k_ ≠ gb183 ∧ (k_ ≠ gb190 ∧ k_ ≠ gb197)))))) _ _ t164 t220 t223 _ ?side1 ?side2 A123.out).mono ?_); (case side1 => exact HO218.out); (case side2 => exact HO_158002.out); rintro e w177 ⟨v221, rfl, ho0, hb⟩; refine ⟨_, rfl, ?_⟩; have n0_ := Aside0.mk (Kd.N_below (zN HO_0) hb); have n1_ := Aside0.mk (Kd.V_below (zV HO_9) hb); have n2_ := Aside0.mk (Kd.V_below (zV HO_158002) hb); have n3_ := Aside0.mk (Kd.V_below (zV HO_159002) hb); have n4_ := Aside0.mk (Kd.V_below (zV HO_184002) hb); have n5_ := Aside0.mk (Kd.V_below (zV HO_191002) hb); have n6_ := Aside0.mk (Kd.V_below (zV HO_198002) hb); have n7_ := Aside0.mk (Kd.V_below (zV HO214) hb); have n8_ := Aside0.mk (Kd.V_below (zV HO218) hb); have n9_ := Aside0.mk (Kd.V_lower (Kd.V_mono (ok' := fun k_ => k_ ≠ gb157 ∧ k_ ≠ gb158 ∧ k_ ≠ gb183 ∧ k_ ≠ gb190 ∧ k_ ≠ gb197) ho0 (fun k_ hk_ => ⟨Or.elim hk_ (fun hs_ => Or.elim hs_ (fun hs_ => hs_.1) (fun hs_ => hs_.2.1)) (fun hn_ => (Kd.freshB (g := gb157) (o := .cells #[.int .i64 t162, .int .i64 t163, .slice Ao22 t164.length co22] 33 (0, 0)) (zK BK157) k_ hn_)), Or.elim hk_ (fun hs_ => Or.elim hs_ (fun hs_ => hs_.2.1) (fun hs_ => hs_.2.2.1)) (fun hn_ => (Kd.freshB (g := gb158) (o := .cells #[.int .i64 t167, .int .i64 t168, .slice Ao26 t169.length co26] 33 (0, 0)) (zK BK158) k_ hn_)), Or.elim hk_ (fun hs_ => Or.elim hs_ (fun hs_ => hs_.2.2.1) (fun hs_ => hs_.2.2.2.1)) (fun hn_ => (Kd.freshB (g := gb183) (o := .cells #[.int .i64 t177, .int .i64 t178, .slice Ao40 t179.length co40] 33 (0, 0)) (zK BK183) k_ hn_)), Or.elim hk_ (fun hs_ => Or.elim hs_ (fun hs_ => hs_.2.2.2.1) (fun hs_ => hs_.2.2.2.2.1)) (fun hn_ => (Kd.freshB (g := gb190) (o := .cells #[.int .i64 t184, .int .i64 t185, .slice Ao48 t186.length co48] 33 (0, 0)) (zK BK190) k_ hn_)), Or.elim hk_ (fun hs_ => Or.elim hs_ (fun hs_ => hs_.2.2.2.2) (fun hs_ => hs_.2.2.2.2.2)) (fun hn_ => (Kd.freshB (g := gb197) (o := .cells #[.int .i64 t191, .int .i64 t192, .slice Ao57 t193.length co57] 33 (0, 0)) (zK BK197) k_ hn_))⟩)) (below_size (by repeat (first | (with_reducible first | exact HB.out | apply below_alloc | apply pw_below_drewN | apply below_drew1 | refine below_set ?_ GE157.out | refine below_set ?_ GE158.out | refine below_set ?_ GE183.out | refine below_set ?_ GE190.out | refine below_set ?_ GE197.out) | exact HB.out)))); have n10_ := Aside0.mk (blk_below (g := gb157) (o := .cells #[.int .i64 t162, .int .i64 t163, .slice Ao22 t164.length co22] 33 (0, 0)) (zK BK157) hb); have n11_ := Aside0.mk (blk_below (g := gb158) (o := .cells #[.int .i64 t167, .int .i64 t168, .slice Ao26 t169.length co26] 33 (0, 0)) (zK BK158) hb); have n12_ := Aside0.mk (blk_below (g := gb183) (o := .cells #[.int .i64 t177, .int .i64 t178, .slice Ao40 t179.length co40] 33 (0, 0)) (zK BK183) hb); have n13_ := Aside0.mk (blk_below (g := gb190) (o := .cells #[.int .i64 t184, .int .i64 t185, .slice Ao48 t186.length co48] 33 (0, 0)) (zK BK190) hb); have n14_ := Aside0.mk (blk_below (g := gb197) (o := .cells #[.int .i64 t191, .int .i64 t192, .slice Ao57 t193.length co57] 33 (0, 0)) (zK BK197) hb); have n15_ := Aside0.mk (below_step (by repeat (first | (with_reducible first | exact HB.out | apply below_alloc | apply pw_below_drewN | apply below_drew1 | refine below_set ?_ GE157.out | refine below_set ?_ GE158.out | refine below_set ?_ GE183.out | refine below_set ?_ GE190.out | refine below_set ?_ GE197.out) | exact HB.out)) hb); clear HO_0; clear HO_9; clear HO_158002; clear HO_159002; clear HO_184002; clear HO_191002; clear HO_198002; clear HO214; clear HO218; clear BK157; clear BK158; clear BK183; clear BK190; clear BK197; clear HB; have HO_0 := n0_; have HO_9 := n1_; have HO_158002 := n2_; have HO_159002 := n3_; have HO_184002 := n4_; have HO_191002 := n5_; have HO_198002 := n6_; have HO214 := n7_; have HO218 := n8_; have HO222 := n9_; have BK157 := n10_; have BK158 := n11_; have BK183 := n12_; have BK190 := n13_; have BK197 := n14_; have HB := n15_; clear n0_ n1_ n2_ n3_ n4_ n5_ n6_ n7_ n8_ n9_ n10_ n11_ n12_ n13_ n14_ n15_; (try clear hb); (try clear hb2); (try clear hk); (try clear hi); (try clear ho0)))
           go_ret
           exact ⟨by first | rfl | (simp [errW_none, errW_some] <;> rfl) | (simp [*, errW_none, errW_some] <;> rfl), by repeat (first | (with_reducible first | exact HB.out | apply below_alloc | apply pw_below_drewN | apply below_drew1 | refine below_set ?_ GE157.out | refine below_set ?_ GE158.out | refine below_set ?_ GE183.out | refine below_set ?_ GE190.out | refine below_set ?_ GE197.out) | exact HB.out)⟩
         ·rw [if_neg c125] at H
          have c125b0 : (t219 == 0) = false := beq_eq_false_iff_ne.mpr c125
          have c125b1 : (t219 != 0) = true := bne_iff_ne.mpr c125
          obtain rfl := Option.some.inj H
          have hnb178 := NB158_157.out
          have hnc178 := NB157_158.out
          have hnb179 := NB158_183.out
          have hnc179 := NB183_158.out
          have hnb180 := NB158_190.out
          have hnc180 := NB190_158.out
          have hnb181 := NB158_197.out
          have hnc181 := NB197_158.out
          have hcz182_0 : wc.cell? ⟨gb158, 0, none⟩ = some (.int .i64 t167) := (blk_cell BK158.out 0).trans rfl
          have hcz182_1 : wc.cell? ⟨gb158, 1, none⟩ = some (.int .i64 t168) := (blk_cell BK158.out 1).trans rfl
          have hcz182_2 : wc.cell? ⟨gb158, 2, none⟩ = some (.slice Ao26 t169.length co26) := (blk_cell BK158.out 2).trans rfl
          have hfz182_0 := blk_frozen BK158.out 0
          have hfz182_1 := blk_frozen BK158.out 1
          have hfz182_2 := blk_frozen BK158.out 2
          go_wp2_with (first | ((with_reducible refine gate_callee (f := 17) rfl ?_); refine goesL_ (some 132) rfl rfl Try.func17 (by kernel_rfl) rfl #[.slice Ao34 t172.length co34, .agg #[.int .i64 t167, .int .i64 t168, .slice Ao26 t169.length co26]] rfl zP ?_; (with_reducible refine (root_Set.calls (fun k_ => (k_ ≠ gb157 ∧ (k_ ≠ gb158 ∧ (k_ ≠ gb183 ∧ (k_ ≠ gb190 ∧ k_ ≠ gb197))))) _ _ t172 t167 t168 (fun k_ => (some k_ ≠ (.slice Ao31 t159.length co31 : Value).ownBlock ∧ (k_ ≠ gb157 ∧ (k_ ≠ gb158 ∧ (k_ ≠ gb183 ∧ (k_ ≠ gb190 ∧ k_ ≠ gb197)))))) _ _ t169 t212 t215 _ ?side1 ?side2 A121.out).mono ?_); (case side1 => exact HO_9.out); (case side2 => exact HO_159002.out); rintro e w183 ⟨v213, rfl, ho0, hb⟩; refine ⟨_, rfl, ?_⟩; have n0_ := Aside0.mk (Kd.N_below (zN HO_0) hb); have n1_ := Aside0.mk (Kd.V_below (zV HO_9) hb); have n2_ := Aside0.mk (Kd.V_below (zV HO_158002) hb); have n3_ := Aside0.mk (Kd.V_below (zV HO_159002) hb); have n4_ := Aside0.mk (Kd.V_below (zV HO_184002) hb); have n5_ := Aside0.mk (Kd.V_below (zV HO_191002) hb); have n6_ := Aside0.mk (Kd.V_below (zV HO_198002) hb); have n7_ := Aside0.mk (Kd.V_lower (Kd.V_mono (ok' := fun k_ => k_ ≠ gb157 ∧ k_ ≠ gb158 ∧ k_ ≠ gb183 ∧ k_ ≠ gb190 ∧ k_ ≠ gb197) ho0 (fun k_ hk_ => ⟨Or.elim hk_ (fun hs_ => Or.elim hs_ (fun hs_ => hs_.1) (fun hs_ => hs_.2.1)) (fun hn_ => (Kd.freshB (g := gb157) (o := .cells #[.int .i64 t162, .int .i64 t163, .slice Ao22 t164.length co22] 33 (0, 0)) (zK BK157) k_ hn_)), Or.elim hk_ (fun hs_ => Or.elim hs_ (fun hs_ => hs_.2.1) (fun hs_ => hs_.2.2.1)) (fun hn_ => (Kd.freshB (g := gb158) (o := .cells #[.int .i64 t167, .int .i64 t168, .slice Ao26 t169.length co26] 33 (0, 0)) (zK BK158) k_ hn_)), Or.elim hk_ (fun hs_ => Or.elim hs_ (fun hs_ => hs_.2.2.1) (fun hs_ => hs_.2.2.2.1)) (fun hn_ => (Kd.freshB (g := gb183) (o := .cells #[.int .i64 t177, .int .i64 t178, .slice Ao40 t179.length co40] 33 (0, 0)) (zK BK183) k_ hn_)), Or.elim hk_ (fun hs_ => Or.elim hs_ (fun hs_ => hs_.2.2.2.1) (fun hs_ => hs_.2.2.2.2.1)) (fun hn_ => (Kd.freshB (g := gb190) (o := .cells #[.int .i64 t184, .int .i64 t185, .slice Ao48 t186.length co48] 33 (0, 0)) (zK BK190) k_ hn_)), Or.elim hk_ (fun hs_ => Or.elim hs_ (fun hs_ => hs_.2.2.2.2) (fun hs_ => hs_.2.2.2.2.2)) (fun hn_ => (Kd.freshB (g := gb197) (o := .cells #[.int .i64 t191, .int .i64 t192, .slice Ao57 t193.length co57] 33 (0, 0)) (zK BK197) k_ hn_))⟩)) (below_size (by repeat (first | (with_reducible first | exact HB.out | apply below_alloc | apply pw_below_drewN | apply below_drew1 | refine below_set ?_ GE157.out | refine below_set ?_ GE158.out | refine below_set ?_ GE183.out | refine below_set ?_ GE190.out | refine below_set ?_ GE197.out) | exact HB.out)))); have n8_ := Aside0.mk (blk_below (g := gb157) (o := .cells #[.int .i64 t162, .int .i64 t163, .slice Ao22 t164.length co22] 33 (0, 0)) (zK BK157) hb); have n9_ := Aside0.mk (blk_below (g := gb158) (o := .cells #[.int .i64 t167, .int .i64 t168, .slice Ao26 t169.length co26] 33 (0, 0)) (zK BK158) hb); have n10_ := Aside0.mk (blk_below (g := gb183) (o := .cells #[.int .i64 t177, .int .i64 t178, .slice Ao40 t179.length co40] 33 (0, 0)) (zK BK183) hb); have n11_ := Aside0.mk (blk_below (g := gb190) (o := .cells #[.int .i64 t184, .int .i64 t185, .slice Ao48 t186.length co48] 33 (0, 0)) (zK BK190) hb); have n12_ := Aside0.mk (blk_below (g := gb197) (o := .cells #[.int .i64 t191, .int .i64 t192, .slice Ao57 t193.length co57] 33 (0, 0)) (zK BK197) hb); have n13_ := Aside0.mk (below_step (by repeat (first | (with_reducible first | exact HB.out | apply below_alloc | apply pw_below_drewN | apply below_drew1 | refine below_set ?_ GE157.out | refine below_set ?_ GE158.out | refine below_set ?_ GE183.out | refine below_set ?_ GE190.out | refine below_set ?_ GE197.out) | exact HB.out)) hb); clear HO_0; clear HO_9; clear HO_158002; clear HO_159002; clear HO_184002; clear HO_191002; clear HO_198002; clear BK157; clear BK158; clear BK183; clear BK190; clear BK197; clear HB; have HO_0 := n0_; have HO_9 := n1_; have HO_158002 := n2_; have HO_159002 := n3_; have HO_184002 := n4_; have HO_191002 := n5_; have HO_198002 := n6_; have HO214 := n7_; have BK157 := n8_; have BK158 := n9_; have BK183 := n10_; have BK190 := n11_; have BK197 := n12_; have HB := n13_; clear n0_ n1_ n2_ n3_ n4_ n5_ n6_ n7_ n8_ n9_ n10_ n11_ n12_ n13_; (try clear hb); (try clear hb2); (try clear hk); (try clear hi); (try clear ho0); have hcz184_0 : w183.cell? ⟨gb158, 0, none⟩ = some (.int .i64 t167) := (blk_cell BK158.out 0).trans rfl; have hcz184_1 : w183.cell? ⟨gb158, 1, none⟩ = some (.int .i64 t168) := (blk_cell BK158.out 1).trans rfl; have hcz184_2 : w183.cell? ⟨gb158, 2, none⟩ = some (.slice Ao26 t169.length co26) := (blk_cell BK158.out 2).trans rfl; have hfz184_0 := blk_frozen BK158.out 0; have hfz184_1 := blk_frozen BK158.out 1; have hfz184_2 := blk_frozen BK158.out 2) | ((with_reducible refine gate_callee (f := 17) rfl ?_); refine goesL_ (some 138) rfl rfl Try.func17 (by kernel_rfl) rfl #[.slice Ao31 t159.length co31, .agg #[.int .i64 t167, .int .i64 t168, .slice Ao26 t169.length co26]] rfl zP ?_; (with_reducible refine (root_Set.calls (fun k_ => (k_ ≠ gb157 ∧ (k_ ≠ gb158 ∧ (k_ ≠ gb183 ∧ (k_ ≠ gb190 ∧ k_ ≠ gb197))))) _ _ t159 t167 t168 (fun k_ => (some k_ ≠ (.slice Ao31 t159.length co31 : Value).ownBlock ∧ (k_ ≠ gb157 ∧ (k_ ≠ gb158 ∧ (k_ ≠ gb183 ∧ (k_ ≠ gb190 ∧ k_ ≠ gb197)))))) _ _ t169 t216 t219 _ ?side1 ?side2 A122.out).mono ?_); (case side1 => exact Kd.N_V (HO_0.out)); (case side2 => exact HO_159002.out); rintro e w185 ⟨v217, rfl, ho0, hb⟩; refine ⟨_, rfl, ?_⟩; have n0_ := Aside0.mk (Kd.N_below (zN HO_0) hb); have n1_ := Aside0.mk (Kd.V_below (zV HO_9) hb); have n2_ := Aside0.mk (Kd.V_below (zV HO_158002) hb); have n3_ := Aside0.mk (Kd.V_below (zV HO_159002) hb); have n4_ := Aside0.mk (Kd.V_below (zV HO_184002) hb); have n5_ := Aside0.mk (Kd.V_below (zV HO_191002) hb); have n6_ := Aside0.mk (Kd.V_below (zV HO_198002) hb); have n7_ := Aside0.mk (Kd.V_below (zV HO214) hb); have n8_ := Aside0.mk (Kd.V_lower (Kd.V_mono (ok' := fun k_ => k_ ≠ gb157 ∧ k_ ≠ gb158 ∧ k_ ≠ gb183 ∧ k_ ≠ gb190 ∧ k_ ≠ gb197) ho0 (fun k_ hk_ => ⟨Or.elim hk_ (fun hs_ => Or.elim hs_ (fun hs_ => hs_.1) (fun hs_ => hs_.2.1)) (fun hn_ => (Kd.freshB (g := gb157) (o := .cells #[.int .i64 t162, .int .i64 t163, .slice Ao22 t164.length co22] 33 (0, 0)) (zK BK157) k_ hn_)), Or.elim hk_ (fun hs_ => Or.elim hs_ (fun hs_ => hs_.2.1) (fun hs_ => hs_.2.2.1)) (fun hn_ => (Kd.freshB (g := gb158) (o := .cells #[.int .i64 t167, .int .i64 t168, .slice Ao26 t169.length co26] 33 (0, 0)) (zK BK158) k_ hn_)), Or.elim hk_ (fun hs_ => Or.elim hs_ (fun hs_ => hs_.2.2.1) (fun hs_ => hs_.2.2.2.1)) (fun hn_ => (Kd.freshB (g := gb183) (o := .cells #[.int .i64 t177, .int .i64 t178, .slice Ao40 t179.length co40] 33 (0, 0)) (zK BK183) k_ hn_)), Or.elim hk_ (fun hs_ => Or.elim hs_ (fun hs_ => hs_.2.2.2.1) (fun hs_ => hs_.2.2.2.2.1)) (fun hn_ => (Kd.freshB (g := gb190) (o := .cells #[.int .i64 t184, .int .i64 t185, .slice Ao48 t186.length co48] 33 (0, 0)) (zK BK190) k_ hn_)), Or.elim hk_ (fun hs_ => Or.elim hs_ (fun hs_ => hs_.2.2.2.2) (fun hs_ => hs_.2.2.2.2.2)) (fun hn_ => (Kd.freshB (g := gb197) (o := .cells #[.int .i64 t191, .int .i64 t192, .slice Ao57 t193.length co57] 33 (0, 0)) (zK BK197) k_ hn_))⟩)) (below_size (by repeat (first | (with_reducible first | exact HB.out | apply below_alloc | apply pw_below_drewN | apply below_drew1 | refine below_set ?_ GE157.out | refine below_set ?_ GE158.out | refine below_set ?_ GE183.out | refine below_set ?_ GE190.out | refine below_set ?_ GE197.out) | exact HB.out)))); have n9_ := Aside0.mk (blk_below (g := gb157) (o := .cells #[.int .i64 t162, .int .i64 t163, .slice Ao22 t164.length co22] 33 (0, 0)) (zK BK157) hb); have n10_ := Aside0.mk (blk_below (g := gb158) (o := .cells #[.int .i64 t167, .int .i64 t168, .slice Ao26 t169.length co26] 33 (0, 0)) (zK BK158) hb); have n11_ := Aside0.mk (blk_below (g := gb183) (o := .cells #[.int .i64 t177, .int .i64 t178, .slice Ao40 t179.length co40] 33 (0, 0)) (zK BK183) hb); have n12_ := Aside0.mk (blk_below (g := gb190) (o := .cells #[.int .i64 t184, .int .i64 t185, .slice Ao48 t186.length co48] 33 (0, 0)) (zK BK190) hb); have n13_ := Aside0.mk (blk_below (g := gb197) (o := .cells #[.int .i64 t191, .int .i64 t192, .slice Ao57 t193.length co57] 33 (0, 0)) (zK BK197) hb); have n14_ := Aside0.mk (below_step (by repeat (first | (with_reducible first | exact HB.out | apply below_alloc | apply pw_below_drewN | apply below_drew1 | refine below_set ?_ GE157.out | refine below_set ?_ GE158.out | refine below_set ?_ GE183.out | refine below_set ?_ GE190.out | refine below_set ?_ GE197.out) | exact HB.out)) hb); clear HO_0; clear HO_9; clear HO_158002; clear HO_159002; clear HO_184002; clear HO_191002; clear HO_198002; clear HO214; clear BK157; clear BK158; clear BK183; clear BK190; clear BK197; clear HB; have HO_0 := n0_; have HO_9 := n1_; have HO_158002 := n2_; have HO_159002 := n3_; have HO_184002 := n4_; have HO_191002 := n5_; have HO_198002 := n6_; have HO214 := n7_; have HO218 := n8_; have BK157 := n9_; have BK158 := n10_; have BK183 := n11_; have BK190 := n12_; have BK197 := n13_; have HB := n14_; clear n0_ n1_ n2_ n3_ n4_ n5_ n6_ n7_ n8_ n9_ n10_ n11_ n12_ n13_ n14_; (try clear hb); (try clear hb2); (try clear hk); (try clear hi); (try clear ho0); have hnb186 := NB157_183.out; have hnc186 := NB183_157.out; have hnb187 := NB157_190.out; have hnc187 := NB190_157.out; have hnb188 := NB157_197.out; have hnc188 := NB197_157.out; have hcz189_0 : w185.cell? ⟨gb157, 0, none⟩ = some (.int .i64 t162) := (blk_cell BK157.out 0).trans rfl; have hcz189_1 : w185.cell? ⟨gb157, 1, none⟩ = some (.int .i64 t163) := (blk_cell BK157.out 1).trans rfl; have hcz189_2 : w185.cell? ⟨gb157, 2, none⟩ = some (.slice Ao22 t164.length co22) := (blk_cell BK157.out 2).trans rfl; have hfz189_0 := blk_frozen BK157.out 0; have hfz189_1 := blk_frozen BK157.out 1; have hfz189_2 := blk_frozen BK157.out 2; obtain ⟨Ao190, co190, eo190⟩ := Kd.V_slice HO218.out; subst eo190) | ((with_reducible refine gate_callee (f := 17) rfl ?_); refine goesL_ (some 144) rfl rfl Try.func17 (by kernel_rfl) rfl #[.slice Ao190 t216.length co190, .agg #[.int .i64 t162, .int .i64 t163, .slice Ao22 t164.length co22]] rfl zP ?_; (with_reducible refine (root_Set.calls (fun k_ => (k_ ≠ gb157 ∧ (k_ ≠ gb158 ∧ (k_ ≠ gb183 ∧ (k_ ≠ gb190 ∧ k_ ≠ gb197))))) _ _ t216 t162 t163 (fun k_ => (some k_ ≠ (.slice Ao31 t159.length co31 : Value).ownBlock ∧ (k_ ≠ gb157 ∧ (k_ ≠ gb158 ∧ (k_ ≠ gb183 ∧ (k_ ≠ gb190 ∧ k_ ≠ gb197)))))) _ _ t164 t220 t223 _ ?side1 ?side2 A123.out).mono ?_); (case side1 => exact HO218.out); (case side2 => exact HO_158002.out); rintro e w191 ⟨v221, rfl, ho0, hb⟩; refine ⟨_, rfl, ?_⟩; have n0_ := Aside0.mk (Kd.N_below (zN HO_0) hb); have n1_ := Aside0.mk (Kd.V_below (zV HO_9) hb); have n2_ := Aside0.mk (Kd.V_below (zV HO_158002) hb); have n3_ := Aside0.mk (Kd.V_below (zV HO_159002) hb); have n4_ := Aside0.mk (Kd.V_below (zV HO_184002) hb); have n5_ := Aside0.mk (Kd.V_below (zV HO_191002) hb); have n6_ := Aside0.mk (Kd.V_below (zV HO_198002) hb); have n7_ := Aside0.mk (Kd.V_below (zV HO214) hb); have n8_ := Aside0.mk (Kd.V_below (zV HO218) hb); have n9_ := Aside0.mk (Kd.V_lower (Kd.V_mono (ok' := fun k_ => k_ ≠ gb157 ∧ k_ ≠ gb158 ∧ k_ ≠ gb183 ∧ k_ ≠ gb190 ∧ k_ ≠ gb197) ho0 (fun k_ hk_ => ⟨Or.elim hk_ (fun hs_ => Or.elim hs_ (fun hs_ => hs_.1) (fun hs_ => hs_.2.1)) (fun hn_ => (Kd.freshB (g := gb157) (o := .cells #[.int .i64 t162, .int .i64 t163, .slice Ao22 t164.length co22] 33 (0, 0)) (zK BK157) k_ hn_)), Or.elim hk_ (fun hs_ => Or.elim hs_ (fun hs_ => hs_.2.1) (fun hs_ => hs_.2.2.1)) (fun hn_ => (Kd.freshB (g := gb158) (o := .cells #[.int .i64 t167, .int .i64 t168, .slice Ao26 t169.length co26] 33 (0, 0)) (zK BK158) k_ hn_)), Or.elim hk_ (fun hs_ => Or.elim hs_ (fun hs_ => hs_.2.2.1) (fun hs_ => hs_.2.2.2.1)) (fun hn_ => (Kd.freshB (g := gb183) (o := .cells #[.int .i64 t177, .int .i64 t178, .slice Ao40 t179.length co40] 33 (0, 0)) (zK BK183) k_ hn_)), Or.elim hk_ (fun hs_ => Or.elim hs_ (fun hs_ => hs_.2.2.2.1) (fun hs_ => hs_.2.2.2.2.1)) (fun hn_ => (Kd.freshB (g := gb190) (o := .cells #[.int .i64 t184, .int .i64 t185, .slice Ao48 t186.length co48] 33 (0, 0)) (zK BK190) k_ hn_)), Or.elim hk_ (fun hs_ => Or.elim hs_ (fun hs_ => hs_.2.2.2.2) (fun hs_ => hs_.2.2.2.2.2)) (fun hn_ => (Kd.freshB (g := gb197) (o := .cells #[.int .i64 t191, .int .i64 t192, .slice Ao57 t193.length co57] 33 (0, 0)) (zK BK197) k_ hn_))⟩)) (below_size (by repeat (first | (with_reducible first | exact HB.out | apply below_alloc | apply pw_below_drewN | apply below_drew1 | refine below_set ?_ GE157.out | refine below_set ?_ GE158.out | refine below_set ?_ GE183.out | refine below_set ?_ GE190.out | refine below_set ?_ GE197.out) | exact HB.out)))); have n10_ := Aside0.mk (blk_below (g := gb157) (o := .cells #[.int .i64 t162, .int .i64 t163, .slice Ao22 t164.length co22] 33 (0, 0)) (zK BK157) hb); have n11_ := Aside0.mk (blk_below (g := gb158) (o := .cells #[.int .i64 t167, .int .i64 t168, .slice Ao26 t169.length co26] 33 (0, 0)) (zK BK158) hb); have n12_ := Aside0.mk (blk_below (g := gb183) (o := .cells #[.int .i64 t177, .int .i64 t178, .slice Ao40 t179.length co40] 33 (0, 0)) (zK BK183) hb); have n13_ := Aside0.mk (blk_below (g := gb190) (o := .cells #[.int .i64 t184, .int .i64 t185, .slice Ao48 t186.length co48] 33 (0, 0)) (zK BK190) hb); have n14_ := Aside0.mk (blk_below (g := gb197) (o := .cells #[.int .i64 t191, .int .i64 t192, .slice Ao57 t193.length co57] 33 (0, 0)) (zK BK197) hb); have n15_ := Aside0.mk (below_step (by repeat (first | (with_reducible first | exact HB.out | apply below_alloc | apply pw_below_drewN | apply below_drew1 | refine below_set ?_ GE157.out | refine below_set ?_ GE158.out | refine below_set ?_ GE183.out | refine below_set ?_ GE190.out | refine below_set ?_ GE197.out) | exact HB.out)) hb); clear HO_0; clear HO_9; clear HO_158002; clear HO_159002; clear HO_184002; clear HO_191002; clear HO_198002; clear HO214; clear HO218; clear BK157; clear BK158; clear BK183; clear BK190; clear BK197; clear HB; have HO_0 := n0_; have HO_9 := n1_; have HO_158002 := n2_; have HO_159002 := n3_; have HO_184002 := n4_; have HO_191002 := n5_; have HO_198002 := n6_; have HO214 := n7_; have HO218 := n8_; have HO222 := n9_; have BK157 := n10_; have BK158 := n11_; have BK183 := n12_; have BK190 := n13_; have BK197 := n14_; have HB := n15_; clear n0_ n1_ n2_ n3_ n4_ n5_ n6_ n7_ n8_ n9_ n10_ n11_ n12_ n13_ n14_ n15_; (try clear hb); (try clear hb2); (try clear hk); (try clear hi); (try clear ho0)))
          go_ret
          exact ⟨by first | rfl | (simp [errW_none, errW_some] <;> rfl) | (simp [*, errW_none, errW_some] <;> rfl), by repeat (first | (with_reducible first | exact HB.out | apply below_alloc | apply pw_below_drewN | apply below_drew1 | refine below_set ?_ GE157.out | refine below_set ?_ GE158.out | refine below_set ?_ GE183.out | refine below_set ?_ GE190.out | refine below_set ?_ GE197.out) | exact HB.out)⟩
        ·rw [if_neg c124] at H
         have c124b0 : (t215 == 0) = false := beq_eq_false_iff_ne.mpr c124
         have c124b1 : (t215 != 0) = true := bne_iff_ne.mpr c124
         obtain rfl := Option.some.inj H
         have hnb192 := NB158_157.out
         have hnc192 := NB157_158.out
         have hnb193 := NB158_183.out
         have hnc193 := NB183_158.out
         have hnb194 := NB158_190.out
         have hnc194 := NB190_158.out
         have hnb195 := NB158_197.out
         have hnc195 := NB197_158.out
         have hcz196_0 : wc.cell? ⟨gb158, 0, none⟩ = some (.int .i64 t167) := (blk_cell BK158.out 0).trans rfl
         have hcz196_1 : wc.cell? ⟨gb158, 1, none⟩ = some (.int .i64 t168) := (blk_cell BK158.out 1).trans rfl
         have hcz196_2 : wc.cell? ⟨gb158, 2, none⟩ = some (.slice Ao26 t169.length co26) := (blk_cell BK158.out 2).trans rfl
         have hfz196_0 := blk_frozen BK158.out 0
         have hfz196_1 := blk_frozen BK158.out 1
         have hfz196_2 := blk_frozen BK158.out 2
         go_wp2_with (first | ((with_reducible refine gate_callee (f := 17) rfl ?_); refine goesL_ (some 132) rfl rfl Try.func17 (by kernel_rfl) rfl #[.slice Ao34 t172.length co34, .agg #[.int .i64 t167, .int .i64 t168, .slice Ao26 t169.length co26]] rfl zP ?_; (with_reducible refine (root_Set.calls (fun k_ => (k_ ≠ gb157 ∧ (k_ ≠ gb158 ∧ (k_ ≠ gb183 ∧ (k_ ≠ gb190 ∧ k_ ≠ gb197))))) _ _ t172 t167 t168 (fun k_ => (some k_ ≠ (.slice Ao31 t159.length co31 : Value).ownBlock ∧ (k_ ≠ gb157 ∧ (k_ ≠ gb158 ∧ (k_ ≠ gb183 ∧ (k_ ≠ gb190 ∧ k_ ≠ gb197)))))) _ _ t169 t212 t215 _ ?side1 ?side2 A121.out).mono ?_); (case side1 => exact HO_9.out); (case side2 => exact HO_159002.out); rintro e w197 ⟨v213, rfl, ho0, hb⟩; refine ⟨_, rfl, ?_⟩; have n0_ := Aside0.mk (Kd.N_below (zN HO_0) hb); have n1_ := Aside0.mk (Kd.V_below (zV HO_9) hb); have n2_ := Aside0.mk (Kd.V_below (zV HO_158002) hb); have n3_ := Aside0.mk (Kd.V_below (zV HO_159002) hb); have n4_ := Aside0.mk (Kd.V_below (zV HO_184002) hb); have n5_ := Aside0.mk (Kd.V_below (zV HO_191002) hb); have n6_ := Aside0.mk (Kd.V_below (zV HO_198002) hb); have n7_ := Aside0.mk (Kd.V_lower (Kd.V_mono (ok' := fun k_ => k_ ≠ gb157 ∧ k_ ≠ gb158 ∧ k_ ≠ gb183 ∧ k_ ≠ gb190 ∧ k_ ≠ gb197) ho0 (fun k_ hk_ => ⟨Or.elim hk_ (fun hs_ => Or.elim hs_ (fun hs_ => hs_.1) (fun hs_ => hs_.2.1)) (fun hn_ => (Kd.freshB (g := gb157) (o := .cells #[.int .i64 t162, .int .i64 t163, .slice Ao22 t164.length co22] 33 (0, 0)) (zK BK157) k_ hn_)), Or.elim hk_ (fun hs_ => Or.elim hs_ (fun hs_ => hs_.2.1) (fun hs_ => hs_.2.2.1)) (fun hn_ => (Kd.freshB (g := gb158) (o := .cells #[.int .i64 t167, .int .i64 t168, .slice Ao26 t169.length co26] 33 (0, 0)) (zK BK158) k_ hn_)), Or.elim hk_ (fun hs_ => Or.elim hs_ (fun hs_ => hs_.2.2.1) (fun hs_ => hs_.2.2.2.1)) (fun hn_ => (Kd.freshB (g := gb183) (o := .cells #[.int .i64 t177, .int .i64 t178, .slice Ao40 t179.length co40] 33 (0, 0)) (zK BK183) k_ hn_)), Or.elim hk_ (fun hs_ => Or.elim hs_ (fun hs_ => hs_.2.2.2.1) (fun hs_ => hs_.2.2.2.2.1)) (fun hn_ => (Kd.freshB (g := gb190) (o := .cells #[.int .i64 t184, .int .i64 t185, .slice Ao48 t186.length co48] 33 (0, 0)) (zK BK190) k_ hn_)), Or.elim hk_ (fun hs_ => Or.elim hs_ (fun hs_ => hs_.2.2.2.2) (fun hs_ => hs_.2.2.2.2.2)) (fun hn_ => (Kd.freshB (g := gb197) (o := .cells #[.int .i64 t191, .int .i64 t192, .slice Ao57 t193.length co57] 33 (0, 0)) (zK BK197) k_ hn_))⟩)) (below_size (by repeat (first | (with_reducible first | exact HB.out | apply below_alloc | apply pw_below_drewN | apply below_drew1 | refine below_set ?_ GE157.out | refine below_set ?_ GE158.out | refine below_set ?_ GE183.out | refine below_set ?_ GE190.out | refine below_set ?_ GE197.out) | exact HB.out)))); have n8_ := Aside0.mk (blk_below (g := gb157) (o := .cells #[.int .i64 t162, .int .i64 t163, .slice Ao22 t164.length co22] 33 (0, 0)) (zK BK157) hb); have n9_ := Aside0.mk (blk_below (g := gb158) (o := .cells #[.int .i64 t167, .int .i64 t168, .slice Ao26 t169.length co26] 33 (0, 0)) (zK BK158) hb); have n10_ := Aside0.mk (blk_below (g := gb183) (o := .cells #[.int .i64 t177, .int .i64 t178, .slice Ao40 t179.length co40] 33 (0, 0)) (zK BK183) hb); have n11_ := Aside0.mk (blk_below (g := gb190) (o := .cells #[.int .i64 t184, .int .i64 t185, .slice Ao48 t186.length co48] 33 (0, 0)) (zK BK190) hb); have n12_ := Aside0.mk (blk_below (g := gb197) (o := .cells #[.int .i64 t191, .int .i64 t192, .slice Ao57 t193.length co57] 33 (0, 0)) (zK BK197) hb); have n13_ := Aside0.mk (below_step (by repeat (first | (with_reducible first | exact HB.out | apply below_alloc | apply pw_below_drewN | apply below_drew1 | refine below_set ?_ GE157.out | refine below_set ?_ GE158.out | refine below_set ?_ GE183.out | refine below_set ?_ GE190.out | refine below_set ?_ GE197.out) | exact HB.out)) hb); clear HO_0; clear HO_9; clear HO_158002; clear HO_159002; clear HO_184002; clear HO_191002; clear HO_198002; clear BK157; clear BK158; clear BK183; clear BK190; clear BK197; clear HB; have HO_0 := n0_; have HO_9 := n1_; have HO_158002 := n2_; have HO_159002 := n3_; have HO_184002 := n4_; have HO_191002 := n5_; have HO_198002 := n6_; have HO214 := n7_; have BK157 := n8_; have BK158 := n9_; have BK183 := n10_; have BK190 := n11_; have BK197 := n12_; have HB := n13_; clear n0_ n1_ n2_ n3_ n4_ n5_ n6_ n7_ n8_ n9_ n10_ n11_ n12_ n13_; (try clear hb); (try clear hb2); (try clear hk); (try clear hi); (try clear ho0); have hcz198_0 : w197.cell? ⟨gb158, 0, none⟩ = some (.int .i64 t167) := (blk_cell BK158.out 0).trans rfl; have hcz198_1 : w197.cell? ⟨gb158, 1, none⟩ = some (.int .i64 t168) := (blk_cell BK158.out 1).trans rfl; have hcz198_2 : w197.cell? ⟨gb158, 2, none⟩ = some (.slice Ao26 t169.length co26) := (blk_cell BK158.out 2).trans rfl; have hfz198_0 := blk_frozen BK158.out 0; have hfz198_1 := blk_frozen BK158.out 1; have hfz198_2 := blk_frozen BK158.out 2) | ((with_reducible refine gate_callee (f := 17) rfl ?_); refine goesL_ (some 138) rfl rfl Try.func17 (by kernel_rfl) rfl #[.slice Ao31 t159.length co31, .agg #[.int .i64 t167, .int .i64 t168, .slice Ao26 t169.length co26]] rfl zP ?_; (with_reducible refine (root_Set.calls (fun k_ => (k_ ≠ gb157 ∧ (k_ ≠ gb158 ∧ (k_ ≠ gb183 ∧ (k_ ≠ gb190 ∧ k_ ≠ gb197))))) _ _ t159 t167 t168 (fun k_ => (some k_ ≠ (.slice Ao31 t159.length co31 : Value).ownBlock ∧ (k_ ≠ gb157 ∧ (k_ ≠ gb158 ∧ (k_ ≠ gb183 ∧ (k_ ≠ gb190 ∧ k_ ≠ gb197)))))) _ _ t169 t216 t219 _ ?side1 ?side2 A122.out).mono ?_); (case side1 => exact Kd.N_V (HO_0.out)); (case side2 => exact HO_159002.out); rintro e w199 ⟨v217, rfl, ho0, hb⟩; refine ⟨_, rfl, ?_⟩; have n0_ := Aside0.mk (Kd.N_below (zN HO_0) hb); have n1_ := Aside0.mk (Kd.V_below (zV HO_9) hb); have n2_ := Aside0.mk (Kd.V_below (zV HO_158002) hb); have n3_ := Aside0.mk (Kd.V_below (zV HO_159002) hb); have n4_ := Aside0.mk (Kd.V_below (zV HO_184002) hb); have n5_ := Aside0.mk (Kd.V_below (zV HO_191002) hb); have n6_ := Aside0.mk (Kd.V_below (zV HO_198002) hb); have n7_ := Aside0.mk (Kd.V_below (zV HO214) hb); have n8_ := Aside0.mk (Kd.V_lower (Kd.V_mono (ok' := fun k_ => k_ ≠ gb157 ∧ k_ ≠ gb158 ∧ k_ ≠ gb183 ∧ k_ ≠ gb190 ∧ k_ ≠ gb197) ho0 (fun k_ hk_ => ⟨Or.elim hk_ (fun hs_ => Or.elim hs_ (fun hs_ => hs_.1) (fun hs_ => hs_.2.1)) (fun hn_ => (Kd.freshB (g := gb157) (o := .cells #[.int .i64 t162, .int .i64 t163, .slice Ao22 t164.length co22] 33 (0, 0)) (zK BK157) k_ hn_)), Or.elim hk_ (fun hs_ => Or.elim hs_ (fun hs_ => hs_.2.1) (fun hs_ => hs_.2.2.1)) (fun hn_ => (Kd.freshB (g := gb158) (o := .cells #[.int .i64 t167, .int .i64 t168, .slice Ao26 t169.length co26] 33 (0, 0)) (zK BK158) k_ hn_)), Or.elim hk_ (fun hs_ => Or.elim hs_ (fun hs_ => hs_.2.2.1) (fun hs_ => hs_.2.2.2.1)) (fun hn_ => (Kd.freshB (g := gb183) (o := .cells #[.int .i64 t177, .int .i64 t178, .slice Ao40 t179.length co40] 33 (0, 0)) (zK BK183) k_ hn_)), Or.elim hk_ (fun hs_ => Or.elim hs_ (fun hs_ => hs_.2.2.2.1) (fun hs_ => hs_.2.2.2.2.1)) (fun hn_ => (Kd.freshB (g := gb190) (o := .cells #[.int .i64 t184, .int .i64 t185, .slice Ao48 t186.length co48] 33 (0, 0)) (zK BK190) k_ hn_)), Or.elim hk_ (fun hs_ => Or.elim hs_ (fun hs_ => hs_.2.2.2.2) (fun hs_ => hs_.2.2.2.2.2)) (fun hn_ => (Kd.freshB (g := gb197) (o := .cells #[.int .i64 t191, .int .i64 t192, .slice Ao57 t193.length co57] 33 (0, 0)) (zK BK197) k_ hn_))⟩)) (below_size (by repeat (first | (with_reducible first | exact HB.out | apply below_alloc | apply pw_below_drewN | apply below_drew1 | refine below_set ?_ GE157.out | refine below_set ?_ GE158.out | refine below_set ?_ GE183.out | refine below_set ?_ GE190.out | refine below_set ?_ GE197.out) | exact HB.out)))); have n9_ := Aside0.mk (blk_below (g := gb157) (o := .cells #[.int .i64 t162, .int .i64 t163, .slice Ao22 t164.length co22] 33 (0, 0)) (zK BK157) hb); have n10_ := Aside0.mk (blk_below (g := gb158) (o := .cells #[.int .i64 t167, .int .i64 t168, .slice Ao26 t169.length co26] 33 (0, 0)) (zK BK158) hb); have n11_ := Aside0.mk (blk_below (g := gb183) (o := .cells #[.int .i64 t177, .int .i64 t178, .slice Ao40 t179.length co40] 33 (0, 0)) (zK BK183) hb); have n12_ := Aside0.mk (blk_below (g := gb190) (o := .cells #[.int .i64 t184, .int .i64 t185, .slice Ao48 t186.length co48] 33 (0, 0)) (zK BK190) hb); have n13_ := Aside0.mk (blk_below (g := gb197) (o := .cells #[.int .i64 t191, .int .i64 t192, .slice Ao57 t193.length co57] 33 (0, 0)) (zK BK197) hb); have n14_ := Aside0.mk (below_step (by repeat (first | (with_reducible first | exact HB.out | apply below_alloc | apply pw_below_drewN | apply below_drew1 | refine below_set ?_ GE157.out | refine below_set ?_ GE158.out | refine below_set ?_ GE183.out | refine below_set ?_ GE190.out | refine below_set ?_ GE197.out) | exact HB.out)) hb); clear HO_0; clear HO_9; clear HO_158002; clear HO_159002; clear HO_184002; clear HO_191002; clear HO_198002; clear HO214; clear BK157; clear BK158; clear BK183; clear BK190; clear BK197; clear HB; have HO_0 := n0_; have HO_9 := n1_; have HO_158002 := n2_; have HO_159002 := n3_; have HO_184002 := n4_; have HO_191002 := n5_; have HO_198002 := n6_; have HO214 := n7_; have HO218 := n8_; have BK157 := n9_; have BK158 := n10_; have BK183 := n11_; have BK190 := n12_; have BK197 := n13_; have HB := n14_; clear n0_ n1_ n2_ n3_ n4_ n5_ n6_ n7_ n8_ n9_ n10_ n11_ n12_ n13_ n14_; (try clear hb); (try clear hb2); (try clear hk); (try clear hi); (try clear ho0); have hnb200 := NB157_183.out; have hnc200 := NB183_157.out; have hnb201 := NB157_190.out; have hnc201 := NB190_157.out; have hnb202 := NB157_197.out; have hnc202 := NB197_157.out; have hcz203_0 : w199.cell? ⟨gb157, 0, none⟩ = some (.int .i64 t162) := (blk_cell BK157.out 0).trans rfl; have hcz203_1 : w199.cell? ⟨gb157, 1, none⟩ = some (.int .i64 t163) := (blk_cell BK157.out 1).trans rfl; have hcz203_2 : w199.cell? ⟨gb157, 2, none⟩ = some (.slice Ao22 t164.length co22) := (blk_cell BK157.out 2).trans rfl; have hfz203_0 := blk_frozen BK157.out 0; have hfz203_1 := blk_frozen BK157.out 1; have hfz203_2 := blk_frozen BK157.out 2; obtain ⟨Ao204, co204, eo204⟩ := Kd.V_slice HO218.out; subst eo204) | ((with_reducible refine gate_callee (f := 17) rfl ?_); refine goesL_ (some 144) rfl rfl Try.func17 (by kernel_rfl) rfl #[.slice Ao204 t216.length co204, .agg #[.int .i64 t162, .int .i64 t163, .slice Ao22 t164.length co22]] rfl zP ?_; (with_reducible refine (root_Set.calls (fun k_ => (k_ ≠ gb157 ∧ (k_ ≠ gb158 ∧ (k_ ≠ gb183 ∧ (k_ ≠ gb190 ∧ k_ ≠ gb197))))) _ _ t216 t162 t163 (fun k_ => (some k_ ≠ (.slice Ao31 t159.length co31 : Value).ownBlock ∧ (k_ ≠ gb157 ∧ (k_ ≠ gb158 ∧ (k_ ≠ gb183 ∧ (k_ ≠ gb190 ∧ k_ ≠ gb197)))))) _ _ t164 t220 t223 _ ?side1 ?side2 A123.out).mono ?_); (case side1 => exact HO218.out); (case side2 => exact HO_158002.out); rintro e w205 ⟨v221, rfl, ho0, hb⟩; refine ⟨_, rfl, ?_⟩; have n0_ := Aside0.mk (Kd.N_below (zN HO_0) hb); have n1_ := Aside0.mk (Kd.V_below (zV HO_9) hb); have n2_ := Aside0.mk (Kd.V_below (zV HO_158002) hb); have n3_ := Aside0.mk (Kd.V_below (zV HO_159002) hb); have n4_ := Aside0.mk (Kd.V_below (zV HO_184002) hb); have n5_ := Aside0.mk (Kd.V_below (zV HO_191002) hb); have n6_ := Aside0.mk (Kd.V_below (zV HO_198002) hb); have n7_ := Aside0.mk (Kd.V_below (zV HO214) hb); have n8_ := Aside0.mk (Kd.V_below (zV HO218) hb); have n9_ := Aside0.mk (Kd.V_lower (Kd.V_mono (ok' := fun k_ => k_ ≠ gb157 ∧ k_ ≠ gb158 ∧ k_ ≠ gb183 ∧ k_ ≠ gb190 ∧ k_ ≠ gb197) ho0 (fun k_ hk_ => ⟨Or.elim hk_ (fun hs_ => Or.elim hs_ (fun hs_ => hs_.1) (fun hs_ => hs_.2.1)) (fun hn_ => (Kd.freshB (g := gb157) (o := .cells #[.int .i64 t162, .int .i64 t163, .slice Ao22 t164.length co22] 33 (0, 0)) (zK BK157) k_ hn_)), Or.elim hk_ (fun hs_ => Or.elim hs_ (fun hs_ => hs_.2.1) (fun hs_ => hs_.2.2.1)) (fun hn_ => (Kd.freshB (g := gb158) (o := .cells #[.int .i64 t167, .int .i64 t168, .slice Ao26 t169.length co26] 33 (0, 0)) (zK BK158) k_ hn_)), Or.elim hk_ (fun hs_ => Or.elim hs_ (fun hs_ => hs_.2.2.1) (fun hs_ => hs_.2.2.2.1)) (fun hn_ => (Kd.freshB (g := gb183) (o := .cells #[.int .i64 t177, .int .i64 t178, .slice Ao40 t179.length co40] 33 (0, 0)) (zK BK183) k_ hn_)), Or.elim hk_ (fun hs_ => Or.elim hs_ (fun hs_ => hs_.2.2.2.1) (fun hs_ => hs_.2.2.2.2.1)) (fun hn_ => (Kd.freshB (g := gb190) (o := .cells #[.int .i64 t184, .int .i64 t185, .slice Ao48 t186.length co48] 33 (0, 0)) (zK BK190) k_ hn_)), Or.elim hk_ (fun hs_ => Or.elim hs_ (fun hs_ => hs_.2.2.2.2) (fun hs_ => hs_.2.2.2.2.2)) (fun hn_ => (Kd.freshB (g := gb197) (o := .cells #[.int .i64 t191, .int .i64 t192, .slice Ao57 t193.length co57] 33 (0, 0)) (zK BK197) k_ hn_))⟩)) (below_size (by repeat (first | (with_reducible first | exact HB.out | apply below_alloc | apply pw_below_drewN | apply below_drew1 | refine below_set ?_ GE157.out | refine below_set ?_ GE158.out | refine below_set ?_ GE183.out | refine below_set ?_ GE190.out | refine below_set ?_ GE197.out) | exact HB.out)))); have n10_ := Aside0.mk (blk_below (g := gb157) (o := .cells #[.int .i64 t162, .int .i64 t163, .slice Ao22 t164.length co22] 33 (0, 0)) (zK BK157) hb); have n11_ := Aside0.mk (blk_below (g := gb158) (o := .cells #[.int .i64 t167, .int .i64 t168, .slice Ao26 t169.length co26] 33 (0, 0)) (zK BK158) hb); have n12_ := Aside0.mk (blk_below (g := gb183) (o := .cells #[.int .i64 t177, .int .i64 t178, .slice Ao40 t179.length co40] 33 (0, 0)) (zK BK183) hb); have n13_ := Aside0.mk (blk_below (g := gb190) (o := .cells #[.int .i64 t184, .int .i64 t185, .slice Ao48 t186.length co48] 33 (0, 0)) (zK BK190) hb); have n14_ := Aside0.mk (blk_below (g := gb197) (o := .cells #[.int .i64 t191, .int .i64 t192, .slice Ao57 t193.length co57] 33 (0, 0)) (zK BK197) hb); have n15_ := Aside0.mk (below_step (by repeat (first | (with_reducible first | exact HB.out | apply below_alloc | apply pw_below_drewN | apply below_drew1 | refine below_set ?_ GE157.out | refine below_set ?_ GE158.out | refine below_set ?_ GE183.out | refine below_set ?_ GE190.out | refine below_set ?_ GE197.out) | exact HB.out)) hb); clear HO_0; clear HO_9; clear HO_158002; clear HO_159002; clear HO_184002; clear HO_191002; clear HO_198002; clear HO214; clear HO218; clear BK157; clear BK158; clear BK183; clear BK190; clear BK197; clear HB; have HO_0 := n0_; have HO_9 := n1_; have HO_158002 := n2_; have HO_159002 := n3_; have HO_184002 := n4_; have HO_191002 := n5_; have HO_198002 := n6_; have HO214 := n7_; have HO218 := n8_; have HO222 := n9_; have BK157 := n10_; have BK158 := n11_; have BK183 := n12_; have BK190 := n13_; have BK197 := n14_; have HB := n15_; clear n0_ n1_ n2_ n3_ n4_ n5_ n6_ n7_ n8_ n9_ n10_ n11_ n12_ n13_ n14_ n15_; (try clear hb); (try clear hb2); (try clear hk); (try clear hi); (try clear ho0)))
         go_ret
         exact ⟨by first | rfl | (simp [errW_none, errW_some] <;> rfl) | (simp [*, errW_none, errW_some] <;> rfl), by repeat (first | (with_reducible first | exact HB.out | apply below_alloc | apply pw_below_drewN | apply below_drew1 | refine below_set ?_ GE157.out | refine below_set ?_ GE158.out | refine below_set ?_ GE183.out | refine below_set ?_ GE190.out | refine below_set ?_ GE197.out) | exact HB.out)⟩
 ·rw [if_neg c9] at H
  have c9b0 : (t175 == 0) = false := beq_eq_false_iff_ne.mpr c9
  have c9b1 : (t175 != 0) = true := bne_iff_ne.mpr c9
  replace H := Option.bind_eq_some_iff.mp H
  obtain ⟨t176, A2060, H⟩ := H
  replace H : (if t176 = true then (some ((t172.length : Int) == 0)) else (none)) = some r := H
  have A206 := Aside0.mk A2060
  clear A2060
  by_cases c207 : t176 = true
  ·subst c207
   have H1 : (some ((t172.length : Int) == 0)) = some r := by rw [if_pos rfl] at H; exact H
   clear H
   have H := H1
   clear H1
   obtain rfl := Option.some.inj H
   go_enter Try.func5, Try.ntmps5
   try go_wp2_with (first | ((with_reducible refine gate_dst (N := 5) rfl ?_); (try (refine gate_guard (by rfl) ?_; dsimp only)); refine box_event ?hg (N := 5) ?hd (cs := #[.int .i64 a1_0, .int .i64 a1_1, .slice A1_2 l1_2.length c1_2]) (t := 33) ?hr ?_; (case hd => rfl); (case hg => rfl); (case hr => first | (go_simp; done) | (go_simp; rfl)); intro gb157 hg w208 hbox hb; have n0_ := Aside0.mk (below_step (zB HB) hb); have n1_ := Aside0.mk (hbox); have n2_ := Aside0.mk ((by rw [hg]; exact (below_size (zB HB)) : w.heap.size ≤ gb157)); have n3_ := Aside0.mk ((by rw [hg]; exact (below_size (zB HB)) : w.heap.size ≤ gb157)); clear HB; have HB := n0_; have BK157 := n1_; have GW157 := n2_; have GE157 := n3_; clear n0_ n1_ n2_ n3_; clear hb hbox hg) | ((with_reducible refine gate_dst (N := 6) rfl ?_); (try (refine gate_guard (by rfl) ?_; dsimp only)); refine box_event ?hg (N := 6) ?hd (cs := #[.int .i64 a2_0, .int .i64 a2_1, .slice A2_2 l2_2.length c2_2]) (t := 33) ?hr ?_; (case hd => rfl); (case hg => rfl); (case hr => first | (go_simp; done) | (go_simp; rfl)); intro gb158 hg w209 hbox hb; have n0_ := Aside0.mk (blk_below (g := gb157) (o := .cells #[.int .i64 a1_0, .int .i64 a1_1, .slice A1_2 l1_2.length c1_2] 33 (0, 0)) (zK BK157) hb); have n1_ := Aside0.mk (below_step (zB1 HB GE157) hb); have n2_ := Aside0.mk (hbox); have n3_ := Aside0.mk ((by rw [hg]; exact (below_size (zB1 HB GE157)) : w.heap.size ≤ gb158)); have n4_ := Aside0.mk ((by rw [hg]; exact (below_size (zB1 HB GE157)) : w.heap.size ≤ gb158)); have n5_ := Aside0.mk ((by rw [hg]; exact Nat.ne_of_lt (blk_lt (g := gb157) (o := .cells #[.int .i64 a1_0, .int .i64 a1_1, .slice A1_2 l1_2.length c1_2] 33 (0, 0)) (zK BK157)) : gb157 ≠ gb158)); have n6_ := Aside0.mk ((by rw [hg]; exact Nat.ne_of_gt (blk_lt (g := gb157) (o := .cells #[.int .i64 a1_0, .int .i64 a1_1, .slice A1_2 l1_2.length c1_2] 33 (0, 0)) (zK BK157)) : gb158 ≠ gb157)); clear BK157; clear HB; have BK157 := n0_; have HB := n1_; have BK158 := n2_; have GW158 := n3_; have GE158 := n4_; have NB157_158 := n5_; have NB158_157 := n6_; clear n0_ n1_ n2_ n3_ n4_ n5_ n6_; clear hb hbox hg))
   have n0_ := Aside0.mk (blk_drew BK157.out)
   have n1_ := Aside0.mk (blk_drew BK158.out)
   have n2_ := Aside0.mk (below_drew1 HB.out)
   clear BK157
   clear BK158
   clear HB
   have BK157 := n0_
   have BK158 := n1_
   have HB := n2_
   clear n0_ n1_ n2_
   refine start_ (n := 9) (S := fun w' => w'.cell? ⟨gb157, 0, none⟩ = some (.int .i64 a1_0) ∧ w'.cell? ⟨gb157, 1, none⟩ = some (.int .i64 a1_1) ∧ w'.cell? ⟨gb157, 2, none⟩ = some (.slice A1_2 l1_2.length c1_2) ∧ w'.cell? ⟨gb158, 0, none⟩ = some (.int .i64 a2_0) ∧ w'.cell? ⟨gb158, 1, none⟩ = some (.int .i64 a2_1) ∧ w'.cell? ⟨gb158, 2, none⟩ = some (.slice A2_2 l2_2.length c2_2)) (ds := [7, 8]) #[false, false, false, false, false, false, false, false, false] (by kernel_rfl) rfl rfl ⟨(blk_cell BK157.out 0).trans rfl, (blk_cell BK157.out 1).trans rfl, (blk_cell BK157.out 2).trans rfl, (blk_cell BK158.out 0).trans rfl, (blk_cell BK158.out 1).trans rfl, (blk_cell BK158.out 2).trans rfl⟩ (fun hHeld => ?_); refine with_tabW rootKeeps.tab1 rootKeeps.bits1 (fun HT_ HW_ => ?_)
   generalize w209.drew = w210 at BK157 BK158 HB hHeld ⊢
   refine pure_ (i := 0) (N := some 27) (v := ?_) (a' := ?_) #[true, false, false, false, false, false, false, false, false] rfl rfl (any_of HT_.out (by kernel_rfl)) (fun _ _ _ h => h) (Or.inl ⟨by rfl, ?_⟩) ?_ ?_
   rotate_left
   ·intro w'
    go_simp
    with_reducible rfl
   rotate_left
   ·simp only [Act.put, List.setIfInBounds_toArray, List.set_cons_zero, List.set_cons_succ, i64_w, i32_w]
    rfl
   refine take_ (i := 2) (N := some 29) (v := ?_) (a' := ?_) #[true, false, true, false, false, false, false, false, false] rfl rfl (take_ofW HT_.out HW_.out (by kernel_rfl)) (fun _ _ _ h => h) (Or.inl ⟨by rfl, ?_⟩) hHeld ?_ ?_
   rotate_left
   ·rintro w' ⟨s0, s1, s2, s3, s4, s5⟩
    go_simp
    with_reducible rfl
   rotate_left
   ·simp only [Act.put, List.setIfInBounds_toArray, List.set_cons_zero, List.set_cons_succ, i64_w, i32_w]
    rfl
   refine take_ (i := 4) (N := some 31) (v := ?_) (a' := ?_) #[true, false, true, false, true, false, false, false, false] rfl rfl (take_ofW HT_.out HW_.out (by kernel_rfl)) (fun _ _ _ h => h) (Or.inl ⟨by rfl, ?_⟩) hHeld ?_ ?_
   rotate_left
   ·rintro w' ⟨s0, s1, s2, s3, s4, s5⟩
    go_simp
    with_reducible rfl
   rotate_left
   ·simp only [Act.put, List.setIfInBounds_toArray, List.set_cons_zero, List.set_cons_succ, i64_w, i32_w]
    rfl
   refine one_ (i := 1) (N := some 28) #[true, true, true, false, true, false, false, false, false] rfl rfl (one_of HT_.out (by kernel_rfl)) (by decide) (fun K hK => ?_)
   refine goes_ Try.func10 (by kernel_rfl) rfl #[.slice A0 l0.length c0] (by rfl) rfl rfl zP ?_
   with_reducible refine (deadboltlaw09_few.calls k (fun k_ => k_ < w.heap.size) _ _ l0 t159 _ ?side1 A5.out).mono ?_
   (case side1 => exact Kd.V_mk HC0.out (Kd.F_below (Kd.C_F k33_heap HR0.out) (zB2 HB GE157 GE158)))
   rintro e w211 ⟨v160, rfl, ho0, hb⟩
   refine ⟨_, rfl, ?_⟩
   have n0_ := Aside0.mk (Kd.N_lower (Kd.N_mono (ok' := fun k_ => k_ ≠ gb157 ∧ k_ ≠ gb158) ho0 (fun k_ hk_ => ⟨Or.elim hk_ (fun hs_ => fun e_ => Nat.not_le.2 hs_ (by rw [e_]; exact GW157.out)) (fun hn_ => (Kd.freshB (g := gb157) (o := .cells #[.int .i64 a1_0, .int .i64 a1_1, .slice A1_2 l1_2.length c1_2] 33 (0, 0)) (zK BK157) k_ hn_)), Or.elim hk_ (fun hs_ => fun e_ => Nat.not_le.2 hs_ (by rw [e_]; exact GW158.out)) (fun hn_ => (Kd.freshB (g := gb158) (o := .cells #[.int .i64 a2_0, .int .i64 a2_1, .slice A2_2 l2_2.length c2_2] 33 (0, 0)) (zK BK158) k_ hn_))⟩)) (below_size (zB2 HB GE157 GE158)))
   have n1_ := Aside0.mk (blk_below (g := gb157) (o := .cells #[.int .i64 a1_0, .int .i64 a1_1, .slice A1_2 l1_2.length c1_2] 33 (0, 0)) (zK BK157) hb)
   have n2_ := Aside0.mk (blk_below (g := gb158) (o := .cells #[.int .i64 a2_0, .int .i64 a2_1, .slice A2_2 l2_2.length c2_2] 33 (0, 0)) (zK BK158) hb)
   have n3_ := Aside0.mk (below_step (zB2 HB GE157 GE158) hb)
   clear BK157
   clear BK158
   clear HB
   have HO161 := n0_
   have BK157 := n1_
   have BK158 := n2_
   have HB := n3_
   clear n0_ n1_ n2_ n3_
   (try clear hb)
   (try clear hb2)
   (try clear hk)
   (try clear hi)
   (try clear ho0)
   refine hK.out _ _ ⟨(blk_cell BK157.out 0).trans rfl, (blk_cell BK157.out 1).trans rfl, (blk_cell BK157.out 2).trans rfl, (blk_cell BK158.out 0).trans rfl, (blk_cell BK158.out 1).trans rfl, (blk_cell BK158.out 2).trans rfl⟩ (fun hHeld => ?_)
   clear hK K
   refine norm_ (a' := ?_) ?_ ?_
   rotate_left
   ·show Act.put _ (some 28) _ = _
    simp only [Act.put, List.setIfInBounds_toArray, List.set_cons_zero, List.set_cons_succ, i64_w, i32_w]
    rfl
   refine one_ (i := 3) (N := some 30) #[true, true, true, true, true, false, false, false, false] rfl rfl (one_of HT_.out (by kernel_rfl)) (by decide) (fun K hK => ?_)
   refine goes_ Try.func15 (by kernel_rfl) rfl #[.agg #[.int .i64 a1_0, .int .i64 a1_1, .slice A1_2 l1_2.length c1_2]] (by rfl) rfl rfl zP ?_
   with_reducible refine (deadboltlaw09_cut.calls a1_0 a1_1 (fun k_ => k_ < w.heap.size) _ _ l1_2 t162 t163 t164 _ ?side1 A6.out).mono ?_
   (case side1 => exact Kd.V_mk HC1_2.out (Kd.F_below (Kd.C_F (Kd.heap_int .i64) HR1_2.out) (zB2 HB GE157 GE158)))
   rintro e w212 ⟨v165, rfl, ho0, hb⟩
   refine ⟨_, rfl, ?_⟩
   have n0_ := Aside0.mk (Kd.N_below (zN HO161) hb)
   have n1_ := Aside0.mk (Kd.V_lower (Kd.V_mono (ok' := fun k_ => some k_ ≠ (v160 : Value).ownBlock ∧ k_ ≠ gb157 ∧ k_ ≠ gb158) ho0 (fun k_ hk_ => ⟨Or.elim hk_ (fun hs_ => fun e_ => Nat.not_le.2 hs_ (Kd.N_base HO161.out k_ e_.symm)) (fun hn_ => (Kd.fresh' (Kd.N_lt (zN HO161)) k_ hn_)), Or.elim hk_ (fun hs_ => fun e_ => Nat.not_le.2 hs_ (by rw [e_]; exact GW157.out)) (fun hn_ => (Kd.freshB (g := gb157) (o := .cells #[.int .i64 a1_0, .int .i64 a1_1, .slice A1_2 l1_2.length c1_2] 33 (0, 0)) (zK BK157) k_ hn_)), Or.elim hk_ (fun hs_ => fun e_ => Nat.not_le.2 hs_ (by rw [e_]; exact GW158.out)) (fun hn_ => (Kd.freshB (g := gb158) (o := .cells #[.int .i64 a2_0, .int .i64 a2_1, .slice A2_2 l2_2.length c2_2] 33 (0, 0)) (zK BK158) k_ hn_))⟩)) (below_size (zB2 HB GE157 GE158)))
   have n2_ := Aside0.mk (blk_below (g := gb157) (o := .cells #[.int .i64 a1_0, .int .i64 a1_1, .slice A1_2 l1_2.length c1_2] 33 (0, 0)) (zK BK157) hb)
   have n3_ := Aside0.mk (blk_below (g := gb158) (o := .cells #[.int .i64 a2_0, .int .i64 a2_1, .slice A2_2 l2_2.length c2_2] 33 (0, 0)) (zK BK158) hb)
   have n4_ := Aside0.mk (below_step (zB2 HB GE157 GE158) hb)
   clear HO161
   clear BK157
   clear BK158
   clear HB
   have HO161 := n0_
   have HO166 := n1_
   have BK157 := n2_
   have BK158 := n3_
   have HB := n4_
   clear n0_ n1_ n2_ n3_ n4_
   (try clear hb)
   (try clear hb2)
   (try clear hk)
   (try clear hi)
   (try clear ho0)
   refine hK.out _ _ ⟨(blk_cell BK157.out 0).trans rfl, (blk_cell BK157.out 1).trans rfl, (blk_cell BK157.out 2).trans rfl, (blk_cell BK158.out 0).trans rfl, (blk_cell BK158.out 1).trans rfl, (blk_cell BK158.out 2).trans rfl⟩ (fun hHeld => ?_)
   clear hK K
   refine norm_ (a' := ?_) ?_ ?_
   rotate_left
   ·show Act.put _ (some 30) _ = _
    simp only [Act.put, List.setIfInBounds_toArray, List.set_cons_zero, List.set_cons_succ, i64_w, i32_w]
    rfl
   refine one_ (i := 5) (N := some 32) #[true, true, true, true, true, true, false, false, false] rfl rfl (one_of HT_.out (by kernel_rfl)) (by decide) (fun K hK => ?_)
   refine goes_ Try.func15 (by kernel_rfl) rfl #[.agg #[.int .i64 a2_0, .int .i64 a2_1, .slice A2_2 l2_2.length c2_2]] (by rfl) rfl rfl zP ?_
   with_reducible refine (deadboltlaw09_cut.calls a2_0 a2_1 (fun k_ => k_ < w.heap.size) _ _ l2_2 t167 t168 t169 _ ?side1 A7.out).mono ?_
   (case side1 => exact Kd.V_mk HC2_2.out (Kd.F_below (Kd.C_F (Kd.heap_int .i64) HR2_2.out) (zB2 HB GE157 GE158)))
   rintro e w213 ⟨v170, rfl, ho0, hb⟩
   refine ⟨_, rfl, ?_⟩
   have n0_ := Aside0.mk (Kd.N_below (zN HO161) hb)
   have n1_ := Aside0.mk (Kd.V_below (zV HO166) hb)
   have n2_ := Aside0.mk (Kd.V_lower (Kd.V_mono (ok' := fun k_ => some k_ ≠ (v160 : Value).ownBlock ∧ k_ ≠ gb157 ∧ k_ ≠ gb158) ho0 (fun k_ hk_ => ⟨Or.elim hk_ (fun hs_ => fun e_ => Nat.not_le.2 hs_ (Kd.N_base HO161.out k_ e_.symm)) (fun hn_ => (Kd.fresh' (Kd.N_lt (zN HO161)) k_ hn_)), Or.elim hk_ (fun hs_ => fun e_ => Nat.not_le.2 hs_ (by rw [e_]; exact GW157.out)) (fun hn_ => (Kd.freshB (g := gb157) (o := .cells #[.int .i64 a1_0, .int .i64 a1_1, .slice A1_2 l1_2.length c1_2] 33 (0, 0)) (zK BK157) k_ hn_)), Or.elim hk_ (fun hs_ => fun e_ => Nat.not_le.2 hs_ (by rw [e_]; exact GW158.out)) (fun hn_ => (Kd.freshB (g := gb158) (o := .cells #[.int .i64 a2_0, .int .i64 a2_1, .slice A2_2 l2_2.length c2_2] 33 (0, 0)) (zK BK158) k_ hn_))⟩)) (below_size (zB2 HB GE157 GE158)))
   have n3_ := Aside0.mk (blk_below (g := gb157) (o := .cells #[.int .i64 a1_0, .int .i64 a1_1, .slice A1_2 l1_2.length c1_2] 33 (0, 0)) (zK BK157) hb)
   have n4_ := Aside0.mk (blk_below (g := gb158) (o := .cells #[.int .i64 a2_0, .int .i64 a2_1, .slice A2_2 l2_2.length c2_2] 33 (0, 0)) (zK BK158) hb)
   have n5_ := Aside0.mk (below_step (zB2 HB GE157 GE158) hb)
   clear HO161
   clear HO166
   clear BK157
   clear BK158
   clear HB
   have HO161 := n0_
   have HO166 := n1_
   have HO171 := n2_
   have BK157 := n3_
   have BK158 := n4_
   have HB := n5_
   clear n0_ n1_ n2_ n3_ n4_ n5_
   (try clear hb)
   (try clear hb2)
   (try clear hk)
   (try clear hi)
   (try clear ho0)
   obtain ⟨Ao216, co216, eo216⟩ := Kd.V_slice HO166.out
   (first | subst eo216 | (injection eo216 with f1_ f2_ f3_; have f4_ := f1_.symm; have f5_ := f3_.symm; clear f1_ f2_ f3_; subst f4_; subst f5_))
   obtain ⟨Ao220, co220, eo220⟩ := Kd.V_slice HO171.out
   (first | subst eo220 | (injection eo220 with f1_ f2_ f3_; have f4_ := f1_.symm; have f5_ := f3_.symm; clear f1_ f2_ f3_; subst f4_; subst f5_))
   refine hK.out _ _ ⟨(blk_cell BK157.out 0).trans rfl, (blk_cell BK157.out 1).trans rfl, (blk_cell BK157.out 2).trans rfl, (blk_cell BK158.out 0).trans rfl, (blk_cell BK158.out 1).trans rfl, (blk_cell BK158.out 2).trans rfl⟩ (fun hHeld => ?_)
   clear hK K
   refine norm_ (a' := ?_) ?_ ?_
   rotate_left
   ·show Act.put _ (some 32) _ = _
    simp only [Act.put, List.setIfInBounds_toArray, List.set_cons_zero, List.set_cons_succ, i64_w, i32_w]
    rfl
   refine pure_ (i := 6) (N := some 0) (v := ?_) (a' := ?_) #[true, true, true, true, true, true, true, false, false] rfl rfl (any_of HT_.out (by kernel_rfl)) (fun _ _ _ h => h) (Or.inl ⟨by rfl, ?_⟩) ?_ ?_
   rotate_left
   ·intro w'
    go_simp
    with_reducible rfl
   rotate_left
   ·simp only [Act.put, List.setIfInBounds_toArray, List.set_cons_zero, List.set_cons_succ, i64_w, i32_w]
    rfl
   refine last_ (i := 7) (N := none) #[true, true, true, true, true, true, true, true, false] rfl rfl (one_of HT_.out (by kernel_rfl)) (by decide) (fun K hK => ?_)
   have hs214 : w213.cell? ⟨gb157, 0, none⟩ = some (.int .i64 a1_0) := (blk_cell BK157.out 0).trans rfl
   have hfs214 := blk_frozen BK157.out 0
   have hns214_1 := NB158_157.out
   have hms214_1 := NB157_158.out
   have hs215 : w213.cell? ⟨gb157, 1, none⟩ = some (.int .i64 a1_1) := (blk_cell BK157.out 1).trans rfl
   have hfs215 := blk_frozen BK157.out 1
   have hns215_1 := NB158_157.out
   have hms215_1 := NB157_158.out
   have hs217 : w213.cell? ⟨gb157, 2, none⟩ = some (.slice A1_2 l1_2.length c1_2) := (blk_cell BK157.out 2).trans rfl
   have hfs217 := blk_frozen BK157.out 2
   have hns217_1 := NB158_157.out
   have hms217_1 := NB157_158.out
   refine skip_ (w1 := ?_) (by rfl) rfl ?_ ?_
   rotate_left
   ·go_simp
    rfl
   refine hK.out _ _ ?_
   clear hK K
   refine last_ (i := 8) (N := none) #[true, true, true, true, true, true, true, true, true] rfl rfl (one_of HT_.out (by kernel_rfl)) (by decide) (fun K hK => ?_)
   have hs218 : w213.cell? ⟨gb158, 0, none⟩ = some (.int .i64 a2_0) := (blk_cell BK158.out 0).trans rfl
   have hfs218 := blk_frozen BK158.out 0
   have hns218_0 := NB157_158.out
   have hms218_0 := NB158_157.out
   have hs219 : w213.cell? ⟨gb158, 1, none⟩ = some (.int .i64 a2_1) := (blk_cell BK158.out 1).trans rfl
   have hfs219 := blk_frozen BK158.out 1
   have hns219_0 := NB157_158.out
   have hms219_0 := NB158_157.out
   have hs221 : w213.cell? ⟨gb158, 2, none⟩ = some (.slice A2_2 l2_2.length c2_2) := (blk_cell BK158.out 2).trans rfl
   have hfs221 := blk_frozen BK158.out 2
   have hns221_0 := NB157_158.out
   have hms221_0 := NB158_157.out
   refine skip_ (w1 := ?_) (by rfl) rfl ?_ ?_
   rotate_left
   ·go_simp
    rfl
   refine hK.out _ _ ?_
   clear hK K
   refine done_ (done_of HT_.out (by kernel_rfl)) ?_
   have n0_ : Aside0 (Kd.N k33 33 ((((((w213.setCell ⟨gb157, 0, none⟩ (.int .i64 t162)).setCell ⟨gb157, 1, none⟩ (.int .i64 t163)).setCell ⟨gb157, 2, none⟩ (.slice Ao216 t164.length co216)).setCell ⟨gb158, 0, none⟩ (.int .i64 t167)).setCell ⟨gb158, 1, none⟩ (.int .i64 t168)).setCell ⟨gb158, 2, none⟩ (.slice Ao220 t169.length co220)) w.heap.size (fun k_ => k_ ≠ gb157 ∧ k_ ≠ gb158) v160 t159) := ⟨by (with_reducible repeat (first | apply Kd.N_alloc | apply Kd.N_drewN | apply Kd.N_drew)); exact Kd.N_mono (Kd.N_far (p := ⟨gb158, 2, none⟩) (Kd.N_far (p := ⟨gb158, 1, none⟩) (Kd.N_far (p := ⟨gb158, 0, none⟩) (Kd.N_far (p := ⟨gb157, 2, none⟩) (Kd.N_far (p := ⟨gb157, 1, none⟩) (Kd.N_far (p := ⟨gb157, 0, none⟩) (Kd.N_mono (Kd.N_mono HO161.out (fun k_ hk => (⟨hk, hk.1⟩ : _ ∧ k_ ≠ gb157))) (fun k_ hk => (⟨hk, hk.1.2⟩ : _ ∧ k_ ≠ gb158))) (fun _ hk => hk.1.2) (.int .i64 t162)) (fun _ hk => hk.1.2) (.int .i64 t163)) (fun _ hk => hk.1.2) (.slice Ao216 t164.length co216)) (fun _ hk => hk.2) (.int .i64 t167)) (fun _ hk => hk.2) (.int .i64 t168)) (fun _ hk => hk.2) (.slice Ao220 t169.length co220)) (fun _ hk => ⟨hk.1.1.1, hk.1.1.2⟩)⟩
   have n1_ : Aside0 (Kd.V (Kd.int .i64) 3 ((((((w213.setCell ⟨gb157, 0, none⟩ (.int .i64 t162)).setCell ⟨gb157, 1, none⟩ (.int .i64 t163)).setCell ⟨gb157, 2, none⟩ (.slice Ao216 t164.length co216)).setCell ⟨gb158, 0, none⟩ (.int .i64 t167)).setCell ⟨gb158, 1, none⟩ (.int .i64 t168)).setCell ⟨gb158, 2, none⟩ (.slice Ao220 t169.length co220)) w.heap.size (fun k_ => some k_ ≠ (v160 : Value).ownBlock ∧ k_ ≠ gb157 ∧ k_ ≠ gb158) (.slice Ao216 t164.length co216) t164) := ⟨by (with_reducible repeat (first | apply Kd.V_alloc | apply Kd.V_drewN | apply Kd.V_drew)); exact Kd.V_mono (Kd.V_far (p := ⟨gb158, 2, none⟩) (Kd.V_far (p := ⟨gb158, 1, none⟩) (Kd.V_far (p := ⟨gb158, 0, none⟩) (Kd.V_far (p := ⟨gb157, 2, none⟩) (Kd.V_far (p := ⟨gb157, 1, none⟩) (Kd.V_far (p := ⟨gb157, 0, none⟩) (Kd.V_mono (Kd.V_mono HO166.out (fun k_ hk => (⟨hk, hk.2.1⟩ : _ ∧ k_ ≠ gb157))) (fun k_ hk => (⟨hk, hk.1.2.2⟩ : _ ∧ k_ ≠ gb158))) (fun _ hk => hk.1.2) (.int .i64 t162)) (fun _ hk => hk.1.2) (.int .i64 t163)) (fun _ hk => hk.1.2) (.slice Ao216 t164.length co216)) (fun _ hk => hk.2) (.int .i64 t167)) (fun _ hk => hk.2) (.int .i64 t168)) (fun _ hk => hk.2) (.slice Ao220 t169.length co220)) (fun _ hk => ⟨hk.1.1.1, ⟨hk.1.1.2.1, hk.1.1.2.2⟩⟩)⟩
   have n2_ : Aside0 (Kd.V (Kd.int .i64) 3 ((((((w213.setCell ⟨gb157, 0, none⟩ (.int .i64 t162)).setCell ⟨gb157, 1, none⟩ (.int .i64 t163)).setCell ⟨gb157, 2, none⟩ (.slice Ao216 t164.length co216)).setCell ⟨gb158, 0, none⟩ (.int .i64 t167)).setCell ⟨gb158, 1, none⟩ (.int .i64 t168)).setCell ⟨gb158, 2, none⟩ (.slice Ao220 t169.length co220)) w.heap.size (fun k_ => some k_ ≠ (v160 : Value).ownBlock ∧ k_ ≠ gb157 ∧ k_ ≠ gb158) (.slice Ao220 t169.length co220) t169) := ⟨by (with_reducible repeat (first | apply Kd.V_alloc | apply Kd.V_drewN | apply Kd.V_drew)); exact Kd.V_mono (Kd.V_far (p := ⟨gb158, 2, none⟩) (Kd.V_far (p := ⟨gb158, 1, none⟩) (Kd.V_far (p := ⟨gb158, 0, none⟩) (Kd.V_far (p := ⟨gb157, 2, none⟩) (Kd.V_far (p := ⟨gb157, 1, none⟩) (Kd.V_far (p := ⟨gb157, 0, none⟩) (Kd.V_mono (Kd.V_mono HO171.out (fun k_ hk => (⟨hk, hk.2.1⟩ : _ ∧ k_ ≠ gb157))) (fun k_ hk => (⟨hk, hk.1.2.2⟩ : _ ∧ k_ ≠ gb158))) (fun _ hk => hk.1.2) (.int .i64 t162)) (fun _ hk => hk.1.2) (.int .i64 t163)) (fun _ hk => hk.1.2) (.slice Ao216 t164.length co216)) (fun _ hk => hk.2) (.int .i64 t167)) (fun _ hk => hk.2) (.int .i64 t168)) (fun _ hk => hk.2) (.slice Ao220 t169.length co220)) (fun _ hk => ⟨hk.1.1.1, ⟨hk.1.1.2.1, hk.1.1.2.2⟩⟩)⟩
   have n3_ : Aside0 (((((((w213.setCell ⟨gb157, 0, none⟩ (.int .i64 t162)).setCell ⟨gb157, 1, none⟩ (.int .i64 t163)).setCell ⟨gb157, 2, none⟩ (.slice Ao216 t164.length co216)).setCell ⟨gb158, 0, none⟩ (.int .i64 t167)).setCell ⟨gb158, 1, none⟩ (.int .i64 t168)).setCell ⟨gb158, 2, none⟩ (.slice Ao220 t169.length co220)).heap[gb157]? = some (.cells #[.int .i64 t162, .int .i64 t163, .slice Ao216 t164.length co216] 33 (0, 0))) := ⟨by (with_reducible repeat (first | refine blk_drewN ?_ _ | refine blk_drew ?_ | refine blk_alloc ?_ _)); refine blk_far ?_ NB157_158.out _; (with_reducible repeat (first | refine blk_drewN ?_ _ | refine blk_drew ?_ | refine blk_alloc ?_ _)); refine blk_far ?_ NB157_158.out _; (with_reducible repeat (first | refine blk_drewN ?_ _ | refine blk_drew ?_ | refine blk_alloc ?_ _)); refine blk_far ?_ NB157_158.out _; (with_reducible repeat (first | refine blk_drewN ?_ _ | refine blk_drew ?_ | refine blk_alloc ?_ _)); refine blk_put (cs := #[.int .i64 t162, .int .i64 t163, .slice A1_2 l1_2.length c1_2]) ?_ 2 _ rfl; (with_reducible repeat (first | refine blk_drewN ?_ _ | refine blk_drew ?_ | refine blk_alloc ?_ _)); refine blk_put (cs := #[.int .i64 t162, .int .i64 a1_1, .slice A1_2 l1_2.length c1_2]) ?_ 1 _ rfl; (with_reducible repeat (first | refine blk_drewN ?_ _ | refine blk_drew ?_ | refine blk_alloc ?_ _)); refine blk_put (cs := #[.int .i64 a1_0, .int .i64 a1_1, .slice A1_2 l1_2.length c1_2]) ?_ 0 _ rfl; (with_reducible repeat (first | refine blk_drewN ?_ _ | refine blk_drew ?_ | refine blk_alloc ?_ _)); exact BK157.out⟩
   have n4_ : Aside0 (((((((w213.setCell ⟨gb157, 0, none⟩ (.int .i64 t162)).setCell ⟨gb157, 1, none⟩ (.int .i64 t163)).setCell ⟨gb157, 2, none⟩ (.slice Ao216 t164.length co216)).setCell ⟨gb158, 0, none⟩ (.int .i64 t167)).setCell ⟨gb158, 1, none⟩ (.int .i64 t168)).setCell ⟨gb158, 2, none⟩ (.slice Ao220 t169.length co220)).heap[gb158]? = some (.cells #[.int .i64 t167, .int .i64 t168, .slice Ao220 t169.length co220] 33 (0, 0))) := ⟨by (with_reducible repeat (first | refine blk_drewN ?_ _ | refine blk_drew ?_ | refine blk_alloc ?_ _)); refine blk_put (cs := #[.int .i64 t167, .int .i64 t168, .slice A2_2 l2_2.length c2_2]) ?_ 2 _ rfl; (with_reducible repeat (first | refine blk_drewN ?_ _ | refine blk_drew ?_ | refine blk_alloc ?_ _)); refine blk_put (cs := #[.int .i64 t167, .int .i64 a2_1, .slice A2_2 l2_2.length c2_2]) ?_ 1 _ rfl; (with_reducible repeat (first | refine blk_drewN ?_ _ | refine blk_drew ?_ | refine blk_alloc ?_ _)); refine blk_put (cs := #[.int .i64 a2_0, .int .i64 a2_1, .slice A2_2 l2_2.length c2_2]) ?_ 0 _ rfl; (with_reducible repeat (first | refine blk_drewN ?_ _ | refine blk_drew ?_ | refine blk_alloc ?_ _)); refine blk_far ?_ NB158_157.out _; (with_reducible repeat (first | refine blk_drewN ?_ _ | refine blk_drew ?_ | refine blk_alloc ?_ _)); refine blk_far ?_ NB158_157.out _; (with_reducible repeat (first | refine blk_drewN ?_ _ | refine blk_drew ?_ | refine blk_alloc ?_ _)); refine blk_far ?_ NB158_157.out _; (with_reducible repeat (first | refine blk_drewN ?_ _ | refine blk_drew ?_ | refine blk_alloc ?_ _)); exact BK158.out⟩
   have n5_ : Aside0 (Below w.heap.size w ((((((w213.setCell ⟨gb157, 0, none⟩ (.int .i64 t162)).setCell ⟨gb157, 1, none⟩ (.int .i64 t163)).setCell ⟨gb157, 2, none⟩ (.slice Ao216 t164.length co216)).setCell ⟨gb158, 0, none⟩ (.int .i64 t167)).setCell ⟨gb158, 1, none⟩ (.int .i64 t168)).setCell ⟨gb158, 2, none⟩ (.slice Ao220 t169.length co220))) := ⟨zB2 HB GE157 GE158⟩
   (try clear HO161)
   (try clear HO166)
   (try clear HO171)
   (try clear BK157)
   (try clear BK158)
   (try clear HB)
   generalize ((((((w213.setCell ⟨gb157, 0, none⟩ (.int .i64 t162)).setCell ⟨gb157, 1, none⟩ (.int .i64 t163)).setCell ⟨gb157, 2, none⟩ (.slice Ao216 t164.length co216)).setCell ⟨gb158, 0, none⟩ (.int .i64 t167)).setCell ⟨gb158, 1, none⟩ (.int .i64 t168)).setCell ⟨gb158, 2, none⟩ (.slice Ao220 t169.length co220)) = w222 at n0_ n1_ n2_ n3_ n4_ n5_ ⊢
   have HO161 := n0_
   have HO166 := n1_
   have HO171 := n2_
   have BK157 := n3_
   have BK158 := n4_
   have HB := n5_
   clear n0_ n1_ n2_ n3_ n4_ n5_
   have hnb223 := NB157_158.out
   have hnc223 := NB158_157.out
   have hcz224_0 : w222.cell? ⟨gb157, 0, none⟩ = some (.int .i64 t162) := (blk_cell BK157.out 0).trans rfl
   have hcz224_1 : w222.cell? ⟨gb157, 1, none⟩ = some (.int .i64 t163) := (blk_cell BK157.out 1).trans rfl
   have hcz224_2 : w222.cell? ⟨gb157, 2, none⟩ = some (.slice Ao216 t164.length co216) := (blk_cell BK157.out 2).trans rfl
   have hfz224_0 := blk_frozen BK157.out 0
   have hfz224_1 := blk_frozen BK157.out 1
   have hfz224_2 := blk_frozen BK157.out 2
   obtain ⟨Ao225, co225, eo225⟩ := Kd.N_slice HO161.out
   subst eo225
   try go_wp2_with (first | ((with_reducible refine gate_callee (f := 17) rfl ?_); refine goesL_ (some 36) rfl rfl Try.func17 (by kernel_rfl) rfl #[.slice Ao225 t159.length co225, .agg #[.int .i64 t162, .int .i64 t163, .slice Ao216 t164.length co216]] rfl zP ?_; (with_reducible refine (root_Set.calls (fun k_ => (k_ ≠ gb157 ∧ k_ ≠ gb158)) _ _ t159 t162 t163 (fun k_ => (some k_ ≠ (.slice Ao225 t159.length co225 : Value).ownBlock ∧ (k_ ≠ gb157 ∧ k_ ≠ gb158))) _ _ t164 t172 t175 _ ?side1 ?side2 A8.out).mono ?_); (case side1 => exact Kd.N_V (HO161.out)); (case side2 => exact HO166.out); rintro e w226 ⟨v173, rfl, ho0, hb⟩; refine ⟨_, rfl, ?_⟩; have n0_ := Aside0.mk (Kd.N_below (zN HO161) hb); have n1_ := Aside0.mk (Kd.V_below (zV HO166) hb); have n2_ := Aside0.mk (Kd.V_below (zV HO171) hb); have n3_ := Aside0.mk (Kd.V_lower (Kd.V_mono (ok' := fun k_ => k_ ≠ gb157 ∧ k_ ≠ gb158) ho0 (fun k_ hk_ => ⟨Or.elim hk_ (fun hs_ => Or.elim hs_ (fun hs_ => hs_.1) (fun hs_ => hs_.2.1)) (fun hn_ => (Kd.freshB (g := gb157) (o := .cells #[.int .i64 t162, .int .i64 t163, .slice Ao216 t164.length co216] 33 (0, 0)) (zK BK157) k_ hn_)), Or.elim hk_ (fun hs_ => Or.elim hs_ (fun hs_ => hs_.2) (fun hs_ => hs_.2.2)) (fun hn_ => (Kd.freshB (g := gb158) (o := .cells #[.int .i64 t167, .int .i64 t168, .slice Ao220 t169.length co220] 33 (0, 0)) (zK BK158) k_ hn_))⟩)) (below_size (zB2 HB GE157 GE158))); have n4_ := Aside0.mk (blk_below (g := gb157) (o := .cells #[.int .i64 t162, .int .i64 t163, .slice Ao216 t164.length co216] 33 (0, 0)) (zK BK157) hb); have n5_ := Aside0.mk (blk_below (g := gb158) (o := .cells #[.int .i64 t167, .int .i64 t168, .slice Ao220 t169.length co220] 33 (0, 0)) (zK BK158) hb); have n6_ := Aside0.mk (below_step (zB2 HB GE157 GE158) hb); clear HO161; clear HO166; clear HO171; clear BK157; clear BK158; clear HB; have HO161 := n0_; have HO166 := n1_; have HO171 := n2_; have HO174 := n3_; have BK157 := n4_; have BK158 := n5_; have HB := n6_; clear n0_ n1_ n2_ n3_ n4_ n5_ n6_; (try clear hb); (try clear hb2); (try clear hk); (try clear hi); (try clear ho0)) | ((with_reducible refine gate_callee (f := 13) rfl ?_); refine goesL_ (some 41) rfl rfl Try.func13 (by kernel_rfl) rfl #[] rfl zP ?_; (with_reducible refine (deadboltlaw09_alive.calls  true _ A206.out).mono ?_); rintro e w227 ⟨rfl, hb⟩; refine ⟨_, rfl, ?_⟩; have n0_ := Aside0.mk (Kd.N_below (zN HO161) hb); have n1_ := Aside0.mk (Kd.V_below (zV HO166) hb); have n2_ := Aside0.mk (Kd.V_below (zV HO171) hb); have n3_ := Aside0.mk (Kd.V_below (zV HO174) hb); have n4_ := Aside0.mk (blk_below (g := gb157) (o := .cells #[.int .i64 t162, .int .i64 t163, .slice Ao216 t164.length co216] 33 (0, 0)) (zK BK157) hb); have n5_ := Aside0.mk (blk_below (g := gb158) (o := .cells #[.int .i64 t167, .int .i64 t168, .slice Ao220 t169.length co220] 33 (0, 0)) (zK BK158) hb); have n6_ := Aside0.mk (below_step (zB2 HB GE157 GE158) hb); clear HO161; clear HO166; clear HO171; clear HO174; clear BK157; clear BK158; clear HB; have HO161 := n0_; have HO166 := n1_; have HO171 := n2_; have HO174 := n3_; have BK157 := n4_; have BK158 := n5_; have HB := n6_; clear n0_ n1_ n2_ n3_ n4_ n5_ n6_; (try clear hb); (try clear hb2); (try clear hk); (try clear hi); obtain ⟨Ao228, co228, eo228⟩ := Kd.V_slice HO174.out; subst eo228))
   go_ret
   exact ⟨by first | rfl | (simp [errW_none, errW_some] <;> rfl) | (simp [*, errW_none, errW_some] <;> rfl), zB2 HB GE157 GE158⟩
  ·replace c207 := Bool.eq_false_iff.mpr c207
   subst c207
   have H1 : (none) = some r := by rw [if_neg (show ¬ (false = true) by decide)] at H; exact H
   clear H
   have H := H1
   clear H1
   exact absurd H (by simp)

end Go.Proofs.Ytnjnjajgpkmfhaa.PX
