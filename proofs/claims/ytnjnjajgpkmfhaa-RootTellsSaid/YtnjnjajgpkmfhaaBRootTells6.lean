/-
 The statement on RootTells, out of what its printed form comes to: for every input the call returns true, and each argument reads behind it as it read before.
-/
import Derived.Test.YtnjnjajgpkmfhaaBRootTells5
import Derived.Test.YtnjnjajgpkmfhaaRows
namespace Go.Proofs.Ytnjnjajgpkmfhaa.PX
open Go.RowKit Go.Proofs.YtnjnjajgpkmfhaaW.PrintWords Go.Proofs.YtnjnjajgpkmfhaaW.PrintLast Go.Proofs.YtnjnjajgpkmfhaaW.PrintMore
attribute [local go_sem] max2_int min2_int max_two min_two max_three min_three max_four min_four   -- for this text's walks alone
set_option linter.unusedVariables false
set_option linter.unusedSimpArgs false

/-! ### deadboltlaw09_RootTells: function 4 -/
mutual
def deadboltlaw09_RootTells.j0 : Nat → List (S33) → Int → Int → Int → Int → Int → List (S33) → Int → List Int → Int → Bool → Bool → Bool → Int → Int → List Int → Int → Int → List Int → Option (Bool)
 | 0, _, _, _, _, _, _, _, _, _, _, _, _, _, _, _, _, _, _, _ => none
 | k + 1, x0, x2, x3, x9, x10, x12, x13, x14, x15, x16, x17, x18, x58, x227000, x227001, x227002, x244000, x244001, x244002 => if x58 = true then (some false) else (if x18 = true then (if x10 = 0 then ((deadboltref09_Root.f x2).bind fun t256 => (if x9 = t256 then (deadboltlaw09_RootTells.j1 k x0 x2 x3 x12 x13 x14 x15 x16 x17 x18 x227000 x227001 x227002 x244000 x244001 x244002) else (some false))) else (some false)) else (if x10 = 1 then (if x9 = 0 then (deadboltlaw09_RootTells.j1 k x0 x2 x3 x12 x13 x14 x15 x16 x17 x18 x227000 x227001 x227002 x244000 x244001 x244002) else (some false)) else (some false)))
def deadboltlaw09_RootTells.j1 : Nat → List (S33) → Int → Int → Int → List (S33) → Int → List Int → Int → Bool → Bool → Int → Int → List Int → Int → Int → List Int → Option (Bool)
 | 0, _, _, _, _, _, _, _, _, _, _, _, _, _, _, _, _ => none
 | k + 1, x0, x2, x3, x12, x13, x14, x15, x16, x17, x18, x227000, x227001, x227002, x244000, x244001, x244002 => if x17 = true then (deadboltlaw09_RootTells.j2 k x0 x2 x3 x12 x13 x14 x15 x16 x17 (!x18) x227000 x227001 x227002 x244000 x244001 x244002) else (deadboltlaw09_RootTells.j2 k x0 x2 x3 x12 x13 x14 x15 x16 x17 true x227000 x227001 x227002 x244000 x244001 x244002)
def deadboltlaw09_RootTells.j2 : Nat → List (S33) → Int → Int → Int → List (S33) → Int → List Int → Int → Bool → Bool → Int → Int → List Int → Int → Int → List Int → Option (Bool)
 | 0, _, _, _, _, _, _, _, _, _, _, _, _, _, _, _, _ => none
 | k + 1, x0, x2, x3, x12, x13, x14, x15, x16, x17, x80, x227000, x227001, x227002, x244000, x244001, x244002 => if x80 = true then (if x12 = 1 then ((deadboltref09_Spots.f k x244000 x244001 x244002 0 0 ([] : List Int)).bind fun t257 => (if t257 = true then (deadboltlaw09_RootTells.j3 k x0 x3 x13 x14 x15 x16 x17 x227000 x227001 x227002) else (some false))) else (some false)) else (if x12 = 0 then ((deadboltref09_Get.f k x0 x2).bind fun bt258 => ((deadboltref09_Spots.f k x244000 x244001 x244002 bt258.1 bt258.2.1 bt258.2.2).bind fun t263 => (if t263 = true then (deadboltlaw09_RootTells.j3 k x0 x3 x13 x14 x15 x16 x17 x227000 x227001 x227002) else (some false)))) else (some false))
def deadboltlaw09_RootTells.j3 : Nat → List (S33) → Int → List (S33) → Int → List Int → Int → Bool → Int → Int → List Int → Option (Bool)
 | 0, _, _, _, _, _, _, _, _, _, _ => none
 | k + 1, x0, x3, x13, x14, x15, x16, x17, x227000, x227001, x227002 => if x17 = true then (if x3 < 0 then (deadboltlaw09_RootTells.j4 k x0 x3 x13 x14 x15 x16 x17 true x227000 x227001 x227002) else (deadboltlaw09_RootTells.j4 k x0 x3 x13 x14 x15 x16 x17 (decide (x3 > 250)) x227000 x227001 x227002)) else (deadboltlaw09_RootTells.j4 k x0 x3 x13 x14 x15 x16 x17 true x227000 x227001 x227002)
def deadboltlaw09_RootTells.j4 : Nat → List (S33) → Int → List (S33) → Int → List Int → Int → Bool → Bool → Int → Int → List Int → Option (Bool)
 | 0, _, _, _, _, _, _, _, _, _, _, _ => none
 | k + 1, x0, x3, x13, x14, x15, x16, x17, x108, x227000, x227001, x227002 => if x108 = true then (if x16 = 1 then (if (x15.length : Int) = 0 then (deadboltlaw09_RootTells.j5 k x0 x13 x14 x17 x227000 x227001 x227002) else (some false)) else (some false)) else (if x16 = 0 then ((deadboltref09_Under.f k x0 x3).bind fun t264 => ((deadboltref07_Same.f k x15 t264).bind fun t267 => (if t267 = true then (deadboltlaw09_RootTells.j5 k x0 x13 x14 x17 x227000 x227001 x227002) else (some false)))) else (some false))
def deadboltlaw09_RootTells.j5 : Nat → List (S33) → List (S33) → Int → Bool → Int → Int → List Int → Option (Bool)
 | 0, _, _, _, _, _, _, _ => none
 | k + 1, x0, x13, x14, x17, x227000, x227001, x227002 => if x17 = true then ((deadboltref09_Spot.f k x227000 x227001 x227002).bind fun t268 => (deadboltlaw09_RootTells.j6 k x0 x13 x14 (!t268) x227000 x227001 x227002)) else (deadboltlaw09_RootTells.j6 k x0 x13 x14 true x227000 x227001 x227002)
def deadboltlaw09_RootTells.j6 : Nat → List (S33) → List (S33) → Int → Bool → Int → Int → List Int → Option (Bool)
 | 0, _, _, _, _, _, _, _ => none
 | k + 1, x0, x13, x14, x132, x227000, x227001, x227002 => if x132 = true then (if x14 = 1 then (some ((x13.length : Int) == 0)) else (some false)) else ((deadboltref09_Set.f k x0 x227000 x227001 x227002).bind fun t269 => (if (t269.length : Int) > 64 then (if x14 = 5 then (some ((x13.length : Int) == 0)) else (some false)) else (if x14 = 0 then ((deadboltref09_Same.f k x13 t269).bind fun t272 => (some t272)) else (some false))))
end
def deadboltlaw09_RootTells.f (k : Nat) (l0 : List (S33)) (a1_0 : Int) (a1_1 : Int) (l1_2 : List Int) (a2 : Int) (a3 : Int) : Option (Bool) := (deadboltlaw09_few.f k l0).bind fun t227 => ((deadboltlaw09_cut.f a1_0 a1_1 l1_2).bind fun bt230 => ((root_Root.f a2).bind fun bt235 => ((root_Get.f t227 a2).bind fun bt237 => ((root_Set.f t227 bt230.1 bt230.2.1 bt230.2.2).bind fun bt244 => ((root_Under.f k t227 a3).bind fun bt248 => ((deadboltref09_Right.f k t227).bind fun t252 => ((deadboltref08_Key.f a2).bind fun t253 => ((root_Right.f k t227).bind fun t254 => (if (t254 != t252) = true then (deadboltlaw09_RootTells.j0 k t227 a2 a3 bt235.1 bt235.2 bt237.2.2.2 bt244.1 bt244.2 bt248.1 bt248.2 t252 t253 true bt230.1 bt230.2.1 bt230.2.2 bt237.1 bt237.2.1 bt237.2.2.1) else ((deadboltlaw09_alive.f).bind fun t255 => (deadboltlaw09_RootTells.j0 k t227 a2 a3 bt235.1 bt235.2 bt237.2.2.2 bt244.1 bt244.2 bt248.1 bt248.2 t252 t253 (!t255) bt230.1 bt230.2.1 bt230.2.2 bt237.1 bt237.2.1 bt237.2.2.1)))))))))))
def deadboltlaw09_RootTells.T17 : Bool × List (List Nat × List Nat) := (true, [([], []), ([0], [0]), ([1], [1]), ([2], [2]), ([2], [2]), ([2], [2]), ([4, 5, 2, 2], [2, 4, 5]), ([3, 6, 6, 2], [2, 3, 6]), ([7, 2], [2, 7]), ([2, 8], [2, 8])])
def deadboltlaw09_RootTells.B17 : List Nat := [0, 1, 3, 7, 7, 7, 55, 127, 255, 511]
theorem deadboltlaw09_RootTells.tab17 : rtab .any (opsOf Try.f4 17) = deadboltlaw09_RootTells.T17 := by kernel_rfl
theorem deadboltlaw09_RootTells.bits17 : waitsOk deadboltlaw09_RootTells.T17.2 deadboltlaw09_RootTells.B17 = true := by kernel_rfl
set_option maxHeartbeats 8000000 in
set_option maxRecDepth 100000 in
theorem deadboltlaw09_RootTells.calls (k : Nat) (A0 : Option Addr) (c0 : Nat) (l0 : List (S33)) (a1_0 : Int) (a1_1 : Int) (A1_2 : Option Addr) (c1_2 : Nat) (l1_2 : List Int) (a2 : Int) (a3 : Int) (r : Bool) (w : World) (hr0 : Kd.C k33 w A0 l0.length l0) (hc0 : l0.length ≤ c0) (hr1_2 : Kd.C (Kd.int .i64) w A1_2 l1_2.length l1_2) (hc1_2 : l1_2.length ≤ c1_2) (h : deadboltlaw09_RootTells.f k l0 a1_0 a1_1 l1_2 a2 a3 = some r) :
  Calls Try.prog 4 #[.slice A0 l0.length c0, .agg #[.int .i64 a1_0, .int .i64 a1_1, .slice A1_2 l1_2.length c1_2], .int .i64 a2, .int .i64 a3] w fun e w' => e = .returned (.bool r) ∧ Below w.heap.size w w' := by
 have hu33 := Try.underlying33
 have HR0 := Aside0.mk hr0
 have HC0 := Aside0.mk hc0
 clear hr0 hc0
 have HR1_2 := Aside0.mk hr1_2
 have HC1_2 := Aside0.mk hc1_2
 clear hr1_2 hc1_2
 have HB := Aside0.mk (Below.refl w.heap.size w)
 have H : ((deadboltlaw09_few.f k l0).bind fun t227 => ((deadboltlaw09_cut.f a1_0 a1_1 l1_2).bind fun bt230 => ((root_Root.f a2).bind fun bt235 => ((root_Get.f t227 a2).bind fun bt237 => ((root_Set.f t227 bt230.1 bt230.2.1 bt230.2.2).bind fun bt244 => ((root_Under.f k t227 a3).bind fun bt248 => ((deadboltref09_Right.f k t227).bind fun t252 => ((deadboltref08_Key.f a2).bind fun t253 => ((root_Right.f k t227).bind fun t254 => (if (t254 != t252) = true then (deadboltlaw09_RootTells.j0 k t227 a2 a3 bt235.1 bt235.2 bt237.2.2.2 bt244.1 bt244.2 bt248.1 bt248.2 t252 t253 true bt230.1 bt230.2.1 bt230.2.2 bt237.1 bt237.2.1 bt237.2.2.1) else ((deadboltlaw09_alive.f).bind fun t255 => (deadboltlaw09_RootTells.j0 k t227 a2 a3 bt235.1 bt235.2 bt237.2.2.2 bt244.1 bt244.2 bt248.1 bt248.2 t252 t253 (!t255) bt230.1 bt230.2.1 bt230.2.2 bt237.1 bt237.2.1 bt237.2.2.1)))))))))))) = some r := h
 clear h
 replace H := Option.bind_eq_some_iff.mp H
 obtain ⟨t227, A50, H⟩ := H
 replace H : ((deadboltlaw09_cut.f a1_0 a1_1 l1_2).bind fun bt230 => ((root_Root.f a2).bind fun bt235 => ((root_Get.f t227 a2).bind fun bt237 => ((root_Set.f t227 bt230.1 bt230.2.1 bt230.2.2).bind fun bt244 => ((root_Under.f k t227 a3).bind fun bt248 => ((deadboltref09_Right.f k t227).bind fun t252 => ((deadboltref08_Key.f a2).bind fun t253 => ((root_Right.f k t227).bind fun t254 => (if (t254 != t252) = true then (deadboltlaw09_RootTells.j0 k t227 a2 a3 bt235.1 bt235.2 bt237.2.2.2 bt244.1 bt244.2 bt248.1 bt248.2 t252 t253 true bt230.1 bt230.2.1 bt230.2.2 bt237.1 bt237.2.1 bt237.2.2.1) else ((deadboltlaw09_alive.f).bind fun t255 => (deadboltlaw09_RootTells.j0 k t227 a2 a3 bt235.1 bt235.2 bt237.2.2.2 bt244.1 bt244.2 bt248.1 bt248.2 t252 t253 (!t255) bt230.1 bt230.2.1 bt230.2.2 bt237.1 bt237.2.1 bt237.2.2.1))))))))))) = some r := H
 have A5 := Aside0.mk A50
 clear A50
 replace H := Option.bind_eq_some_iff.mp H
 obtain ⟨⟨t230, t231, t232⟩, A60, H⟩ := H
 replace H : ((root_Root.f a2).bind fun bt235 => ((root_Get.f t227 a2).bind fun bt237 => ((root_Set.f t227 t230 t231 t232).bind fun bt244 => ((root_Under.f k t227 a3).bind fun bt248 => ((deadboltref09_Right.f k t227).bind fun t252 => ((deadboltref08_Key.f a2).bind fun t253 => ((root_Right.f k t227).bind fun t254 => (if (t254 != t252) = true then (deadboltlaw09_RootTells.j0 k t227 a2 a3 bt235.1 bt235.2 bt237.2.2.2 bt244.1 bt244.2 bt248.1 bt248.2 t252 t253 true t230 t231 t232 bt237.1 bt237.2.1 bt237.2.2.1) else ((deadboltlaw09_alive.f).bind fun t255 => (deadboltlaw09_RootTells.j0 k t227 a2 a3 bt235.1 bt235.2 bt237.2.2.2 bt244.1 bt244.2 bt248.1 bt248.2 t252 t253 (!t255) t230 t231 t232 bt237.1 bt237.2.1 bt237.2.2.1)))))))))) = some r := H
 have A6 := Aside0.mk A60
 clear A60
 replace H := Option.bind_eq_some_iff.mp H
 obtain ⟨⟨t235, t236⟩, A70, H⟩ := H
 replace H : ((root_Get.f t227 a2).bind fun bt237 => ((root_Set.f t227 t230 t231 t232).bind fun bt244 => ((root_Under.f k t227 a3).bind fun bt248 => ((deadboltref09_Right.f k t227).bind fun t252 => ((deadboltref08_Key.f a2).bind fun t253 => ((root_Right.f k t227).bind fun t254 => (if (t254 != t252) = true then (deadboltlaw09_RootTells.j0 k t227 a2 a3 t235 t236 bt237.2.2.2 bt244.1 bt244.2 bt248.1 bt248.2 t252 t253 true t230 t231 t232 bt237.1 bt237.2.1 bt237.2.2.1) else ((deadboltlaw09_alive.f).bind fun t255 => (deadboltlaw09_RootTells.j0 k t227 a2 a3 t235 t236 bt237.2.2.2 bt244.1 bt244.2 bt248.1 bt248.2 t252 t253 (!t255) t230 t231 t232 bt237.1 bt237.2.1 bt237.2.2.1))))))))) = some r := H
 have A7 := Aside0.mk A70
 clear A70
 replace H := Option.bind_eq_some_iff.mp H
 obtain ⟨⟨t237, t238, t239, t242⟩, A80, H⟩ := H
 replace H : ((root_Set.f t227 t230 t231 t232).bind fun bt244 => ((root_Under.f k t227 a3).bind fun bt248 => ((deadboltref09_Right.f k t227).bind fun t252 => ((deadboltref08_Key.f a2).bind fun t253 => ((root_Right.f k t227).bind fun t254 => (if (t254 != t252) = true then (deadboltlaw09_RootTells.j0 k t227 a2 a3 t235 t236 t242 bt244.1 bt244.2 bt248.1 bt248.2 t252 t253 true t230 t231 t232 t237 t238 t239) else ((deadboltlaw09_alive.f).bind fun t255 => (deadboltlaw09_RootTells.j0 k t227 a2 a3 t235 t236 t242 bt244.1 bt244.2 bt248.1 bt248.2 t252 t253 (!t255) t230 t231 t232 t237 t238 t239)))))))) = some r := H
 have A8 := Aside0.mk A80
 clear A80
 replace H := Option.bind_eq_some_iff.mp H
 obtain ⟨⟨t244, t247⟩, A90, H⟩ := H
 replace H : ((root_Under.f k t227 a3).bind fun bt248 => ((deadboltref09_Right.f k t227).bind fun t252 => ((deadboltref08_Key.f a2).bind fun t253 => ((root_Right.f k t227).bind fun t254 => (if (t254 != t252) = true then (deadboltlaw09_RootTells.j0 k t227 a2 a3 t235 t236 t242 t244 t247 bt248.1 bt248.2 t252 t253 true t230 t231 t232 t237 t238 t239) else ((deadboltlaw09_alive.f).bind fun t255 => (deadboltlaw09_RootTells.j0 k t227 a2 a3 t235 t236 t242 t244 t247 bt248.1 bt248.2 t252 t253 (!t255) t230 t231 t232 t237 t238 t239))))))) = some r := H
 have A9 := Aside0.mk A90
 clear A90
 replace H := Option.bind_eq_some_iff.mp H
 obtain ⟨⟨t248, t249⟩, A100, H⟩ := H
 replace H : ((deadboltref09_Right.f k t227).bind fun t252 => ((deadboltref08_Key.f a2).bind fun t253 => ((root_Right.f k t227).bind fun t254 => (if (t254 != t252) = true then (deadboltlaw09_RootTells.j0 k t227 a2 a3 t235 t236 t242 t244 t247 t248 t249 t252 t253 true t230 t231 t232 t237 t238 t239) else ((deadboltlaw09_alive.f).bind fun t255 => (deadboltlaw09_RootTells.j0 k t227 a2 a3 t235 t236 t242 t244 t247 t248 t249 t252 t253 (!t255) t230 t231 t232 t237 t238 t239)))))) = some r := H
 have A10 := Aside0.mk A100
 clear A100
 replace H := Option.bind_eq_some_iff.mp H
 obtain ⟨t252, A110, H⟩ := H
 replace H : ((deadboltref08_Key.f a2).bind fun t253 => ((root_Right.f k t227).bind fun t254 => (if (t254 != t252) = true then (deadboltlaw09_RootTells.j0 k t227 a2 a3 t235 t236 t242 t244 t247 t248 t249 t252 t253 true t230 t231 t232 t237 t238 t239) else ((deadboltlaw09_alive.f).bind fun t255 => (deadboltlaw09_RootTells.j0 k t227 a2 a3 t235 t236 t242 t244 t247 t248 t249 t252 t253 (!t255) t230 t231 t232 t237 t238 t239))))) = some r := H
 have A11 := Aside0.mk A110
 clear A110
 replace H := Option.bind_eq_some_iff.mp H
 obtain ⟨t253, A120, H⟩ := H
 replace H : ((root_Right.f k t227).bind fun t254 => (if (t254 != t252) = true then (deadboltlaw09_RootTells.j0 k t227 a2 a3 t235 t236 t242 t244 t247 t248 t249 t252 t253 true t230 t231 t232 t237 t238 t239) else ((deadboltlaw09_alive.f).bind fun t255 => (deadboltlaw09_RootTells.j0 k t227 a2 a3 t235 t236 t242 t244 t247 t248 t249 t252 t253 (!t255) t230 t231 t232 t237 t238 t239)))) = some r := H
 have A12 := Aside0.mk A120
 clear A120
 have HC13 := Aside0.mk H
 clear H
 go_enter Try.func4, Try.ntmps4
 try go_wp2_with (first | ((with_reducible refine gate_dst (N := 5) rfl ?_); (try (refine gate_guard (by rfl) ?_; dsimp only)); refine box_event ?hg (N := 5) ?hd (cs := #[.int .i64 a1_0, .int .i64 a1_1, .slice A1_2 l1_2.length c1_2]) (t := 33) ?hr ?_; (case hd => rfl); (case hg => rfl); (case hr => first | (go_simp; done) | (go_simp; rfl)); intro gb226 hg w14 hbox hb; have n0_ := Aside0.mk (below_step (by repeat (first | (with_reducible first | exact HB.out | apply below_alloc | apply pw_below_drewN | apply below_drew1) | exact HB.out)) hb); have n1_ := Aside0.mk (hbox); have n2_ := Aside0.mk ((by rw [hg]; exact (below_size (by repeat (first | (with_reducible first | exact HB.out | apply below_alloc | apply pw_below_drewN | apply below_drew1) | exact HB.out))) : w.heap.size ≤ gb226)); have n3_ := Aside0.mk ((by rw [hg]; exact (below_size (by repeat (first | (with_reducible first | exact HB.out | apply below_alloc | apply pw_below_drewN | apply below_drew1) | exact HB.out))) : w.heap.size ≤ gb226)); clear HB; have HB := n0_; have BK226 := n1_; have GW226 := n2_; have GE226 := n3_; clear n0_ n1_ n2_ n3_; clear hb hbox hg))
 have n0_ := Aside0.mk (blk_drew BK226.out)
 have n1_ := Aside0.mk (below_drew1 HB.out)
 clear BK226
 clear HB
 have BK226 := n0_
 have HB := n1_
 clear n0_ n1_
 refine start_ (n := 6) (S := fun w' => w'.cell? ⟨gb226, 0, none⟩ = some (.int .i64 a1_0) ∧ w'.cell? ⟨gb226, 1, none⟩ = some (.int .i64 a1_1) ∧ w'.cell? ⟨gb226, 2, none⟩ = some (.slice A1_2 l1_2.length c1_2)) (ds := [5]) #[false, false, false, false, false, false] (by kernel_rfl) rfl rfl ⟨(blk_cell BK226.out 0).trans rfl, (blk_cell BK226.out 1).trans rfl, (blk_cell BK226.out 2).trans rfl⟩ (fun hHeld => ?_)
 generalize w14.drew = w15 at BK226 HB hHeld ⊢
 refine pure_ (i := 0) (N := some 20) (v := ?_) (a' := ?_) #[true, false, false, false, false, false] rfl rfl (by kernel_rfl) (fun _ _ _ h => h) (Or.inl ⟨by rfl, ?_⟩) ?_ ?_
 rotate_left
 ·intro w'
  go_simp
  with_reducible rfl
 rotate_left
 ·simp only [Act.put, List.setIfInBounds_toArray, List.set_cons_zero, List.set_cons_succ, i64_w, i32_w]
  rfl
 refine take_ (i := 2) (N := some 22) (v := ?_) (a' := ?_) #[true, false, true, false, false, false] rfl rfl (by kernel_rfl) (fun _ _ _ h => h) (Or.inl ⟨by rfl, ?_⟩) hHeld ?_ ?_
 rotate_left
 ·rintro w' ⟨s0, s1, s2⟩
  go_simp
  with_reducible rfl
 rotate_left
 ·simp only [Act.put, List.setIfInBounds_toArray, List.set_cons_zero, List.set_cons_succ, i64_w, i32_w]
  rfl
 refine one_ (i := 1) (N := some 21) #[true, true, true, false, false, false] rfl rfl (by kernel_rfl) (by decide) (fun K hK => ?_)
 refine goes_ Try.func10 (by kernel_rfl) rfl #[.slice A0 l0.length c0] (by rfl) rfl rfl (by (try simp only [List.map_toArray, List.map_cons, List.map_nil]); first | done | rfl | (simp only [List.length_drop, List.length_take]; rfl)) ?_
 with_reducible refine (deadboltlaw09_few.calls k (fun k_ => k_ < w.heap.size) _ _ l0 t227 _ ?side1 A5.out).mono ?_
 (case side1 => exact Kd.V_mk HC0.out (Kd.F_below (Kd.C_F k33_heap HR0.out) (by repeat (first | (with_reducible first | exact HB.out | apply below_alloc | apply pw_below_drewN | apply below_drew1 | refine below_set ?_ GE226.out) | exact HB.out))))
 rintro e w16 ⟨v228, rfl, ho0, hb⟩
 refine ⟨_, rfl, ?_⟩
 have n0_ := Aside0.mk (Kd.N_lower (Kd.N_mono (ok' := fun k_ => k_ ≠ gb226) ho0 (fun k_ hk_ => Or.elim hk_ (fun hs_ => fun e_ => Nat.not_le.2 hs_ (by rw [e_]; exact GW226.out)) (fun hn_ => (Kd.freshB (g := gb226) (o := .cells #[.int .i64 a1_0, .int .i64 a1_1, .slice A1_2 l1_2.length c1_2] 33 (0, 0)) (by (with_reducible repeat (first | refine blk_drewN ?_ _ | refine blk_drew ?_ | refine blk_alloc ?_ _)); exact BK226.out) k_ hn_)))) (below_size (by repeat (first | (with_reducible first | exact HB.out | apply below_alloc | apply pw_below_drewN | apply below_drew1 | refine below_set ?_ GE226.out) | exact HB.out))))
 have n1_ := Aside0.mk (blk_below (g := gb226) (o := .cells #[.int .i64 a1_0, .int .i64 a1_1, .slice A1_2 l1_2.length c1_2] 33 (0, 0)) (by (with_reducible repeat (first | refine blk_drewN ?_ _ | refine blk_drew ?_ | refine blk_alloc ?_ _)); exact BK226.out) hb)
 have n2_ := Aside0.mk (below_step (by repeat (first | (with_reducible first | exact HB.out | apply below_alloc | apply pw_below_drewN | apply below_drew1 | refine below_set ?_ GE226.out) | exact HB.out)) hb)
 clear BK226
 clear HB
 have HO229 := n0_
 have BK226 := n1_
 have HB := n2_
 clear n0_ n1_ n2_
 (try clear hb)
 (try clear hb2)
 (try clear hk)
 (try clear hi)
 (try clear ho0)
 refine hK.out _ _ ⟨(blk_cell BK226.out 0).trans rfl, (blk_cell BK226.out 1).trans rfl, (blk_cell BK226.out 2).trans rfl⟩ (fun hHeld => ?_)
 clear hK K
 refine norm_ (a' := ?_) ?_ ?_
 rotate_left
 ·show Act.put _ (some 21) _ = _
  simp only [Act.put, List.setIfInBounds_toArray, List.set_cons_zero, List.set_cons_succ, i64_w, i32_w]
  rfl
 refine one_ (i := 3) (N := some 23) #[true, true, true, true, false, false] rfl rfl (by kernel_rfl) (by decide) (fun K hK => ?_)
 refine goes_ Try.func15 (by kernel_rfl) rfl #[.agg #[.int .i64 a1_0, .int .i64 a1_1, .slice A1_2 l1_2.length c1_2]] (by rfl) rfl rfl (by (try simp only [List.map_toArray, List.map_cons, List.map_nil]); first | done | rfl | (simp only [List.length_drop, List.length_take]; rfl)) ?_
 with_reducible refine (deadboltlaw09_cut.calls a1_0 a1_1 (fun k_ => k_ < w.heap.size) _ _ l1_2 t230 t231 t232 _ ?side1 A6.out).mono ?_
 (case side1 => exact Kd.V_mk HC1_2.out (Kd.F_below (Kd.C_F (Kd.heap_int .i64) HR1_2.out) (by repeat (first | (with_reducible first | exact HB.out | apply below_alloc | apply pw_below_drewN | apply below_drew1 | refine below_set ?_ GE226.out) | exact HB.out))))
 rintro e w17 ⟨v233, rfl, ho0, hb⟩
 refine ⟨_, rfl, ?_⟩
 have n0_ := Aside0.mk (Kd.N_below (by (with_reducible repeat (first | apply Kd.N_alloc | apply Kd.N_drewN | apply Kd.N_drew)); exact HO229.out) hb)
 have n1_ := Aside0.mk (Kd.V_lower (Kd.V_mono (ok' := fun k_ => some k_ ≠ (v228 : Value).ownBlock ∧ k_ ≠ gb226) ho0 (fun k_ hk_ => ⟨Or.elim hk_ (fun hs_ => fun e_ => Nat.not_le.2 hs_ (Kd.N_base HO229.out k_ e_.symm)) (fun hn_ => (Kd.fresh' (Kd.N_lt (by (with_reducible repeat (first | apply Kd.N_alloc | apply Kd.N_drewN | apply Kd.N_drew)); exact HO229.out)) k_ hn_)), Or.elim hk_ (fun hs_ => fun e_ => Nat.not_le.2 hs_ (by rw [e_]; exact GW226.out)) (fun hn_ => (Kd.freshB (g := gb226) (o := .cells #[.int .i64 a1_0, .int .i64 a1_1, .slice A1_2 l1_2.length c1_2] 33 (0, 0)) (by (with_reducible repeat (first | refine blk_drewN ?_ _ | refine blk_drew ?_ | refine blk_alloc ?_ _)); exact BK226.out) k_ hn_))⟩)) (below_size (by repeat (first | (with_reducible first | exact HB.out | apply below_alloc | apply pw_below_drewN | apply below_drew1 | refine below_set ?_ GE226.out) | exact HB.out))))
 have n2_ := Aside0.mk (blk_below (g := gb226) (o := .cells #[.int .i64 a1_0, .int .i64 a1_1, .slice A1_2 l1_2.length c1_2] 33 (0, 0)) (by (with_reducible repeat (first | refine blk_drewN ?_ _ | refine blk_drew ?_ | refine blk_alloc ?_ _)); exact BK226.out) hb)
 have n3_ := Aside0.mk (below_step (by repeat (first | (with_reducible first | exact HB.out | apply below_alloc | apply pw_below_drewN | apply below_drew1 | refine below_set ?_ GE226.out) | exact HB.out)) hb)
 clear HO229
 clear BK226
 clear HB
 have HO229 := n0_
 have HO234 := n1_
 have BK226 := n2_
 have HB := n3_
 clear n0_ n1_ n2_ n3_
 (try clear hb)
 (try clear hb2)
 (try clear hk)
 (try clear hi)
 (try clear ho0)
 obtain ⟨Ao20, co20, eo20⟩ := Kd.V_slice HO234.out
 (first | subst eo20 | (injection eo20 with f1_ f2_ f3_; have f4_ := f1_.symm; have f5_ := f3_.symm; clear f1_ f2_ f3_; subst f4_; subst f5_))
 refine hK.out _ _ ⟨(blk_cell BK226.out 0).trans rfl, (blk_cell BK226.out 1).trans rfl, (blk_cell BK226.out 2).trans rfl⟩ (fun hHeld => ?_)
 clear hK K
 refine norm_ (a' := ?_) ?_ ?_
 rotate_left
 ·show Act.put _ (some 23) _ = _
  simp only [Act.put, List.setIfInBounds_toArray, List.set_cons_zero, List.set_cons_succ, i64_w, i32_w]
  rfl
 refine pure_ (i := 4) (N := some 0) (v := ?_) (a' := ?_) #[true, true, true, true, true, false] rfl rfl (by kernel_rfl) (fun _ _ _ h => h) (Or.inl ⟨by rfl, ?_⟩) ?_ ?_
 rotate_left
 ·intro w'
  go_simp
  with_reducible rfl
 rotate_left
 ·simp only [Act.put, List.setIfInBounds_toArray, List.set_cons_zero, List.set_cons_succ, i64_w, i32_w]
  rfl
 refine last_ (i := 5) (N := none) #[true, true, true, true, true, true] rfl rfl (by kernel_rfl) (by decide) (fun K hK => ?_)
 have hs18 : w17.cell? ⟨gb226, 0, none⟩ = some (.int .i64 a1_0) := (blk_cell BK226.out 0).trans rfl
 have hfs18 := blk_frozen BK226.out 0
 have hs19 : w17.cell? ⟨gb226, 1, none⟩ = some (.int .i64 a1_1) := (blk_cell BK226.out 1).trans rfl
 have hfs19 := blk_frozen BK226.out 1
 have hs21 : w17.cell? ⟨gb226, 2, none⟩ = some (.slice A1_2 l1_2.length c1_2) := (blk_cell BK226.out 2).trans rfl
 have hfs21 := blk_frozen BK226.out 2
 refine skip_ (w1 := ?_) (by rfl) rfl ?_ ?_
 rotate_left
 ·go_simp
  rfl
 refine hK.out _ _ ?_
 clear hK K
 refine done_ (by kernel_rfl) ?_
 have n0_ : Aside0 (Kd.N k33 33 (((w17.setCell ⟨gb226, 0, none⟩ (.int .i64 t230)).setCell ⟨gb226, 1, none⟩ (.int .i64 t231)).setCell ⟨gb226, 2, none⟩ (.slice Ao20 t232.length co20)) w.heap.size (fun k_ => k_ ≠ gb226) v228 t227) := ⟨by (with_reducible repeat (first | apply Kd.N_alloc | apply Kd.N_drewN | apply Kd.N_drew)); exact Kd.N_mono (Kd.N_far (p := ⟨gb226, 2, none⟩) (Kd.N_far (p := ⟨gb226, 1, none⟩) (Kd.N_far (p := ⟨gb226, 0, none⟩) (Kd.N_mono HO229.out (fun k_ hk => (⟨hk, hk⟩ : _ ∧ k_ ≠ gb226))) (fun _ hk => hk.2) (.int .i64 t230)) (fun _ hk => hk.2) (.int .i64 t231)) (fun _ hk => hk.2) (.slice Ao20 t232.length co20)) (fun _ hk => hk.1)⟩
 have n1_ : Aside0 (Kd.V (Kd.int .i64) 3 (((w17.setCell ⟨gb226, 0, none⟩ (.int .i64 t230)).setCell ⟨gb226, 1, none⟩ (.int .i64 t231)).setCell ⟨gb226, 2, none⟩ (.slice Ao20 t232.length co20)) w.heap.size (fun k_ => some k_ ≠ (v228 : Value).ownBlock ∧ k_ ≠ gb226) (.slice Ao20 t232.length co20) t232) := ⟨by (with_reducible repeat (first | apply Kd.V_alloc | apply Kd.V_drewN | apply Kd.V_drew)); exact Kd.V_mono (Kd.V_far (p := ⟨gb226, 2, none⟩) (Kd.V_far (p := ⟨gb226, 1, none⟩) (Kd.V_far (p := ⟨gb226, 0, none⟩) (Kd.V_mono HO234.out (fun k_ hk => (⟨hk, hk.2⟩ : _ ∧ k_ ≠ gb226))) (fun _ hk => hk.2) (.int .i64 t230)) (fun _ hk => hk.2) (.int .i64 t231)) (fun _ hk => hk.2) (.slice Ao20 t232.length co20)) (fun _ hk => ⟨hk.1.1, hk.1.2⟩)⟩
 have n2_ : Aside0 ((((w17.setCell ⟨gb226, 0, none⟩ (.int .i64 t230)).setCell ⟨gb226, 1, none⟩ (.int .i64 t231)).setCell ⟨gb226, 2, none⟩ (.slice Ao20 t232.length co20)).heap[gb226]? = some (.cells #[.int .i64 t230, .int .i64 t231, .slice Ao20 t232.length co20] 33 (0, 0))) := ⟨by (with_reducible repeat (first | refine blk_drewN ?_ _ | refine blk_drew ?_ | refine blk_alloc ?_ _)); refine blk_put (cs := #[.int .i64 t230, .int .i64 t231, .slice A1_2 l1_2.length c1_2]) ?_ 2 _ rfl; (with_reducible repeat (first | refine blk_drewN ?_ _ | refine blk_drew ?_ | refine blk_alloc ?_ _)); refine blk_put (cs := #[.int .i64 t230, .int .i64 a1_1, .slice A1_2 l1_2.length c1_2]) ?_ 1 _ rfl; (with_reducible repeat (first | refine blk_drewN ?_ _ | refine blk_drew ?_ | refine blk_alloc ?_ _)); refine blk_put (cs := #[.int .i64 a1_0, .int .i64 a1_1, .slice A1_2 l1_2.length c1_2]) ?_ 0 _ rfl; (with_reducible repeat (first | refine blk_drewN ?_ _ | refine blk_drew ?_ | refine blk_alloc ?_ _)); exact BK226.out⟩
 have n3_ : Aside0 (Below w.heap.size w (((w17.setCell ⟨gb226, 0, none⟩ (.int .i64 t230)).setCell ⟨gb226, 1, none⟩ (.int .i64 t231)).setCell ⟨gb226, 2, none⟩ (.slice Ao20 t232.length co20))) := ⟨by repeat (first | (with_reducible first | exact HB.out | apply below_alloc | apply pw_below_drewN | apply below_drew1 | refine below_set ?_ GE226.out) | exact HB.out)⟩
 (try clear HO229)
 (try clear HO234)
 (try clear BK226)
 (try clear HB)
 generalize (((w17.setCell ⟨gb226, 0, none⟩ (.int .i64 t230)).setCell ⟨gb226, 1, none⟩ (.int .i64 t231)).setCell ⟨gb226, 2, none⟩ (.slice Ao20 t232.length co20)) = w22 at n0_ n1_ n2_ n3_ ⊢
 have HO229 := n0_
 have HO234 := n1_
 have BK226 := n2_
 have HB := n3_
 clear n0_ n1_ n2_ n3_
 go_upto_region 7 with (first | ((with_reducible refine gate_callee (f := 14) rfl ?_); refine goesL_ (some 26) rfl rfl Try.func14 (by kernel_rfl) rfl #[.int .i64 a2] rfl (by (try simp only [List.map_toArray, List.map_cons, List.map_nil]); first | done | rfl | (simp only [List.length_drop, List.length_take]; rfl)) ?_; (with_reducible refine (root_Root.calls a2 t235 t236 _ A7.out).mono ?_); rintro e w' ⟨rfl, ⟨nd, rfl⟩⟩; refine ⟨_, rfl, ?_⟩; (try (rw [drewN_self w22]; generalize hq_ : World.drewN w22 _ = w22; have n0_ : Aside0 (Kd.N k33 33 w22 w.heap.size (fun k_ => k_ ≠ gb226) v228 t227) := ⟨by rw [← hq_]; exact (by (with_reducible repeat (first | apply Kd.N_alloc | apply Kd.N_drewN | apply Kd.N_drew)); exact HO229.out)⟩; have n1_ : Aside0 (Kd.V (Kd.int .i64) 3 w22 w.heap.size (fun k_ => some k_ ≠ (v228 : Value).ownBlock ∧ k_ ≠ gb226) (.slice Ao20 t232.length co20) t232) := ⟨by rw [← hq_]; exact (by (with_reducible repeat (first | apply Kd.V_alloc | apply Kd.V_drewN | apply Kd.V_drew)); exact HO234.out)⟩; have n2_ : Aside0 (w22.heap[gb226]? = some (.cells #[.int .i64 t230, .int .i64 t231, .slice Ao20 t232.length co20] 33 (0, 0))) := ⟨by rw [← hq_]; exact (by (with_reducible repeat (first | refine blk_drewN ?_ _ | refine blk_drew ?_ | refine blk_alloc ?_ _)); exact BK226.out)⟩; have n3_ : Aside0 (Below w.heap.size w w22) := ⟨by rw [← hq_]; exact (by repeat (first | (with_reducible first | exact HB.out | apply below_alloc | apply pw_below_drewN | apply below_drew1 | refine below_set ?_ GE226.out) | exact HB.out))⟩; clear HO229 HO234 BK226 HB hq_; have HO229 := n0_; have HO234 := n1_; have BK226 := n2_; have HB := n3_; clear n0_ n1_ n2_ n3_)); obtain ⟨Ao23, co23, eo23⟩ := Kd.N_slice HO229.out; subst eo23) | ((with_reducible refine gate_callee (f := 16) rfl ?_); refine goesL_ (some 32) rfl rfl Try.func16 (by kernel_rfl) rfl #[.slice Ao23 t227.length co23, .int .i64 a2] rfl (by (try simp only [List.map_toArray, List.map_cons, List.map_nil]); first | done | rfl | (simp only [List.length_drop, List.length_take]; rfl)) ?_; (with_reducible refine (root_Get.calls (fun k_ => k_ ≠ gb226) _ _ t227 a2 t237 t238 t239 t242 _ ?side1 A8.out).mono ?_); (case side1 => exact Kd.N_V (HO229.out)); rintro e w24 ⟨v240, rfl, ho0, hb⟩; refine ⟨_, rfl, ?_⟩; have n0_ := Aside0.mk (Kd.N_below (by (with_reducible repeat (first | apply Kd.N_alloc | apply Kd.N_drewN | apply Kd.N_drew)); exact HO229.out) hb); have n1_ := Aside0.mk (Kd.V_below (by (with_reducible repeat (first | apply Kd.V_alloc | apply Kd.V_drewN | apply Kd.V_drew)); exact HO234.out) hb); have n2_ := Aside0.mk (Kd.V_lower (Kd.V_mono (ok' := fun k_ => k_ ≠ gb226) ho0 (fun k_ hk_ => Or.elim hk_ (fun hs_ => hs_) (fun hn_ => (Kd.freshB (g := gb226) (o := .cells #[.int .i64 t230, .int .i64 t231, .slice Ao20 t232.length co20] 33 (0, 0)) (by (with_reducible repeat (first | refine blk_drewN ?_ _ | refine blk_drew ?_ | refine blk_alloc ?_ _)); exact BK226.out) k_ hn_)))) (below_size (by repeat (first | (with_reducible first | exact HB.out | apply below_alloc | apply pw_below_drewN | apply below_drew1 | refine below_set ?_ GE226.out) | exact HB.out)))); have n3_ := Aside0.mk (blk_below (g := gb226) (o := .cells #[.int .i64 t230, .int .i64 t231, .slice Ao20 t232.length co20] 33 (0, 0)) (by (with_reducible repeat (first | refine blk_drewN ?_ _ | refine blk_drew ?_ | refine blk_alloc ?_ _)); exact BK226.out) hb); have n4_ := Aside0.mk (below_step (by repeat (first | (with_reducible first | exact HB.out | apply below_alloc | apply pw_below_drewN | apply below_drew1 | refine below_set ?_ GE226.out) | exact HB.out)) hb); clear HO229; clear HO234; clear BK226; clear HB; have HO229 := n0_; have HO234 := n1_; have HO241 := n2_; have BK226 := n3_; have HB := n4_; clear n0_ n1_ n2_ n3_ n4_; (try clear hb); (try clear hb2); (try clear hk); (try clear hi); (try clear ho0)) | ((with_reducible refine gate_dst (N := 11) rfl ?_); (try (refine gate_guard (by rfl) ?_; dsimp only)); refine box_event ?hg (N := 11) ?hd (cs := #[.int .i64 0, .int .i64 0, .slice none 0 0]) (t := 33) ?hr ?_; (case hd => rfl); (case hg => rfl); (case hr => first | (go_simp; done) | (go_simp; rfl)); intro gb243 hg w25 hbox hb; have n0_ := Aside0.mk (Kd.N_below (Kd.N_elderB (by (with_reducible repeat (first | apply Kd.N_alloc | apply Kd.N_drewN | apply Kd.N_drew)); exact HO229.out) gb243 (Nat.le_of_eq hg.symm)) hb); have n1_ := Aside0.mk (Kd.V_below (Kd.V_elderB (by (with_reducible repeat (first | apply Kd.V_alloc | apply Kd.V_drewN | apply Kd.V_drew)); exact HO234.out) gb243 (Nat.le_of_eq hg.symm)) hb); have n2_ := Aside0.mk (Kd.V_below (Kd.V_elderB (by (with_reducible repeat (first | apply Kd.V_alloc | apply Kd.V_drewN | apply Kd.V_drew)); exact HO241.out) gb243 (Nat.le_of_eq hg.symm)) hb); have n3_ := Aside0.mk (blk_below (g := gb226) (o := .cells #[.int .i64 t230, .int .i64 t231, .slice Ao20 t232.length co20] 33 (0, 0)) (by (with_reducible repeat (first | refine blk_drewN ?_ _ | refine blk_drew ?_ | refine blk_alloc ?_ _)); exact BK226.out) hb); have n4_ := Aside0.mk (below_step (by repeat (first | (with_reducible first | exact HB.out | apply below_alloc | apply pw_below_drewN | apply below_drew1 | refine below_set ?_ GE226.out) | exact HB.out)) hb); have n5_ := Aside0.mk (hbox); have n6_ := Aside0.mk ((by rw [hg]; exact (below_size (by repeat (first | (with_reducible first | exact HB.out | apply below_alloc | apply pw_below_drewN | apply below_drew1 | refine below_set ?_ GE226.out) | exact HB.out))) : w.heap.size ≤ gb243)); have n7_ := Aside0.mk ((by rw [hg]; exact (below_size (by repeat (first | (with_reducible first | exact HB.out | apply below_alloc | apply pw_below_drewN | apply below_drew1 | refine below_set ?_ GE226.out) | exact HB.out))) : w.heap.size ≤ gb243)); have n8_ := Aside0.mk ((by rw [hg]; exact Nat.ne_of_lt (blk_lt (g := gb226) (o := .cells #[.int .i64 t230, .int .i64 t231, .slice Ao20 t232.length co20] 33 (0, 0)) (by (with_reducible repeat (first | refine blk_drewN ?_ _ | refine blk_drew ?_ | refine blk_alloc ?_ _)); exact BK226.out)) : gb226 ≠ gb243)); have n9_ := Aside0.mk ((by rw [hg]; exact Nat.ne_of_gt (blk_lt (g := gb226) (o := .cells #[.int .i64 t230, .int .i64 t231, .slice Ao20 t232.length co20] 33 (0, 0)) (by (with_reducible repeat (first | refine blk_drewN ?_ _ | refine blk_drew ?_ | refine blk_alloc ?_ _)); exact BK226.out)) : gb243 ≠ gb226)); clear HO229; clear HO234; clear HO241; clear BK226; clear HB; have HO229 := n0_; have HO234 := n1_; have HO241 := n2_; have BK226 := n3_; have HB := n4_; have BK243 := n5_; have GW243 := n6_; have GE243 := n7_; have NB226_243 := n8_; have NB243_226 := n9_; clear n0_ n1_ n2_ n3_ n4_ n5_ n6_ n7_ n8_ n9_; clear hb hbox hg; have hnb26 := NB243_226.out; have hnc26 := NB226_243.out; have hcz27_0 : w25.cell? ⟨gb243, 0, none⟩ = some (.int .i64 0) := (blk_cell BK243.out 0).trans rfl; have hcz27_1 : w25.cell? ⟨gb243, 1, none⟩ = some (.int .i64 0) := (blk_cell BK243.out 1).trans rfl; have hcz27_2 : w25.cell? ⟨gb243, 2, none⟩ = some (.slice none 0 0) := (blk_cell BK243.out 2).trans rfl; have hfz27_0 := blk_frozen BK243.out 0; have hfz27_1 := blk_frozen BK243.out 1; have hfz27_2 := blk_frozen BK243.out 2; obtain ⟨Ao28, co28, eo28⟩ := Kd.V_slice HO241.out; subst eo28) | ((with_reducible refine gate_store (t := 33) (p := 11) rfl ?_); refine store_event (t := 33) (p := 11) (v := ?vo_w29) (w1 := (((w25.setCell ⟨gb243, 0, none⟩ (.int .i64 t237)).setCell ⟨gb243, 1, none⟩ (.int .i64 t238)).setCell ⟨gb243, 2, none⟩ (.slice Ao28 t239.length co28))) ?hg ?ho ?hn ?hr ?_; (case ho => rfl); (case hg => rfl); (case hn => rfl); (case hr => first | (go_simp; done) | (go_simp; rfl)); intro w29 hw; have n0_ : Aside0 (Kd.N k33 33 w29 w.heap.size (fun k_ => k_ ≠ gb226 ∧ k_ ≠ gb243) (.slice Ao23 t227.length co23) t227) := ⟨(by rw [hw]; exact (by (with_reducible repeat (first | apply Kd.N_alloc | apply Kd.N_drewN | apply Kd.N_drew)); exact Kd.N_mono (Kd.N_far (p := ⟨gb243, 2, none⟩) (Kd.N_far (p := ⟨gb243, 1, none⟩) (Kd.N_far (p := ⟨gb243, 0, none⟩) (Kd.N_mono HO229.out (fun k_ hk => (⟨hk, hk.2⟩ : _ ∧ k_ ≠ gb243))) (fun _ hk => hk.2) (.int .i64 t237)) (fun _ hk => hk.2) (.int .i64 t238)) (fun _ hk => hk.2) (.slice Ao28 t239.length co28)) (fun _ hk => ⟨hk.1.1, hk.1.2⟩)))⟩; have n1_ : Aside0 (Kd.V (Kd.int .i64) 3 w29 w.heap.size (fun k_ => some k_ ≠ (.slice Ao23 t227.length co23 : Value).ownBlock ∧ k_ ≠ gb226 ∧ k_ ≠ gb243) (.slice Ao20 t232.length co20) t232) := ⟨(by rw [hw]; exact (by (with_reducible repeat (first | apply Kd.V_alloc | apply Kd.V_drewN | apply Kd.V_drew)); exact Kd.V_mono (Kd.V_far (p := ⟨gb243, 2, none⟩) (Kd.V_far (p := ⟨gb243, 1, none⟩) (Kd.V_far (p := ⟨gb243, 0, none⟩) (Kd.V_mono HO234.out (fun k_ hk => (⟨hk, hk.2⟩ : _ ∧ k_ ≠ gb243))) (fun _ hk => hk.2) (.int .i64 t237)) (fun _ hk => hk.2) (.int .i64 t238)) (fun _ hk => hk.2) (.slice Ao28 t239.length co28)) (fun _ hk => ⟨hk.1.1.1, ⟨hk.1.1.2, hk.1.2⟩⟩)))⟩; have n2_ : Aside0 (Kd.V (Kd.int .i64) 3 w29 w.heap.size (fun k_ => k_ ≠ gb226 ∧ k_ ≠ gb243) (.slice Ao28 t239.length co28) t239) := ⟨(by rw [hw]; exact (by (with_reducible repeat (first | apply Kd.V_alloc | apply Kd.V_drewN | apply Kd.V_drew)); exact Kd.V_mono (Kd.V_far (p := ⟨gb243, 2, none⟩) (Kd.V_far (p := ⟨gb243, 1, none⟩) (Kd.V_far (p := ⟨gb243, 0, none⟩) (Kd.V_mono HO241.out (fun k_ hk => (⟨hk, hk.2⟩ : _ ∧ k_ ≠ gb243))) (fun _ hk => hk.2) (.int .i64 t237)) (fun _ hk => hk.2) (.int .i64 t238)) (fun _ hk => hk.2) (.slice Ao28 t239.length co28)) (fun _ hk => ⟨hk.1.1, hk.1.2⟩)))⟩; have n3_ : Aside0 (w29.heap[gb226]? = some (.cells #[.int .i64 t230, .int .i64 t231, .slice Ao20 t232.length co20] 33 (0, 0))) := ⟨(by rw [hw]; exact (by (with_reducible repeat (first | refine blk_drewN ?_ _ | refine blk_drew ?_ | refine blk_alloc ?_ _)); refine blk_far ?_ NB226_243.out _; (with_reducible repeat (first | refine blk_drewN ?_ _ | refine blk_drew ?_ | refine blk_alloc ?_ _)); refine blk_far ?_ NB226_243.out _; (with_reducible repeat (first | refine blk_drewN ?_ _ | refine blk_drew ?_ | refine blk_alloc ?_ _)); refine blk_far ?_ NB226_243.out _; (with_reducible repeat (first | refine blk_drewN ?_ _ | refine blk_drew ?_ | refine blk_alloc ?_ _)); exact BK226.out))⟩; have n4_ : Aside0 (w29.heap[gb243]? = some (.cells #[.int .i64 t237, .int .i64 t238, .slice Ao28 t239.length co28] 33 (0, 0))) := ⟨(by rw [hw]; exact (by (with_reducible repeat (first | refine blk_drewN ?_ _ | refine blk_drew ?_ | refine blk_alloc ?_ _)); refine blk_put (cs := #[.int .i64 t237, .int .i64 t238, .slice none 0 0]) ?_ 2 _ rfl; (with_reducible repeat (first | refine blk_drewN ?_ _ | refine blk_drew ?_ | refine blk_alloc ?_ _)); refine blk_put (cs := #[.int .i64 t237, .int .i64 0, .slice none 0 0]) ?_ 1 _ rfl; (with_reducible repeat (first | refine blk_drewN ?_ _ | refine blk_drew ?_ | refine blk_alloc ?_ _)); refine blk_put (cs := #[.int .i64 0, .int .i64 0, .slice none 0 0]) ?_ 0 _ rfl; (with_reducible repeat (first | refine blk_drewN ?_ _ | refine blk_drew ?_ | refine blk_alloc ?_ _)); exact BK243.out))⟩; have n5_ : Aside0 (Below w.heap.size w w29) := ⟨(by rw [hw]; exact (by repeat (first | (with_reducible first | exact HB.out | apply below_alloc | apply pw_below_drewN | apply below_drew1 | refine below_set ?_ GE226.out | refine below_set ?_ GE243.out) | exact HB.out)))⟩; clear hw; clear HO229; clear HO234; clear HO241; clear BK226; clear BK243; clear HB; have HO229 := n0_; have HO234 := n1_; have HO241 := n2_; have BK226 := n3_; have BK243 := n4_; have HB := n5_; clear n0_ n1_ n2_ n3_ n4_ n5_; have hcz30_0 : w29.cell? ⟨gb226, 0, none⟩ = some (.int .i64 t230) := (blk_cell BK226.out 0).trans rfl; have hcz30_1 : w29.cell? ⟨gb226, 1, none⟩ = some (.int .i64 t231) := (blk_cell BK226.out 1).trans rfl; have hcz30_2 : w29.cell? ⟨gb226, 2, none⟩ = some (.slice Ao20 t232.length co20) := (blk_cell BK226.out 2).trans rfl; have hfz30_0 := blk_frozen BK226.out 0; have hfz30_1 := blk_frozen BK226.out 1; have hfz30_2 := blk_frozen BK226.out 2) | ((with_reducible refine gate_callee (f := 17) rfl ?_); refine goesL_ (some 38) rfl rfl Try.func17 (by kernel_rfl) rfl #[.slice Ao23 t227.length co23, .agg #[.int .i64 t230, .int .i64 t231, .slice Ao20 t232.length co20]] rfl (by (try simp only [List.map_toArray, List.map_cons, List.map_nil]); first | done | rfl | (simp only [List.length_drop, List.length_take]; rfl)) ?_; (with_reducible refine (root_Set.calls (fun k_ => (k_ ≠ gb226 ∧ k_ ≠ gb243)) _ _ t227 t230 t231 (fun k_ => (some k_ ≠ (.slice Ao23 t227.length co23 : Value).ownBlock ∧ (k_ ≠ gb226 ∧ k_ ≠ gb243))) _ _ t232 t244 t247 _ ?side1 ?side2 A9.out).mono ?_); (case side1 => exact Kd.N_V (HO229.out)); (case side2 => exact HO234.out); rintro e w31 ⟨v245, rfl, ho0, hb⟩; refine ⟨_, rfl, ?_⟩; have n0_ := Aside0.mk (Kd.N_below (by (with_reducible repeat (first | apply Kd.N_alloc | apply Kd.N_drewN | apply Kd.N_drew)); exact HO229.out) hb); have n1_ := Aside0.mk (Kd.V_below (by (with_reducible repeat (first | apply Kd.V_alloc | apply Kd.V_drewN | apply Kd.V_drew)); exact HO234.out) hb); have n2_ := Aside0.mk (Kd.V_below (by (with_reducible repeat (first | apply Kd.V_alloc | apply Kd.V_drewN | apply Kd.V_drew)); exact HO241.out) hb); have n3_ := Aside0.mk (Kd.V_lower (Kd.V_mono (ok' := fun k_ => k_ ≠ gb226 ∧ k_ ≠ gb243) ho0 (fun k_ hk_ => ⟨Or.elim hk_ (fun hs_ => Or.elim hs_ (fun hs_ => hs_.1) (fun hs_ => hs_.2.1)) (fun hn_ => (Kd.freshB (g := gb226) (o := .cells #[.int .i64 t230, .int .i64 t231, .slice Ao20 t232.length co20] 33 (0, 0)) (by (with_reducible repeat (first | refine blk_drewN ?_ _ | refine blk_drew ?_ | refine blk_alloc ?_ _)); exact BK226.out) k_ hn_)), Or.elim hk_ (fun hs_ => Or.elim hs_ (fun hs_ => hs_.2) (fun hs_ => hs_.2.2)) (fun hn_ => (Kd.freshB (g := gb243) (o := .cells #[.int .i64 t237, .int .i64 t238, .slice Ao28 t239.length co28] 33 (0, 0)) (by (with_reducible repeat (first | refine blk_drewN ?_ _ | refine blk_drew ?_ | refine blk_alloc ?_ _)); exact BK243.out) k_ hn_))⟩)) (below_size (by repeat (first | (with_reducible first | exact HB.out | apply below_alloc | apply pw_below_drewN | apply below_drew1 | refine below_set ?_ GE226.out | refine below_set ?_ GE243.out) | exact HB.out)))); have n4_ := Aside0.mk (blk_below (g := gb226) (o := .cells #[.int .i64 t230, .int .i64 t231, .slice Ao20 t232.length co20] 33 (0, 0)) (by (with_reducible repeat (first | refine blk_drewN ?_ _ | refine blk_drew ?_ | refine blk_alloc ?_ _)); exact BK226.out) hb); have n5_ := Aside0.mk (blk_below (g := gb243) (o := .cells #[.int .i64 t237, .int .i64 t238, .slice Ao28 t239.length co28] 33 (0, 0)) (by (with_reducible repeat (first | refine blk_drewN ?_ _ | refine blk_drew ?_ | refine blk_alloc ?_ _)); exact BK243.out) hb); have n6_ := Aside0.mk (below_step (by repeat (first | (with_reducible first | exact HB.out | apply below_alloc | apply pw_below_drewN | apply below_drew1 | refine below_set ?_ GE226.out | refine below_set ?_ GE243.out) | exact HB.out)) hb); clear HO229; clear HO234; clear HO241; clear BK226; clear BK243; clear HB; have HO229 := n0_; have HO234 := n1_; have HO241 := n2_; have HO246 := n3_; have BK226 := n4_; have BK243 := n5_; have HB := n6_; clear n0_ n1_ n2_ n3_ n4_ n5_ n6_; (try clear hb); (try clear hb2); (try clear hk); (try clear hi); (try clear ho0)) | ((with_reducible refine gate_callee (f := 12) rfl ?_); refine goesL_ (some 44) rfl rfl Try.func12 (by kernel_rfl) rfl #[.slice Ao23 t227.length co23, .int .i64 a3] rfl (by (try simp only [List.map_toArray, List.map_cons, List.map_nil]); first | done | rfl | (simp only [List.length_drop, List.length_take]; rfl)) ?_; (with_reducible refine (root_Under.calls k _ _ t227 a3 t248 t249 _ ?side1 ?side2 A10.out).mono ?_); (case side1 => repeat (first | exact (Kd.N_reads' HO229.out).2.2 | (with_reducible refine Kd.C_alloc ?_ _) | (with_reducible refine Kd.C_drewN ?_ _) | (with_reducible refine Kd.C_drew ?_))); (case side2 => exact (Kd.N_reads' HO229.out).2.1); rintro e w32 ⟨v250, rfl, ho0, hb⟩; refine ⟨_, rfl, ?_⟩; have n0_ := Aside0.mk (Kd.N_elder' (by (with_reducible repeat (first | apply Kd.N_alloc | apply Kd.N_drewN | apply Kd.N_drew)); exact HO229.out) (Kd.R_base ho0) hb); have n1_ := Aside0.mk (Kd.V_elder' (by (with_reducible repeat (first | apply Kd.V_alloc | apply Kd.V_drewN | apply Kd.V_drew)); exact HO234.out) (Kd.R_base ho0) hb); have n2_ := Aside0.mk (Kd.V_elder' (by (with_reducible repeat (first | apply Kd.V_alloc | apply Kd.V_drewN | apply Kd.V_drew)); exact HO241.out) (Kd.R_base ho0) hb); have n3_ := Aside0.mk (Kd.V_elder' (by (with_reducible repeat (first | apply Kd.V_alloc | apply Kd.V_drewN | apply Kd.V_drew)); exact HO246.out) (Kd.R_base ho0) hb); have n4_ := Aside0.mk (Kd.R_lower ho0 (below_size (by repeat (first | (with_reducible first | exact HB.out | apply below_alloc | apply pw_below_drewN | apply below_drew1 | refine below_set ?_ GE226.out | refine below_set ?_ GE243.out) | exact HB.out)))); have n5_ := Aside0.mk (blk_below (g := gb226) (o := .cells #[.int .i64 t230, .int .i64 t231, .slice Ao20 t232.length co20] 33 (0, 0)) (by (with_reducible repeat (first | refine blk_drewN ?_ _ | refine blk_drew ?_ | refine blk_alloc ?_ _)); exact BK226.out) hb); have n6_ := Aside0.mk (blk_below (g := gb243) (o := .cells #[.int .i64 t237, .int .i64 t238, .slice Ao28 t239.length co28] 33 (0, 0)) (by (with_reducible repeat (first | refine blk_drewN ?_ _ | refine blk_drew ?_ | refine blk_alloc ?_ _)); exact BK243.out) hb); have n7_ := Aside0.mk (below_step (by repeat (first | (with_reducible first | exact HB.out | apply below_alloc | apply pw_below_drewN | apply below_drew1 | refine below_set ?_ GE226.out | refine below_set ?_ GE243.out) | exact HB.out)) hb); clear HO229; clear HO234; clear HO241; clear HO246; clear BK226; clear BK243; clear HB; have HO229 := n0_; have HO234 := n1_; have HO241 := n2_; have HO246 := n3_; have HO251 := n4_; have BK226 := n5_; have BK243 := n6_; have HB := n7_; clear n0_ n1_ n2_ n3_ n4_ n5_ n6_ n7_; (try clear hb); (try clear hb2); (try clear hk); (try clear hi); (try clear ho0)) | ((with_reducible refine gate_callee (f := 18) rfl ?_); refine goesL_ (some 48) rfl rfl Try.func18 (by kernel_rfl) rfl #[.slice Ao23 t227.length co23] rfl (by (try simp only [List.map_toArray, List.map_cons, List.map_nil]); first | done | rfl | (simp only [List.length_drop, List.length_take]; rfl)) ?_; (with_reducible refine (deadboltref09_Right.calls k _ _ t227 t252 _ ?side1 ?side2 A11.out).mono ?_); (case side1 => repeat (first | exact (Kd.N_reads' HO229.out).2.2 | (with_reducible refine Kd.C_alloc ?_ _) | (with_reducible refine Kd.C_drewN ?_ _) | (with_reducible refine Kd.C_drew ?_))); (case side2 => exact (Kd.N_reads' HO229.out).2.1); rintro e w33 ⟨rfl, hb⟩; refine ⟨_, rfl, ?_⟩; have n0_ := Aside0.mk (Kd.N_below (by (with_reducible repeat (first | apply Kd.N_alloc | apply Kd.N_drewN | apply Kd.N_drew)); exact HO229.out) hb); have n1_ := Aside0.mk (Kd.V_below (by (with_reducible repeat (first | apply Kd.V_alloc | apply Kd.V_drewN | apply Kd.V_drew)); exact HO234.out) hb); have n2_ := Aside0.mk (Kd.V_below (by (with_reducible repeat (first | apply Kd.V_alloc | apply Kd.V_drewN | apply Kd.V_drew)); exact HO241.out) hb); have n3_ := Aside0.mk (Kd.V_below (by (with_reducible repeat (first | apply Kd.V_alloc | apply Kd.V_drewN | apply Kd.V_drew)); exact HO246.out) hb); have n4_ := Aside0.mk (Kd.R_below (by (with_reducible repeat (first | apply Kd.R_alloc | apply Kd.R_drewN | apply Kd.R_drew)); exact HO251.out) hb); have n5_ := Aside0.mk (blk_below (g := gb226) (o := .cells #[.int .i64 t230, .int .i64 t231, .slice Ao20 t232.length co20] 33 (0, 0)) (by (with_reducible repeat (first | refine blk_drewN ?_ _ | refine blk_drew ?_ | refine blk_alloc ?_ _)); exact BK226.out) hb); have n6_ := Aside0.mk (blk_below (g := gb243) (o := .cells #[.int .i64 t237, .int .i64 t238, .slice Ao28 t239.length co28] 33 (0, 0)) (by (with_reducible repeat (first | refine blk_drewN ?_ _ | refine blk_drew ?_ | refine blk_alloc ?_ _)); exact BK243.out) hb); have n7_ := Aside0.mk (below_step (by repeat (first | (with_reducible first | exact HB.out | apply below_alloc | apply pw_below_drewN | apply below_drew1 | refine below_set ?_ GE226.out | refine below_set ?_ GE243.out) | exact HB.out)) hb); clear HO229; clear HO234; clear HO241; clear HO246; clear HO251; clear BK226; clear BK243; clear HB; have HO229 := n0_; have HO234 := n1_; have HO241 := n2_; have HO246 := n3_; have HO251 := n4_; have BK226 := n5_; have BK243 := n6_; have HB := n7_; clear n0_ n1_ n2_ n3_ n4_ n5_ n6_ n7_; (try clear hb); (try clear hb2); (try clear hk); (try clear hi)) | ((with_reducible refine gate_callee (f := 19) rfl ?_); refine goesL_ (some 50) rfl rfl Try.func19 (by kernel_rfl) rfl #[.int .i64 a2] rfl (by (try simp only [List.map_toArray, List.map_cons, List.map_nil]); first | done | rfl | (simp only [List.length_drop, List.length_take]; rfl)) ?_; (with_reducible refine (deadboltref08_Key.calls a2 t253 _ A12.out).mono ?_); rintro e w' ⟨rfl, ⟨nd, rfl⟩⟩; refine ⟨_, rfl, ?_⟩))
 (try simp only [Act.put, List.setIfInBounds_toArray, List.set_cons_zero, List.set_cons_succ])
 go_cut [58] (fun v58 wc => ∃ (kq : Nat) (x58_12 : Bool), v58 = .bool x58_12 ∧ Aside0 (deadboltlaw09_RootTells.j0 kq t227 a2 a3 t235 t236 t242 t244 t247 t248 t249 t252 t253 x58_12 t230 t231 t232 t237 t238 t239 = some r) ∧ Aside0 (kq ≤ k) ∧ Aside0 (Kd.N k33 33 wc w.heap.size (fun k_ => some k_ ≠ (v250 : Value).ownBlock ∧ k_ ≠ gb226 ∧ k_ ≠ gb243) (.slice Ao23 t227.length co23) t227) ∧ Aside0 (Kd.V k33 33 wc w.heap.size (fun k_ => some k_ ≠ (v250 : Value).ownBlock ∧ k_ ≠ gb226 ∧ k_ ≠ gb243) v245 t244) ∧ Aside0 (Kd.R (Kd.int .i64) 3 wc w.heap.size (fun _ => True) v250 t248) ∧ Aside0 (Kd.V (Kd.int .i64) 3 wc w.heap.size (fun k_ => some k_ ≠ ((.slice Ao23 t227.length co23) : Value).ownBlock ∧ some k_ ≠ (v250 : Value).ownBlock ∧ k_ ≠ gb226 ∧ k_ ≠ gb243) (.slice Ao20 t232.length co20) t232) ∧ Aside0 (Kd.V (Kd.int .i64) 3 wc w.heap.size (fun k_ => some k_ ≠ (v250 : Value).ownBlock ∧ k_ ≠ gb226 ∧ k_ ≠ gb243) (.slice Ao28 t239.length co28) t239) ∧ Aside0 (wc.heap[gb226]? = some (.cells #[.int .i64 t230, .int .i64 t231, (.slice Ao20 t232.length co20)] 33 (0, 0))) ∧ Aside0 (wc.heap[gb243]? = some (.cells #[.int .i64 t237, .int .i64 t238, (.slice Ao28 t239.length co28)] 33 (0, 0))) ∧ Aside0 (Below w.heap.size w wc))
 case first =>
  have H := HC13.out
  clear HC13
  replace H := Option.bind_eq_some_iff.mp H
  obtain ⟨t254, A340, H⟩ := H
  replace H : (if (t254 != t252) = true then (deadboltlaw09_RootTells.j0 k t227 a2 a3 t235 t236 t242 t244 t247 t248 t249 t252 t253 true t230 t231 t232 t237 t238 t239) else ((deadboltlaw09_alive.f).bind fun t255 => (deadboltlaw09_RootTells.j0 k t227 a2 a3 t235 t236 t242 t244 t247 t248 t249 t252 t253 (!t255) t230 t231 t232 t237 t238 t239))) = some r := H
  have A34 := Aside0.mk A340
  clear A340
  by_cases c35 : (t254 != t252) = true
  ·rw [if_pos c35] at H
   have c35b0 : (t254 != t252) = true := c35
   (try (have c35b1 : decide (t254 = t252) = false := by simpa using c35))
   (try (have c35b2 : (t254 == t252) = false := by simpa using c35))
   (try (have c35b3 : ¬ (t254 = t252) := by simpa using c35))
   clear c35
   (first | rw [c35b0] | (simp only [i64_w, i32_w]; rw [c35b0]) | skip)
   have H' := Aside0.mk H
   clear H
   go_wp2_with (first | ((with_reducible refine gate_callee (f := 11) rfl ?_); refine goesL_ (some 52) rfl rfl Try.func11 (by kernel_rfl) rfl #[.slice Ao23 t227.length co23] rfl (by (try simp only [List.map_toArray, List.map_cons, List.map_nil]); first | done | rfl | (simp only [List.length_drop, List.length_take]; rfl)) ?_; (with_reducible refine (root_Right.calls k _ _ t227 t254 _ ?side1 ?side2 A34.out).mono ?_); (case side1 => repeat (first | exact (Kd.N_reads' HO229.out).2.2 | (with_reducible refine Kd.C_alloc ?_ _) | (with_reducible refine Kd.C_drewN ?_ _) | (with_reducible refine Kd.C_drew ?_))); (case side2 => exact (Kd.N_reads' HO229.out).2.1); rintro e w36 ⟨rfl, hb⟩; refine ⟨_, rfl, ?_⟩; have n0_ := Aside0.mk (Kd.N_below (by (with_reducible repeat (first | apply Kd.N_alloc | apply Kd.N_drewN | apply Kd.N_drew)); exact HO229.out) hb); have n1_ := Aside0.mk (Kd.V_below (by (with_reducible repeat (first | apply Kd.V_alloc | apply Kd.V_drewN | apply Kd.V_drew)); exact HO234.out) hb); have n2_ := Aside0.mk (Kd.V_below (by (with_reducible repeat (first | apply Kd.V_alloc | apply Kd.V_drewN | apply Kd.V_drew)); exact HO241.out) hb); have n3_ := Aside0.mk (Kd.V_below (by (with_reducible repeat (first | apply Kd.V_alloc | apply Kd.V_drewN | apply Kd.V_drew)); exact HO246.out) hb); have n4_ := Aside0.mk (Kd.R_below (by (with_reducible repeat (first | apply Kd.R_alloc | apply Kd.R_drewN | apply Kd.R_drew)); exact HO251.out) hb); have n5_ := Aside0.mk (blk_below (g := gb226) (o := .cells #[.int .i64 t230, .int .i64 t231, .slice Ao20 t232.length co20] 33 (0, 0)) (by (with_reducible repeat (first | refine blk_drewN ?_ _ | refine blk_drew ?_ | refine blk_alloc ?_ _)); exact BK226.out) hb); have n6_ := Aside0.mk (blk_below (g := gb243) (o := .cells #[.int .i64 t237, .int .i64 t238, .slice Ao28 t239.length co28] 33 (0, 0)) (by (with_reducible repeat (first | refine blk_drewN ?_ _ | refine blk_drew ?_ | refine blk_alloc ?_ _)); exact BK243.out) hb); have n7_ := Aside0.mk (below_step (by repeat (first | (with_reducible first | exact HB.out | apply below_alloc | apply pw_below_drewN | apply below_drew1 | refine below_set ?_ GE226.out | refine below_set ?_ GE243.out) | exact HB.out)) hb); clear HO229; clear HO234; clear HO241; clear HO246; clear HO251; clear BK226; clear BK243; clear HB; have HO229 := n0_; have HO234 := n1_; have HO241 := n2_; have HO246 := n3_; have HO251 := n4_; have BK226 := n5_; have BK243 := n6_; have HB := n7_; clear n0_ n1_ n2_ n3_ n4_ n5_ n6_ n7_; (try clear hb); (try clear hb2); (try clear hk); (try clear hi)))
   go_meet
   case rel => exact ⟨_, (true), (by first | rfl | (simp; done) | (simp [*]; done)), H', ⟨by first | omega | exact Nat.le_refl _⟩, ⟨by (with_reducible repeat (first | apply Kd.N_alloc | apply Kd.N_drewN | apply Kd.N_drew)); exact Kd.N_mono HO229.out (fun _ hk => ⟨hk.2, ⟨hk.1.1, hk.1.2⟩⟩)⟩, ⟨by (with_reducible repeat (first | apply Kd.V_alloc | apply Kd.V_drewN | apply Kd.V_drew)); exact Kd.V_mono HO246.out (fun _ hk => ⟨hk.2, ⟨hk.1.1, hk.1.2⟩⟩)⟩, ⟨by (with_reducible repeat (first | apply Kd.R_alloc | apply Kd.R_drewN | apply Kd.R_drew)); exact HO251.out⟩, ⟨by (with_reducible repeat (first | apply Kd.V_alloc | apply Kd.V_drewN | apply Kd.V_drew)); exact Kd.V_mono HO234.out (fun _ hk => ⟨hk.1.1, ⟨hk.2, ⟨hk.1.2.1, hk.1.2.2⟩⟩⟩)⟩, ⟨by (with_reducible repeat (first | apply Kd.V_alloc | apply Kd.V_drewN | apply Kd.V_drew)); exact Kd.V_mono HO241.out (fun _ hk => ⟨hk.2, ⟨hk.1.1, hk.1.2⟩⟩)⟩, ⟨by (with_reducible repeat (first | refine blk_drewN ?_ _ | refine blk_drew ?_ | refine blk_alloc ?_ _)); exact BK226.out⟩, ⟨by (with_reducible repeat (first | refine blk_drewN ?_ _ | refine blk_drew ?_ | refine blk_alloc ?_ _)); exact BK243.out⟩, ⟨by repeat (first | (with_reducible first | exact HB.out | apply below_alloc | apply pw_below_drewN | apply below_drew1 | refine below_set ?_ GE226.out | refine below_set ?_ GE243.out) | exact HB.out)⟩⟩
  ·rw [if_neg c35] at H
   have c35b0 : (t254 != t252) = false := by simpa using c35
   (try (have c35b1 : decide (t254 = t252) = true := by simpa using c35))
   (try (have c35b2 : (t254 == t252) = true := by simpa using c35))
   clear c35
   (first | rw [c35b0] | (simp only [i64_w, i32_w]; rw [c35b0]) | skip)
   replace H := Option.bind_eq_some_iff.mp H
   obtain ⟨t255, A370, H⟩ := H
   replace H : (deadboltlaw09_RootTells.j0 k t227 a2 a3 t235 t236 t242 t244 t247 t248 t249 t252 t253 (!t255) t230 t231 t232 t237 t238 t239) = some r := H
   have A37 := Aside0.mk A370
   clear A370
   have H' := Aside0.mk H
   clear H
   go_wp2_with (first | ((with_reducible refine gate_callee (f := 11) rfl ?_); refine goesL_ (some 52) rfl rfl Try.func11 (by kernel_rfl) rfl #[.slice Ao23 t227.length co23] rfl (by (try simp only [List.map_toArray, List.map_cons, List.map_nil]); first | done | rfl | (simp only [List.length_drop, List.length_take]; rfl)) ?_; (with_reducible refine (root_Right.calls k _ _ t227 t254 _ ?side1 ?side2 A34.out).mono ?_); (case side1 => repeat (first | exact (Kd.N_reads' HO229.out).2.2 | (with_reducible refine Kd.C_alloc ?_ _) | (with_reducible refine Kd.C_drewN ?_ _) | (with_reducible refine Kd.C_drew ?_))); (case side2 => exact (Kd.N_reads' HO229.out).2.1); rintro e w38 ⟨rfl, hb⟩; refine ⟨_, rfl, ?_⟩; have n0_ := Aside0.mk (Kd.N_below (by (with_reducible repeat (first | apply Kd.N_alloc | apply Kd.N_drewN | apply Kd.N_drew)); exact HO229.out) hb); have n1_ := Aside0.mk (Kd.V_below (by (with_reducible repeat (first | apply Kd.V_alloc | apply Kd.V_drewN | apply Kd.V_drew)); exact HO234.out) hb); have n2_ := Aside0.mk (Kd.V_below (by (with_reducible repeat (first | apply Kd.V_alloc | apply Kd.V_drewN | apply Kd.V_drew)); exact HO241.out) hb); have n3_ := Aside0.mk (Kd.V_below (by (with_reducible repeat (first | apply Kd.V_alloc | apply Kd.V_drewN | apply Kd.V_drew)); exact HO246.out) hb); have n4_ := Aside0.mk (Kd.R_below (by (with_reducible repeat (first | apply Kd.R_alloc | apply Kd.R_drewN | apply Kd.R_drew)); exact HO251.out) hb); have n5_ := Aside0.mk (blk_below (g := gb226) (o := .cells #[.int .i64 t230, .int .i64 t231, .slice Ao20 t232.length co20] 33 (0, 0)) (by (with_reducible repeat (first | refine blk_drewN ?_ _ | refine blk_drew ?_ | refine blk_alloc ?_ _)); exact BK226.out) hb); have n6_ := Aside0.mk (blk_below (g := gb243) (o := .cells #[.int .i64 t237, .int .i64 t238, .slice Ao28 t239.length co28] 33 (0, 0)) (by (with_reducible repeat (first | refine blk_drewN ?_ _ | refine blk_drew ?_ | refine blk_alloc ?_ _)); exact BK243.out) hb); have n7_ := Aside0.mk (below_step (by repeat (first | (with_reducible first | exact HB.out | apply below_alloc | apply pw_below_drewN | apply below_drew1 | refine below_set ?_ GE226.out | refine below_set ?_ GE243.out) | exact HB.out)) hb); clear HO229; clear HO234; clear HO241; clear HO246; clear HO251; clear BK226; clear BK243; clear HB; have HO229 := n0_; have HO234 := n1_; have HO241 := n2_; have HO246 := n3_; have HO251 := n4_; have BK226 := n5_; have BK243 := n6_; have HB := n7_; clear n0_ n1_ n2_ n3_ n4_ n5_ n6_ n7_; (try clear hb); (try clear hb2); (try clear hk); (try clear hi)) | (go_at_call 13; (with_reducible refine (deadboltlaw09_alive.calls  t255 _ A37.out).mono ?_); rintro e w39 ⟨rfl, hb⟩; have n0_ := Aside0.mk (Kd.N_below (by (with_reducible repeat (first | apply Kd.N_alloc | apply Kd.N_drewN | apply Kd.N_drew)); exact HO229.out) hb); have n1_ := Aside0.mk (Kd.V_below (by (with_reducible repeat (first | apply Kd.V_alloc | apply Kd.V_drewN | apply Kd.V_drew)); exact HO234.out) hb); have n2_ := Aside0.mk (Kd.V_below (by (with_reducible repeat (first | apply Kd.V_alloc | apply Kd.V_drewN | apply Kd.V_drew)); exact HO241.out) hb); have n3_ := Aside0.mk (Kd.V_below (by (with_reducible repeat (first | apply Kd.V_alloc | apply Kd.V_drewN | apply Kd.V_drew)); exact HO246.out) hb); have n4_ := Aside0.mk (Kd.R_below (by (with_reducible repeat (first | apply Kd.R_alloc | apply Kd.R_drewN | apply Kd.R_drew)); exact HO251.out) hb); have n5_ := Aside0.mk (blk_below (g := gb226) (o := .cells #[.int .i64 t230, .int .i64 t231, .slice Ao20 t232.length co20] 33 (0, 0)) (by (with_reducible repeat (first | refine blk_drewN ?_ _ | refine blk_drew ?_ | refine blk_alloc ?_ _)); exact BK226.out) hb); have n6_ := Aside0.mk (blk_below (g := gb243) (o := .cells #[.int .i64 t237, .int .i64 t238, .slice Ao28 t239.length co28] 33 (0, 0)) (by (with_reducible repeat (first | refine blk_drewN ?_ _ | refine blk_drew ?_ | refine blk_alloc ?_ _)); exact BK243.out) hb); have n7_ := Aside0.mk (below_step (by repeat (first | (with_reducible first | exact HB.out | apply below_alloc | apply pw_below_drewN | apply below_drew1 | refine below_set ?_ GE226.out | refine below_set ?_ GE243.out) | exact HB.out)) hb); clear HO229; clear HO234; clear HO241; clear HO246; clear HO251; clear BK226; clear BK243; clear HB; have HO229 := n0_; have HO234 := n1_; have HO241 := n2_; have HO246 := n3_; have HO251 := n4_; have BK226 := n5_; have BK243 := n6_; have HB := n7_; clear n0_ n1_ n2_ n3_ n4_ n5_ n6_ n7_; (try clear hb); (try clear hb2); (try clear hk); (try clear hi)))
   go_meet
   case rel => exact ⟨_, (!t255), (by first | rfl | (simp; done) | (simp [*]; done)), H', ⟨by first | omega | exact Nat.le_refl _⟩, ⟨by (with_reducible repeat (first | apply Kd.N_alloc | apply Kd.N_drewN | apply Kd.N_drew)); exact Kd.N_mono HO229.out (fun _ hk => ⟨hk.2, ⟨hk.1.1, hk.1.2⟩⟩)⟩, ⟨by (with_reducible repeat (first | apply Kd.V_alloc | apply Kd.V_drewN | apply Kd.V_drew)); exact Kd.V_mono HO246.out (fun _ hk => ⟨hk.2, ⟨hk.1.1, hk.1.2⟩⟩)⟩, ⟨by (with_reducible repeat (first | apply Kd.R_alloc | apply Kd.R_drewN | apply Kd.R_drew)); exact HO251.out⟩, ⟨by (with_reducible repeat (first | apply Kd.V_alloc | apply Kd.V_drewN | apply Kd.V_drew)); exact Kd.V_mono HO234.out (fun _ hk => ⟨hk.1.1, ⟨hk.2, ⟨hk.1.2.1, hk.1.2.2⟩⟩⟩)⟩, ⟨by (with_reducible repeat (first | apply Kd.V_alloc | apply Kd.V_drewN | apply Kd.V_drew)); exact Kd.V_mono HO241.out (fun _ hk => ⟨hk.2, ⟨hk.1.1, hk.1.2⟩⟩)⟩, ⟨by (with_reducible repeat (first | refine blk_drewN ?_ _ | refine blk_drew ?_ | refine blk_alloc ?_ _)); exact BK226.out⟩, ⟨by (with_reducible repeat (first | refine blk_drewN ?_ _ | refine blk_drew ?_ | refine blk_alloc ?_ _)); exact BK243.out⟩, ⟨by repeat (first | (with_reducible first | exact HB.out | apply below_alloc | apply pw_below_drewN | apply below_drew1 | refine below_set ?_ GE226.out | refine below_set ?_ GE243.out) | exact HB.out)⟩⟩
 case rest =>
  clear HC13
  try clear c1
  try clear c2
  try clear p2
  try clear c3
  try clear c4
  try clear c10
  try clear c11
  try clear c12
  try clear c14
  try clear c15
  try clear c16
  try clear c17
  try clear c18
  try clear c19
  try clear c26
  try clear c35
  try clear c35b0
  try clear c35b1
  try clear c35b2
  try clear hcz27_0
  try clear hcz27_1
  try clear hcz27_2
  try clear hcz30_0
  try clear hcz30_1
  try clear hcz30_2
  try clear hfz27_0
  try clear hfz27_1
  try clear hfz27_2
  try clear hfz30_0
  try clear hfz30_1
  try clear hfz30_2
  obtain ⟨kq, x58_12, rfl, HA, HJ12, HO_0, HO_13, HO_15, HO_227002, HO_244002, BK226, BK243, HB⟩ := hcut
  cases kq with
  | zero => exact absurd HA.out (by simp [deadboltlaw09_RootTells.j0])
  | succ kj12 =>
   have H := HA.out
   clear HA
   simp only [deadboltlaw09_RootTells.j0] at H
   by_cases c40 : x58_12 = true
   ·subst c40
    have H1 : (some false) = some r := by rw [if_pos rfl] at H; exact H
    clear H
    have H := H1
    clear H1
    obtain rfl := Option.some.inj H
    go_wp2
    go_ret
    exact ⟨by first | rfl | (simp [errW_none, errW_some] <;> rfl) | (simp [*, errW_none, errW_some] <;> rfl), by repeat (first | (with_reducible first | exact HB.out | apply below_alloc | apply pw_below_drewN | apply below_drew1 | refine below_set ?_ GE226.out | refine below_set ?_ GE243.out) | exact HB.out)⟩
   ·replace c40 := Bool.eq_false_iff.mpr c40
    subst c40
    have H1 : (if t253 = true then (if t236 = 0 then ((deadboltref09_Root.f a2).bind fun t256 => (if t235 = t256 then (deadboltlaw09_RootTells.j1 kj12 t227 a2 a3 t242 t244 t247 t248 t249 t252 t253 t230 t231 t232 t237 t238 t239) else (some false))) else (some false)) else (if t236 = 1 then (if t235 = 0 then (deadboltlaw09_RootTells.j1 kj12 t227 a2 a3 t242 t244 t247 t248 t249 t252 t253 t230 t231 t232 t237 t238 t239) else (some false)) else (some false))) = some r := by rw [if_neg (show ¬ (false = true) by decide)] at H; exact H
    clear H
    have H := H1
    clear H1
    have HC41 := Aside0.mk H
    clear H
    go_upto_if 60 with (fail)
    go_cut [] (fun wc => ∃ (kq : Nat), Aside0 (deadboltlaw09_RootTells.j1 kq t227 a2 a3 t242 t244 t247 t248 t249 t252 t253 t230 t231 t232 t237 t238 t239 = some r) ∧ Aside0 (kq ≤ kj12) ∧ Aside0 (Kd.N k33 33 wc w.heap.size (fun k_ => some k_ ≠ (v250 : Value).ownBlock ∧ k_ ≠ gb226 ∧ k_ ≠ gb243) (.slice Ao23 t227.length co23) t227) ∧ Aside0 (Kd.V k33 33 wc w.heap.size (fun k_ => some k_ ≠ (v250 : Value).ownBlock ∧ k_ ≠ gb226 ∧ k_ ≠ gb243) v245 t244) ∧ Aside0 (Kd.R (Kd.int .i64) 3 wc w.heap.size (fun _ => True) v250 t248) ∧ Aside0 (Kd.V (Kd.int .i64) 3 wc w.heap.size (fun k_ => some k_ ≠ ((.slice Ao23 t227.length co23) : Value).ownBlock ∧ some k_ ≠ (v250 : Value).ownBlock ∧ k_ ≠ gb226 ∧ k_ ≠ gb243) (.slice Ao20 t232.length co20) t232) ∧ Aside0 (Kd.V (Kd.int .i64) 3 wc w.heap.size (fun k_ => some k_ ≠ (v250 : Value).ownBlock ∧ k_ ≠ gb226 ∧ k_ ≠ gb243) (.slice Ao28 t239.length co28) t239) ∧ Aside0 (wc.heap[gb226]? = some (.cells #[.int .i64 t230, .int .i64 t231, (.slice Ao20 t232.length co20)] 33 (0, 0))) ∧ Aside0 (wc.heap[gb243]? = some (.cells #[.int .i64 t237, .int .i64 t238, (.slice Ao28 t239.length co28)] 33 (0, 0))) ∧ Aside0 (Below w.heap.size w wc))
    case first =>
     have H := HC41.out
     clear HC41
     by_cases c42 : t253 = true
     ·subst c42
      have H1 : (if t236 = 0 then ((deadboltref09_Root.f a2).bind fun t256 => (if t235 = t256 then (deadboltlaw09_RootTells.j1 kj12 t227 a2 a3 t242 t244 t247 t248 t249 t252 true t230 t231 t232 t237 t238 t239) else (some false))) else (some false)) = some r := by rw [if_pos rfl] at H; exact H
      clear H
      have H := H1
      clear H1
      by_cases c43 : t236 = 0
      ·rw [if_pos c43] at H
       have c43b0 : (t236 == 0) = true := beq_iff_eq.mpr c43
       have c43b1 : (t236 != 0) = false := bne_eq_false_iff_eq.mpr c43
       clear c43
       (first | rw [c43b0] | (simp only [i64_w, i32_w]; rw [c43b0]) | skip)
       replace H := Option.bind_eq_some_iff.mp H
       obtain ⟨t256, A440, H⟩ := H
       replace H : (if t235 = t256 then (deadboltlaw09_RootTells.j1 kj12 t227 a2 a3 t242 t244 t247 t248 t249 t252 true t230 t231 t232 t237 t238 t239) else (some false)) = some r := H
       have A44 := Aside0.mk A440
       clear A440
       by_cases c45 : t235 = t256
       ·rw [if_pos c45] at H
        have c45b0 : (t235 == t256) = true := beq_iff_eq.mpr c45
        have c45b1 : (t235 != t256) = false := bne_eq_false_iff_eq.mpr c45
        clear c45
        have H' := Aside0.mk H
        clear H
        go_wp2_with (first | (go_at_call 20; (with_reducible refine (deadboltref09_Root.calls a2 t256 _ A44.out).mono ?_); rintro e w' ⟨rfl, ⟨nd, rfl⟩⟩))
        go_meet
        case rel => exact ⟨_, H', ⟨by have := HJ12.out; first | omega | exact Nat.le_refl _⟩, ⟨by (with_reducible repeat (first | apply Kd.N_alloc | apply Kd.N_drewN | apply Kd.N_drew)); exact HO_0.out⟩, ⟨by (with_reducible repeat (first | apply Kd.V_alloc | apply Kd.V_drewN | apply Kd.V_drew)); exact HO_13.out⟩, ⟨by (with_reducible repeat (first | apply Kd.R_alloc | apply Kd.R_drewN | apply Kd.R_drew)); exact HO_15.out⟩, ⟨by (with_reducible repeat (first | apply Kd.V_alloc | apply Kd.V_drewN | apply Kd.V_drew)); exact HO_227002.out⟩, ⟨by (with_reducible repeat (first | apply Kd.V_alloc | apply Kd.V_drewN | apply Kd.V_drew)); exact HO_244002.out⟩, ⟨by (with_reducible repeat (first | refine blk_drewN ?_ _ | refine blk_drew ?_ | refine blk_alloc ?_ _)); exact BK226.out⟩, ⟨by (with_reducible repeat (first | refine blk_drewN ?_ _ | refine blk_drew ?_ | refine blk_alloc ?_ _)); exact BK243.out⟩, ⟨by repeat (first | (with_reducible first | exact HB.out | apply below_alloc | apply pw_below_drewN | apply below_drew1 | refine below_set ?_ GE226.out | refine below_set ?_ GE243.out) | exact HB.out)⟩⟩
       ·rw [if_neg c45] at H
        have c45b0 : (t235 == t256) = false := beq_eq_false_iff_ne.mpr c45
        have c45b1 : (t235 != t256) = true := bne_iff_ne.mpr c45
        obtain rfl := Option.some.inj H
        go_wp2_with (first | (go_at_call 20; (with_reducible refine (deadboltref09_Root.calls a2 t256 _ A44.out).mono ?_); rintro e w' ⟨rfl, ⟨nd, rfl⟩⟩))
        go_ret
        exact ⟨by first | rfl | (simp [errW_none, errW_some] <;> rfl) | (simp [*, errW_none, errW_some] <;> rfl), by repeat (first | (with_reducible first | exact HB.out | apply below_alloc | apply pw_below_drewN | apply below_drew1 | refine below_set ?_ GE226.out | refine below_set ?_ GE243.out) | exact HB.out)⟩
      ·rw [if_neg c43] at H
       have c43b0 : (t236 == 0) = false := beq_eq_false_iff_ne.mpr c43
       have c43b1 : (t236 != 0) = true := bne_iff_ne.mpr c43
       (first | rw [c43b0] | (simp only [i64_w, i32_w]; rw [c43b0]) | skip)
       obtain rfl := Option.some.inj H
       go_wp2
       go_ret
       exact ⟨by first | rfl | (simp [errW_none, errW_some] <;> rfl) | (simp [*, errW_none, errW_some] <;> rfl), by repeat (first | (with_reducible first | exact HB.out | apply below_alloc | apply pw_below_drewN | apply below_drew1 | refine below_set ?_ GE226.out | refine below_set ?_ GE243.out) | exact HB.out)⟩
     ·replace c42 := Bool.eq_false_iff.mpr c42
      subst c42
      have H1 : (if t236 = 1 then (if t235 = 0 then (deadboltlaw09_RootTells.j1 kj12 t227 a2 a3 t242 t244 t247 t248 t249 t252 false t230 t231 t232 t237 t238 t239) else (some false)) else (some false)) = some r := by rw [if_neg (show ¬ (false = true) by decide)] at H; exact H
      clear H
      have H := H1
      clear H1
      by_cases c46 : t236 = 1
      ·rw [if_pos c46] at H
       have c46b0 : (t236 == 1) = true := beq_iff_eq.mpr c46
       have c46b1 : (t236 != 1) = false := bne_eq_false_iff_eq.mpr c46
       clear c46
       by_cases c47 : t235 = 0
       ·rw [if_pos c47] at H
        have c47b0 : (t235 == 0) = true := beq_iff_eq.mpr c47
        have c47b1 : (t235 != 0) = false := bne_eq_false_iff_eq.mpr c47
        clear c47
        have H' := Aside0.mk H
        clear H
        go_wp2
        go_meet
        case rel => exact ⟨_, H', ⟨by have := HJ12.out; first | omega | exact Nat.le_refl _⟩, ⟨by (with_reducible repeat (first | apply Kd.N_alloc | apply Kd.N_drewN | apply Kd.N_drew)); exact HO_0.out⟩, ⟨by (with_reducible repeat (first | apply Kd.V_alloc | apply Kd.V_drewN | apply Kd.V_drew)); exact HO_13.out⟩, ⟨by (with_reducible repeat (first | apply Kd.R_alloc | apply Kd.R_drewN | apply Kd.R_drew)); exact HO_15.out⟩, ⟨by (with_reducible repeat (first | apply Kd.V_alloc | apply Kd.V_drewN | apply Kd.V_drew)); exact HO_227002.out⟩, ⟨by (with_reducible repeat (first | apply Kd.V_alloc | apply Kd.V_drewN | apply Kd.V_drew)); exact HO_244002.out⟩, ⟨by (with_reducible repeat (first | refine blk_drewN ?_ _ | refine blk_drew ?_ | refine blk_alloc ?_ _)); exact BK226.out⟩, ⟨by (with_reducible repeat (first | refine blk_drewN ?_ _ | refine blk_drew ?_ | refine blk_alloc ?_ _)); exact BK243.out⟩, ⟨by repeat (first | (with_reducible first | exact HB.out | apply below_alloc | apply pw_below_drewN | apply below_drew1 | refine below_set ?_ GE226.out | refine below_set ?_ GE243.out) | exact HB.out)⟩⟩
       ·rw [if_neg c47] at H
        have c47b0 : (t235 == 0) = false := beq_eq_false_iff_ne.mpr c47
        have c47b1 : (t235 != 0) = true := bne_iff_ne.mpr c47
        obtain rfl := Option.some.inj H
        go_wp2
        go_ret
        exact ⟨by first | rfl | (simp [errW_none, errW_some] <;> rfl) | (simp [*, errW_none, errW_some] <;> rfl), by repeat (first | (with_reducible first | exact HB.out | apply below_alloc | apply pw_below_drewN | apply below_drew1 | refine below_set ?_ GE226.out | refine below_set ?_ GE243.out) | exact HB.out)⟩
      ·rw [if_neg c46] at H
       have c46b0 : (t236 == 1) = false := beq_eq_false_iff_ne.mpr c46
       have c46b1 : (t236 != 1) = true := bne_iff_ne.mpr c46
       obtain rfl := Option.some.inj H
       go_wp2
       go_ret
       exact ⟨by first | rfl | (simp [errW_none, errW_some] <;> rfl) | (simp [*, errW_none, errW_some] <;> rfl), by repeat (first | (with_reducible first | exact HB.out | apply below_alloc | apply pw_below_drewN | apply below_drew1 | refine below_set ?_ GE226.out | refine below_set ?_ GE243.out) | exact HB.out)⟩
    case rest =>
     clear HC41
     try clear c1
     try clear c2
     try clear p2
     try clear c3
     try clear c4
     try clear c10
     try clear c11
     try clear c12
     try clear c14
     try clear c15
     try clear c16
     try clear c17
     try clear c18
     try clear c19
     try clear c26
     try clear c35
     try clear c35b0
     try clear c35b1
     try clear c35b2
     try clear c40
     try clear c42
     try clear c43
     try clear c43b0
     try clear c43b1
     try clear c45
     try clear c45b0
     try clear c45b1
     try clear c46
     try clear c46b0
     try clear c46b1
     try clear c47
     try clear c47b0
     try clear c47b1
     try clear hcz27_0
     try clear hcz27_1
     try clear hcz27_2
     try clear hcz30_0
     try clear hcz30_1
     try clear hcz30_2
     try clear hfz27_0
     try clear hfz27_1
     try clear hfz27_2
     try clear hfz30_0
     try clear hfz30_1
     try clear hfz30_2
     try clear p2
     obtain ⟨kq, HA, HJ40, HO_0, HO_13, HO_15, HO_227002, HO_244002, BK226, BK243, HB⟩ := hcut
     cases kq with
     | zero => exact absurd HA.out (by simp [deadboltlaw09_RootTells.j1])
     | succ kj40 =>
      have H := HA.out
      clear HA
      simp only [deadboltlaw09_RootTells.j1] at H
      have HC48 := Aside0.mk H
      clear H
      go_upto_region 14 with (fail)
      go_cut [80] (fun v80 wc => ∃ (kq : Nat) (x80_47 : Bool), v80 = .bool x80_47 ∧ Aside0 (deadboltlaw09_RootTells.j2 kq t227 a2 a3 t242 t244 t247 t248 t249 t252 x80_47 t230 t231 t232 t237 t238 t239 = some r) ∧ Aside0 (kq ≤ kj40) ∧ Aside0 (Kd.N k33 33 wc w.heap.size (fun k_ => some k_ ≠ (v250 : Value).ownBlock ∧ k_ ≠ gb226 ∧ k_ ≠ gb243) (.slice Ao23 t227.length co23) t227) ∧ Aside0 (Kd.V k33 33 wc w.heap.size (fun k_ => some k_ ≠ (v250 : Value).ownBlock ∧ k_ ≠ gb226 ∧ k_ ≠ gb243) v245 t244) ∧ Aside0 (Kd.R (Kd.int .i64) 3 wc w.heap.size (fun _ => True) v250 t248) ∧ Aside0 (Kd.V (Kd.int .i64) 3 wc w.heap.size (fun k_ => some k_ ≠ ((.slice Ao23 t227.length co23) : Value).ownBlock ∧ some k_ ≠ (v250 : Value).ownBlock ∧ k_ ≠ gb226 ∧ k_ ≠ gb243) (.slice Ao20 t232.length co20) t232) ∧ Aside0 (Kd.V (Kd.int .i64) 3 wc w.heap.size (fun k_ => some k_ ≠ (v250 : Value).ownBlock ∧ k_ ≠ gb226 ∧ k_ ≠ gb243) (.slice Ao28 t239.length co28) t239) ∧ Aside0 (wc.heap[gb226]? = some (.cells #[.int .i64 t230, .int .i64 t231, (.slice Ao20 t232.length co20)] 33 (0, 0))) ∧ Aside0 (wc.heap[gb243]? = some (.cells #[.int .i64 t237, .int .i64 t238, (.slice Ao28 t239.length co28)] 33 (0, 0))) ∧ Aside0 (Below w.heap.size w wc))
      case first =>
       have H := HC48.out
       clear HC48
       by_cases c49 : t252 = true
       ·subst c49
        have H1 : (deadboltlaw09_RootTells.j2 kj40 t227 a2 a3 t242 t244 t247 t248 t249 true (!t253) t230 t231 t232 t237 t238 t239) = some r := by rw [if_pos rfl] at H; exact H
        clear H
        have H := H1
        clear H1
        have H' := Aside0.mk H
        clear H
        go_wp2
        go_meet
        case rel => exact ⟨_, (!t253), (by first | rfl | (simp; done) | (simp [*]; done)), H', ⟨by have := HJ12.out; have := HJ40.out; first | omega | exact Nat.le_refl _⟩, ⟨by (with_reducible repeat (first | apply Kd.N_alloc | apply Kd.N_drewN | apply Kd.N_drew)); exact HO_0.out⟩, ⟨by (with_reducible repeat (first | apply Kd.V_alloc | apply Kd.V_drewN | apply Kd.V_drew)); exact HO_13.out⟩, ⟨by (with_reducible repeat (first | apply Kd.R_alloc | apply Kd.R_drewN | apply Kd.R_drew)); exact HO_15.out⟩, ⟨by (with_reducible repeat (first | apply Kd.V_alloc | apply Kd.V_drewN | apply Kd.V_drew)); exact HO_227002.out⟩, ⟨by (with_reducible repeat (first | apply Kd.V_alloc | apply Kd.V_drewN | apply Kd.V_drew)); exact HO_244002.out⟩, ⟨by (with_reducible repeat (first | refine blk_drewN ?_ _ | refine blk_drew ?_ | refine blk_alloc ?_ _)); exact BK226.out⟩, ⟨by (with_reducible repeat (first | refine blk_drewN ?_ _ | refine blk_drew ?_ | refine blk_alloc ?_ _)); exact BK243.out⟩, ⟨by repeat (first | (with_reducible first | exact HB.out | apply below_alloc | apply pw_below_drewN | apply below_drew1 | refine below_set ?_ GE226.out | refine below_set ?_ GE243.out) | exact HB.out)⟩⟩
       ·replace c49 := Bool.eq_false_iff.mpr c49
        subst c49
        have H1 : (deadboltlaw09_RootTells.j2 kj40 t227 a2 a3 t242 t244 t247 t248 t249 false true t230 t231 t232 t237 t238 t239) = some r := by rw [if_neg (show ¬ (false = true) by decide)] at H; exact H
        clear H
        have H := H1
        clear H1
        have H' := Aside0.mk H
        clear H
        go_wp2
        go_meet
        case rel => exact ⟨_, (true), (by first | rfl | (simp; done) | (simp [*]; done)), H', ⟨by have := HJ12.out; have := HJ40.out; first | omega | exact Nat.le_refl _⟩, ⟨by (with_reducible repeat (first | apply Kd.N_alloc | apply Kd.N_drewN | apply Kd.N_drew)); exact HO_0.out⟩, ⟨by (with_reducible repeat (first | apply Kd.V_alloc | apply Kd.V_drewN | apply Kd.V_drew)); exact HO_13.out⟩, ⟨by (with_reducible repeat (first | apply Kd.R_alloc | apply Kd.R_drewN | apply Kd.R_drew)); exact HO_15.out⟩, ⟨by (with_reducible repeat (first | apply Kd.V_alloc | apply Kd.V_drewN | apply Kd.V_drew)); exact HO_227002.out⟩, ⟨by (with_reducible repeat (first | apply Kd.V_alloc | apply Kd.V_drewN | apply Kd.V_drew)); exact HO_244002.out⟩, ⟨by (with_reducible repeat (first | refine blk_drewN ?_ _ | refine blk_drew ?_ | refine blk_alloc ?_ _)); exact BK226.out⟩, ⟨by (with_reducible repeat (first | refine blk_drewN ?_ _ | refine blk_drew ?_ | refine blk_alloc ?_ _)); exact BK243.out⟩, ⟨by repeat (first | (with_reducible first | exact HB.out | apply below_alloc | apply pw_below_drewN | apply below_drew1 | refine below_set ?_ GE226.out | refine below_set ?_ GE243.out) | exact HB.out)⟩⟩
      case rest =>
       clear HC48
       try clear c1
       try clear c2
       try clear p2
       try clear c3
       try clear c4
       try clear c10
       try clear c11
       try clear c12
       try clear c14
       try clear c15
       try clear c16
       try clear c17
       try clear c18
       try clear c19
       try clear c26
       try clear c35
       try clear c35b0
       try clear c35b1
       try clear c35b2
       try clear c40
       try clear c42
       try clear c43
       try clear c43b0
       try clear c43b1
       try clear c45
       try clear c45b0
       try clear c45b1
       try clear c46
       try clear c46b0
       try clear c46b1
       try clear c47
       try clear c47b0
       try clear c47b1
       try clear c49
       try clear hcz27_0
       try clear hcz27_1
       try clear hcz27_2
       try clear hcz30_0
       try clear hcz30_1
       try clear hcz30_2
       try clear hfz27_0
       try clear hfz27_1
       try clear hfz27_2
       try clear hfz30_0
       try clear hfz30_1
       try clear hfz30_2
       try clear p2
       obtain ⟨kq, x80_47, rfl, HA, HJ47, HO_0, HO_13, HO_15, HO_227002, HO_244002, BK226, BK243, HB⟩ := hcut
       cases kq with
       | zero => exact absurd HA.out (by simp [deadboltlaw09_RootTells.j2])
       | succ kj47 =>
        have H := HA.out
        clear HA
        simp only [deadboltlaw09_RootTells.j2] at H
        have HC50 := Aside0.mk H
        clear H
        go_upto_if 80 with (fail)
        go_cut [] (fun wc => ∃ (kq : Nat), Aside0 (deadboltlaw09_RootTells.j3 kq t227 a3 t244 t247 t248 t249 t252 t230 t231 t232 = some r) ∧ Aside0 (kq ≤ kj47) ∧ Aside0 (Kd.N k33 33 wc w.heap.size (fun k_ => some k_ ≠ (v250 : Value).ownBlock ∧ k_ ≠ gb226 ∧ k_ ≠ gb243) (.slice Ao23 t227.length co23) t227) ∧ Aside0 (Kd.V k33 33 wc w.heap.size (fun k_ => some k_ ≠ (v250 : Value).ownBlock ∧ k_ ≠ gb226 ∧ k_ ≠ gb243) v245 t244) ∧ Aside0 (Kd.R (Kd.int .i64) 3 wc w.heap.size (fun _ => True) v250 t248) ∧ Aside0 (Kd.V (Kd.int .i64) 3 wc w.heap.size (fun k_ => some k_ ≠ ((.slice Ao23 t227.length co23) : Value).ownBlock ∧ some k_ ≠ (v250 : Value).ownBlock ∧ k_ ≠ gb226 ∧ k_ ≠ gb243) (.slice Ao20 t232.length co20) t232) ∧ Aside0 (Kd.V (Kd.int .i64) 3 wc w.heap.size (fun k_ => some k_ ≠ (v250 : Value).ownBlock ∧ k_ ≠ gb226 ∧ k_ ≠ gb243) (.slice Ao28 t239.length co28) t239) ∧ Aside0 (wc.heap[gb226]? = some (.cells #[.int .i64 t230, .int .i64 t231, (.slice Ao20 t232.length co20)] 33 (0, 0))) ∧ Aside0 (wc.heap[gb243]? = some (.cells #[.int .i64 t237, .int .i64 t238, (.slice Ao28 t239.length co28)] 33 (0, 0))) ∧ Aside0 (Below w.heap.size w wc))
        case first =>
         have H := HC50.out
         clear HC50
         by_cases c51 : x80_47 = true
         ·subst c51
          have H1 : (if t242 = 1 then ((deadboltref09_Spots.f kj47 t237 t238 t239 0 0 ([] : List Int)).bind fun t257 => (if t257 = true then (deadboltlaw09_RootTells.j3 kj47 t227 a3 t244 t247 t248 t249 t252 t230 t231 t232) else (some false))) else (some false)) = some r := by rw [if_pos rfl] at H; exact H
          clear H
          have H := H1
          clear H1
          by_cases c52 : t242 = 1
          ·rw [if_pos c52] at H
           have c52b0 : (t242 == 1) = true := beq_iff_eq.mpr c52
           have c52b1 : (t242 != 1) = false := bne_eq_false_iff_eq.mpr c52
           clear c52
           (first | rw [c52b0] | (simp only [i64_w, i32_w]; rw [c52b0]) | skip)
           replace H := Option.bind_eq_some_iff.mp H
           obtain ⟨t257, A530, H⟩ := H
           replace H : (if t257 = true then (deadboltlaw09_RootTells.j3 kj47 t227 a3 t244 t247 t248 t249 t252 t230 t231 t232) else (some false)) = some r := H
           have A53 := Aside0.mk A530
           clear A530
           by_cases c54 : t257 = true
           ·subst c54
            have H1 : (deadboltlaw09_RootTells.j3 kj47 t227 a3 t244 t247 t248 t249 t252 t230 t231 t232) = some r := by rw [if_pos rfl] at H; exact H
            clear H
            have H := H1
            clear H1
            have H' := Aside0.mk H
            clear H
            have hnb55 := NB243_226.out
            have hnc55 := NB226_243.out
            have hcz56_0 : wc.cell? ⟨gb243, 0, none⟩ = some (.int .i64 t237) := (blk_cell BK243.out 0).trans rfl
            have hcz56_1 : wc.cell? ⟨gb243, 1, none⟩ = some (.int .i64 t238) := (blk_cell BK243.out 1).trans rfl
            have hcz56_2 : wc.cell? ⟨gb243, 2, none⟩ = some (.slice Ao28 t239.length co28) := (blk_cell BK243.out 2).trans rfl
            have hfz56_0 := blk_frozen BK243.out 0
            have hfz56_1 := blk_frozen BK243.out 1
            have hfz56_2 := blk_frozen BK243.out 2
            go_wp2_with (first | (go_at_call 21; (refine (deadboltref09_Spots.calls kj47 t237 t238 _ _ t239 0 0 _ _ ([] : List Int) true _ ?side1 ?side2 ?side3 ?side4 A53.out).mono ?_); (case side1 => repeat (first | exact (Kd.V_reads' HO_244002.out).2.2 | (with_reducible refine Kd.C_alloc ?_ _) | (with_reducible refine Kd.C_drewN ?_ _) | (with_reducible refine Kd.C_drew ?_))); (case side2 => exact (Kd.V_reads' HO_244002.out).2.1); (case side3 => exact Kd.C_nil _ _); (case side4 => exact Nat.le_refl _); rintro e w57 ⟨rfl, hb⟩; have n0_ := Aside0.mk (Kd.N_below (by (with_reducible repeat (first | apply Kd.N_alloc | apply Kd.N_drewN | apply Kd.N_drew)); exact HO_0.out) hb); have n1_ := Aside0.mk (Kd.V_below (by (with_reducible repeat (first | apply Kd.V_alloc | apply Kd.V_drewN | apply Kd.V_drew)); exact HO_13.out) hb); have n2_ := Aside0.mk (Kd.R_below (by (with_reducible repeat (first | apply Kd.R_alloc | apply Kd.R_drewN | apply Kd.R_drew)); exact HO_15.out) hb); have n3_ := Aside0.mk (Kd.V_below (by (with_reducible repeat (first | apply Kd.V_alloc | apply Kd.V_drewN | apply Kd.V_drew)); exact HO_227002.out) hb); have n4_ := Aside0.mk (Kd.V_below (by (with_reducible repeat (first | apply Kd.V_alloc | apply Kd.V_drewN | apply Kd.V_drew)); exact HO_244002.out) hb); have n5_ := Aside0.mk (blk_below (g := gb226) (o := .cells #[.int .i64 t230, .int .i64 t231, .slice Ao20 t232.length co20] 33 (0, 0)) (by (with_reducible repeat (first | refine blk_drewN ?_ _ | refine blk_drew ?_ | refine blk_alloc ?_ _)); exact BK226.out) hb); have n6_ := Aside0.mk (blk_below (g := gb243) (o := .cells #[.int .i64 t237, .int .i64 t238, .slice Ao28 t239.length co28] 33 (0, 0)) (by (with_reducible repeat (first | refine blk_drewN ?_ _ | refine blk_drew ?_ | refine blk_alloc ?_ _)); exact BK243.out) hb); have n7_ := Aside0.mk (below_step (by repeat (first | (with_reducible first | exact HB.out | apply below_alloc | apply pw_below_drewN | apply below_drew1 | refine below_set ?_ GE226.out | refine below_set ?_ GE243.out) | exact HB.out)) hb); clear HO_0; clear HO_13; clear HO_15; clear HO_227002; clear HO_244002; clear BK226; clear BK243; clear HB; have HO_0 := n0_; have HO_13 := n1_; have HO_15 := n2_; have HO_227002 := n3_; have HO_244002 := n4_; have BK226 := n5_; have BK243 := n6_; have HB := n7_; clear n0_ n1_ n2_ n3_ n4_ n5_ n6_ n7_; (try clear hb); (try clear hb2); (try clear hk); (try clear hi)))
            go_meet
            case rel => exact ⟨_, H', ⟨by have := HJ12.out; have := HJ40.out; have := HJ47.out; first | omega | exact Nat.le_refl _⟩, ⟨by (with_reducible repeat (first | apply Kd.N_alloc | apply Kd.N_drewN | apply Kd.N_drew)); exact HO_0.out⟩, ⟨by (with_reducible repeat (first | apply Kd.V_alloc | apply Kd.V_drewN | apply Kd.V_drew)); exact HO_13.out⟩, ⟨by (with_reducible repeat (first | apply Kd.R_alloc | apply Kd.R_drewN | apply Kd.R_drew)); exact HO_15.out⟩, ⟨by (with_reducible repeat (first | apply Kd.V_alloc | apply Kd.V_drewN | apply Kd.V_drew)); exact HO_227002.out⟩, ⟨by (with_reducible repeat (first | apply Kd.V_alloc | apply Kd.V_drewN | apply Kd.V_drew)); exact HO_244002.out⟩, ⟨by (with_reducible repeat (first | refine blk_drewN ?_ _ | refine blk_drew ?_ | refine blk_alloc ?_ _)); exact BK226.out⟩, ⟨by (with_reducible repeat (first | refine blk_drewN ?_ _ | refine blk_drew ?_ | refine blk_alloc ?_ _)); exact BK243.out⟩, ⟨by repeat (first | (with_reducible first | exact HB.out | apply below_alloc | apply pw_below_drewN | apply below_drew1 | refine below_set ?_ GE226.out | refine below_set ?_ GE243.out) | exact HB.out)⟩⟩
           ·replace c54 := Bool.eq_false_iff.mpr c54
            subst c54
            have H1 : (some false) = some r := by rw [if_neg (show ¬ (false = true) by decide)] at H; exact H
            clear H
            have H := H1
            clear H1
            obtain rfl := Option.some.inj H
            have hnb58 := NB243_226.out
            have hnc58 := NB226_243.out
            have hcz59_0 : wc.cell? ⟨gb243, 0, none⟩ = some (.int .i64 t237) := (blk_cell BK243.out 0).trans rfl
            have hcz59_1 : wc.cell? ⟨gb243, 1, none⟩ = some (.int .i64 t238) := (blk_cell BK243.out 1).trans rfl
            have hcz59_2 : wc.cell? ⟨gb243, 2, none⟩ = some (.slice Ao28 t239.length co28) := (blk_cell BK243.out 2).trans rfl
            have hfz59_0 := blk_frozen BK243.out 0
            have hfz59_1 := blk_frozen BK243.out 1
            have hfz59_2 := blk_frozen BK243.out 2
            go_wp2_with (first | (go_at_call 21; (refine (deadboltref09_Spots.calls kj47 t237 t238 _ _ t239 0 0 _ _ ([] : List Int) false _ ?side1 ?side2 ?side3 ?side4 A53.out).mono ?_); (case side1 => repeat (first | exact (Kd.V_reads' HO_244002.out).2.2 | (with_reducible refine Kd.C_alloc ?_ _) | (with_reducible refine Kd.C_drewN ?_ _) | (with_reducible refine Kd.C_drew ?_))); (case side2 => exact (Kd.V_reads' HO_244002.out).2.1); (case side3 => exact Kd.C_nil _ _); (case side4 => exact Nat.le_refl _); rintro e w60 ⟨rfl, hb⟩; have n0_ := Aside0.mk (Kd.N_below (by (with_reducible repeat (first | apply Kd.N_alloc | apply Kd.N_drewN | apply Kd.N_drew)); exact HO_0.out) hb); have n1_ := Aside0.mk (Kd.V_below (by (with_reducible repeat (first | apply Kd.V_alloc | apply Kd.V_drewN | apply Kd.V_drew)); exact HO_13.out) hb); have n2_ := Aside0.mk (Kd.R_below (by (with_reducible repeat (first | apply Kd.R_alloc | apply Kd.R_drewN | apply Kd.R_drew)); exact HO_15.out) hb); have n3_ := Aside0.mk (Kd.V_below (by (with_reducible repeat (first | apply Kd.V_alloc | apply Kd.V_drewN | apply Kd.V_drew)); exact HO_227002.out) hb); have n4_ := Aside0.mk (Kd.V_below (by (with_reducible repeat (first | apply Kd.V_alloc | apply Kd.V_drewN | apply Kd.V_drew)); exact HO_244002.out) hb); have n5_ := Aside0.mk (blk_below (g := gb226) (o := .cells #[.int .i64 t230, .int .i64 t231, .slice Ao20 t232.length co20] 33 (0, 0)) (by (with_reducible repeat (first | refine blk_drewN ?_ _ | refine blk_drew ?_ | refine blk_alloc ?_ _)); exact BK226.out) hb); have n6_ := Aside0.mk (blk_below (g := gb243) (o := .cells #[.int .i64 t237, .int .i64 t238, .slice Ao28 t239.length co28] 33 (0, 0)) (by (with_reducible repeat (first | refine blk_drewN ?_ _ | refine blk_drew ?_ | refine blk_alloc ?_ _)); exact BK243.out) hb); have n7_ := Aside0.mk (below_step (by repeat (first | (with_reducible first | exact HB.out | apply below_alloc | apply pw_below_drewN | apply below_drew1 | refine below_set ?_ GE226.out | refine below_set ?_ GE243.out) | exact HB.out)) hb); clear HO_0; clear HO_13; clear HO_15; clear HO_227002; clear HO_244002; clear BK226; clear BK243; clear HB; have HO_0 := n0_; have HO_13 := n1_; have HO_15 := n2_; have HO_227002 := n3_; have HO_244002 := n4_; have BK226 := n5_; have BK243 := n6_; have HB := n7_; clear n0_ n1_ n2_ n3_ n4_ n5_ n6_ n7_; (try clear hb); (try clear hb2); (try clear hk); (try clear hi)))
            go_ret
            exact ⟨by first | rfl | (simp [errW_none, errW_some] <;> rfl) | (simp [*, errW_none, errW_some] <;> rfl), by repeat (first | (with_reducible first | exact HB.out | apply below_alloc | apply pw_below_drewN | apply below_drew1 | refine below_set ?_ GE226.out | refine below_set ?_ GE243.out) | exact HB.out)⟩
          ·rw [if_neg c52] at H
           have c52b0 : (t242 == 1) = false := beq_eq_false_iff_ne.mpr c52
           have c52b1 : (t242 != 1) = true := bne_iff_ne.mpr c52
           (first | rw [c52b0] | (simp only [i64_w, i32_w]; rw [c52b0]) | skip)
           obtain rfl := Option.some.inj H
           go_wp2
           go_ret
           exact ⟨by first | rfl | (simp [errW_none, errW_some] <;> rfl) | (simp [*, errW_none, errW_some] <;> rfl), by repeat (first | (with_reducible first | exact HB.out | apply below_alloc | apply pw_below_drewN | apply below_drew1 | refine below_set ?_ GE226.out | refine below_set ?_ GE243.out) | exact HB.out)⟩
         ·replace c51 := Bool.eq_false_iff.mpr c51
          subst c51
          have H1 : (if t242 = 0 then ((deadboltref09_Get.f kj47 t227 a2).bind fun bt258 => ((deadboltref09_Spots.f kj47 t237 t238 t239 bt258.1 bt258.2.1 bt258.2.2).bind fun t263 => (if t263 = true then (deadboltlaw09_RootTells.j3 kj47 t227 a3 t244 t247 t248 t249 t252 t230 t231 t232) else (some false)))) else (some false)) = some r := by rw [if_neg (show ¬ (false = true) by decide)] at H; exact H
          clear H
          have H := H1
          clear H1
          by_cases c61 : t242 = 0
          ·rw [if_pos c61] at H
           have c61b0 : (t242 == 0) = true := beq_iff_eq.mpr c61
           have c61b1 : (t242 != 0) = false := bne_eq_false_iff_eq.mpr c61
           clear c61
           replace H := Option.bind_eq_some_iff.mp H
           obtain ⟨⟨t258, t259, t260⟩, A620, H⟩ := H
           replace H : ((deadboltref09_Spots.f kj47 t237 t238 t239 t258 t259 t260).bind fun t263 => (if t263 = true then (deadboltlaw09_RootTells.j3 kj47 t227 a3 t244 t247 t248 t249 t252 t230 t231 t232) else (some false))) = some r := H
           have A62 := Aside0.mk A620
           clear A620
           replace H := Option.bind_eq_some_iff.mp H
           obtain ⟨t263, A630, H⟩ := H
           replace H : (if t263 = true then (deadboltlaw09_RootTells.j3 kj47 t227 a3 t244 t247 t248 t249 t252 t230 t231 t232) else (some false)) = some r := H
           have A63 := Aside0.mk A630
           clear A630
           by_cases c64 : t263 = true
           ·subst c64
            have H1 : (deadboltlaw09_RootTells.j3 kj47 t227 a3 t244 t247 t248 t249 t252 t230 t231 t232) = some r := by rw [if_pos rfl] at H; exact H
            clear H
            have H := H1
            clear H1
            have H' := Aside0.mk H
            clear H
            try go_wp2
            have n0_ := Aside0.mk (Kd.N_drew HO_0.out)
            have n1_ := Aside0.mk (Kd.V_drew HO_13.out)
            have n2_ := Aside0.mk (Kd.R_drew HO_15.out)
            have n3_ := Aside0.mk (Kd.V_drew HO_227002.out)
            have n4_ := Aside0.mk (Kd.V_drew HO_244002.out)
            have n5_ := Aside0.mk (blk_drew BK226.out)
            have n6_ := Aside0.mk (blk_drew BK243.out)
            have n7_ := Aside0.mk (below_drew1 HB.out)
            clear HO_0
            clear HO_13
            clear HO_15
            clear HO_227002
            clear HO_244002
            clear BK226
            clear BK243
            clear HB
            have HO_0 := n0_
            have HO_13 := n1_
            have HO_15 := n2_
            have HO_227002 := n3_
            have HO_244002 := n4_
            have BK226 := n5_
            have BK243 := n6_
            have HB := n7_
            clear n0_ n1_ n2_ n3_ n4_ n5_ n6_ n7_
            refine start_ (n := 10) (S := fun w' => w'.cell? ⟨gb243, 0, none⟩ = some (.int .i64 t237) ∧ w'.cell? ⟨gb243, 1, none⟩ = some (.int .i64 t238) ∧ w'.cell? ⟨gb243, 2, none⟩ = some (.slice Ao28 t239.length co28)) (ds := []) #[false, false, false, false, false, false, false, false, false, false] (by kernel_rfl) rfl rfl ⟨(blk_cell BK243.out 0).trans rfl, (blk_cell BK243.out 1).trans rfl, (blk_cell BK243.out 2).trans rfl⟩ (fun hHeld => ?_); refine with_tabW deadboltlaw09_RootTells.tab17 deadboltlaw09_RootTells.bits17 (fun HT_ HW_ => ?_)
            generalize wc.drew = w65 at HO_0 HO_13 HO_15 HO_227002 HO_244002 BK226 BK243 HB hHeld ⊢
            refine pure_ (i := 0) (N := some 89) (v := ?_) (a' := ?_) #[true, false, false, false, false, false, false, false, false, false] rfl rfl (any_of HT_.out (by kernel_rfl)) (fun _ _ _ h => h) (Or.inl ⟨by rfl, ?_⟩) ?_ ?_
            rotate_left
            ·intro w'
             go_simp
             with_reducible rfl
            rotate_left
            ·simp only [Act.put, List.setIfInBounds_toArray, List.set_cons_zero, List.set_cons_succ, i64_w, i32_w]
             rfl
            refine pure_ (i := 1) (N := some 90) (v := ?_) (a' := ?_) #[true, true, false, false, false, false, false, false, false, false] rfl rfl (any_of HT_.out (by kernel_rfl)) (fun _ _ _ h => h) (Or.inl ⟨by rfl, ?_⟩) ?_ ?_
            rotate_left
            ·intro w'
             go_simp
             with_reducible rfl
            rotate_left
            ·simp only [Act.put, List.setIfInBounds_toArray, List.set_cons_zero, List.set_cons_succ, i64_w, i32_w]
             rfl
            refine pure_ (i := 2) (N := some 91) (v := ?_) (a' := ?_) #[true, true, true, false, false, false, false, false, false, false] rfl rfl (any_of HT_.out (by kernel_rfl)) (fun _ _ _ h => h) (Or.inl ⟨by rfl, ?_⟩) ?_ ?_
            rotate_left
            ·intro w'
             go_simp
             with_reducible rfl
            rotate_left
            ·simp only [Act.put, List.setIfInBounds_toArray, List.set_cons_zero, List.set_cons_succ, i64_w, i32_w]
             rfl
            refine pure_ (i := 4) (N := some 93) (v := ?_) (a' := ?_) #[true, true, true, false, true, false, false, false, false, false] rfl rfl (any_of HT_.out (by kernel_rfl)) (fun _ _ _ h => h) (Or.inl ⟨by rfl, ?_⟩) ?_ ?_
            rotate_left
            ·intro w'
             go_simp
             with_reducible rfl
            rotate_left
            ·simp only [Act.put, List.setIfInBounds_toArray, List.set_cons_zero, List.set_cons_succ, i64_w, i32_w]
             rfl
            refine pure_ (i := 5) (N := some 94) (v := ?_) (a' := ?_) #[true, true, true, false, true, true, false, false, false, false] rfl rfl (any_of HT_.out (by kernel_rfl)) (fun _ _ _ h => h) (Or.inl ⟨by rfl, ?_⟩) ?_ ?_
            rotate_left
            ·intro w'
             go_simp
             with_reducible rfl
            rotate_left
            ·simp only [Act.put, List.setIfInBounds_toArray, List.set_cons_zero, List.set_cons_succ, i64_w, i32_w]
             rfl
            refine take_ (i := 3) (N := some 92) (v := ?_) (a' := ?_) #[true, true, true, true, true, true, false, false, false, false] rfl rfl (take_ofW HT_.out HW_.out (by kernel_rfl)) (fun _ _ _ h => h) (Or.inl ⟨by rfl, ?_⟩) hHeld ?_ ?_
            rotate_left
            ·rintro w' ⟨s0, s1, s2⟩
             go_simp
             with_reducible rfl
            rotate_left
            ·simp only [Act.put, List.setIfInBounds_toArray, List.set_cons_zero, List.set_cons_succ, i64_w, i32_w]
             rfl
            refine one_ (i := 6) (N := some 95) #[true, true, true, true, true, true, true, false, false, false] rfl rfl (one_of HT_.out (by kernel_rfl)) (by decide) (fun K hK => ?_)
            refine goes_ Try.func22 (by kernel_rfl) rfl #[.slice Ao23 t227.length co23, .int .i64 a2] (by rfl) rfl rfl (by (try simp only [List.map_toArray, List.map_cons, List.map_nil]); first | done | rfl | (simp only [List.length_drop, List.length_take]; rfl)) ?_
            with_reducible refine (deadboltref09_Get.calls kj47 (fun k_ => (some k_ ≠ (v250 : Value).ownBlock ∧ (k_ ≠ gb226 ∧ k_ ≠ gb243))) _ _ t227 a2 t258 t259 t260 _ ?side1 A62.out).mono ?_
            (case side1 => exact Kd.N_V (HO_0.out))
            rintro e w66 ⟨v261, rfl, ho0, hb⟩
            refine ⟨_, rfl, ?_⟩
            have n0_ := Aside0.mk (Kd.N_below (by (with_reducible repeat (first | apply Kd.N_alloc | apply Kd.N_drewN | apply Kd.N_drew)); exact HO_0.out) hb)
            have n1_ := Aside0.mk (Kd.V_below (by (with_reducible repeat (first | apply Kd.V_alloc | apply Kd.V_drewN | apply Kd.V_drew)); exact HO_13.out) hb)
            have n2_ := Aside0.mk (Kd.R_below (by (with_reducible repeat (first | apply Kd.R_alloc | apply Kd.R_drewN | apply Kd.R_drew)); exact HO_15.out) hb)
            have n3_ := Aside0.mk (Kd.V_below (by (with_reducible repeat (first | apply Kd.V_alloc | apply Kd.V_drewN | apply Kd.V_drew)); exact HO_227002.out) hb)
            have n4_ := Aside0.mk (Kd.V_below (by (with_reducible repeat (first | apply Kd.V_alloc | apply Kd.V_drewN | apply Kd.V_drew)); exact HO_244002.out) hb)
            have n5_ := Aside0.mk (Kd.V_lower (Kd.V_mono (ok' := fun k_ => some k_ ≠ (v250 : Value).ownBlock ∧ k_ ≠ gb226 ∧ k_ ≠ gb243) ho0 (fun k_ hk_ => ⟨Or.elim hk_ (fun hs_ => hs_.1) (fun hn_ => (Kd.fresh' (Kd.R_lt (by (with_reducible repeat (first | apply Kd.R_alloc | apply Kd.R_drewN | apply Kd.R_drew)); exact HO_15.out)) k_ hn_)), Or.elim hk_ (fun hs_ => hs_.2.1) (fun hn_ => (Kd.freshB (g := gb226) (o := .cells #[.int .i64 t230, .int .i64 t231, .slice Ao20 t232.length co20] 33 (0, 0)) (by (with_reducible repeat (first | refine blk_drewN ?_ _ | refine blk_drew ?_ | refine blk_alloc ?_ _)); exact BK226.out) k_ hn_)), Or.elim hk_ (fun hs_ => hs_.2.2) (fun hn_ => (Kd.freshB (g := gb243) (o := .cells #[.int .i64 t237, .int .i64 t238, .slice Ao28 t239.length co28] 33 (0, 0)) (by (with_reducible repeat (first | refine blk_drewN ?_ _ | refine blk_drew ?_ | refine blk_alloc ?_ _)); exact BK243.out) k_ hn_))⟩)) (below_size (by repeat (first | (with_reducible first | exact HB.out | apply below_alloc | apply pw_below_drewN | apply below_drew1 | refine below_set ?_ GE226.out | refine below_set ?_ GE243.out) | exact HB.out))))
            have n6_ := Aside0.mk (blk_below (g := gb226) (o := .cells #[.int .i64 t230, .int .i64 t231, .slice Ao20 t232.length co20] 33 (0, 0)) (by (with_reducible repeat (first | refine blk_drewN ?_ _ | refine blk_drew ?_ | refine blk_alloc ?_ _)); exact BK226.out) hb)
            have n7_ := Aside0.mk (blk_below (g := gb243) (o := .cells #[.int .i64 t237, .int .i64 t238, .slice Ao28 t239.length co28] 33 (0, 0)) (by (with_reducible repeat (first | refine blk_drewN ?_ _ | refine blk_drew ?_ | refine blk_alloc ?_ _)); exact BK243.out) hb)
            have n8_ := Aside0.mk (below_step (by repeat (first | (with_reducible first | exact HB.out | apply below_alloc | apply pw_below_drewN | apply below_drew1 | refine below_set ?_ GE226.out | refine below_set ?_ GE243.out) | exact HB.out)) hb)
            clear HO_0
            clear HO_13
            clear HO_15
            clear HO_227002
            clear HO_244002
            clear BK226
            clear BK243
            clear HB
            have HO_0 := n0_
            have HO_13 := n1_
            have HO_15 := n2_
            have HO_227002 := n3_
            have HO_244002 := n4_
            have HO262 := n5_
            have BK226 := n6_
            have BK243 := n7_
            have HB := n8_
            clear n0_ n1_ n2_ n3_ n4_ n5_ n6_ n7_ n8_
            (try clear hb)
            (try clear hb2)
            (try clear hk)
            (try clear hi)
            (try clear ho0)
            obtain ⟨Ao67, co67, eo67⟩ := Kd.V_slice HO262.out
            (first | subst eo67 | (injection eo67 with f1_ f2_ f3_; have f4_ := f1_.symm; have f5_ := f3_.symm; clear f1_ f2_ f3_; subst f4_; subst f5_))
            refine hK.out _ _ ⟨(blk_cell BK243.out 0).trans rfl, (blk_cell BK243.out 1).trans rfl, (blk_cell BK243.out 2).trans rfl⟩ (fun hHeld => ?_)
            clear hK K
            refine norm_ (a' := ?_) ?_ ?_
            rotate_left
            ·show Act.put _ (some 95) _ = _
             simp only [Act.put, List.setIfInBounds_toArray, List.set_cons_zero, List.set_cons_succ, i64_w, i32_w]
             rfl
            refine one_ (i := 7) (N := some 96) #[true, true, true, true, true, true, true, true, false, false] rfl rfl (one_of HT_.out (by kernel_rfl)) (by decide) (fun K hK => ?_)
            refine goes_ Try.func21 (by kernel_rfl) rfl #[.agg #[.int .i64 t237, .int .i64 t238, .slice Ao28 t239.length co28], .agg #[.int .i64 t258, .int .i64 t259, .slice Ao67 t260.length co67]] (by rfl) rfl rfl (by (try simp only [List.map_toArray, List.map_cons, List.map_nil]); first | done | rfl | (simp only [List.length_drop, List.length_take]; rfl)) ?_
            with_reducible refine (deadboltref09_Spots.calls kj47 t237 t238 _ _ t239 t258 t259 _ _ t260 true _ ?side1 ?side2 ?side3 ?side4 A63.out).mono ?_
            (case side1 => repeat (first | exact (Kd.V_reads' HO_244002.out).2.2 | (with_reducible refine Kd.C_alloc ?_ _) | (with_reducible refine Kd.C_drewN ?_ _) | (with_reducible refine Kd.C_drew ?_)))
            (case side2 => exact (Kd.V_reads' HO_244002.out).2.1)
            (case side3 => repeat (first | exact (Kd.V_reads' HO262.out).2.2 | (with_reducible refine Kd.C_alloc ?_ _) | (with_reducible refine Kd.C_drewN ?_ _) | (with_reducible refine Kd.C_drew ?_)))
            (case side4 => exact (Kd.V_reads' HO262.out).2.1)
            rintro e w68 ⟨rfl, hb⟩
            refine ⟨_, rfl, ?_⟩
            have n0_ := Aside0.mk (Kd.N_below (by (with_reducible repeat (first | apply Kd.N_alloc | apply Kd.N_drewN | apply Kd.N_drew)); exact HO_0.out) hb)
            have n1_ := Aside0.mk (Kd.V_below (by (with_reducible repeat (first | apply Kd.V_alloc | apply Kd.V_drewN | apply Kd.V_drew)); exact HO_13.out) hb)
            have n2_ := Aside0.mk (Kd.R_below (by (with_reducible repeat (first | apply Kd.R_alloc | apply Kd.R_drewN | apply Kd.R_drew)); exact HO_15.out) hb)
            have n3_ := Aside0.mk (Kd.V_below (by (with_reducible repeat (first | apply Kd.V_alloc | apply Kd.V_drewN | apply Kd.V_drew)); exact HO_227002.out) hb)
            have n4_ := Aside0.mk (Kd.V_below (by (with_reducible repeat (first | apply Kd.V_alloc | apply Kd.V_drewN | apply Kd.V_drew)); exact HO_244002.out) hb)
            have n5_ := Aside0.mk (Kd.V_below (by (with_reducible repeat (first | apply Kd.V_alloc | apply Kd.V_drewN | apply Kd.V_drew)); exact HO262.out) hb)
            have n6_ := Aside0.mk (blk_below (g := gb226) (o := .cells #[.int .i64 t230, .int .i64 t231, .slice Ao20 t232.length co20] 33 (0, 0)) (by (with_reducible repeat (first | refine blk_drewN ?_ _ | refine blk_drew ?_ | refine blk_alloc ?_ _)); exact BK226.out) hb)
            have n7_ := Aside0.mk (blk_below (g := gb243) (o := .cells #[.int .i64 t237, .int .i64 t238, .slice Ao28 t239.length co28] 33 (0, 0)) (by (with_reducible repeat (first | refine blk_drewN ?_ _ | refine blk_drew ?_ | refine blk_alloc ?_ _)); exact BK243.out) hb)
            have n8_ := Aside0.mk (below_step (by repeat (first | (with_reducible first | exact HB.out | apply below_alloc | apply pw_below_drewN | apply below_drew1 | refine below_set ?_ GE226.out | refine below_set ?_ GE243.out) | exact HB.out)) hb)
            clear HO_0
            clear HO_13
            clear HO_15
            clear HO_227002
            clear HO_244002
            clear HO262
            clear BK226
            clear BK243
            clear HB
            have HO_0 := n0_
            have HO_13 := n1_
            have HO_15 := n2_
            have HO_227002 := n3_
            have HO_244002 := n4_
            have HO262 := n5_
            have BK226 := n6_
            have BK243 := n7_
            have HB := n8_
            clear n0_ n1_ n2_ n3_ n4_ n5_ n6_ n7_ n8_
            (try clear hb)
            (try clear hb2)
            (try clear hk)
            (try clear hi)
            refine hK.out _ _ ⟨(blk_cell BK243.out 0).trans rfl, (blk_cell BK243.out 1).trans rfl, (blk_cell BK243.out 2).trans rfl⟩ (fun hHeld => ?_)
            clear hK K
            refine norm_ (a' := ?_) ?_ ?_
            rotate_left
            ·show Act.put _ (some 96) _ = _
             simp only [Act.put, List.setIfInBounds_toArray, List.set_cons_zero, List.set_cons_succ, i64_w, i32_w]
             rfl
            refine pure_ (i := 8) (N := some 97) (v := ?_) (a' := ?_) #[true, true, true, true, true, true, true, true, true, false] rfl rfl (any_of HT_.out (by kernel_rfl)) (fun _ _ _ h => h) (Or.inl ⟨by rfl, ?_⟩) ?_ ?_
            rotate_left
            ·intro w'
             go_simp
             with_reducible rfl
            rotate_left
            ·simp only [Act.put, List.setIfInBounds_toArray, List.set_cons_zero, List.set_cons_succ, i64_w, i32_w]
             rfl
            refine pure_ (i := 9) (N := some 98) (v := ?_) (a' := ?_) #[true, true, true, true, true, true, true, true, true, true] rfl rfl (any_of HT_.out (by kernel_rfl)) (fun _ _ _ h => h) (Or.inl ⟨by rfl, ?_⟩) ?_ ?_
            rotate_left
            ·intro w'
             go_simp
             with_reducible rfl
            rotate_left
            ·simp only [Act.put, List.setIfInBounds_toArray, List.set_cons_zero, List.set_cons_succ, i64_w, i32_w]
             rfl
            refine done_ (done_of HT_.out (by kernel_rfl)) ?_
            try go_wp2
            go_meet
            case rel => exact ⟨_, H', ⟨by have := HJ12.out; have := HJ40.out; have := HJ47.out; first | omega | exact Nat.le_refl _⟩, ⟨by (with_reducible repeat (first | apply Kd.N_alloc | apply Kd.N_drewN | apply Kd.N_drew)); exact HO_0.out⟩, ⟨by (with_reducible repeat (first | apply Kd.V_alloc | apply Kd.V_drewN | apply Kd.V_drew)); exact HO_13.out⟩, ⟨by (with_reducible repeat (first | apply Kd.R_alloc | apply Kd.R_drewN | apply Kd.R_drew)); exact HO_15.out⟩, ⟨by (with_reducible repeat (first | apply Kd.V_alloc | apply Kd.V_drewN | apply Kd.V_drew)); exact HO_227002.out⟩, ⟨by (with_reducible repeat (first | apply Kd.V_alloc | apply Kd.V_drewN | apply Kd.V_drew)); exact HO_244002.out⟩, ⟨by (with_reducible repeat (first | refine blk_drewN ?_ _ | refine blk_drew ?_ | refine blk_alloc ?_ _)); exact BK226.out⟩, ⟨by (with_reducible repeat (first | refine blk_drewN ?_ _ | refine blk_drew ?_ | refine blk_alloc ?_ _)); exact BK243.out⟩, ⟨by repeat (first | (with_reducible first | exact HB.out | apply below_alloc | apply pw_below_drewN | apply below_drew1 | refine below_set ?_ GE226.out | refine below_set ?_ GE243.out) | exact HB.out)⟩⟩
           ·replace c64 := Bool.eq_false_iff.mpr c64
            subst c64
            have H1 : (some false) = some r := by rw [if_neg (show ¬ (false = true) by decide)] at H; exact H
            clear H
            have H := H1
            clear H1
            obtain rfl := Option.some.inj H
            try go_wp2
            have n0_ := Aside0.mk (Kd.N_drew HO_0.out)
            have n1_ := Aside0.mk (Kd.V_drew HO_13.out)
            have n2_ := Aside0.mk (Kd.R_drew HO_15.out)
            have n3_ := Aside0.mk (Kd.V_drew HO_227002.out)
            have n4_ := Aside0.mk (Kd.V_drew HO_244002.out)
            have n5_ := Aside0.mk (blk_drew BK226.out)
            have n6_ := Aside0.mk (blk_drew BK243.out)
            have n7_ := Aside0.mk (below_drew1 HB.out)
            clear HO_0
            clear HO_13
            clear HO_15
            clear HO_227002
            clear HO_244002
            clear BK226
            clear BK243
            clear HB
            have HO_0 := n0_
            have HO_13 := n1_
            have HO_15 := n2_
            have HO_227002 := n3_
            have HO_244002 := n4_
            have BK226 := n5_
            have BK243 := n6_
            have HB := n7_
            clear n0_ n1_ n2_ n3_ n4_ n5_ n6_ n7_
            refine start_ (n := 10) (S := fun w' => w'.cell? ⟨gb243, 0, none⟩ = some (.int .i64 t237) ∧ w'.cell? ⟨gb243, 1, none⟩ = some (.int .i64 t238) ∧ w'.cell? ⟨gb243, 2, none⟩ = some (.slice Ao28 t239.length co28)) (ds := []) #[false, false, false, false, false, false, false, false, false, false] (by kernel_rfl) rfl rfl ⟨(blk_cell BK243.out 0).trans rfl, (blk_cell BK243.out 1).trans rfl, (blk_cell BK243.out 2).trans rfl⟩ (fun hHeld => ?_); refine with_tabW deadboltlaw09_RootTells.tab17 deadboltlaw09_RootTells.bits17 (fun HT_ HW_ => ?_)
            generalize wc.drew = w69 at HO_0 HO_13 HO_15 HO_227002 HO_244002 BK226 BK243 HB hHeld ⊢
            refine pure_ (i := 0) (N := some 89) (v := ?_) (a' := ?_) #[true, false, false, false, false, false, false, false, false, false] rfl rfl (any_of HT_.out (by kernel_rfl)) (fun _ _ _ h => h) (Or.inl ⟨by rfl, ?_⟩) ?_ ?_
            rotate_left
            ·intro w'
             go_simp
             with_reducible rfl
            rotate_left
            ·simp only [Act.put, List.setIfInBounds_toArray, List.set_cons_zero, List.set_cons_succ, i64_w, i32_w]
             rfl
            refine pure_ (i := 1) (N := some 90) (v := ?_) (a' := ?_) #[true, true, false, false, false, false, false, false, false, false] rfl rfl (any_of HT_.out (by kernel_rfl)) (fun _ _ _ h => h) (Or.inl ⟨by rfl, ?_⟩) ?_ ?_
            rotate_left
            ·intro w'
             go_simp
             with_reducible rfl
            rotate_left
            ·simp only [Act.put, List.setIfInBounds_toArray, List.set_cons_zero, List.set_cons_succ, i64_w, i32_w]
             rfl
            refine pure_ (i := 2) (N := some 91) (v := ?_) (a' := ?_) #[true, true, true, false, false, false, false, false, false, false] rfl rfl (any_of HT_.out (by kernel_rfl)) (fun _ _ _ h => h) (Or.inl ⟨by rfl, ?_⟩) ?_ ?_
            rotate_left
            ·intro w'
             go_simp
             with_reducible rfl
            rotate_left
            ·simp only [Act.put, List.setIfInBounds_toArray, List.set_cons_zero, List.set_cons_succ, i64_w, i32_w]
             rfl
            refine pure_ (i := 4) (N := some 93) (v := ?_) (a' := ?_) #[true, true, true, false, true, false, false, false, false, false] rfl rfl (any_of HT_.out (by kernel_rfl)) (fun _ _ _ h => h) (Or.inl ⟨by rfl, ?_⟩) ?_ ?_
            rotate_left
            ·intro w'
             go_simp
             with_reducible rfl
            rotate_left
            ·simp only [Act.put, List.setIfInBounds_toArray, List.set_cons_zero, List.set_cons_succ, i64_w, i32_w]
             rfl
            refine pure_ (i := 5) (N := some 94) (v := ?_) (a' := ?_) #[true, true, true, false, true, true, false, false, false, false] rfl rfl (any_of HT_.out (by kernel_rfl)) (fun _ _ _ h => h) (Or.inl ⟨by rfl, ?_⟩) ?_ ?_
            rotate_left
            ·intro w'
             go_simp
             with_reducible rfl
            rotate_left
            ·simp only [Act.put, List.setIfInBounds_toArray, List.set_cons_zero, List.set_cons_succ, i64_w, i32_w]
             rfl
            refine take_ (i := 3) (N := some 92) (v := ?_) (a' := ?_) #[true, true, true, true, true, true, false, false, false, false] rfl rfl (take_ofW HT_.out HW_.out (by kernel_rfl)) (fun _ _ _ h => h) (Or.inl ⟨by rfl, ?_⟩) hHeld ?_ ?_
            rotate_left
            ·rintro w' ⟨s0, s1, s2⟩
             go_simp
             with_reducible rfl
            rotate_left
            ·simp only [Act.put, List.setIfInBounds_toArray, List.set_cons_zero, List.set_cons_succ, i64_w, i32_w]
             rfl
            refine one_ (i := 6) (N := some 95) #[true, true, true, true, true, true, true, false, false, false] rfl rfl (one_of HT_.out (by kernel_rfl)) (by decide) (fun K hK => ?_)
            refine goes_ Try.func22 (by kernel_rfl) rfl #[.slice Ao23 t227.length co23, .int .i64 a2] (by rfl) rfl rfl (by (try simp only [List.map_toArray, List.map_cons, List.map_nil]); first | done | rfl | (simp only [List.length_drop, List.length_take]; rfl)) ?_
            with_reducible refine (deadboltref09_Get.calls kj47 (fun k_ => (some k_ ≠ (v250 : Value).ownBlock ∧ (k_ ≠ gb226 ∧ k_ ≠ gb243))) _ _ t227 a2 t258 t259 t260 _ ?side1 A62.out).mono ?_
            (case side1 => exact Kd.N_V (HO_0.out))
            rintro e w70 ⟨v261, rfl, ho0, hb⟩
            refine ⟨_, rfl, ?_⟩
            have n0_ := Aside0.mk (Kd.N_below (by (with_reducible repeat (first | apply Kd.N_alloc | apply Kd.N_drewN | apply Kd.N_drew)); exact HO_0.out) hb)
            have n1_ := Aside0.mk (Kd.V_below (by (with_reducible repeat (first | apply Kd.V_alloc | apply Kd.V_drewN | apply Kd.V_drew)); exact HO_13.out) hb)
            have n2_ := Aside0.mk (Kd.R_below (by (with_reducible repeat (first | apply Kd.R_alloc | apply Kd.R_drewN | apply Kd.R_drew)); exact HO_15.out) hb)
            have n3_ := Aside0.mk (Kd.V_below (by (with_reducible repeat (first | apply Kd.V_alloc | apply Kd.V_drewN | apply Kd.V_drew)); exact HO_227002.out) hb)
            have n4_ := Aside0.mk (Kd.V_below (by (with_reducible repeat (first | apply Kd.V_alloc | apply Kd.V_drewN | apply Kd.V_drew)); exact HO_244002.out) hb)
            have n5_ := Aside0.mk (Kd.V_lower (Kd.V_mono (ok' := fun k_ => some k_ ≠ (v250 : Value).ownBlock ∧ k_ ≠ gb226 ∧ k_ ≠ gb243) ho0 (fun k_ hk_ => ⟨Or.elim hk_ (fun hs_ => hs_.1) (fun hn_ => (Kd.fresh' (Kd.R_lt (by (with_reducible repeat (first | apply Kd.R_alloc | apply Kd.R_drewN | apply Kd.R_drew)); exact HO_15.out)) k_ hn_)), Or.elim hk_ (fun hs_ => hs_.2.1) (fun hn_ => (Kd.freshB (g := gb226) (o := .cells #[.int .i64 t230, .int .i64 t231, .slice Ao20 t232.length co20] 33 (0, 0)) (by (with_reducible repeat (first | refine blk_drewN ?_ _ | refine blk_drew ?_ | refine blk_alloc ?_ _)); exact BK226.out) k_ hn_)), Or.elim hk_ (fun hs_ => hs_.2.2) (fun hn_ => (Kd.freshB (g := gb243) (o := .cells #[.int .i64 t237, .int .i64 t238, .slice Ao28 t239.length co28] 33 (0, 0)) (by (with_reducible repeat (first | refine blk_drewN ?_ _ | refine blk_drew ?_ | refine blk_alloc ?_ _)); exact BK243.out) k_ hn_))⟩)) (below_size (by repeat (first | (with_reducible first | exact HB.out | apply below_alloc | apply pw_below_drewN | apply below_drew1 | refine below_set ?_ GE226.out | refine below_set ?_ GE243.out) | exact HB.out))))
            have n6_ := Aside0.mk (blk_below (g := gb226) (o := .cells #[.int .i64 t230, .int .i64 t231, .slice Ao20 t232.length co20] 33 (0, 0)) (by (with_reducible repeat (first | refine blk_drewN ?_ _ | refine blk_drew ?_ | refine blk_alloc ?_ _)); exact BK226.out) hb)
            have n7_ := Aside0.mk (blk_below (g := gb243) (o := .cells #[.int .i64 t237, .int .i64 t238, .slice Ao28 t239.length co28] 33 (0, 0)) (by (with_reducible repeat (first | refine blk_drewN ?_ _ | refine blk_drew ?_ | refine blk_alloc ?_ _)); exact BK243.out) hb)
            have n8_ := Aside0.mk (below_step (by repeat (first | (with_reducible first | exact HB.out | apply below_alloc | apply pw_below_drewN | apply below_drew1 | refine below_set ?_ GE226.out | refine below_set ?_ GE243.out) | exact HB.out)) hb)
            clear HO_0
            clear HO_13
            clear HO_15
            clear HO_227002
            clear HO_244002
            clear BK226
            clear BK243
            clear HB
            have HO_0 := n0_
            have HO_13 := n1_
            have HO_15 := n2_
            have HO_227002 := n3_
            have HO_244002 := n4_
            have HO262 := n5_
            have BK226 := n6_
            have BK243 := n7_
            have HB := n8_
            clear n0_ n1_ n2_ n3_ n4_ n5_ n6_ n7_ n8_
            (try clear hb)
            (try clear hb2)
            (try clear hk)
            (try clear hi)
            (try clear ho0)
            obtain ⟨Ao71, co71, eo71⟩ := Kd.V_slice HO262.out
            (first | subst eo71 | (injection eo71 with f1_ f2_ f3_; have f4_ := f1_.symm; have f5_ := f3_.symm; clear f1_ f2_ f3_; subst f4_; subst f5_))
            refine hK.out _ _ ⟨(blk_cell BK243.out 0).trans rfl, (blk_cell BK243.out 1).trans rfl, (blk_cell BK243.out 2).trans rfl⟩ (fun hHeld => ?_)
            clear hK K
            refine norm_ (a' := ?_) ?_ ?_
            rotate_left
            ·show Act.put _ (some 95) _ = _
             simp only [Act.put, List.setIfInBounds_toArray, List.set_cons_zero, List.set_cons_succ, i64_w, i32_w]
             rfl
            refine one_ (i := 7) (N := some 96) #[true, true, true, true, true, true, true, true, false, false] rfl rfl (one_of HT_.out (by kernel_rfl)) (by decide) (fun K hK => ?_)
            refine goes_ Try.func21 (by kernel_rfl) rfl #[.agg #[.int .i64 t237, .int .i64 t238, .slice Ao28 t239.length co28], .agg #[.int .i64 t258, .int .i64 t259, .slice Ao71 t260.length co71]] (by rfl) rfl rfl (by (try simp only [List.map_toArray, List.map_cons, List.map_nil]); first | done | rfl | (simp only [List.length_drop, List.length_take]; rfl)) ?_
            with_reducible refine (deadboltref09_Spots.calls kj47 t237 t238 _ _ t239 t258 t259 _ _ t260 false _ ?side1 ?side2 ?side3 ?side4 A63.out).mono ?_
            (case side1 => repeat (first | exact (Kd.V_reads' HO_244002.out).2.2 | (with_reducible refine Kd.C_alloc ?_ _) | (with_reducible refine Kd.C_drewN ?_ _) | (with_reducible refine Kd.C_drew ?_)))
            (case side2 => exact (Kd.V_reads' HO_244002.out).2.1)
            (case side3 => repeat (first | exact (Kd.V_reads' HO262.out).2.2 | (with_reducible refine Kd.C_alloc ?_ _) | (with_reducible refine Kd.C_drewN ?_ _) | (with_reducible refine Kd.C_drew ?_)))
            (case side4 => exact (Kd.V_reads' HO262.out).2.1)
            rintro e w72 ⟨rfl, hb⟩
            refine ⟨_, rfl, ?_⟩
            have n0_ := Aside0.mk (Kd.N_below (by (with_reducible repeat (first | apply Kd.N_alloc | apply Kd.N_drewN | apply Kd.N_drew)); exact HO_0.out) hb)
            have n1_ := Aside0.mk (Kd.V_below (by (with_reducible repeat (first | apply Kd.V_alloc | apply Kd.V_drewN | apply Kd.V_drew)); exact HO_13.out) hb)
            have n2_ := Aside0.mk (Kd.R_below (by (with_reducible repeat (first | apply Kd.R_alloc | apply Kd.R_drewN | apply Kd.R_drew)); exact HO_15.out) hb)
            have n3_ := Aside0.mk (Kd.V_below (by (with_reducible repeat (first | apply Kd.V_alloc | apply Kd.V_drewN | apply Kd.V_drew)); exact HO_227002.out) hb)
            have n4_ := Aside0.mk (Kd.V_below (by (with_reducible repeat (first | apply Kd.V_alloc | apply Kd.V_drewN | apply Kd.V_drew)); exact HO_244002.out) hb)
            have n5_ := Aside0.mk (Kd.V_below (by (with_reducible repeat (first | apply Kd.V_alloc | apply Kd.V_drewN | apply Kd.V_drew)); exact HO262.out) hb)
            have n6_ := Aside0.mk (blk_below (g := gb226) (o := .cells #[.int .i64 t230, .int .i64 t231, .slice Ao20 t232.length co20] 33 (0, 0)) (by (with_reducible repeat (first | refine blk_drewN ?_ _ | refine blk_drew ?_ | refine blk_alloc ?_ _)); exact BK226.out) hb)
            have n7_ := Aside0.mk (blk_below (g := gb243) (o := .cells #[.int .i64 t237, .int .i64 t238, .slice Ao28 t239.length co28] 33 (0, 0)) (by (with_reducible repeat (first | refine blk_drewN ?_ _ | refine blk_drew ?_ | refine blk_alloc ?_ _)); exact BK243.out) hb)
            have n8_ := Aside0.mk (below_step (by repeat (first | (with_reducible first | exact HB.out | apply below_alloc | apply pw_below_drewN | apply below_drew1 | refine below_set ?_ GE226.out | refine below_set ?_ GE243.out) | exact HB.out)) hb)
            clear HO_0
            clear HO_13
            clear HO_15
            clear HO_227002
            clear HO_244002
            clear HO262
            clear BK226
            clear BK243
            clear HB
            have HO_0 := n0_
            have HO_13 := n1_
            have HO_15 := n2_
            have HO_227002 := n3_
            have HO_244002 := n4_
            have HO262 := n5_
            have BK226 := n6_
            have BK243 := n7_
            have HB := n8_
            clear n0_ n1_ n2_ n3_ n4_ n5_ n6_ n7_ n8_
            (try clear hb)
            (try clear hb2)
            (try clear hk)
            (try clear hi)
            refine hK.out _ _ ⟨(blk_cell BK243.out 0).trans rfl, (blk_cell BK243.out 1).trans rfl, (blk_cell BK243.out 2).trans rfl⟩ (fun hHeld => ?_)
            clear hK K
            refine norm_ (a' := ?_) ?_ ?_
            rotate_left
            ·show Act.put _ (some 96) _ = _
             simp only [Act.put, List.setIfInBounds_toArray, List.set_cons_zero, List.set_cons_succ, i64_w, i32_w]
             rfl
            refine pure_ (i := 8) (N := some 97) (v := ?_) (a' := ?_) #[true, true, true, true, true, true, true, true, true, false] rfl rfl (any_of HT_.out (by kernel_rfl)) (fun _ _ _ h => h) (Or.inl ⟨by rfl, ?_⟩) ?_ ?_
            rotate_left
            ·intro w'
             go_simp
             with_reducible rfl
            rotate_left
            ·simp only [Act.put, List.setIfInBounds_toArray, List.set_cons_zero, List.set_cons_succ, i64_w, i32_w]
             rfl
            refine pure_ (i := 9) (N := some 98) (v := ?_) (a' := ?_) #[true, true, true, true, true, true, true, true, true, true] rfl rfl (any_of HT_.out (by kernel_rfl)) (fun _ _ _ h => h) (Or.inl ⟨by rfl, ?_⟩) ?_ ?_
            rotate_left
            ·intro w'
             go_simp
             with_reducible rfl
            rotate_left
            ·simp only [Act.put, List.setIfInBounds_toArray, List.set_cons_zero, List.set_cons_succ, i64_w, i32_w]
             rfl
            refine done_ (done_of HT_.out (by kernel_rfl)) ?_
            try go_wp2
            go_ret
            exact ⟨by first | rfl | (simp [errW_none, errW_some] <;> rfl) | (simp [*, errW_none, errW_some] <;> rfl), by repeat (first | (with_reducible first | exact HB.out | apply below_alloc | apply pw_below_drewN | apply below_drew1 | refine below_set ?_ GE226.out | refine below_set ?_ GE243.out) | exact HB.out)⟩
          ·rw [if_neg c61] at H
           have c61b0 : (t242 == 0) = false := beq_eq_false_iff_ne.mpr c61
           have c61b1 : (t242 != 0) = true := bne_iff_ne.mpr c61
           obtain rfl := Option.some.inj H
           try go_wp2
           have n0_ := Aside0.mk (Kd.N_drew HO_0.out)
           have n1_ := Aside0.mk (Kd.V_drew HO_13.out)
           have n2_ := Aside0.mk (Kd.R_drew HO_15.out)
           have n3_ := Aside0.mk (Kd.V_drew HO_227002.out)
           have n4_ := Aside0.mk (Kd.V_drew HO_244002.out)
           have n5_ := Aside0.mk (blk_drew BK226.out)
           have n6_ := Aside0.mk (blk_drew BK243.out)
           have n7_ := Aside0.mk (below_drew1 HB.out)
           clear HO_0
           clear HO_13
           clear HO_15
           clear HO_227002
           clear HO_244002
           clear BK226
           clear BK243
           clear HB
           have HO_0 := n0_
           have HO_13 := n1_
           have HO_15 := n2_
           have HO_227002 := n3_
           have HO_244002 := n4_
           have BK226 := n5_
           have BK243 := n6_
           have HB := n7_
           clear n0_ n1_ n2_ n3_ n4_ n5_ n6_ n7_
           refine start_ (n := 10) (S := fun w' => True) (ds := []) #[false, false, false, false, false, false, false, false, false, false] (by kernel_rfl) rfl rfl trivial (fun hHeld => ?_); refine with_tabW deadboltlaw09_RootTells.tab17 deadboltlaw09_RootTells.bits17 (fun HT_ HW_ => ?_)
           generalize wc.drew = w73 at HO_0 HO_13 HO_15 HO_227002 HO_244002 BK226 BK243 HB hHeld ⊢
           refine pure_ (i := 0) (N := some 89) (v := ?_) (a' := ?_) #[true, false, false, false, false, false, false, false, false, false] rfl rfl (any_of HT_.out (by kernel_rfl)) (fun _ _ _ h => h) (Or.inl ⟨by rfl, ?_⟩) ?_ ?_
           rotate_left
           ·intro w'
            go_simp
            with_reducible rfl
           rotate_left
           ·simp only [Act.put, List.setIfInBounds_toArray, List.set_cons_zero, List.set_cons_succ, i64_w, i32_w]
            rfl
           refine pure_ (i := 1) (N := some 90) (v := ?_) (a' := ?_) #[true, true, false, false, false, false, false, false, false, false] rfl rfl (any_of HT_.out (by kernel_rfl)) (fun _ _ _ h => h) (Or.inl ⟨by rfl, ?_⟩) ?_ ?_
           rotate_left
           ·intro w'
            go_simp
            with_reducible rfl
           rotate_left
           ·simp only [Act.put, List.setIfInBounds_toArray, List.set_cons_zero, List.set_cons_succ, i64_w, i32_w]
            rfl
           refine pure_ (i := 2) (N := some 91) (v := ?_) (a' := ?_) #[true, true, true, false, false, false, false, false, false, false] rfl rfl (any_of HT_.out (by kernel_rfl)) (fun _ _ _ h => h) (Or.inl ⟨by rfl, ?_⟩) ?_ ?_
           rotate_left
           ·intro w'
            go_simp
            with_reducible rfl
           rotate_left
           ·simp only [Act.put, List.setIfInBounds_toArray, List.set_cons_zero, List.set_cons_succ, i64_w, i32_w]
            rfl
           refine pure_ (i := 3) (N := some 92) (v := undef) (a' := ?_) #[true, true, true, true, false, false, false, false, false, false] rfl rfl (any_of HT_.out (by kernel_rfl)) (fun _ _ _ h => h) (Or.inr ⟨by rfl, rfl⟩) ?_ ?_
           rotate_left
           ·simp only [Act.put, List.setIfInBounds_toArray, List.set_cons_zero, List.set_cons_succ, i64_w, i32_w]
            rfl
           refine pure_ (i := 4) (N := some 93) (v := undef) (a' := ?_) #[true, true, true, true, true, false, false, false, false, false] rfl rfl (any_of HT_.out (by kernel_rfl)) (fun _ _ _ h => h) (Or.inr ⟨by rfl, rfl⟩) ?_ ?_
           rotate_left
           ·simp only [Act.put, List.setIfInBounds_toArray, List.set_cons_zero, List.set_cons_succ, i64_w, i32_w]
            rfl
           refine pure_ (i := 5) (N := some 94) (v := undef) (a' := ?_) #[true, true, true, true, true, true, false, false, false, false] rfl rfl (any_of HT_.out (by kernel_rfl)) (fun _ _ _ h => h) (Or.inr ⟨by rfl, rfl⟩) ?_ ?_
           rotate_left
           ·simp only [Act.put, List.setIfInBounds_toArray, List.set_cons_zero, List.set_cons_succ, i64_w, i32_w]
            rfl
           refine pure_ (i := 6) (N := some 95) (v := undef) (a' := ?_) #[true, true, true, true, true, true, true, false, false, false] rfl rfl (any_of HT_.out (by kernel_rfl)) (fun _ _ _ h => h) (Or.inr ⟨by rfl, rfl⟩) ?_ ?_
           rotate_left
           ·simp only [Act.put, List.setIfInBounds_toArray, List.set_cons_zero, List.set_cons_succ, i64_w, i32_w]
            rfl
           refine pure_ (i := 7) (N := some 96) (v := undef) (a' := ?_) #[true, true, true, true, true, true, true, true, false, false] rfl rfl (any_of HT_.out (by kernel_rfl)) (fun _ _ _ h => h) (Or.inr ⟨by rfl, rfl⟩) ?_ ?_
           rotate_left
           ·simp only [Act.put, List.setIfInBounds_toArray, List.set_cons_zero, List.set_cons_succ, i64_w, i32_w]
            rfl
           refine pure_ (i := 8) (N := some 97) (v := undef) (a' := ?_) #[true, true, true, true, true, true, true, true, true, false] rfl rfl (any_of HT_.out (by kernel_rfl)) (fun _ _ _ h => h) (Or.inr ⟨by rfl, rfl⟩) ?_ ?_
           rotate_left
           ·simp only [Act.put, List.setIfInBounds_toArray, List.set_cons_zero, List.set_cons_succ, i64_w, i32_w]
            rfl
           refine pure_ (i := 9) (N := some 98) (v := ?_) (a' := ?_) #[true, true, true, true, true, true, true, true, true, true] rfl rfl (any_of HT_.out (by kernel_rfl)) (fun _ _ _ h => h) (Or.inl ⟨by rfl, ?_⟩) ?_ ?_
           rotate_left
           ·intro w'
            go_simp
            with_reducible rfl
           rotate_left
           ·simp only [Act.put, List.setIfInBounds_toArray, List.set_cons_zero, List.set_cons_succ, i64_w, i32_w]
            rfl
           refine done_ (done_of HT_.out (by kernel_rfl)) ?_
           try go_wp2
           go_ret
           exact ⟨by first | rfl | (simp [errW_none, errW_some] <;> rfl) | (simp [*, errW_none, errW_some] <;> rfl), by repeat (first | (with_reducible first | exact HB.out | apply below_alloc | apply pw_below_drewN | apply below_drew1 | refine below_set ?_ GE226.out | refine below_set ?_ GE243.out) | exact HB.out)⟩
        case rest =>
         clear HC50
         try clear c2
         try clear p2
         try clear c5
         try clear c6
         try clear c21
         try clear c22
         try clear c51
         try clear c52
         try clear c52b0
         try clear c52b1
         try clear c54
         try clear c55
         try clear c58
         try clear c61
         try clear c61b0
         try clear c61b1
         try clear c64
         try clear hcz27_1
         try clear hcz27_2
         try clear hcz30_0
         try clear hcz30_1
         try clear hcz30_2
         try clear hcz56_0
         try clear hcz56_1
         try clear hcz56_2
         try clear hcz59_0
         try clear hcz59_1
         try clear hcz59_2
         try clear hfz27_0
         try clear hfz27_1
         try clear hfz27_2
         try clear hfz30_0
         try clear hfz30_1
         try clear hfz30_2
         try clear hfz56_0
         try clear hfz56_1
         try clear hfz56_2
         try clear hfz59_0
         try clear hfz59_1
         try clear hfz59_2
         try clear p2
         obtain ⟨kq, HA, HJ49, HO_0, HO_13, HO_15, HO_227002, HO_244002, BK226, BK243, HB⟩ := hcut
         cases kq with
         | zero => exact absurd HA.out (by simp [deadboltlaw09_RootTells.j3])
         | succ kj49 =>
          have H := HA.out
          clear HA
          simp only [deadboltlaw09_RootTells.j3] at H
          have HC74 := Aside0.mk H
          clear H
          go_upto_region 19 with (fail)
          go_cut [108] (fun v108 wc => ∃ (kq : Nat) (x108_73 : Bool), v108 = .bool x108_73 ∧ Aside0 (deadboltlaw09_RootTells.j4 kq t227 a3 t244 t247 t248 t249 t252 x108_73 t230 t231 t232 = some r) ∧ Aside0 (kq ≤ kj49) ∧ Aside0 (Kd.N k33 33 wc w.heap.size (fun k_ => some k_ ≠ (v250 : Value).ownBlock ∧ k_ ≠ gb226 ∧ k_ ≠ gb243) (.slice Ao23 t227.length co23) t227) ∧ Aside0 (Kd.V k33 33 wc w.heap.size (fun k_ => some k_ ≠ (v250 : Value).ownBlock ∧ k_ ≠ gb226 ∧ k_ ≠ gb243) v245 t244) ∧ Aside0 (Kd.R (Kd.int .i64) 3 wc w.heap.size (fun _ => True) v250 t248) ∧ Aside0 (Kd.V (Kd.int .i64) 3 wc w.heap.size (fun k_ => some k_ ≠ ((.slice Ao23 t227.length co23) : Value).ownBlock ∧ some k_ ≠ (v250 : Value).ownBlock ∧ k_ ≠ gb226 ∧ k_ ≠ gb243) (.slice Ao20 t232.length co20) t232) ∧ Aside0 (Kd.V (Kd.int .i64) 3 wc w.heap.size (fun k_ => some k_ ≠ (v250 : Value).ownBlock ∧ k_ ≠ gb226 ∧ k_ ≠ gb243) (.slice Ao28 t239.length co28) t239) ∧ Aside0 (wc.heap[gb226]? = some (.cells #[.int .i64 t230, .int .i64 t231, (.slice Ao20 t232.length co20)] 33 (0, 0))) ∧ Aside0 (wc.heap[gb243]? = some (.cells #[.int .i64 t237, .int .i64 t238, (.slice Ao28 t239.length co28)] 33 (0, 0))) ∧ Aside0 (Below w.heap.size w wc))
          case first =>
           have H := HC74.out
           clear HC74
           by_cases c75 : t252 = true
           ·subst c75
            have H1 : (if a3 < 0 then (deadboltlaw09_RootTells.j4 kj49 t227 a3 t244 t247 t248 t249 true true t230 t231 t232) else (deadboltlaw09_RootTells.j4 kj49 t227 a3 t244 t247 t248 t249 true (decide (a3 > 250)) t230 t231 t232)) = some r := by rw [if_pos rfl] at H; exact H
            clear H
            have H := H1
            clear H1
            by_cases c76 : a3 < 0
            ·rw [if_pos c76] at H
             have c76b0 : decide (a3 < 0) = true := decide_eq_true c76
             clear c76
             (first | rw [c76b0] | (simp only [i64_w, i32_w]; rw [c76b0]) | skip)
             have H' := Aside0.mk H
             clear H
             go_wp2
             go_meet
             case rel => exact ⟨_, (true), (by first | rfl | (simp; done) | (simp [*]; done)), H', ⟨by have := HJ12.out; have := HJ40.out; have := HJ47.out; have := HJ49.out; first | omega | exact Nat.le_refl _⟩, ⟨by (with_reducible repeat (first | apply Kd.N_alloc | apply Kd.N_drewN | apply Kd.N_drew)); exact HO_0.out⟩, ⟨by (with_reducible repeat (first | apply Kd.V_alloc | apply Kd.V_drewN | apply Kd.V_drew)); exact HO_13.out⟩, ⟨by (with_reducible repeat (first | apply Kd.R_alloc | apply Kd.R_drewN | apply Kd.R_drew)); exact HO_15.out⟩, ⟨by (with_reducible repeat (first | apply Kd.V_alloc | apply Kd.V_drewN | apply Kd.V_drew)); exact HO_227002.out⟩, ⟨by (with_reducible repeat (first | apply Kd.V_alloc | apply Kd.V_drewN | apply Kd.V_drew)); exact HO_244002.out⟩, ⟨by (with_reducible repeat (first | refine blk_drewN ?_ _ | refine blk_drew ?_ | refine blk_alloc ?_ _)); exact BK226.out⟩, ⟨by (with_reducible repeat (first | refine blk_drewN ?_ _ | refine blk_drew ?_ | refine blk_alloc ?_ _)); exact BK243.out⟩, ⟨by repeat (first | (with_reducible first | exact HB.out | apply below_alloc | apply pw_below_drewN | apply below_drew1 | refine below_set ?_ GE226.out | refine below_set ?_ GE243.out) | exact HB.out)⟩⟩
            ·rw [if_neg c76] at H
             have c76b0 : decide (a3 < 0) = false := decide_eq_false c76
             clear c76
             (first | rw [c76b0] | (simp only [i64_w, i32_w]; rw [c76b0]) | skip)
             have H' := Aside0.mk H
             clear H
             go_wp2
             go_meet
             case rel => exact ⟨_, (decide (a3 > 250)), (by first | rfl | (simp; done) | (simp [*]; done)), H', ⟨by have := HJ12.out; have := HJ40.out; have := HJ47.out; have := HJ49.out; first | omega | exact Nat.le_refl _⟩, ⟨by (with_reducible repeat (first | apply Kd.N_alloc | apply Kd.N_drewN | apply Kd.N_drew)); exact HO_0.out⟩, ⟨by (with_reducible repeat (first | apply Kd.V_alloc | apply Kd.V_drewN | apply Kd.V_drew)); exact HO_13.out⟩, ⟨by (with_reducible repeat (first | apply Kd.R_alloc | apply Kd.R_drewN | apply Kd.R_drew)); exact HO_15.out⟩, ⟨by (with_reducible repeat (first | apply Kd.V_alloc | apply Kd.V_drewN | apply Kd.V_drew)); exact HO_227002.out⟩, ⟨by (with_reducible repeat (first | apply Kd.V_alloc | apply Kd.V_drewN | apply Kd.V_drew)); exact HO_244002.out⟩, ⟨by (with_reducible repeat (first | refine blk_drewN ?_ _ | refine blk_drew ?_ | refine blk_alloc ?_ _)); exact BK226.out⟩, ⟨by (with_reducible repeat (first | refine blk_drewN ?_ _ | refine blk_drew ?_ | refine blk_alloc ?_ _)); exact BK243.out⟩, ⟨by repeat (first | (with_reducible first | exact HB.out | apply below_alloc | apply pw_below_drewN | apply below_drew1 | refine below_set ?_ GE226.out | refine below_set ?_ GE243.out) | exact HB.out)⟩⟩
           ·replace c75 := Bool.eq_false_iff.mpr c75
            subst c75
            have H1 : (deadboltlaw09_RootTells.j4 kj49 t227 a3 t244 t247 t248 t249 false true t230 t231 t232) = some r := by rw [if_neg (show ¬ (false = true) by decide)] at H; exact H
            clear H
            have H := H1
            clear H1
            have H' := Aside0.mk H
            clear H
            go_wp2
            go_meet
            case rel => exact ⟨_, (true), (by first | rfl | (simp; done) | (simp [*]; done)), H', ⟨by have := HJ12.out; have := HJ40.out; have := HJ47.out; have := HJ49.out; first | omega | exact Nat.le_refl _⟩, ⟨by (with_reducible repeat (first | apply Kd.N_alloc | apply Kd.N_drewN | apply Kd.N_drew)); exact HO_0.out⟩, ⟨by (with_reducible repeat (first | apply Kd.V_alloc | apply Kd.V_drewN | apply Kd.V_drew)); exact HO_13.out⟩, ⟨by (with_reducible repeat (first | apply Kd.R_alloc | apply Kd.R_drewN | apply Kd.R_drew)); exact HO_15.out⟩, ⟨by (with_reducible repeat (first | apply Kd.V_alloc | apply Kd.V_drewN | apply Kd.V_drew)); exact HO_227002.out⟩, ⟨by (with_reducible repeat (first | apply Kd.V_alloc | apply Kd.V_drewN | apply Kd.V_drew)); exact HO_244002.out⟩, ⟨by (with_reducible repeat (first | refine blk_drewN ?_ _ | refine blk_drew ?_ | refine blk_alloc ?_ _)); exact BK226.out⟩, ⟨by (with_reducible repeat (first | refine blk_drewN ?_ _ | refine blk_drew ?_ | refine blk_alloc ?_ _)); exact BK243.out⟩, ⟨by repeat (first | (with_reducible first | exact HB.out | apply below_alloc | apply pw_below_drewN | apply below_drew1 | refine below_set ?_ GE226.out | refine below_set ?_ GE243.out) | exact HB.out)⟩⟩
          case rest =>
           clear HC74
           try clear c2
           try clear p2
           try clear c5
           try clear c6
           try clear c7
           try clear c21
           try clear c22
           try clear c51
           try clear c52
           try clear c52b0
           try clear c52b1
           try clear c54
           try clear c55
           try clear c58
           try clear c61
           try clear c61b0
           try clear c61b1
           try clear c64
           try clear c75
           try clear c76
           try clear c76b0
           try clear hcz27_1
           try clear hcz27_2
           try clear hcz30_0
           try clear hcz30_1
           try clear hcz30_2
           try clear hcz56_0
           try clear hcz56_1
           try clear hcz56_2
           try clear hcz59_0
           try clear hcz59_1
           try clear hcz59_2
           try clear hfz27_0
           try clear hfz27_1
           try clear hfz27_2
           try clear hfz30_0
           try clear hfz30_1
           try clear hfz30_2
           try clear hfz56_0
           try clear hfz56_1
           try clear hfz56_2
           try clear hfz59_0
           try clear hfz59_1
           try clear hfz59_2
           try clear p2
           obtain ⟨kq, x108_73, rfl, HA, HJ73, HO_0, HO_13, HO_15, HO_227002, HO_244002, BK226, BK243, HB⟩ := hcut
           cases kq with
           | zero => exact absurd HA.out (by simp [deadboltlaw09_RootTells.j4])
           | succ kj73 =>
            have H := HA.out
            clear HA
            simp only [deadboltlaw09_RootTells.j4] at H
            have HC77 := Aside0.mk H
            clear H
            go_upto_if 108 with (fail)
            go_cut [] (fun wc => ∃ (kq : Nat), Aside0 (deadboltlaw09_RootTells.j5 kq t227 t244 t247 t252 t230 t231 t232 = some r) ∧ Aside0 (kq ≤ kj73) ∧ Aside0 (Kd.N k33 33 wc w.heap.size (fun k_ => k_ ≠ gb226 ∧ k_ ≠ gb243) (.slice Ao23 t227.length co23) t227) ∧ Aside0 (Kd.V k33 33 wc w.heap.size (fun k_ => k_ ≠ gb226 ∧ k_ ≠ gb243) v245 t244) ∧ Aside0 (Kd.V (Kd.int .i64) 3 wc w.heap.size (fun k_ => some k_ ≠ ((.slice Ao23 t227.length co23) : Value).ownBlock ∧ k_ ≠ gb226 ∧ k_ ≠ gb243) (.slice Ao20 t232.length co20) t232) ∧ Aside0 (Kd.V (Kd.int .i64) 3 wc w.heap.size (fun k_ => k_ ≠ gb226 ∧ k_ ≠ gb243) (.slice Ao28 t239.length co28) t239) ∧ Aside0 (wc.heap[gb226]? = some (.cells #[.int .i64 t230, .int .i64 t231, (.slice Ao20 t232.length co20)] 33 (0, 0))) ∧ Aside0 (wc.heap[gb243]? = some (.cells #[.int .i64 t237, .int .i64 t238, (.slice Ao28 t239.length co28)] 33 (0, 0))) ∧ Aside0 (Below w.heap.size w wc))
            case first =>
             have H := HC77.out
             clear HC77
             by_cases c78 : x108_73 = true
             ·subst c78
              have H1 : (if t249 = 1 then (if (t248.length : Int) = 0 then (deadboltlaw09_RootTells.j5 kj73 t227 t244 t247 t252 t230 t231 t232) else (some false)) else (some false)) = some r := by rw [if_pos rfl] at H; exact H
              clear H
              have H := H1
              clear H1
              by_cases c79 : t249 = 1
              ·rw [if_pos c79] at H
               have c79b0 : (t249 == 1) = true := beq_iff_eq.mpr c79
               have c79b1 : (t249 != 1) = false := bne_eq_false_iff_eq.mpr c79
               clear c79
               (first | rw [c79b0] | (simp only [i64_w, i32_w]; rw [c79b0]) | skip)
               by_cases c80 : (t248.length : Int) = 0
               ·rw [if_pos c80] at H
                have c80b0 : ((t248.length : Int) == 0) = true := beq_iff_eq.mpr c80
                have c80b1 : ((t248.length : Int) != 0) = false := bne_eq_false_iff_eq.mpr c80
                clear c80
                have H' := Aside0.mk H
                clear H
                obtain ⟨Ao81, co81, eo81⟩ := Kd.R_slice HO_15.out
                subst eo81
                go_wp2
                go_meet
                case rel => exact ⟨_, H', ⟨by have := HJ12.out; have := HJ40.out; have := HJ47.out; have := HJ49.out; have := HJ73.out; first | omega | exact Nat.le_refl _⟩, ⟨by (with_reducible repeat (first | apply Kd.N_alloc | apply Kd.N_drewN | apply Kd.N_drew)); exact Kd.N_mono HO_0.out (fun _ hk => ⟨hk.2.1, hk.2.2⟩)⟩, ⟨by (with_reducible repeat (first | apply Kd.V_alloc | apply Kd.V_drewN | apply Kd.V_drew)); exact Kd.V_mono HO_13.out (fun _ hk => ⟨hk.2.1, hk.2.2⟩)⟩, ⟨by (with_reducible repeat (first | apply Kd.V_alloc | apply Kd.V_drewN | apply Kd.V_drew)); exact Kd.V_mono HO_227002.out (fun _ hk => ⟨hk.1, ⟨hk.2.2.1, hk.2.2.2⟩⟩)⟩, ⟨by (with_reducible repeat (first | apply Kd.V_alloc | apply Kd.V_drewN | apply Kd.V_drew)); exact Kd.V_mono HO_244002.out (fun _ hk => ⟨hk.2.1, hk.2.2⟩)⟩, ⟨by (with_reducible repeat (first | refine blk_drewN ?_ _ | refine blk_drew ?_ | refine blk_alloc ?_ _)); exact BK226.out⟩, ⟨by (with_reducible repeat (first | refine blk_drewN ?_ _ | refine blk_drew ?_ | refine blk_alloc ?_ _)); exact BK243.out⟩, ⟨by repeat (first | (with_reducible first | exact HB.out | apply below_alloc | apply pw_below_drewN | apply below_drew1 | refine below_set ?_ GE226.out | refine below_set ?_ GE243.out) | exact HB.out)⟩⟩
               ·rw [if_neg c80] at H
                have c80b0 : ((t248.length : Int) == 0) = false := beq_eq_false_iff_ne.mpr c80
                have c80b1 : ((t248.length : Int) != 0) = true := bne_iff_ne.mpr c80
                have c80b2 : ¬ (t248 = []) := fun h_ => c80 (by rw [h_]; rfl)
                obtain rfl := Option.some.inj H
                obtain ⟨Ao82, co82, eo82⟩ := Kd.R_slice HO_15.out
                subst eo82
                go_wp2
                go_ret
                exact ⟨by first | rfl | (simp [errW_none, errW_some] <;> rfl) | (simp [*, errW_none, errW_some] <;> rfl), by repeat (first | (with_reducible first | exact HB.out | apply below_alloc | apply pw_below_drewN | apply below_drew1 | refine below_set ?_ GE226.out | refine below_set ?_ GE243.out) | exact HB.out)⟩
              ·rw [if_neg c79] at H
               have c79b0 : (t249 == 1) = false := beq_eq_false_iff_ne.mpr c79
               have c79b1 : (t249 != 1) = true := bne_iff_ne.mpr c79
               (first | rw [c79b0] | (simp only [i64_w, i32_w]; rw [c79b0]) | skip)
               obtain rfl := Option.some.inj H
               go_wp2
               go_ret
               exact ⟨by first | rfl | (simp [errW_none, errW_some] <;> rfl) | (simp [*, errW_none, errW_some] <;> rfl), by repeat (first | (with_reducible first | exact HB.out | apply below_alloc | apply pw_below_drewN | apply below_drew1 | refine below_set ?_ GE226.out | refine below_set ?_ GE243.out) | exact HB.out)⟩
             ·replace c78 := Bool.eq_false_iff.mpr c78
              subst c78
              have H1 : (if t249 = 0 then ((deadboltref09_Under.f kj73 t227 a3).bind fun t264 => ((deadboltref07_Same.f kj73 t248 t264).bind fun t267 => (if t267 = true then (deadboltlaw09_RootTells.j5 kj73 t227 t244 t247 t252 t230 t231 t232) else (some false)))) else (some false)) = some r := by rw [if_neg (show ¬ (false = true) by decide)] at H; exact H
              clear H
              have H := H1
              clear H1
              by_cases c83 : t249 = 0
              ·rw [if_pos c83] at H
               have c83b0 : (t249 == 0) = true := beq_iff_eq.mpr c83
               have c83b1 : (t249 != 0) = false := bne_eq_false_iff_eq.mpr c83
               clear c83
               replace H := Option.bind_eq_some_iff.mp H
               obtain ⟨t264, A840, H⟩ := H
               replace H : ((deadboltref07_Same.f kj73 t248 t264).bind fun t267 => (if t267 = true then (deadboltlaw09_RootTells.j5 kj73 t227 t244 t247 t252 t230 t231 t232) else (some false))) = some r := H
               have A84 := Aside0.mk A840
               clear A840
               replace H := Option.bind_eq_some_iff.mp H
               obtain ⟨t267, A850, H⟩ := H
               replace H : (if t267 = true then (deadboltlaw09_RootTells.j5 kj73 t227 t244 t247 t252 t230 t231 t232) else (some false)) = some r := H
               have A85 := Aside0.mk A850
               clear A850
               by_cases c86 : t267 = true
               ·subst c86
                have H1 : (deadboltlaw09_RootTells.j5 kj73 t227 t244 t247 t252 t230 t231 t232) = some r := by rw [if_pos rfl] at H; exact H
                clear H
                have H := H1
                clear H1
                have H' := Aside0.mk H
                clear H
                go_wp2_with (first | (go_at_call 24; (with_reducible refine (deadboltref09_Under.calls kj73 _ _ t227 a3 t264 _ ?side1 ?side2 A84.out).mono ?_); (case side1 => repeat (first | exact (Kd.N_reads' HO_0.out).2.2 | (with_reducible refine Kd.C_alloc ?_ _) | (with_reducible refine Kd.C_drewN ?_ _) | (with_reducible refine Kd.C_drew ?_))); (case side2 => exact (Kd.N_reads' HO_0.out).2.1); rintro e w87 ⟨v265, rfl, ho0, hb⟩; have n0_ := Aside0.mk (Kd.N_elder' (by (with_reducible repeat (first | apply Kd.N_alloc | apply Kd.N_drewN | apply Kd.N_drew)); exact HO_0.out) (Kd.R_base ho0) hb); have n1_ := Aside0.mk (Kd.V_elder' (by (with_reducible repeat (first | apply Kd.V_alloc | apply Kd.V_drewN | apply Kd.V_drew)); exact HO_13.out) (Kd.R_base ho0) hb); have n2_ := Aside0.mk (Kd.R_elder' (by (with_reducible repeat (first | apply Kd.R_alloc | apply Kd.R_drewN | apply Kd.R_drew)); exact HO_15.out) (Kd.R_base ho0) hb); have n3_ := Aside0.mk (Kd.V_elder' (by (with_reducible repeat (first | apply Kd.V_alloc | apply Kd.V_drewN | apply Kd.V_drew)); exact HO_227002.out) (Kd.R_base ho0) hb); have n4_ := Aside0.mk (Kd.V_elder' (by (with_reducible repeat (first | apply Kd.V_alloc | apply Kd.V_drewN | apply Kd.V_drew)); exact HO_244002.out) (Kd.R_base ho0) hb); have n5_ := Aside0.mk (Kd.R_lower (Kd.R_new' ho0 (Kd.R_lt (by (with_reducible repeat (first | apply Kd.R_alloc | apply Kd.R_drewN | apply Kd.R_drew)); exact HO_15.out))) (below_size (by repeat (first | (with_reducible first | exact HB.out | apply below_alloc | apply pw_below_drewN | apply below_drew1 | refine below_set ?_ GE226.out | refine below_set ?_ GE243.out) | exact HB.out)))); have n6_ := Aside0.mk (blk_below (g := gb226) (o := .cells #[.int .i64 t230, .int .i64 t231, .slice Ao20 t232.length co20] 33 (0, 0)) (by (with_reducible repeat (first | refine blk_drewN ?_ _ | refine blk_drew ?_ | refine blk_alloc ?_ _)); exact BK226.out) hb); have n7_ := Aside0.mk (blk_below (g := gb243) (o := .cells #[.int .i64 t237, .int .i64 t238, .slice Ao28 t239.length co28] 33 (0, 0)) (by (with_reducible repeat (first | refine blk_drewN ?_ _ | refine blk_drew ?_ | refine blk_alloc ?_ _)); exact BK243.out) hb); have n8_ := Aside0.mk (below_step (by repeat (first | (with_reducible first | exact HB.out | apply below_alloc | apply pw_below_drewN | apply below_drew1 | refine below_set ?_ GE226.out | refine below_set ?_ GE243.out) | exact HB.out)) hb); clear HO_0; clear HO_13; clear HO_15; clear HO_227002; clear HO_244002; clear BK226; clear BK243; clear HB; have HO_0 := n0_; have HO_13 := n1_; have HO_15 := n2_; have HO_227002 := n3_; have HO_244002 := n4_; have HO266 := n5_; have BK226 := n6_; have BK243 := n7_; have HB := n8_; clear n0_ n1_ n2_ n3_ n4_ n5_ n6_ n7_ n8_; (try clear hb); (try clear hb2); (try clear hk); (try clear hi); (try clear ho0); obtain ⟨Ao88, co88, eo88⟩ := Kd.R_slice HO_15.out; subst eo88; obtain ⟨Ao89, co89, eo89⟩ := Kd.R_slice HO266.out; subst eo89) | (go_at_call 23; (with_reducible refine (deadboltref07_Same.calls kj73 _ _ t248 _ _ t264 true _ ?side1 ?side2 ?side3 ?side4 A85.out).mono ?_); (case side1 => repeat (first | exact (Kd.R_reads' HO_15.out).2.2 | (with_reducible refine Kd.C_alloc ?_ _) | (with_reducible refine Kd.C_drewN ?_ _) | (with_reducible refine Kd.C_drew ?_))); (case side2 => exact (Kd.R_reads' HO_15.out).2.1); (case side3 => repeat (first | exact (Kd.R_reads' HO266.out).2.2 | (with_reducible refine Kd.C_alloc ?_ _) | (with_reducible refine Kd.C_drewN ?_ _) | (with_reducible refine Kd.C_drew ?_))); (case side4 => exact (Kd.R_reads' HO266.out).2.1); rintro e w' ⟨rfl, ⟨nd, rfl⟩⟩))
                go_meet
                case rel => exact ⟨_, H', ⟨by have := HJ12.out; have := HJ40.out; have := HJ47.out; have := HJ49.out; have := HJ73.out; first | omega | exact Nat.le_refl _⟩, ⟨by (with_reducible repeat (first | apply Kd.N_alloc | apply Kd.N_drewN | apply Kd.N_drew)); exact Kd.N_mono HO_0.out (fun _ hk => ⟨hk.1.2.1, hk.1.2.2⟩)⟩, ⟨by (with_reducible repeat (first | apply Kd.V_alloc | apply Kd.V_drewN | apply Kd.V_drew)); exact Kd.V_mono HO_13.out (fun _ hk => ⟨hk.1.2.1, hk.1.2.2⟩)⟩, ⟨by (with_reducible repeat (first | apply Kd.V_alloc | apply Kd.V_drewN | apply Kd.V_drew)); exact Kd.V_mono HO_227002.out (fun _ hk => ⟨hk.1.1, ⟨hk.1.2.2.1, hk.1.2.2.2⟩⟩)⟩, ⟨by (with_reducible repeat (first | apply Kd.V_alloc | apply Kd.V_drewN | apply Kd.V_drew)); exact Kd.V_mono HO_244002.out (fun _ hk => ⟨hk.1.2.1, hk.1.2.2⟩)⟩, ⟨by (with_reducible repeat (first | refine blk_drewN ?_ _ | refine blk_drew ?_ | refine blk_alloc ?_ _)); exact BK226.out⟩, ⟨by (with_reducible repeat (first | refine blk_drewN ?_ _ | refine blk_drew ?_ | refine blk_alloc ?_ _)); exact BK243.out⟩, ⟨by repeat (first | (with_reducible first | exact HB.out | apply below_alloc | apply pw_below_drewN | apply below_drew1 | refine below_set ?_ GE226.out | refine below_set ?_ GE243.out) | exact HB.out)⟩⟩
               ·replace c86 := Bool.eq_false_iff.mpr c86
                subst c86
                have H1 : (some false) = some r := by rw [if_neg (show ¬ (false = true) by decide)] at H; exact H
                clear H
                have H := H1
                clear H1
                obtain rfl := Option.some.inj H
                go_wp2_with (first | (go_at_call 24; (with_reducible refine (deadboltref09_Under.calls kj73 _ _ t227 a3 t264 _ ?side1 ?side2 A84.out).mono ?_); (case side1 => repeat (first | exact (Kd.N_reads' HO_0.out).2.2 | (with_reducible refine Kd.C_alloc ?_ _) | (with_reducible refine Kd.C_drewN ?_ _) | (with_reducible refine Kd.C_drew ?_))); (case side2 => exact (Kd.N_reads' HO_0.out).2.1); rintro e w90 ⟨v265, rfl, ho0, hb⟩; have n0_ := Aside0.mk (Kd.N_elder' (by (with_reducible repeat (first | apply Kd.N_alloc | apply Kd.N_drewN | apply Kd.N_drew)); exact HO_0.out) (Kd.R_base ho0) hb); have n1_ := Aside0.mk (Kd.V_elder' (by (with_reducible repeat (first | apply Kd.V_alloc | apply Kd.V_drewN | apply Kd.V_drew)); exact HO_13.out) (Kd.R_base ho0) hb); have n2_ := Aside0.mk (Kd.R_elder' (by (with_reducible repeat (first | apply Kd.R_alloc | apply Kd.R_drewN | apply Kd.R_drew)); exact HO_15.out) (Kd.R_base ho0) hb); have n3_ := Aside0.mk (Kd.V_elder' (by (with_reducible repeat (first | apply Kd.V_alloc | apply Kd.V_drewN | apply Kd.V_drew)); exact HO_227002.out) (Kd.R_base ho0) hb); have n4_ := Aside0.mk (Kd.V_elder' (by (with_reducible repeat (first | apply Kd.V_alloc | apply Kd.V_drewN | apply Kd.V_drew)); exact HO_244002.out) (Kd.R_base ho0) hb); have n5_ := Aside0.mk (Kd.R_lower (Kd.R_new' ho0 (Kd.R_lt (by (with_reducible repeat (first | apply Kd.R_alloc | apply Kd.R_drewN | apply Kd.R_drew)); exact HO_15.out))) (below_size (by repeat (first | (with_reducible first | exact HB.out | apply below_alloc | apply pw_below_drewN | apply below_drew1 | refine below_set ?_ GE226.out | refine below_set ?_ GE243.out) | exact HB.out)))); have n6_ := Aside0.mk (blk_below (g := gb226) (o := .cells #[.int .i64 t230, .int .i64 t231, .slice Ao20 t232.length co20] 33 (0, 0)) (by (with_reducible repeat (first | refine blk_drewN ?_ _ | refine blk_drew ?_ | refine blk_alloc ?_ _)); exact BK226.out) hb); have n7_ := Aside0.mk (blk_below (g := gb243) (o := .cells #[.int .i64 t237, .int .i64 t238, .slice Ao28 t239.length co28] 33 (0, 0)) (by (with_reducible repeat (first | refine blk_drewN ?_ _ | refine blk_drew ?_ | refine blk_alloc ?_ _)); exact BK243.out) hb); have n8_ := Aside0.mk (below_step (by repeat (first | (with_reducible first | exact HB.out | apply below_alloc | apply pw_below_drewN | apply below_drew1 | refine below_set ?_ GE226.out | refine below_set ?_ GE243.out) | exact HB.out)) hb); clear HO_0; clear HO_13; clear HO_15; clear HO_227002; clear HO_244002; clear BK226; clear BK243; clear HB; have HO_0 := n0_; have HO_13 := n1_; have HO_15 := n2_; have HO_227002 := n3_; have HO_244002 := n4_; have HO266 := n5_; have BK226 := n6_; have BK243 := n7_; have HB := n8_; clear n0_ n1_ n2_ n3_ n4_ n5_ n6_ n7_ n8_; (try clear hb); (try clear hb2); (try clear hk); (try clear hi); (try clear ho0); obtain ⟨Ao91, co91, eo91⟩ := Kd.R_slice HO_15.out; subst eo91; obtain ⟨Ao92, co92, eo92⟩ := Kd.R_slice HO266.out; subst eo92) | (go_at_call 23; (with_reducible refine (deadboltref07_Same.calls kj73 _ _ t248 _ _ t264 false _ ?side1 ?side2 ?side3 ?side4 A85.out).mono ?_); (case side1 => repeat (first | exact (Kd.R_reads' HO_15.out).2.2 | (with_reducible refine Kd.C_alloc ?_ _) | (with_reducible refine Kd.C_drewN ?_ _) | (with_reducible refine Kd.C_drew ?_))); (case side2 => exact (Kd.R_reads' HO_15.out).2.1); (case side3 => repeat (first | exact (Kd.R_reads' HO266.out).2.2 | (with_reducible refine Kd.C_alloc ?_ _) | (with_reducible refine Kd.C_drewN ?_ _) | (with_reducible refine Kd.C_drew ?_))); (case side4 => exact (Kd.R_reads' HO266.out).2.1); rintro e w' ⟨rfl, ⟨nd, rfl⟩⟩))
                go_ret
                exact ⟨by first | rfl | (simp [errW_none, errW_some] <;> rfl) | (simp [*, errW_none, errW_some] <;> rfl), by repeat (first | (with_reducible first | exact HB.out | apply below_alloc | apply pw_below_drewN | apply below_drew1 | refine below_set ?_ GE226.out | refine below_set ?_ GE243.out) | exact HB.out)⟩
              ·rw [if_neg c83] at H
               have c83b0 : (t249 == 0) = false := beq_eq_false_iff_ne.mpr c83
               have c83b1 : (t249 != 0) = true := bne_iff_ne.mpr c83
               obtain rfl := Option.some.inj H
               go_wp2
               go_ret
               exact ⟨by first | rfl | (simp [errW_none, errW_some] <;> rfl) | (simp [*, errW_none, errW_some] <;> rfl), by repeat (first | (with_reducible first | exact HB.out | apply below_alloc | apply pw_below_drewN | apply below_drew1 | refine below_set ?_ GE226.out | refine below_set ?_ GE243.out) | exact HB.out)⟩
            case rest =>
             clear HC77
             try clear c2
             try clear p2
             try clear c5
             try clear c6
             try clear c7
             try clear c8
             try clear c21
             try clear c22
             try clear c51
             try clear c52
             try clear c52b0
             try clear c52b1
             try clear c54
             try clear c55
             try clear c58
             try clear c61
             try clear c61b0
             try clear c61b1
             try clear c64
             try clear c75
             try clear c76
             try clear c76b0
             try clear c78
             try clear c79
             try clear c79b0
             try clear c79b1
             try clear c80
             try clear c80b0
             try clear c80b1
             try clear c80b2
             try clear c83
             try clear c83b0
             try clear c83b1
             try clear c86
             try clear hcz27_1
             try clear hcz27_2
             try clear hcz30_0
             try clear hcz30_1
             try clear hcz30_2
             try clear hcz56_0
             try clear hcz56_1
             try clear hcz56_2
             try clear hcz59_0
             try clear hcz59_1
             try clear hcz59_2
             try clear hfz27_0
             try clear hfz27_1
             try clear hfz27_2
             try clear hfz30_0
             try clear hfz30_1
             try clear hfz30_2
             try clear hfz56_0
             try clear hfz56_1
             try clear hfz56_2
             try clear hfz59_0
             try clear hfz59_1
             try clear hfz59_2
             try clear p2
             obtain ⟨kq, HA, HJ76, HO_0, HO_13, HO_227002, HO_244002, BK226, BK243, HB⟩ := hcut
             cases kq with
             | zero => exact absurd HA.out (by simp [deadboltlaw09_RootTells.j5])
             | succ kj76 =>
              have H := HA.out
              clear HA
              simp only [deadboltlaw09_RootTells.j5] at H
              have HC93 := Aside0.mk H
              clear H
              go_upto_region 24 with (fail)
              go_cut [132] (fun v132 wc => ∃ (kq : Nat) (x132_92 : Bool), v132 = .bool x132_92 ∧ Aside0 (deadboltlaw09_RootTells.j6 kq t227 t244 t247 x132_92 t230 t231 t232 = some r) ∧ Aside0 (kq ≤ kj76) ∧ Aside0 (Kd.N k33 33 wc w.heap.size (fun k_ => k_ ≠ gb226 ∧ k_ ≠ gb243) (.slice Ao23 t227.length co23) t227) ∧ Aside0 (Kd.V k33 33 wc w.heap.size (fun k_ => k_ ≠ gb226 ∧ k_ ≠ gb243) v245 t244) ∧ Aside0 (Kd.V (Kd.int .i64) 3 wc w.heap.size (fun k_ => some k_ ≠ ((.slice Ao23 t227.length co23) : Value).ownBlock ∧ k_ ≠ gb226 ∧ k_ ≠ gb243) (.slice Ao20 t232.length co20) t232) ∧ Aside0 (Kd.V (Kd.int .i64) 3 wc w.heap.size (fun k_ => k_ ≠ gb226 ∧ k_ ≠ gb243) (.slice Ao28 t239.length co28) t239) ∧ Aside0 (wc.heap[gb226]? = some (.cells #[.int .i64 t230, .int .i64 t231, (.slice Ao20 t232.length co20)] 33 (0, 0))) ∧ Aside0 (wc.heap[gb243]? = some (.cells #[.int .i64 t237, .int .i64 t238, (.slice Ao28 t239.length co28)] 33 (0, 0))) ∧ Aside0 (Below w.heap.size w wc))
              case first =>
               have H := HC93.out
               clear HC93
               by_cases c94 : t252 = true
               ·subst c94
                have H1 : ((deadboltref09_Spot.f kj76 t230 t231 t232).bind fun t268 => (deadboltlaw09_RootTells.j6 kj76 t227 t244 t247 (!t268) t230 t231 t232)) = some r := by rw [if_pos rfl] at H; exact H
                clear H
                have H := H1
                clear H1
                replace H := Option.bind_eq_some_iff.mp H
                obtain ⟨t268, A950, H⟩ := H
                replace H : (deadboltlaw09_RootTells.j6 kj76 t227 t244 t247 (!t268) t230 t231 t232) = some r := H
                have A95 := Aside0.mk A950
                clear A950
                have H' := Aside0.mk H
                clear H
                have hnb96 := NB226_243.out
                have hnc96 := NB243_226.out
                have hcz97_0 : wc.cell? ⟨gb226, 0, none⟩ = some (.int .i64 t230) := (blk_cell BK226.out 0).trans rfl
                have hcz97_1 : wc.cell? ⟨gb226, 1, none⟩ = some (.int .i64 t231) := (blk_cell BK226.out 1).trans rfl
                have hcz97_2 : wc.cell? ⟨gb226, 2, none⟩ = some (.slice Ao20 t232.length co20) := (blk_cell BK226.out 2).trans rfl
                have hfz97_0 := blk_frozen BK226.out 0
                have hfz97_1 := blk_frozen BK226.out 1
                have hfz97_2 := blk_frozen BK226.out 2
                go_wp2_with (first | (go_at_call 25; (with_reducible refine (deadboltref09_Spot.calls kj76 t230 t231 _ _ t232 t268 _ ?side1 ?side2 A95.out).mono ?_); (case side1 => repeat (first | exact (Kd.V_reads' HO_227002.out).2.2 | (with_reducible refine Kd.C_alloc ?_ _) | (with_reducible refine Kd.C_drewN ?_ _) | (with_reducible refine Kd.C_drew ?_))); (case side2 => exact (Kd.V_reads' HO_227002.out).2.1); rintro e w98 ⟨rfl, hb⟩; have n0_ := Aside0.mk (Kd.N_below (by (with_reducible repeat (first | apply Kd.N_alloc | apply Kd.N_drewN | apply Kd.N_drew)); exact HO_0.out) hb); have n1_ := Aside0.mk (Kd.V_below (by (with_reducible repeat (first | apply Kd.V_alloc | apply Kd.V_drewN | apply Kd.V_drew)); exact HO_13.out) hb); have n2_ := Aside0.mk (Kd.V_below (by (with_reducible repeat (first | apply Kd.V_alloc | apply Kd.V_drewN | apply Kd.V_drew)); exact HO_227002.out) hb); have n3_ := Aside0.mk (Kd.V_below (by (with_reducible repeat (first | apply Kd.V_alloc | apply Kd.V_drewN | apply Kd.V_drew)); exact HO_244002.out) hb); have n4_ := Aside0.mk (blk_below (g := gb226) (o := .cells #[.int .i64 t230, .int .i64 t231, .slice Ao20 t232.length co20] 33 (0, 0)) (by (with_reducible repeat (first | refine blk_drewN ?_ _ | refine blk_drew ?_ | refine blk_alloc ?_ _)); exact BK226.out) hb); have n5_ := Aside0.mk (blk_below (g := gb243) (o := .cells #[.int .i64 t237, .int .i64 t238, .slice Ao28 t239.length co28] 33 (0, 0)) (by (with_reducible repeat (first | refine blk_drewN ?_ _ | refine blk_drew ?_ | refine blk_alloc ?_ _)); exact BK243.out) hb); have n6_ := Aside0.mk (below_step (by repeat (first | (with_reducible first | exact HB.out | apply below_alloc | apply pw_below_drewN | apply below_drew1 | refine below_set ?_ GE226.out | refine below_set ?_ GE243.out) | exact HB.out)) hb); clear HO_0; clear HO_13; clear HO_227002; clear HO_244002; clear BK226; clear BK243; clear HB; have HO_0 := n0_; have HO_13 := n1_; have HO_227002 := n2_; have HO_244002 := n3_; have BK226 := n4_; have BK243 := n5_; have HB := n6_; clear n0_ n1_ n2_ n3_ n4_ n5_ n6_; (try clear hb); (try clear hb2); (try clear hk); (try clear hi)))
                go_meet
                case rel => exact ⟨_, (!t268), (by first | rfl | (simp; done) | (simp [*]; done)), H', ⟨by have := HJ12.out; have := HJ40.out; have := HJ47.out; have := HJ49.out; have := HJ73.out; have := HJ76.out; first | omega | exact Nat.le_refl _⟩, ⟨by (with_reducible repeat (first | apply Kd.N_alloc | apply Kd.N_drewN | apply Kd.N_drew)); exact HO_0.out⟩, ⟨by (with_reducible repeat (first | apply Kd.V_alloc | apply Kd.V_drewN | apply Kd.V_drew)); exact HO_13.out⟩, ⟨by (with_reducible repeat (first | apply Kd.V_alloc | apply Kd.V_drewN | apply Kd.V_drew)); exact HO_227002.out⟩, ⟨by (with_reducible repeat (first | apply Kd.V_alloc | apply Kd.V_drewN | apply Kd.V_drew)); exact HO_244002.out⟩, ⟨by (with_reducible repeat (first | refine blk_drewN ?_ _ | refine blk_drew ?_ | refine blk_alloc ?_ _)); exact BK226.out⟩, ⟨by (with_reducible repeat (first | refine blk_drewN ?_ _ | refine blk_drew ?_ | refine blk_alloc ?_ _)); exact BK243.out⟩, ⟨by repeat (first | (with_reducible first | exact HB.out | apply below_alloc | apply pw_below_drewN | apply below_drew1 | refine below_set ?_ GE226.out | refine below_set ?_ GE243.out) | exact HB.out)⟩⟩
               ·replace c94 := Bool.eq_false_iff.mpr c94
                subst c94
                have H1 : (deadboltlaw09_RootTells.j6 kj76 t227 t244 t247 true t230 t231 t232) = some r := by rw [if_neg (show ¬ (false = true) by decide)] at H; exact H
                clear H
                have H := H1
                clear H1
                have H' := Aside0.mk H
                clear H
                go_wp2
                go_meet
                case rel => exact ⟨_, (true), (by first | rfl | (simp; done) | (simp [*]; done)), H', ⟨by have := HJ12.out; have := HJ40.out; have := HJ47.out; have := HJ49.out; have := HJ73.out; have := HJ76.out; first | omega | exact Nat.le_refl _⟩, ⟨by (with_reducible repeat (first | apply Kd.N_alloc | apply Kd.N_drewN | apply Kd.N_drew)); exact HO_0.out⟩, ⟨by (with_reducible repeat (first | apply Kd.V_alloc | apply Kd.V_drewN | apply Kd.V_drew)); exact HO_13.out⟩, ⟨by (with_reducible repeat (first | apply Kd.V_alloc | apply Kd.V_drewN | apply Kd.V_drew)); exact HO_227002.out⟩, ⟨by (with_reducible repeat (first | apply Kd.V_alloc | apply Kd.V_drewN | apply Kd.V_drew)); exact HO_244002.out⟩, ⟨by (with_reducible repeat (first | refine blk_drewN ?_ _ | refine blk_drew ?_ | refine blk_alloc ?_ _)); exact BK226.out⟩, ⟨by (with_reducible repeat (first | refine blk_drewN ?_ _ | refine blk_drew ?_ | refine blk_alloc ?_ _)); exact BK243.out⟩, ⟨by repeat (first | (with_reducible first | exact HB.out | apply below_alloc | apply pw_below_drewN | apply below_drew1 | refine below_set ?_ GE226.out | refine below_set ?_ GE243.out) | exact HB.out)⟩⟩
              case rest =>
               clear HC93
               try clear c2
               try clear p2
               try clear c5
               try clear c6
               try clear c7
               try clear c8
               try clear c9
               try clear c21
               try clear c22
               try clear c51
               try clear c52
               try clear c52b0
               try clear c52b1
               try clear c54
               try clear c55
               try clear c58
               try clear c61
               try clear c61b0
               try clear c61b1
               try clear c64
               try clear c75
               try clear c76
               try clear c76b0
               try clear c78
               try clear c79
               try clear c79b0
               try clear c79b1
               try clear c80
               try clear c80b0
               try clear c80b1
               try clear c80b2
               try clear c83
               try clear c83b0
               try clear c83b1
               try clear c86
               try clear c94
               try clear c96
               try clear hcz27_1
               try clear hcz27_2
               try clear hcz30_0
               try clear hcz30_1
               try clear hcz30_2
               try clear hcz56_0
               try clear hcz56_1
               try clear hcz56_2
               try clear hcz59_0
               try clear hcz59_1
               try clear hcz59_2
               try clear hcz97_0
               try clear hcz97_1
               try clear hcz97_2
               try clear hfz27_0
               try clear hfz27_1
               try clear hfz27_2
               try clear hfz30_0
               try clear hfz30_1
               try clear hfz30_2
               try clear hfz56_0
               try clear hfz56_1
               try clear hfz56_2
               try clear hfz59_0
               try clear hfz59_1
               try clear hfz59_2
               try clear hfz97_0
               try clear hfz97_1
               try clear hfz97_2
               try clear p2
               obtain ⟨kq, x132_92, rfl, HA, HJ92, HO_0, HO_13, HO_227002, HO_244002, BK226, BK243, HB⟩ := hcut
               cases kq with
               | zero => exact absurd HA.out (by simp [deadboltlaw09_RootTells.j6])
               | succ kj92 =>
                have H := HA.out
                clear HA
                simp only [deadboltlaw09_RootTells.j6] at H
                by_cases c99 : x132_92 = true
                ·subst c99
                 have H1 : (if t247 = 1 then (some ((t244.length : Int) == 0)) else (some false)) = some r := by rw [if_pos rfl] at H; exact H
                 clear H
                 have H := H1
                 clear H1
                 by_cases c100 : t247 = 1
                 ·rw [if_pos c100] at H
                  have c100b0 : (t247 == 1) = true := beq_iff_eq.mpr c100
                  have c100b1 : (t247 != 1) = false := bne_eq_false_iff_eq.mpr c100
                  clear c100
                  obtain rfl := Option.some.inj H
                  obtain ⟨Ao101, co101, eo101⟩ := Kd.V_slice HO_13.out
                  subst eo101
                  go_wp2
                  go_ret
                  exact ⟨by first | rfl | (simp [errW_none, errW_some] <;> rfl) | (simp [*, errW_none, errW_some] <;> rfl), by repeat (first | (with_reducible first | exact HB.out | apply below_alloc | apply pw_below_drewN | apply below_drew1 | refine below_set ?_ GE226.out | refine below_set ?_ GE243.out) | exact HB.out)⟩
                 ·rw [if_neg c100] at H
                  have c100b0 : (t247 == 1) = false := beq_eq_false_iff_ne.mpr c100
                  have c100b1 : (t247 != 1) = true := bne_iff_ne.mpr c100
                  obtain rfl := Option.some.inj H
                  go_wp2
                  go_ret
                  exact ⟨by first | rfl | (simp [errW_none, errW_some] <;> rfl) | (simp [*, errW_none, errW_some] <;> rfl), by repeat (first | (with_reducible first | exact HB.out | apply below_alloc | apply pw_below_drewN | apply below_drew1 | refine below_set ?_ GE226.out | refine below_set ?_ GE243.out) | exact HB.out)⟩
                ·replace c99 := Bool.eq_false_iff.mpr c99
                 subst c99
                 have H1 : ((deadboltref09_Set.f kj92 t227 t230 t231 t232).bind fun t269 => (if (t269.length : Int) > 64 then (if t247 = 5 then (some ((t244.length : Int) == 0)) else (some false)) else (if t247 = 0 then ((deadboltref09_Same.f kj92 t244 t269).bind fun t272 => (some t272)) else (some false)))) = some r := by rw [if_neg (show ¬ (false = true) by decide)] at H; exact H
                 clear H
                 have H := H1
                 clear H1
                 replace H := Option.bind_eq_some_iff.mp H
                 obtain ⟨t269, A1020, H⟩ := H
                 replace H : (if (t269.length : Int) > 64 then (if t247 = 5 then (some ((t244.length : Int) == 0)) else (some false)) else (if t247 = 0 then ((deadboltref09_Same.f kj92 t244 t269).bind fun t272 => (some t272)) else (some false))) = some r := H
                 have A102 := Aside0.mk A1020
                 clear A1020
                 by_cases c103 : (t269.length : Int) > 64
                 ·rw [if_pos c103] at H
                  have c103b0 : decide (64 < (t269.length : Int)) = true := decide_eq_true c103
                  have c103b1 : decide (64 < t269.length) = true := decide_eq_true (by omega)
                  clear c103
                  by_cases c104 : t247 = 5
                  ·rw [if_pos c104] at H
                   have c104b0 : (t247 == 5) = true := beq_iff_eq.mpr c104
                   have c104b1 : (t247 != 5) = false := bne_eq_false_iff_eq.mpr c104
                   clear c104
                   obtain rfl := Option.some.inj H
                   have hnb105 := NB226_243.out
                   have hnc105 := NB243_226.out
                   have hcz106_0 : wc.cell? ⟨gb226, 0, none⟩ = some (.int .i64 t230) := (blk_cell BK226.out 0).trans rfl
                   have hcz106_1 : wc.cell? ⟨gb226, 1, none⟩ = some (.int .i64 t231) := (blk_cell BK226.out 1).trans rfl
                   have hcz106_2 : wc.cell? ⟨gb226, 2, none⟩ = some (.slice Ao20 t232.length co20) := (blk_cell BK226.out 2).trans rfl
                   have hfz106_0 := blk_frozen BK226.out 0
                   have hfz106_1 := blk_frozen BK226.out 1
                   have hfz106_2 := blk_frozen BK226.out 2
                   go_wp2_with (first | ((with_reducible refine gate_callee (f := 26) rfl ?_); refine goesL_ (some 142) rfl rfl Try.func26 (by kernel_rfl) rfl #[.slice Ao23 t227.length co23, .agg #[.int .i64 t230, .int .i64 t231, .slice Ao20 t232.length co20]] rfl (by (try simp only [List.map_toArray, List.map_cons, List.map_nil]); first | done | rfl | (simp only [List.length_drop, List.length_take]; rfl)) ?_; (with_reducible refine (deadboltref09_Set.calls kj92 (fun k_ => (k_ ≠ gb226 ∧ k_ ≠ gb243)) _ _ t227 t230 t231 (fun k_ => (some k_ ≠ (.slice Ao23 t227.length co23 : Value).ownBlock ∧ (k_ ≠ gb226 ∧ k_ ≠ gb243))) _ _ t232 t269 _ ?side1 ?side2 A102.out).mono ?_); (case side1 => exact Kd.N_V (HO_0.out)); (case side2 => exact HO_227002.out); rintro e w107 ⟨v270, rfl, ho0, hb⟩; refine ⟨_, rfl, ?_⟩; have n0_ := Aside0.mk (Kd.N_elder' (by (with_reducible repeat (first | apply Kd.N_alloc | apply Kd.N_drewN | apply Kd.N_drew)); exact HO_0.out) (Kd.N_base ho0) hb); have n1_ := Aside0.mk (Kd.V_elder' (by (with_reducible repeat (first | apply Kd.V_alloc | apply Kd.V_drewN | apply Kd.V_drew)); exact HO_13.out) (Kd.N_base ho0) hb); have n2_ := Aside0.mk (Kd.V_elder' (by (with_reducible repeat (first | apply Kd.V_alloc | apply Kd.V_drewN | apply Kd.V_drew)); exact HO_227002.out) (Kd.N_base ho0) hb); have n3_ := Aside0.mk (Kd.V_elder' (by (with_reducible repeat (first | apply Kd.V_alloc | apply Kd.V_drewN | apply Kd.V_drew)); exact HO_244002.out) (Kd.N_base ho0) hb); have n4_ := Aside0.mk (Kd.N_lower (Kd.N_mono (ok' := fun k_ => k_ ≠ gb226 ∧ k_ ≠ gb243) ho0 (fun k_ hk_ => ⟨Or.elim hk_ (fun hs_ => Or.elim hs_ (fun hs_ => hs_.1) (fun hs_ => hs_.2.1)) (fun hn_ => (Kd.freshB (g := gb226) (o := .cells #[.int .i64 t230, .int .i64 t231, .slice Ao20 t232.length co20] 33 (0, 0)) (by (with_reducible repeat (first | refine blk_drewN ?_ _ | refine blk_drew ?_ | refine blk_alloc ?_ _)); exact BK226.out) k_ hn_)), Or.elim hk_ (fun hs_ => Or.elim hs_ (fun hs_ => hs_.2) (fun hs_ => hs_.2.2)) (fun hn_ => (Kd.freshB (g := gb243) (o := .cells #[.int .i64 t237, .int .i64 t238, .slice Ao28 t239.length co28] 33 (0, 0)) (by (with_reducible repeat (first | refine blk_drewN ?_ _ | refine blk_drew ?_ | refine blk_alloc ?_ _)); exact BK243.out) k_ hn_))⟩)) (below_size (by repeat (first | (with_reducible first | exact HB.out | apply below_alloc | apply pw_below_drewN | apply below_drew1 | refine below_set ?_ GE226.out | refine below_set ?_ GE243.out) | exact HB.out)))); have n5_ := Aside0.mk (blk_below (g := gb226) (o := .cells #[.int .i64 t230, .int .i64 t231, .slice Ao20 t232.length co20] 33 (0, 0)) (by (with_reducible repeat (first | refine blk_drewN ?_ _ | refine blk_drew ?_ | refine blk_alloc ?_ _)); exact BK226.out) hb); have n6_ := Aside0.mk (blk_below (g := gb243) (o := .cells #[.int .i64 t237, .int .i64 t238, .slice Ao28 t239.length co28] 33 (0, 0)) (by (with_reducible repeat (first | refine blk_drewN ?_ _ | refine blk_drew ?_ | refine blk_alloc ?_ _)); exact BK243.out) hb); have n7_ := Aside0.mk (below_step (by repeat (first | (with_reducible first | exact HB.out | apply below_alloc | apply pw_below_drewN | apply below_drew1 | refine below_set ?_ GE226.out | refine below_set ?_ GE243.out) | exact HB.out)) hb); clear HO_0; clear HO_13; clear HO_227002; clear HO_244002; clear BK226; clear BK243; clear HB; have HO_0 := n0_; have HO_13 := n1_; have HO_227002 := n2_; have HO_244002 := n3_; have HO271 := n4_; have BK226 := n5_; have BK243 := n6_; have HB := n7_; clear n0_ n1_ n2_ n3_ n4_ n5_ n6_ n7_; (try clear hb); (try clear hb2); (try clear hk); (try clear hi); (try clear ho0); obtain ⟨Ao108, co108, eo108⟩ := Kd.N_slice HO271.out; subst eo108; obtain ⟨Ao109, co109, eo109⟩ := Kd.V_slice HO_13.out; subst eo109))
                   go_ret
                   exact ⟨by first | rfl | (simp [errW_none, errW_some] <;> rfl) | (simp [*, errW_none, errW_some] <;> rfl), by repeat (first | (with_reducible first | exact HB.out | apply below_alloc | apply pw_below_drewN | apply below_drew1 | refine below_set ?_ GE226.out | refine below_set ?_ GE243.out) | exact HB.out)⟩
                  ·rw [if_neg c104] at H
                   have c104b0 : (t247 == 5) = false := beq_eq_false_iff_ne.mpr c104
                   have c104b1 : (t247 != 5) = true := bne_iff_ne.mpr c104
                   obtain rfl := Option.some.inj H
                   have hnb110 := NB226_243.out
                   have hnc110 := NB243_226.out
                   have hcz111_0 : wc.cell? ⟨gb226, 0, none⟩ = some (.int .i64 t230) := (blk_cell BK226.out 0).trans rfl
                   have hcz111_1 : wc.cell? ⟨gb226, 1, none⟩ = some (.int .i64 t231) := (blk_cell BK226.out 1).trans rfl
                   have hcz111_2 : wc.cell? ⟨gb226, 2, none⟩ = some (.slice Ao20 t232.length co20) := (blk_cell BK226.out 2).trans rfl
                   have hfz111_0 := blk_frozen BK226.out 0
                   have hfz111_1 := blk_frozen BK226.out 1
                   have hfz111_2 := blk_frozen BK226.out 2
                   go_wp2_with (first | ((with_reducible refine gate_callee (f := 26) rfl ?_); refine goesL_ (some 142) rfl rfl Try.func26 (by kernel_rfl) rfl #[.slice Ao23 t227.length co23, .agg #[.int .i64 t230, .int .i64 t231, .slice Ao20 t232.length co20]] rfl (by (try simp only [List.map_toArray, List.map_cons, List.map_nil]); first | done | rfl | (simp only [List.length_drop, List.length_take]; rfl)) ?_; (with_reducible refine (deadboltref09_Set.calls kj92 (fun k_ => (k_ ≠ gb226 ∧ k_ ≠ gb243)) _ _ t227 t230 t231 (fun k_ => (some k_ ≠ (.slice Ao23 t227.length co23 : Value).ownBlock ∧ (k_ ≠ gb226 ∧ k_ ≠ gb243))) _ _ t232 t269 _ ?side1 ?side2 A102.out).mono ?_); (case side1 => exact Kd.N_V (HO_0.out)); (case side2 => exact HO_227002.out); rintro e w112 ⟨v270, rfl, ho0, hb⟩; refine ⟨_, rfl, ?_⟩; have n0_ := Aside0.mk (Kd.N_elder' (by (with_reducible repeat (first | apply Kd.N_alloc | apply Kd.N_drewN | apply Kd.N_drew)); exact HO_0.out) (Kd.N_base ho0) hb); have n1_ := Aside0.mk (Kd.V_elder' (by (with_reducible repeat (first | apply Kd.V_alloc | apply Kd.V_drewN | apply Kd.V_drew)); exact HO_13.out) (Kd.N_base ho0) hb); have n2_ := Aside0.mk (Kd.V_elder' (by (with_reducible repeat (first | apply Kd.V_alloc | apply Kd.V_drewN | apply Kd.V_drew)); exact HO_227002.out) (Kd.N_base ho0) hb); have n3_ := Aside0.mk (Kd.V_elder' (by (with_reducible repeat (first | apply Kd.V_alloc | apply Kd.V_drewN | apply Kd.V_drew)); exact HO_244002.out) (Kd.N_base ho0) hb); have n4_ := Aside0.mk (Kd.N_lower (Kd.N_mono (ok' := fun k_ => k_ ≠ gb226 ∧ k_ ≠ gb243) ho0 (fun k_ hk_ => ⟨Or.elim hk_ (fun hs_ => Or.elim hs_ (fun hs_ => hs_.1) (fun hs_ => hs_.2.1)) (fun hn_ => (Kd.freshB (g := gb226) (o := .cells #[.int .i64 t230, .int .i64 t231, .slice Ao20 t232.length co20] 33 (0, 0)) (by (with_reducible repeat (first | refine blk_drewN ?_ _ | refine blk_drew ?_ | refine blk_alloc ?_ _)); exact BK226.out) k_ hn_)), Or.elim hk_ (fun hs_ => Or.elim hs_ (fun hs_ => hs_.2) (fun hs_ => hs_.2.2)) (fun hn_ => (Kd.freshB (g := gb243) (o := .cells #[.int .i64 t237, .int .i64 t238, .slice Ao28 t239.length co28] 33 (0, 0)) (by (with_reducible repeat (first | refine blk_drewN ?_ _ | refine blk_drew ?_ | refine blk_alloc ?_ _)); exact BK243.out) k_ hn_))⟩)) (below_size (by repeat (first | (with_reducible first | exact HB.out | apply below_alloc | apply pw_below_drewN | apply below_drew1 | refine below_set ?_ GE226.out | refine below_set ?_ GE243.out) | exact HB.out)))); have n5_ := Aside0.mk (blk_below (g := gb226) (o := .cells #[.int .i64 t230, .int .i64 t231, .slice Ao20 t232.length co20] 33 (0, 0)) (by (with_reducible repeat (first | refine blk_drewN ?_ _ | refine blk_drew ?_ | refine blk_alloc ?_ _)); exact BK226.out) hb); have n6_ := Aside0.mk (blk_below (g := gb243) (o := .cells #[.int .i64 t237, .int .i64 t238, .slice Ao28 t239.length co28] 33 (0, 0)) (by (with_reducible repeat (first | refine blk_drewN ?_ _ | refine blk_drew ?_ | refine blk_alloc ?_ _)); exact BK243.out) hb); have n7_ := Aside0.mk (below_step (by repeat (first | (with_reducible first | exact HB.out | apply below_alloc | apply pw_below_drewN | apply below_drew1 | refine below_set ?_ GE226.out | refine below_set ?_ GE243.out) | exact HB.out)) hb); clear HO_0; clear HO_13; clear HO_227002; clear HO_244002; clear BK226; clear BK243; clear HB; have HO_0 := n0_; have HO_13 := n1_; have HO_227002 := n2_; have HO_244002 := n3_; have HO271 := n4_; have BK226 := n5_; have BK243 := n6_; have HB := n7_; clear n0_ n1_ n2_ n3_ n4_ n5_ n6_ n7_; (try clear hb); (try clear hb2); (try clear hk); (try clear hi); (try clear ho0); obtain ⟨Ao113, co113, eo113⟩ := Kd.N_slice HO271.out; subst eo113))
                   go_ret
                   exact ⟨by first | rfl | (simp [errW_none, errW_some] <;> rfl) | (simp [*, errW_none, errW_some] <;> rfl), by repeat (first | (with_reducible first | exact HB.out | apply below_alloc | apply pw_below_drewN | apply below_drew1 | refine below_set ?_ GE226.out | refine below_set ?_ GE243.out) | exact HB.out)⟩
                 ·rw [if_neg c103] at H
                  have c103b0 : decide (64 < (t269.length : Int)) = false := decide_eq_false c103
                  have c103b1 : decide (64 < t269.length) = false := decide_eq_false (by omega)
                  clear c103
                  by_cases c114 : t247 = 0
                  ·rw [if_pos c114] at H
                   have c114b0 : (t247 == 0) = true := beq_iff_eq.mpr c114
                   have c114b1 : (t247 != 0) = false := bne_eq_false_iff_eq.mpr c114
                   clear c114
                   replace H := Option.bind_eq_some_iff.mp H
                   obtain ⟨t272, A1150, H⟩ := H
                   replace H : (some t272) = some r := H
                   have A115 := Aside0.mk A1150
                   clear A1150
                   obtain rfl := Option.some.inj H
                   have hnb116 := NB226_243.out
                   have hnc116 := NB243_226.out
                   have hcz117_0 : wc.cell? ⟨gb226, 0, none⟩ = some (.int .i64 t230) := (blk_cell BK226.out 0).trans rfl
                   have hcz117_1 : wc.cell? ⟨gb226, 1, none⟩ = some (.int .i64 t231) := (blk_cell BK226.out 1).trans rfl
                   have hcz117_2 : wc.cell? ⟨gb226, 2, none⟩ = some (.slice Ao20 t232.length co20) := (blk_cell BK226.out 2).trans rfl
                   have hfz117_0 := blk_frozen BK226.out 0
                   have hfz117_1 := blk_frozen BK226.out 1
                   have hfz117_2 := blk_frozen BK226.out 2
                   go_wp2_with (first | ((with_reducible refine gate_callee (f := 26) rfl ?_); refine goesL_ (some 142) rfl rfl Try.func26 (by kernel_rfl) rfl #[.slice Ao23 t227.length co23, .agg #[.int .i64 t230, .int .i64 t231, .slice Ao20 t232.length co20]] rfl (by (try simp only [List.map_toArray, List.map_cons, List.map_nil]); first | done | rfl | (simp only [List.length_drop, List.length_take]; rfl)) ?_; (with_reducible refine (deadboltref09_Set.calls kj92 (fun k_ => (k_ ≠ gb226 ∧ k_ ≠ gb243)) _ _ t227 t230 t231 (fun k_ => (some k_ ≠ (.slice Ao23 t227.length co23 : Value).ownBlock ∧ (k_ ≠ gb226 ∧ k_ ≠ gb243))) _ _ t232 t269 _ ?side1 ?side2 A102.out).mono ?_); (case side1 => exact Kd.N_V (HO_0.out)); (case side2 => exact HO_227002.out); rintro e w118 ⟨v270, rfl, ho0, hb⟩; refine ⟨_, rfl, ?_⟩; have n0_ := Aside0.mk (Kd.N_elder' (by (with_reducible repeat (first | apply Kd.N_alloc | apply Kd.N_drewN | apply Kd.N_drew)); exact HO_0.out) (Kd.N_base ho0) hb); have n1_ := Aside0.mk (Kd.V_elder' (by (with_reducible repeat (first | apply Kd.V_alloc | apply Kd.V_drewN | apply Kd.V_drew)); exact HO_13.out) (Kd.N_base ho0) hb); have n2_ := Aside0.mk (Kd.V_elder' (by (with_reducible repeat (first | apply Kd.V_alloc | apply Kd.V_drewN | apply Kd.V_drew)); exact HO_227002.out) (Kd.N_base ho0) hb); have n3_ := Aside0.mk (Kd.V_elder' (by (with_reducible repeat (first | apply Kd.V_alloc | apply Kd.V_drewN | apply Kd.V_drew)); exact HO_244002.out) (Kd.N_base ho0) hb); have n4_ := Aside0.mk (Kd.N_lower (Kd.N_mono (ok' := fun k_ => k_ ≠ gb226 ∧ k_ ≠ gb243) ho0 (fun k_ hk_ => ⟨Or.elim hk_ (fun hs_ => Or.elim hs_ (fun hs_ => hs_.1) (fun hs_ => hs_.2.1)) (fun hn_ => (Kd.freshB (g := gb226) (o := .cells #[.int .i64 t230, .int .i64 t231, .slice Ao20 t232.length co20] 33 (0, 0)) (by (with_reducible repeat (first | refine blk_drewN ?_ _ | refine blk_drew ?_ | refine blk_alloc ?_ _)); exact BK226.out) k_ hn_)), Or.elim hk_ (fun hs_ => Or.elim hs_ (fun hs_ => hs_.2) (fun hs_ => hs_.2.2)) (fun hn_ => (Kd.freshB (g := gb243) (o := .cells #[.int .i64 t237, .int .i64 t238, .slice Ao28 t239.length co28] 33 (0, 0)) (by (with_reducible repeat (first | refine blk_drewN ?_ _ | refine blk_drew ?_ | refine blk_alloc ?_ _)); exact BK243.out) k_ hn_))⟩)) (below_size (by repeat (first | (with_reducible first | exact HB.out | apply below_alloc | apply pw_below_drewN | apply below_drew1 | refine below_set ?_ GE226.out | refine below_set ?_ GE243.out) | exact HB.out)))); have n5_ := Aside0.mk (blk_below (g := gb226) (o := .cells #[.int .i64 t230, .int .i64 t231, .slice Ao20 t232.length co20] 33 (0, 0)) (by (with_reducible repeat (first | refine blk_drewN ?_ _ | refine blk_drew ?_ | refine blk_alloc ?_ _)); exact BK226.out) hb); have n6_ := Aside0.mk (blk_below (g := gb243) (o := .cells #[.int .i64 t237, .int .i64 t238, .slice Ao28 t239.length co28] 33 (0, 0)) (by (with_reducible repeat (first | refine blk_drewN ?_ _ | refine blk_drew ?_ | refine blk_alloc ?_ _)); exact BK243.out) hb); have n7_ := Aside0.mk (below_step (by repeat (first | (with_reducible first | exact HB.out | apply below_alloc | apply pw_below_drewN | apply below_drew1 | refine below_set ?_ GE226.out | refine below_set ?_ GE243.out) | exact HB.out)) hb); clear HO_0; clear HO_13; clear HO_227002; clear HO_244002; clear BK226; clear BK243; clear HB; have HO_0 := n0_; have HO_13 := n1_; have HO_227002 := n2_; have HO_244002 := n3_; have HO271 := n4_; have BK226 := n5_; have BK243 := n6_; have HB := n7_; clear n0_ n1_ n2_ n3_ n4_ n5_ n6_ n7_; (try clear hb); (try clear hb2); (try clear hk); (try clear hi); (try clear ho0); obtain ⟨Ao119, co119, eo119⟩ := Kd.N_slice HO271.out; subst eo119; obtain ⟨Ao120, co120, eo120⟩ := Kd.V_slice HO_13.out; subst eo120) | (go_at_call 27; (with_reducible refine (deadboltref09_Same.calls kj92 _ _ t244 _ _ t269 t272 _ ?side1 ?side2 ?side3 ?side4 A115.out).mono ?_); (case side1 => repeat (first | exact (Kd.V_reads' HO_13.out).2.2 | (with_reducible refine Kd.C_alloc ?_ _) | (with_reducible refine Kd.C_drewN ?_ _) | (with_reducible refine Kd.C_drew ?_))); (case side2 => exact (Kd.V_reads' HO_13.out).2.1); (case side3 => repeat (first | exact (Kd.N_reads' HO271.out).2.2 | (with_reducible refine Kd.C_alloc ?_ _) | (with_reducible refine Kd.C_drewN ?_ _) | (with_reducible refine Kd.C_drew ?_))); (case side4 => exact (Kd.N_reads' HO271.out).2.1); rintro e w121 ⟨rfl, hb⟩; have n0_ := Aside0.mk (Kd.N_below (by (with_reducible repeat (first | apply Kd.N_alloc | apply Kd.N_drewN | apply Kd.N_drew)); exact HO_0.out) hb); have n1_ := Aside0.mk (Kd.V_below (by (with_reducible repeat (first | apply Kd.V_alloc | apply Kd.V_drewN | apply Kd.V_drew)); exact HO_13.out) hb); have n2_ := Aside0.mk (Kd.V_below (by (with_reducible repeat (first | apply Kd.V_alloc | apply Kd.V_drewN | apply Kd.V_drew)); exact HO_227002.out) hb); have n3_ := Aside0.mk (Kd.V_below (by (with_reducible repeat (first | apply Kd.V_alloc | apply Kd.V_drewN | apply Kd.V_drew)); exact HO_244002.out) hb); have n4_ := Aside0.mk (Kd.N_below (by (with_reducible repeat (first | apply Kd.N_alloc | apply Kd.N_drewN | apply Kd.N_drew)); exact HO271.out) hb); have n5_ := Aside0.mk (blk_below (g := gb226) (o := .cells #[.int .i64 t230, .int .i64 t231, .slice Ao20 t232.length co20] 33 (0, 0)) (by (with_reducible repeat (first | refine blk_drewN ?_ _ | refine blk_drew ?_ | refine blk_alloc ?_ _)); exact BK226.out) hb); have n6_ := Aside0.mk (blk_below (g := gb243) (o := .cells #[.int .i64 t237, .int .i64 t238, .slice Ao28 t239.length co28] 33 (0, 0)) (by (with_reducible repeat (first | refine blk_drewN ?_ _ | refine blk_drew ?_ | refine blk_alloc ?_ _)); exact BK243.out) hb); have n7_ := Aside0.mk (below_step (by repeat (first | (with_reducible first | exact HB.out | apply below_alloc | apply pw_below_drewN | apply below_drew1 | refine below_set ?_ GE226.out | refine below_set ?_ GE243.out) | exact HB.out)) hb); clear HO_0; clear HO_13; clear HO_227002; clear HO_244002; clear HO271; clear BK226; clear BK243; clear HB; have HO_0 := n0_; have HO_13 := n1_; have HO_227002 := n2_; have HO_244002 := n3_; have HO271 := n4_; have BK226 := n5_; have BK243 := n6_; have HB := n7_; clear n0_ n1_ n2_ n3_ n4_ n5_ n6_ n7_; (try clear hb); (try clear hb2); (try clear hk); (try clear hi)))
                   go_ret
                   exact ⟨by first | rfl | (simp [errW_none, errW_some] <;> rfl) | (simp [*, errW_none, errW_some] <;> rfl), by repeat (first | (with_reducible first | exact HB.out | apply below_alloc | apply pw_below_drewN | apply below_drew1 | refine below_set ?_ GE226.out | refine below_set ?_ GE243.out) | exact HB.out)⟩
                  ·rw [if_neg c114] at H
                   have c114b0 : (t247 == 0) = false := beq_eq_false_iff_ne.mpr c114
                   have c114b1 : (t247 != 0) = true := bne_iff_ne.mpr c114
                   obtain rfl := Option.some.inj H
                   have hnb122 := NB226_243.out
                   have hnc122 := NB243_226.out
                   have hcz123_0 : wc.cell? ⟨gb226, 0, none⟩ = some (.int .i64 t230) := (blk_cell BK226.out 0).trans rfl
                   have hcz123_1 : wc.cell? ⟨gb226, 1, none⟩ = some (.int .i64 t231) := (blk_cell BK226.out 1).trans rfl
                   have hcz123_2 : wc.cell? ⟨gb226, 2, none⟩ = some (.slice Ao20 t232.length co20) := (blk_cell BK226.out 2).trans rfl
                   have hfz123_0 := blk_frozen BK226.out 0
                   have hfz123_1 := blk_frozen BK226.out 1
                   have hfz123_2 := blk_frozen BK226.out 2
                   go_wp2_with (first | ((with_reducible refine gate_callee (f := 26) rfl ?_); refine goesL_ (some 142) rfl rfl Try.func26 (by kernel_rfl) rfl #[.slice Ao23 t227.length co23, .agg #[.int .i64 t230, .int .i64 t231, .slice Ao20 t232.length co20]] rfl (by (try simp only [List.map_toArray, List.map_cons, List.map_nil]); first | done | rfl | (simp only [List.length_drop, List.length_take]; rfl)) ?_; (with_reducible refine (deadboltref09_Set.calls kj92 (fun k_ => (k_ ≠ gb226 ∧ k_ ≠ gb243)) _ _ t227 t230 t231 (fun k_ => (some k_ ≠ (.slice Ao23 t227.length co23 : Value).ownBlock ∧ (k_ ≠ gb226 ∧ k_ ≠ gb243))) _ _ t232 t269 _ ?side1 ?side2 A102.out).mono ?_); (case side1 => exact Kd.N_V (HO_0.out)); (case side2 => exact HO_227002.out); rintro e w124 ⟨v270, rfl, ho0, hb⟩; refine ⟨_, rfl, ?_⟩; have n0_ := Aside0.mk (Kd.N_elder' (by (with_reducible repeat (first | apply Kd.N_alloc | apply Kd.N_drewN | apply Kd.N_drew)); exact HO_0.out) (Kd.N_base ho0) hb); have n1_ := Aside0.mk (Kd.V_elder' (by (with_reducible repeat (first | apply Kd.V_alloc | apply Kd.V_drewN | apply Kd.V_drew)); exact HO_13.out) (Kd.N_base ho0) hb); have n2_ := Aside0.mk (Kd.V_elder' (by (with_reducible repeat (first | apply Kd.V_alloc | apply Kd.V_drewN | apply Kd.V_drew)); exact HO_227002.out) (Kd.N_base ho0) hb); have n3_ := Aside0.mk (Kd.V_elder' (by (with_reducible repeat (first | apply Kd.V_alloc | apply Kd.V_drewN | apply Kd.V_drew)); exact HO_244002.out) (Kd.N_base ho0) hb); have n4_ := Aside0.mk (Kd.N_lower (Kd.N_mono (ok' := fun k_ => k_ ≠ gb226 ∧ k_ ≠ gb243) ho0 (fun k_ hk_ => ⟨Or.elim hk_ (fun hs_ => Or.elim hs_ (fun hs_ => hs_.1) (fun hs_ => hs_.2.1)) (fun hn_ => (Kd.freshB (g := gb226) (o := .cells #[.int .i64 t230, .int .i64 t231, .slice Ao20 t232.length co20] 33 (0, 0)) (by (with_reducible repeat (first | refine blk_drewN ?_ _ | refine blk_drew ?_ | refine blk_alloc ?_ _)); exact BK226.out) k_ hn_)), Or.elim hk_ (fun hs_ => Or.elim hs_ (fun hs_ => hs_.2) (fun hs_ => hs_.2.2)) (fun hn_ => (Kd.freshB (g := gb243) (o := .cells #[.int .i64 t237, .int .i64 t238, .slice Ao28 t239.length co28] 33 (0, 0)) (by (with_reducible repeat (first | refine blk_drewN ?_ _ | refine blk_drew ?_ | refine blk_alloc ?_ _)); exact BK243.out) k_ hn_))⟩)) (below_size (by repeat (first | (with_reducible first | exact HB.out | apply below_alloc | apply pw_below_drewN | apply below_drew1 | refine below_set ?_ GE226.out | refine below_set ?_ GE243.out) | exact HB.out)))); have n5_ := Aside0.mk (blk_below (g := gb226) (o := .cells #[.int .i64 t230, .int .i64 t231, .slice Ao20 t232.length co20] 33 (0, 0)) (by (with_reducible repeat (first | refine blk_drewN ?_ _ | refine blk_drew ?_ | refine blk_alloc ?_ _)); exact BK226.out) hb); have n6_ := Aside0.mk (blk_below (g := gb243) (o := .cells #[.int .i64 t237, .int .i64 t238, .slice Ao28 t239.length co28] 33 (0, 0)) (by (with_reducible repeat (first | refine blk_drewN ?_ _ | refine blk_drew ?_ | refine blk_alloc ?_ _)); exact BK243.out) hb); have n7_ := Aside0.mk (below_step (by repeat (first | (with_reducible first | exact HB.out | apply below_alloc | apply pw_below_drewN | apply below_drew1 | refine below_set ?_ GE226.out | refine below_set ?_ GE243.out) | exact HB.out)) hb); clear HO_0; clear HO_13; clear HO_227002; clear HO_244002; clear BK226; clear BK243; clear HB; have HO_0 := n0_; have HO_13 := n1_; have HO_227002 := n2_; have HO_244002 := n3_; have HO271 := n4_; have BK226 := n5_; have BK243 := n6_; have HB := n7_; clear n0_ n1_ n2_ n3_ n4_ n5_ n6_ n7_; (try clear hb); (try clear hb2); (try clear hk); (try clear hi); (try clear ho0); obtain ⟨Ao125, co125, eo125⟩ := Kd.N_slice HO271.out; subst eo125))
                   go_ret
                   exact ⟨by first | rfl | (simp [errW_none, errW_some] <;> rfl) | (simp [*, errW_none, errW_some] <;> rfl), by repeat (first | (with_reducible first | exact HB.out | apply below_alloc | apply pw_below_drewN | apply below_drew1 | refine below_set ?_ GE226.out | refine below_set ?_ GE243.out) | exact HB.out)⟩

end Go.Proofs.Ytnjnjajgpkmfhaa.PX

/-
 The law RootTells, told of its printed form.
-/
namespace Go.Proofs.Ytnjnjajgpkmfhaa.PX
open Go.RowKit Go.Proofs.YtnjnjajgpkmfhaaW.PrintWords Go.Proofs.YtnjnjajgpkmfhaaW.PrintLast Go.Proofs.YtnjnjajgpkmfhaaW.PrintMore
section
variable {L : List Sp} {s : Sp} {u : Int}
/-- What the calls told, together. -/
def gotR (L : List Sp) (a : Int) (t1 t2 : Bool) : Sp := if t1 = true ∧ t2 = true then getT L a else ⟨0, 0, []⟩
theorem tells_j6 (hL : L.length ≤ 80) (h2 : ∀ s ∈ L, s.f2.length ≤ 1000) (hs : s.f2.length ≤ 1000) (b : Bool) (r : List Sp × Int) (hr : root_Set.f L s.f0 s.f1 s.f2 = some r) (hb : b = true ↔ (¬ Tab L ∨ ¬ SpotP s)) {k : Nat} (hk : 4000 ≤ k) :
  deadboltlaw09_RootTells.j6 k L r.1 r.2 b s.f0 s.f1 s.f2 = some true := by
 obtain ⟨k, rfl⟩ : ∃ q, k = q + 1 := ⟨k - 1, by omega⟩
 rw [deadboltlaw09_RootTells.j6]
 cases b with
 | true =>
  rw [set_bad hL h2 hs (hb.1 rfl)] at hr
  obtain rfl := Option.some.inj hr
  rfl
 | false =>
  have hT : Tab L := Classical.byContradiction fun h => by have := hb.2 (.inl h); cases this
  have hS : SpotP s := Classical.byContradiction fun h => by have := hb.2 (.inr h); cases this
  rw [set_f hT hS] at hr
  obtain rfl := Option.some.inj hr
  rw [if_neg Bool.false_ne_true, refset_f hT hS.1 (by omega)]
  simp only [Option.bind_some]
  by_cases hq : (setT L s).length > 64
  ·rw [if_pos (by omega), if_pos hq]
   rfl
  ·rw [if_neg (by omega), if_neg hq, if_pos rfl]
   have hm : ∀ x ∈ setT L s, x.f2.length ≤ 1000 := fun x hx => by
    unfold setT at hx
    have hof : ∀ y ∈ offS L s.f0, y.f2.length ≤ 1000 := fun y hy => h2 y (List.mem_filter.1 hy).1
    split at hx
    ·exact hof x hx
    ·unfold putS at hx
     rcases List.mem_append.1 hx with h | h
     ·exact hof x (List.mem_of_mem_take h)
     ·rcases List.mem_cons.1 h with h | h
      ·rw [h]; exact hs
      ·exact hof x (List.mem_of_mem_drop h)
   obtain ⟨b, e1, e2⟩ := refsame_f (setT L s) (setT L s) (by omega) hm (k := k) (by omega)
   rw [e1, e2.2 rfl]
   rfl
theorem tells_j5 (hL : L.length ≤ 80) (h2 : ∀ s ∈ L, s.f2.length ≤ 1000) (hs : s.f2.length ≤ 1000) (t : Bool) (ht : t = true ↔ Tab L) (r : List Sp × Int) (hr : root_Set.f L s.f0 s.f1 s.f2 = some r) {k : Nat} (hk : 4001 ≤ k) :
  deadboltlaw09_RootTells.j5 k L r.1 r.2 t s.f0 s.f1 s.f2 = some true := by
 obtain ⟨k, rfl⟩ : ∃ q, k = q + 1 := ⟨k - 1, by omega⟩
 rw [deadboltlaw09_RootTells.j5]
 cases t with
 | true =>
  obtain ⟨b, e1, e2⟩ := refspot_f s hs (k := k) (by omega)
  rw [if_pos rfl, e1]
  simp only [Option.bind_some]
  refine tells_j6 hL h2 hs (!b) r hr ?_ (by omega)
  have := ht.1 rfl
  cases b <;> simp at e2 ⊢ <;> simp [this, e2]
 | false =>
  rw [if_neg Bool.false_ne_true]
  refine tells_j6 hL h2 hs true r hr ?_ (by omega)
  have : ¬ Tab L := fun h => by have := ht.2 h; cases this
  simp [this]
theorem tells_j3 (hL : L.length ≤ 80) (h2 : ∀ s ∈ L, s.f2.length ≤ 1000) (hs : s.f2.length ≤ 1000) (t : Bool) (ht : t = true ↔ Tab L) (r : List Sp × Int) (hr : root_Set.f L s.f0 s.f1 s.f2 = some r) (q : List Int × Int) {K : Nat} (hK : 200 ≤ K) (hq : root_Under.f K L u = some q) {k : Nat} (hk : 4003 ≤ k) :
  deadboltlaw09_RootTells.j3 k L u r.1 r.2 q.1 q.2 t s.f0 s.f1 s.f2 = some true := by
 obtain ⟨k, rfl⟩ : ∃ q, k = q + 1 + 1 := ⟨k - 2, by omega⟩
 have bad : (t = false ∨ u < 0 ∨ 250 < u) → q = ([], 1) := fun h => by
  by_cases hT : Tab L
  ·have htt := ht.2 hT
   subst htt
   have hu : u < 0 ∨ 250 < u := h.resolve_left (by simp)
   unfold root_Under.f at hq
   obtain ⟨K, rfl⟩ : ∃ q, K = q + 1 := ⟨K - 1, by omega⟩
   rw [right_yes hT (by omega)] at hq
   simp only [Option.bind_some] at hq
   rw [if_pos trivial] at hq
   by_cases h0 : u < 0
   ·rw [if_pos h0, root_Under.j0, if_pos rfl] at hq
    exact (Option.some.inj hq).symm
   ·rw [if_neg h0, root_Under.j0, if_pos (decide_eq_true (by omega))] at hq
    exact (Option.some.inj hq).symm
  ·rw [under_bad hT hL h2 (by omega)] at hq
   exact (Option.some.inj hq).symm
 have j4 : ∀ (b : Bool), (b = true ↔ t = false ∨ u < 0 ∨ 250 < u) → deadboltlaw09_RootTells.j4 (k + 1) L u r.1 r.2 q.1 q.2 t b s.f0 s.f1 s.f2 = some true := fun b hb => by
  rw [deadboltlaw09_RootTells.j4]
  cases b with
  | true =>
   rw [if_pos rfl, bad (hb.1 rfl), if_pos rfl, if_pos (show ((([], 1) : List Int × Int).1.length : Int) = 0 from rfl)]
   exact tells_j5 hL h2 hs t ht r hr (by omega)
  | false =>
   have hn : ¬ (t = false ∨ u < 0 ∨ 250 < u) := fun h => by have := hb.2 h; cases this
   have htt : t = true := by cases t <;> simp at hn ⊢
   have hT := ht.1 htt
   have hf := hT.few
   rw [under_f hT (by omega) (by omega) hT.lens (by omega)] at hq
   obtain rfl := Option.some.inj hq
   rw [if_neg Bool.false_ne_true, if_pos rfl, refunder_f hT u (by omega)]
   simp only [Option.bind_some]
   have := List.length_filter_le (isAt u) L
   rw [same07_f _ _ (by rw [List.length_map]; omega) (by rw [List.length_map]; omega), decide_eq_true rfl]
   simp only [Option.bind_some]
   rw [if_pos trivial]
   exact tells_j5 hL h2 hs t ht r hr (by omega)
 rw [deadboltlaw09_RootTells.j3]
 cases t with
 | true =>
  rw [if_pos rfl]
  by_cases h0 : u < 0
  ·rw [if_pos h0]
   exact j4 true (by simp [h0])
  ·rw [if_neg h0]
   exact j4 _ (by simp [h0])
 | false =>
  rw [if_neg Bool.false_ne_true]
  exact j4 true (by simp)
theorem tells_all (l : List Sp) (s0 : Int) (s1 : Int) (s2 : List Int) (a u : Int) : deadboltlaw09_RootTells.f 5000 l s0 s1 s2 a u = some true := by
 have hL : (fewF l).length ≤ 80 := by have := few_len l; omega
 have h2 := few_lens l
 unfold deadboltlaw09_RootTells.f deadboltlaw09_cut.f
 rw [few_f l 5000 (by omega)]
 simp only [Option.bind_some]
 generalize fewF l = L at *
 obtain ⟨s, hs0, hs⟩ : ∃ s : Sp, s = ⟨s0, s1, s2.take 70⟩ ∧ s.f2.length ≤ 1000 := ⟨_, rfl, by
  show (s2.take 70).length ≤ 1000
  rw [List.length_take]
  omega⟩
 have e0 : s0 = s.f0 := by rw [hs0]
 have e1 : s1 = s.f1 := by rw [hs0]
 have e2 : s2.take 70 = s.f2 := by rw [hs0]
 rw [e0, e1, e2]
 clear e0 e1 e2 hs0
 obtain ⟨tb, et, ht⟩ := right_f L (by omega) h2 5000 (by omega)
 obtain ⟨tb', et', ht'⟩ := refright_f L (by omega) h2 (k := 5000) (by omega)
 obtain rfl : tb = tb' := Bool.eq_iff_iff.2 (ht.trans ht'.symm)
 obtain ⟨r, hr⟩ : ∃ r, root_Set.f L s.f0 s.f1 s.f2 = some r := by
  by_cases h : Tab L ∧ SpotP s
  ·exact ⟨_, set_f h.1 h.2⟩
  ·exact ⟨_, set_bad hL h2 hs (by by_cases h' : Tab L; exact .inr fun h'' => h ⟨h', h''⟩; exact .inl h')⟩
 obtain ⟨q, hq⟩ : ∃ q, root_Under.f 5000 L u = some q := by
  by_cases h : Tab L
  ·by_cases h0 : u < 0
   ·refine ⟨([], 1), ?_⟩
    unfold root_Under.f
    rw [right_yes h (by omega)]
    simp only [Option.bind_some]
    rw [if_pos trivial, if_pos h0, root_Under.j0, if_pos rfl]
   ·by_cases h1 : u < 251
    ·exact ⟨_, under_f h (by omega) h1 h.lens (by omega)⟩
    ·refine ⟨([], 1), ?_⟩
     unfold root_Under.f
     rw [right_yes h (by omega)]
     simp only [Option.bind_some]
     rw [if_pos trivial, if_neg h0, root_Under.j0, if_pos (decide_eq_true (by omega))]
  ·exact ⟨_, under_bad h hL h2 (by omega)⟩
 have hrest : ∀ k, 4003 ≤ k → deadboltlaw09_RootTells.j3 k L u r.1 r.2 q.1 q.2 tb s.f0 s.f1 s.f2 = some true := fun k hk => tells_j3 hL h2 hs tb ht r hr q (K := 5000) (by omega) hq hk
 by_cases ha : isAddrB a = true
 ·have ha' := (addr_iff a).1 ha
  rw [root_ok ha', key_f, ha, hr, hq, et, et']
  simp only [Option.bind_some]
  have halive := alive_ok
  cases tb with
  | true =>
   have hT := ht.1 rfl
   rw [get_f hT ha']
   simp only [Option.bind_some]
   rw [if_neg (by simp), halive]
   simp only [Option.bind_some]
   rw [deadboltlaw09_RootTells.j0, if_neg (by simp), if_pos rfl, if_pos rfl, refroot_f ha']
   simp only [Option.bind_some]
   rw [if_pos trivial, deadboltlaw09_RootTells.j1, if_pos rfl, deadboltlaw09_RootTells.j2, if_neg (by simp), if_pos rfl, refget_f L a (by omega) (by omega)]
   simp only [Option.bind_some]
   have hg : (getT L a).f2.length ≤ 1000 := by
    by_cases hm : a ∈ L.map (·.f0)
    ·exact h2 _ (getT_in hm).2.2
    ·rw [getT_out hm]; simp
   obtain ⟨b, e1, e2⟩ := refspots_f (getT L a) (getT L a) hg (k := 4997) (by omega)
   rw [e1, e2.2 rfl]
   simp only [Option.bind_some]
   rw [if_pos trivial]
   exact hrest _ (by omega)
  | false =>
   have hT : ¬ Tab L := fun h => by have := ht.2 h; cases this
   rw [get_bad hL h2 (.inl hT)]
   simp only [Option.bind_some]
   rw [if_neg (by simp), halive]
   simp only [Option.bind_some]
   rw [deadboltlaw09_RootTells.j0, if_neg (by simp), if_pos rfl, if_pos rfl, refroot_f ha']
   simp only [Option.bind_some]
   rw [if_pos trivial, deadboltlaw09_RootTells.j1, if_neg (by simp), deadboltlaw09_RootTells.j2, if_pos rfl, if_pos rfl]
   obtain ⟨b, e1, e2⟩ := refspots_f ⟨0, 0, []⟩ ⟨0, 0, []⟩ (by simp) (k := 4997) (by simp)
   simp only at e1
   rw [e1, e2.2 rfl]
   simp only [Option.bind_some]
   rw [if_pos trivial]
   exact hrest _ (by omega)
 ·have ha2 : isAddrB a = false := by simpa using ha
  have hroot : root_Root.f a = some (0, 1) := by
   unfold root_Root.f
   rw [isAddr_f, ha2]
   rfl
  rw [hroot, key_f, ha2, hr, hq, et, et', get_bad hL h2 (.inr ha2)]
  simp only [Option.bind_some]
  rw [if_neg (by simp), alive_ok]
  simp only [Option.bind_some]
  rw [deadboltlaw09_RootTells.j0, if_neg (by simp), if_neg (by simp), if_pos rfl, if_pos rfl, deadboltlaw09_RootTells.j1]
  obtain ⟨b, e1, e2⟩ := refspots_f ⟨0, 0, []⟩ ⟨0, 0, []⟩ (by simp) (k := 4997) (by simp)
  simp only at e1
  have j2 : deadboltlaw09_RootTells.j2 4998 L a u 1 r.1 r.2 q.1 q.2 tb true s.f0 s.f1 s.f2 0 0 [] = some true := by
   rw [deadboltlaw09_RootTells.j2, if_pos rfl, if_pos rfl, e1, e2.2 rfl]
   simp only [Option.bind_some]
   rw [if_pos trivial]
   exact hrest _ (by omega)
  cases tb with
  | true => rw [if_pos rfl]; exact j2
  | false => rw [if_neg Bool.false_ne_true]; exact j2
end
end Go.Proofs.Ytnjnjajgpkmfhaa.PX

/-
 A spot, opened.
-/
namespace Go.Proofs.Ytnjnjajgpkmfhaa.PX
open Go.RowKit Go.Proofs.YtnjnjajgpkmfhaaW.PrintWords
theorem opensP {H : Type} {enc : TypeId × Value → H} {w : World} : Opens enc Try.prog w 33 k33 (fun x => (Lit.int .i64 x.f0).wf = true ∧ (Lit.int .i64 x.f1).wf = true) := by
 intro fuel cs x h
 obtain ⟨a, hk, hw⟩ := Opens.struct (g := fun x : S33 => (x.f0, x.f1, x.f2)) Try.underlying33 (by kernel_rfl) (fun x : Int × Int × List Int => ⟨x.1, x.2.1, x.2.2⟩) (fun _ => rfl)
  (OpensF.cons rfl (by kernel_rfl) (Opens.int Try.underlying3) rfl (OpensF.cons rfl (by kernel_rfl) (Opens.int Try.underlying3) rfl (OpensF.one rfl (by kernel_rfl) (Opens.slice Try.underlying25 (by kernel_rfl) (Opens.int Try.underlying3))))) fuel cs x h
 exact ⟨a, hk, hw.1, hw.2.1⟩
theorem spot_k {w : World} {P : Array Value → Prop} {cs : List Value} {x : S33} (hK : k33.K w x cs) (h : ∀ A c, x.f2.length ≤ c → Kd.C (Kd.int .i64) w A x.f2.length x.f2 → P #[.int .i64 x.f0, .int .i64 x.f1, .slice A x.f2.length c]) : P cs.toArray := by
 obtain ⟨A, c, rfl, hc, hC⟩ := k33_open hK
 exact h A c hc hC
end Go.Proofs.Ytnjnjajgpkmfhaa.PX

/-
 The statement on RootTells, out of what its printed form comes to: for every input the call returns true, and each argument reads behind it as it read before.
-/
namespace Go.Proofs.Ytnjnjajgpkmfhaa.rootTells
open Go.ChangeShapes Go.WideShapes Go.ChangeAt Go.RowKit Go.Proofs.YtnjnjajgpkmfhaaW.PrintWords Go.Proofs.Ytnjnjajgpkmfhaa.PX
set_option linter.unusedVariables false
theorem own : ownKnob Try.prog.godebug = none := by kernel_rfl
set_option maxRecDepth 100000 in
theorem lifted (os : Os) (started : os.Started) (H : Type) (enc : TypeId × Value → H) :
  ReturnsInHanded {} Try.checked os 4 .any (Rows.rootTellsSpec.pre6 enc Try.prog Try.f4 Rows.rootTellsRow.domain false) (Rows.rootTellsSpec.post enc Try.prog Try.f4 false true false false) := by
 refine returnsInHanded_of_change (C := Try.checked) own started (by kernel_rfl) Try.func4
  (ChangeSpec.witness6 (enc := enc) (C := Try.checked) false ⟨#[], #[.slice none 0 0, .agg #[.int .i64 0, .int .i64 0, .slice none 0 0], .int .i64 0, .int .i64 0], []⟩ 8 (by kernel_rfl) (by kernel_rfl) (by kernel_rfl) (by kernel_rfl)) ?_
 intro W base args ds gs before hval0 hW hcnd _
 have hval : ∀ (j : Nat) t v, Try.f4.params[j]? = some t → args[j]? = some v → Value.okWide Try.prog W .any base t v := hval0
 have hW' := hW
 obtain ⟨p, q, hA0, hV, hpq, hfz, hnd⟩ := hW
 have hA : DataW.TrodAll enc Try.prog W 0 (fun _ => true) true Try.f4.params.toList args.toList ds p := hA0
 rw [Try.params4] at hA hval
 obtain ⟨v0, vs0, d0, ds0, p0, q0, hargs, rfl, hp0, h0, r0⟩ := trodAll_cons hA
 obtain ⟨v1, vs1, d1, ds1, p1, q1, rfl, rfl, hp1, h1, r1⟩ := trodAll_cons r0
 obtain ⟨v2, vs2, d2, ds2, p2, q2, rfl, rfl, hp2, h2, r2⟩ := trodAll_cons r1
 obtain ⟨v3, vs3, d3, ds3, p3, q3, rfl, rfl, hp3, h3, r3⟩ := trodAll_cons r2
 obtain ⟨rfl, rfl, _⟩ := trodAll_nil r3
 obtain rfl : args = #[v0, v1, v2, v3] := by cases args; simp_all
 obtain ⟨rfl, _⟩ := trodVars_none hV
 obtain ⟨A0, c0, l0, rfl, hl0, hC0, hw0⟩ := open_C Try.underlying22 (by kernel_rfl) opensP (hval 0 22 v0 rfl rfl) h0
 obtain ⟨cs1, x1, rfl, hK1, hw1⟩ := open_K Try.underlying33 opensP (hval 1 33 v1 rfl rfl) h1
 obtain ⟨a2, rfl, _, _, w2⟩ := open_int Try.underlying3 (hval 2 3 v2 rfl rfl) h2
 obtain ⟨a3, rfl, _, _, w3⟩ := open_int Try.underlying3 (hval 3 3 v3 rfl rfl) h3
 refine (spot_k (P := fun v => Calls Try.prog 4 #[.slice A0 l0.length c0, .agg v, .int .i64 a2, .int .i64 a3] W fun e w' => e = .returned (.bool true) ∧ Below W.heap.size W w') hK1 (fun A c hc hC => deadboltlaw09_RootTells.calls 5000 A0 c0 l0 x1.f0 x1.f1 A c x1.f2 a2 a3 true W hC0 hl0 hC hc (tells_all l0 x1.f0 x1.f1 x1.f2 a2 a3))).mono fun e W' ⟨he, hb⟩ => ?_
 subst he
 exact ⟨_, rfl, law_post (by kernel_rfl) (by kernel_rfl) (by kernel_rfl) Try.underlying4 rfl hW' rfl hb⟩

theorem rowOver : Rows.rootTellsRow.holds Try.pinned (OpenSpec.ofChange Rows.rootTellsSpec) :=
 OpenClaim.holds_of_wide 4 Try.f4 rfl rfl rfl rfl rfl rfl rfl ⟨rfl, rfl, rfl, rfl, rfl⟩ rfl rfl rfl rfl rfl (by kernel_rfl) Try.func4 (by kernel_rfl)
  (of_decide_eq_true (by kernel_rfl)) (by unfold Func.isWrapper; first | (rw [if_pos (by decide +kernel)]; kernel_rfl) | (rw [if_neg (by decide +kernel)]; exact ⟨rfl, rfl⟩))
  (fun os started H enc _ => lifted os started H enc)

theorem proved : Rows.RootTellsSaid := rowOver
#print axioms proved
end Go.Proofs.Ytnjnjajgpkmfhaa.rootTells
