/-
  The statement on TreapShape, out of what its printed form comes to: for every input the call returns true, and each argument reads behind it as it read before.
-/
import Derived.Test.YtjdjmhagafmkaaaBTreapShape3
import Derived.Test.YtjdjmhagafmkaaaRows
namespace Go.Proofs.Ytjdjmhagafmkaaa.PX
open Go.RowKit Go.Proofs.YtjdjmhagafmkaaaW.PrintWords Go.Proofs.YtjdjmhagafmkaaaW.PrintLast Go.Proofs.YtjdjmhagafmkaaaW.PrintMore
attribute [local go_sem] max2_int min2_int max_two min_two max_three min_three max_four min_four   -- for this text's walks alone
set_option linter.unusedVariables false
set_option linter.unusedSimpArgs false

/-! ### deadboltlaw08_TreapShape: function 11 -/
mutual
def deadboltlaw08_TreapShape.j0 : Nat → List Int → Int → List Int → Bool → Int → List (S87) → Option (Bool)
  | 0, _, _, _, _, _, _ => none
  | k + 1, x1, x2, x8, x37, x364000, x364001 => if x37 = true then (some false) else (if 0 ≤ (mn (x1.length : Int) 40) then (if (mn (x1.length : Int) 40) ≤ (x1.length : Int) then (deadboltlaw08_TreapShape.l0 k x2 x8 (x1.take ((mn (x1.length : Int) 40) : Int).toNat) ((x1.take ((mn (x1.length : Int) 40) : Int).toNat).length : Int) 0 x364000 x364001) else (none)) else (none))
def deadboltlaw08_TreapShape.l0 : Nat → Int → List Int → List Int → Int → Int → Int → List (S87) → Option (Bool)
  | 0, _, _, _, _, _, _, _ => none
  | k + 1, x2, x8, x42, x43, x44, x364000, x364001 => if x44 < x43 then (if 0 ≤ x44 then (if x44 < (x42.length : Int) then ((treap_Del.f x364000 x364001 (wrap64 (Int.tmod (IntKind.u64.wrap (rd x42 x44)) 4294967296))).bind fun bt367 => ((deadboltref08_Place.f k x8 (wrap64 (Int.tmod (IntKind.u64.wrap (rd x42 x44)) 4294967296))).bind fun t373 => (if t373 < 0 then (if bt367.2.2 = 4 then (deadboltlaw08_TreapShape.l0 k x2 x8 x42 x43 (wrap64 (x44 + 1)) x364000 x364001) else (some false)) else (if bt367.2.2 = 0 then ((deadboltref08_Without.f k x8 (wrap64 (Int.tmod (IntKind.u64.wrap (rd x42 x44)) 4294967296))).bind fun t374 => (deadboltlaw08_TreapShape.l0 k x2 t374 x42 x43 (wrap64 (x44 + 1)) bt367.1 bt367.2.1)) else (some false))))) else (none)) else (none)) else (deadboltlaw08_TreapShape.l1 k x2 x8 ([] : List Int) (x8.length : Int) 0 x364000 x364001)
def deadboltlaw08_TreapShape.l1 : Nat → Int → List Int → List Int → Int → Int → Int → List (S87) → Option (Bool)
  | 0, _, _, _, _, _, _, _ => none
  | k + 1, x2, x8, x14, x72, x73, x364000, x364001 => if x73 < x72 then (if (x8.length : Int) = 0 then (none) else (if 0 ≤ (Int.tmod (wrap64 (x73 + (Int.tmod (wrap64 ((Int.tmod x2 64) + 64)) 64))) (x8.length : Int)) then (if (Int.tmod (wrap64 (x73 + (Int.tmod (wrap64 ((Int.tmod x2 64) + 64)) 64))) (x8.length : Int)) < (x8.length : Int) then (if x14.length < 17592186044416 then (deadboltlaw08_TreapShape.l1 k x2 x8 (x14 ++ [rd x8 (Int.tmod (wrap64 (x73 + (Int.tmod (wrap64 ((Int.tmod x2 64) + 64)) 64))) (x8.length : Int))]) x72 (wrap64 (x73 + 1)) x364000 x364001) else (none)) else (none)) else (none))) else ((deadboltlaw08_made.f k x14).bind fun bt381 => ((treap_Keys.f x364000 x364001).bind fun bt390 => (if bt381.2.2.2 = true then (if bt390.2 = 0 then ((deadboltref08_Same.f k bt390.1 x8).bind fun t394 => (if t394 = true then ((treap_Right.f x364000 x364001).bind fun t395 => (deadboltlaw08_TreapShape.j3 k x8 (!t395) x364000 x364001 bt381.1 bt381.2.1)) else (deadboltlaw08_TreapShape.j3 k x8 true x364000 x364001 bt381.1 bt381.2.1))) else (deadboltlaw08_TreapShape.j3 k x8 true x364000 x364001 bt381.1 bt381.2.1)) else (deadboltlaw08_TreapShape.j3 k x8 true x364000 x364001 bt381.1 bt381.2.1))))
def deadboltlaw08_TreapShape.j3 : Nat → List Int → Bool → Int → List (S87) → Int → List (S87) → Option (Bool)
  | 0, _, _, _, _, _, _ => none
  | k + 1, x8, x119, x364000, x364001, x390000, x390001 => if x119 = true then (some false) else (deadboltlaw08_TreapShape.l2 k x8 x8 (x8.length : Int) 0 x364000 x364001 x390000 x390001)
def deadboltlaw08_TreapShape.l2 : Nat → List Int → List Int → Int → Int → Int → List (S87) → Int → List (S87) → Option (Bool)
  | 0, _, _, _, _, _, _, _, _ => none
  | k + 1, x8, x120, x121, x122, x364000, x364001, x390000, x390001 => if x122 < x121 then (if 0 ≤ x122 then (if x122 < (x120.length : Int) then ((treap_Find.f x364000 x364001 (rd x120 x122)).bind fun bt397 => ((treap_Find.f x390000 x390001 (rd x120 x122)).bind fun bt399 => (if bt397.2 = 0 then (if bt399.2 = 0 then (if bt397.1 = bt399.1 then (if bt397.1 < 0 then (some false) else (if bt397.1 ≥ (x8.length : Int) then (some false) else (deadboltlaw08_TreapShape.l2 k x8 x120 x121 (wrap64 (x122 + 1)) x364000 x364001 x390000 x390001))) else (some false)) else (some false)) else (some false)))) else (none)) else (none)) else (some true)
end
def deadboltlaw08_TreapShape.f (k : Nat) (l0 : List Int) (l1 : List Int) (a2 : Int) : Option (Bool) := (deadboltlaw08_made.f k l0).bind fun bt355 => (if bt355.2.2.2 = true then ((deadboltlaw08_alive.f k).bind fun t364 => (deadboltlaw08_TreapShape.j0 k l1 a2 bt355.2.2.1 (!t364) bt355.1 bt355.2.1)) else (deadboltlaw08_TreapShape.j0 k l1 a2 bt355.2.2.1 true bt355.1 bt355.2.1))
theorem deadboltlaw08_TreapShape.mono_l : ∀ k, (∀ y0 y1 y2 y3 y4 y5, LeO (deadboltlaw08_TreapShape.j0 k y0 y1 y2 y3 y4 y5) (deadboltlaw08_TreapShape.j0 (k + 1) y0 y1 y2 y3 y4 y5)) ∧ (∀ y0 y1 y2 y3 y4 y5 y6, LeO (deadboltlaw08_TreapShape.l0 k y0 y1 y2 y3 y4 y5 y6) (deadboltlaw08_TreapShape.l0 (k + 1) y0 y1 y2 y3 y4 y5 y6)) ∧ (∀ y0 y1 y2 y3 y4 y5 y6, LeO (deadboltlaw08_TreapShape.l1 k y0 y1 y2 y3 y4 y5 y6) (deadboltlaw08_TreapShape.l1 (k + 1) y0 y1 y2 y3 y4 y5 y6)) ∧ (∀ y0 y1 y2 y3 y4 y5, LeO (deadboltlaw08_TreapShape.j3 k y0 y1 y2 y3 y4 y5) (deadboltlaw08_TreapShape.j3 (k + 1) y0 y1 y2 y3 y4 y5)) ∧ (∀ y0 y1 y2 y3 y4 y5 y6 y7, LeO (deadboltlaw08_TreapShape.l2 k y0 y1 y2 y3 y4 y5 y6 y7) (deadboltlaw08_TreapShape.l2 (k + 1) y0 y1 y2 y3 y4 y5 y6 y7))
  | 0 => ⟨fun _ _ _ _ _ _ r h => by simp [deadboltlaw08_TreapShape.j0] at h, fun _ _ _ _ _ _ _ r h => by simp [deadboltlaw08_TreapShape.l0] at h, fun _ _ _ _ _ _ _ r h => by simp [deadboltlaw08_TreapShape.l1] at h, fun _ _ _ _ _ _ r h => by simp [deadboltlaw08_TreapShape.j3] at h, fun _ _ _ _ _ _ _ _ r h => by simp [deadboltlaw08_TreapShape.l2] at h⟩
  | k + 1 => by
    obtain ⟨ih0, ih1, ih2, ih3, ih4⟩ := deadboltlaw08_TreapShape.mono_l k
    refine ⟨?_, ?_, ?_, ?_, ?_⟩
    · intro y0 y1 y2 y3 y4 y5
      unfold deadboltlaw08_TreapShape.j0
      repeat' first
      | (with_reducible exact ih0 _ _ _ _ _ _)
      | (with_reducible exact ih1 _ _ _ _ _ _ _)
      | (with_reducible exact ih2 _ _ _ _ _ _ _)
      | (with_reducible exact ih3 _ _ _ _ _ _)
      | (with_reducible exact ih4 _ _ _ _ _ _ _ _)
      | (with_reducible exact deadboltlaw08_alive.mono _)
      | (with_reducible exact deadboltlaw08_made.mono _ _)
      | (with_reducible exact deadboltref08_Place.mono _ _ _)
      | (with_reducible exact deadboltref08_Same.mono _ _ _)
      | (with_reducible exact deadboltref08_Without.mono _ _ _)
      | (with_reducible exact LeO.refl _)
      | (with_reducible exact LeO.none _)
      | (with_reducible refine LeO.ite ?_ ?_)
      | (with_reducible refine LeO.bind ?_ (fun _ => ?_))
      | exact ih0 _ _ _ _ _ _
      | exact ih1 _ _ _ _ _ _ _
      | exact ih2 _ _ _ _ _ _ _
      | exact ih3 _ _ _ _ _ _
      | exact ih4 _ _ _ _ _ _ _ _
      | exact deadboltlaw08_alive.mono _
      | exact deadboltlaw08_made.mono _ _
      | exact deadboltref08_Place.mono _ _ _
      | exact deadboltref08_Same.mono _ _ _
      | exact deadboltref08_Without.mono _ _ _
      | exact LeO.none _
      | refine LeO.ite ?_ ?_
      | refine LeO.bind ?_ (fun _ => ?_)
    · intro y0 y1 y2 y3 y4 y5 y6
      unfold deadboltlaw08_TreapShape.l0
      repeat' first
      | (with_reducible exact ih0 _ _ _ _ _ _)
      | (with_reducible exact ih1 _ _ _ _ _ _ _)
      | (with_reducible exact ih2 _ _ _ _ _ _ _)
      | (with_reducible exact ih3 _ _ _ _ _ _)
      | (with_reducible exact ih4 _ _ _ _ _ _ _ _)
      | (with_reducible exact deadboltlaw08_alive.mono _)
      | (with_reducible exact deadboltlaw08_made.mono _ _)
      | (with_reducible exact deadboltref08_Place.mono _ _ _)
      | (with_reducible exact deadboltref08_Same.mono _ _ _)
      | (with_reducible exact deadboltref08_Without.mono _ _ _)
      | (with_reducible exact LeO.refl _)
      | (with_reducible exact LeO.none _)
      | (with_reducible refine LeO.ite ?_ ?_)
      | (with_reducible refine LeO.bind ?_ (fun _ => ?_))
      | exact ih0 _ _ _ _ _ _
      | exact ih1 _ _ _ _ _ _ _
      | exact ih2 _ _ _ _ _ _ _
      | exact ih3 _ _ _ _ _ _
      | exact ih4 _ _ _ _ _ _ _ _
      | exact deadboltlaw08_alive.mono _
      | exact deadboltlaw08_made.mono _ _
      | exact deadboltref08_Place.mono _ _ _
      | exact deadboltref08_Same.mono _ _ _
      | exact deadboltref08_Without.mono _ _ _
      | exact LeO.none _
      | refine LeO.ite ?_ ?_
      | refine LeO.bind ?_ (fun _ => ?_)
    · intro y0 y1 y2 y3 y4 y5 y6
      unfold deadboltlaw08_TreapShape.l1
      repeat' first
      | (with_reducible exact ih0 _ _ _ _ _ _)
      | (with_reducible exact ih1 _ _ _ _ _ _ _)
      | (with_reducible exact ih2 _ _ _ _ _ _ _)
      | (with_reducible exact ih3 _ _ _ _ _ _)
      | (with_reducible exact ih4 _ _ _ _ _ _ _ _)
      | (with_reducible exact deadboltlaw08_alive.mono _)
      | (with_reducible exact deadboltlaw08_made.mono _ _)
      | (with_reducible exact deadboltref08_Place.mono _ _ _)
      | (with_reducible exact deadboltref08_Same.mono _ _ _)
      | (with_reducible exact deadboltref08_Without.mono _ _ _)
      | (with_reducible exact LeO.refl _)
      | (with_reducible exact LeO.none _)
      | (with_reducible refine LeO.ite ?_ ?_)
      | (with_reducible refine LeO.bind ?_ (fun _ => ?_))
      | exact ih0 _ _ _ _ _ _
      | exact ih1 _ _ _ _ _ _ _
      | exact ih2 _ _ _ _ _ _ _
      | exact ih3 _ _ _ _ _ _
      | exact ih4 _ _ _ _ _ _ _ _
      | exact deadboltlaw08_alive.mono _
      | exact deadboltlaw08_made.mono _ _
      | exact deadboltref08_Place.mono _ _ _
      | exact deadboltref08_Same.mono _ _ _
      | exact deadboltref08_Without.mono _ _ _
      | exact LeO.none _
      | refine LeO.ite ?_ ?_
      | refine LeO.bind ?_ (fun _ => ?_)
    · intro y0 y1 y2 y3 y4 y5
      unfold deadboltlaw08_TreapShape.j3
      repeat' first
      | (with_reducible exact ih0 _ _ _ _ _ _)
      | (with_reducible exact ih1 _ _ _ _ _ _ _)
      | (with_reducible exact ih2 _ _ _ _ _ _ _)
      | (with_reducible exact ih3 _ _ _ _ _ _)
      | (with_reducible exact ih4 _ _ _ _ _ _ _ _)
      | (with_reducible exact deadboltlaw08_alive.mono _)
      | (with_reducible exact deadboltlaw08_made.mono _ _)
      | (with_reducible exact deadboltref08_Place.mono _ _ _)
      | (with_reducible exact deadboltref08_Same.mono _ _ _)
      | (with_reducible exact deadboltref08_Without.mono _ _ _)
      | (with_reducible exact LeO.refl _)
      | (with_reducible exact LeO.none _)
      | (with_reducible refine LeO.ite ?_ ?_)
      | (with_reducible refine LeO.bind ?_ (fun _ => ?_))
      | exact ih0 _ _ _ _ _ _
      | exact ih1 _ _ _ _ _ _ _
      | exact ih2 _ _ _ _ _ _ _
      | exact ih3 _ _ _ _ _ _
      | exact ih4 _ _ _ _ _ _ _ _
      | exact deadboltlaw08_alive.mono _
      | exact deadboltlaw08_made.mono _ _
      | exact deadboltref08_Place.mono _ _ _
      | exact deadboltref08_Same.mono _ _ _
      | exact deadboltref08_Without.mono _ _ _
      | exact LeO.none _
      | refine LeO.ite ?_ ?_
      | refine LeO.bind ?_ (fun _ => ?_)
    · intro y0 y1 y2 y3 y4 y5 y6 y7
      unfold deadboltlaw08_TreapShape.l2
      repeat' first
      | (with_reducible exact ih0 _ _ _ _ _ _)
      | (with_reducible exact ih1 _ _ _ _ _ _ _)
      | (with_reducible exact ih2 _ _ _ _ _ _ _)
      | (with_reducible exact ih3 _ _ _ _ _ _)
      | (with_reducible exact ih4 _ _ _ _ _ _ _ _)
      | (with_reducible exact deadboltlaw08_alive.mono _)
      | (with_reducible exact deadboltlaw08_made.mono _ _)
      | (with_reducible exact deadboltref08_Place.mono _ _ _)
      | (with_reducible exact deadboltref08_Same.mono _ _ _)
      | (with_reducible exact deadboltref08_Without.mono _ _ _)
      | (with_reducible exact LeO.refl _)
      | (with_reducible exact LeO.none _)
      | (with_reducible refine LeO.ite ?_ ?_)
      | (with_reducible refine LeO.bind ?_ (fun _ => ?_))
      | exact ih0 _ _ _ _ _ _
      | exact ih1 _ _ _ _ _ _ _
      | exact ih2 _ _ _ _ _ _ _
      | exact ih3 _ _ _ _ _ _
      | exact ih4 _ _ _ _ _ _ _ _
      | exact deadboltlaw08_alive.mono _
      | exact deadboltlaw08_made.mono _ _
      | exact deadboltref08_Place.mono _ _ _
      | exact deadboltref08_Same.mono _ _ _
      | exact deadboltref08_Without.mono _ _ _
      | exact LeO.none _
      | refine LeO.ite ?_ ?_
      | refine LeO.bind ?_ (fun _ => ?_)
theorem deadboltlaw08_TreapShape.mono : ∀ a0 a1 a2 k, LeO (deadboltlaw08_TreapShape.f k a0 a1 a2) (deadboltlaw08_TreapShape.f (k + 1) a0 a1 a2) := by
  intro a0 a1 a2 k
  obtain ⟨ih0, ih1, ih2, ih3, ih4⟩ := deadboltlaw08_TreapShape.mono_l k
  unfold deadboltlaw08_TreapShape.f
  repeat' first
      | (with_reducible exact ih0 _ _ _ _ _ _)
      | (with_reducible exact ih1 _ _ _ _ _ _ _)
      | (with_reducible exact ih2 _ _ _ _ _ _ _)
      | (with_reducible exact ih3 _ _ _ _ _ _)
      | (with_reducible exact ih4 _ _ _ _ _ _ _ _)
      | (with_reducible exact deadboltlaw08_alive.mono _)
      | (with_reducible exact deadboltlaw08_made.mono _ _)
      | (with_reducible exact deadboltref08_Place.mono _ _ _)
      | (with_reducible exact deadboltref08_Same.mono _ _ _)
      | (with_reducible exact deadboltref08_Without.mono _ _ _)
      | (with_reducible exact LeO.refl _)
      | (with_reducible exact LeO.none _)
      | (with_reducible refine LeO.ite ?_ ?_)
      | (with_reducible refine LeO.bind ?_ (fun _ => ?_))
      | exact ih0 _ _ _ _ _ _
      | exact ih1 _ _ _ _ _ _ _
      | exact ih2 _ _ _ _ _ _ _
      | exact ih3 _ _ _ _ _ _
      | exact ih4 _ _ _ _ _ _ _ _
      | exact deadboltlaw08_alive.mono _
      | exact deadboltlaw08_made.mono _ _
      | exact deadboltref08_Place.mono _ _ _
      | exact deadboltref08_Same.mono _ _ _
      | exact deadboltref08_Without.mono _ _ _
      | exact LeO.none _
      | refine LeO.ite ?_ ?_
      | refine LeO.bind ?_ (fun _ => ?_)
set_option maxHeartbeats 8000000 in
set_option maxRecDepth 100000 in
theorem deadboltlaw08_TreapShape.calls (k : Nat) (A0 : Option Addr) (c0 : Nat) (l0 : List Int) (A1 : Option Addr) (c1 : Nat) (l1 : List Int) (a2 : Int) (r : Bool) (w : World) (hr0 : Kd.C (Kd.int .i64) w A0 l0.length l0) (hc0 : l0.length ≤ c0) (hr1 : Kd.C (Kd.int .i64) w A1 l1.length l1) (hc1 : l1.length ≤ c1) (h : deadboltlaw08_TreapShape.f k l0 l1 a2 = some r) :
    Calls Try.prog 11 #[.slice A0 l0.length c0, .slice A1 l1.length c1, .int .i64 a2] w fun e w' => e = .returned (.bool r) ∧ Below w.heap.size w w' := by
  have hu50 := Try.underlying50
  have HR0 := Aside0.mk hr0
  have HC0 := Aside0.mk hc0
  clear hr0 hc0
  have HR1 := Aside0.mk hr1
  have HC1 := Aside0.mk hc1
  clear hr1 hc1
  have HB := Aside0.mk (Below.refl w.heap.size w)
  have H : ((deadboltlaw08_made.f k l0).bind fun bt355 => (if bt355.2.2.2 = true then ((deadboltlaw08_alive.f k).bind fun t364 => (deadboltlaw08_TreapShape.j0 k l1 a2 bt355.2.2.1 (!t364) bt355.1 bt355.2.1)) else (deadboltlaw08_TreapShape.j0 k l1 a2 bt355.2.2.1 true bt355.1 bt355.2.1))) = some r := h
  clear h
  replace H := Option.bind_eq_some_iff.mp H
  obtain ⟨⟨t355, t356, t359, t362⟩, A40, H⟩ := H
  replace H : (if t362 = true then ((deadboltlaw08_alive.f k).bind fun t364 => (deadboltlaw08_TreapShape.j0 k l1 a2 t359 (!t364) t355 t356)) else (deadboltlaw08_TreapShape.j0 k l1 a2 t359 true t355 t356)) = some r := H
  have A4 := Aside0.mk A40
  clear A40
  have HC5 := Aside0.mk H
  clear H
  go_enter Try.func11, Try.ntmps11
  go_upto_region 2 with (first | ((with_reducible refine gate_callee (f := 29) rfl ?_); refine goesL_ (some 28) rfl rfl Try.func29 (by kernel_rfl) rfl #[.slice A0 l0.length c0] rfl (by (try simp only [List.map_toArray, List.map_cons, List.map_nil]); first | done | rfl | (simp only [List.length_drop, List.length_take]; rfl)) ?_; (with_reducible refine (deadboltlaw08_made.calls k _ _ l0 t355 t356 t359 t362 _ ?side1 ?side2 A4.out).mono ?_); (case side1 => repeat (first | exact HR0.out | (with_reducible refine Kd.C_alloc ?_ _) | (with_reducible refine Kd.C_drewN ?_ _) | (with_reducible refine Kd.C_drew ?_))); (case side2 => exact HC0.out); rintro e w6 ⟨v357, v360, rfl, ho0, ho1, hb⟩; refine ⟨_, rfl, ?_⟩; have n0_ := Aside0.mk (Kd.R_lower ho0 (below_size (by repeat (first | (with_reducible first | exact HB.out | apply below_alloc | apply pw_below_drewN | apply below_drew1) | exact HB.out)))); have n1_ := Aside0.mk (Kd.R_lower ho1 (below_size (by repeat (first | (with_reducible first | exact HB.out | apply below_alloc | apply pw_below_drewN | apply below_drew1) | exact HB.out)))); have n2_ := Aside0.mk (below_step (by repeat (first | (with_reducible first | exact HB.out | apply below_alloc | apply pw_below_drewN | apply below_drew1) | exact HB.out)) hb); clear HB; have HO358 := n0_; have HO361 := n1_; have HB := n2_; clear n0_ n1_ n2_; (try clear hb); (try clear hb2); (try clear hk); (try clear hi); (try clear ho0); (try clear ho1)) | ((with_reducible refine gate_dst (N := 7) rfl ?_); (try (refine gate_guard (by rfl) ?_; dsimp only)); refine box_event ?hg (N := 7) ?hd (cs := #[.int .i64 0, .slice none 0 0]) (t := 50) ?hr ?_; (case hd => rfl); (case hg => rfl); (case hr => first | (go_simp; done) | (go_simp; rfl)); intro gb363 hg w7 hbox hb; have n0_ := Aside0.mk (Kd.R_below (by (with_reducible repeat (first | apply Kd.R_alloc | apply Kd.R_drewN | apply Kd.R_drew)); exact HO358.out) hb); have n1_ := Aside0.mk (Kd.R_below (by (with_reducible repeat (first | apply Kd.R_alloc | apply Kd.R_drewN | apply Kd.R_drew)); exact HO361.out) hb); have n2_ := Aside0.mk (below_step (by repeat (first | (with_reducible first | exact HB.out | apply below_alloc | apply pw_below_drewN | apply below_drew1) | exact HB.out)) hb); have n3_ := Aside0.mk (hbox); have n4_ := Aside0.mk ((by rw [hg]; exact (below_size (by repeat (first | (with_reducible first | exact HB.out | apply below_alloc | apply pw_below_drewN | apply below_drew1) | exact HB.out))) : w.heap.size ≤ gb363)); have n5_ := Aside0.mk ((by rw [hg]; exact (below_size (by repeat (first | (with_reducible first | exact HB.out | apply below_alloc | apply pw_below_drewN | apply below_drew1) | exact HB.out))) : w.heap.size ≤ gb363)); clear HO358; clear HO361; clear HB; have HO358 := n0_; have HO361 := n1_; have HB := n2_; have BK363 := n3_; have GW363 := n4_; have GE363 := n5_; clear n0_ n1_ n2_ n3_ n4_ n5_; clear hb hbox hg; have hcz8_0 : w7.cell? ⟨gb363, 0, none⟩ = some (.int .i64 0) := (blk_cell BK363.out 0).trans rfl; have hcz8_1 : w7.cell? ⟨gb363, 1, none⟩ = some (.slice none 0 0) := (blk_cell BK363.out 1).trans rfl; have hfz8_0 := blk_frozen BK363.out 0; have hfz8_1 := blk_frozen BK363.out 1; obtain ⟨Ao9, co9, eo9⟩ := Kd.R_slice HO358.out; subst eo9))
  (try simp only [Act.put, List.setIfInBounds_toArray, List.set_cons_zero, List.set_cons_succ])
  go_cut [37] (fun v37 wc => ∃ (kq : Nat) (x37_4 : Bool), v37 = .bool x37_4 ∧ Aside0 (deadboltlaw08_TreapShape.j0 kq l1 a2 t359 x37_4 t355 t356 = some r) ∧ Aside0 (kq ≤ k) ∧ Aside0 (Kd.R (Kd.int .i64) 3 wc w.heap.size (fun _ => True) v360 t359) ∧ Aside0 (Kd.R k87 87 wc w.heap.size (fun _ => True) (.slice Ao9 t356.length co9) t356) ∧ Aside0 (wc.heap[gb363]? = some (.cells #[.int .i64 t355, (.slice Ao9 t356.length co9)] 50 (0, 0))) ∧ Aside0 (Below w.heap.size w wc))
  case first =>
    have H := HC5.out
    clear HC5
    by_cases c10 : t362 = true
    · subst c10
      have H1 : ((deadboltlaw08_alive.f k).bind fun t364 => (deadboltlaw08_TreapShape.j0 k l1 a2 t359 (!t364) t355 t356)) = some r := by rw [if_pos rfl] at H; exact H
      clear H
      have H := H1
      clear H1
      replace H := Option.bind_eq_some_iff.mp H
      obtain ⟨t364, A110, H⟩ := H
      replace H : (deadboltlaw08_TreapShape.j0 k l1 a2 t359 (!t364) t355 t356) = some r := H
      have A11 := Aside0.mk A110
      clear A110
      have H' := Aside0.mk H
      clear H
      go_wp2_with (first | (go_at_call 30; (with_reducible refine (deadboltlaw08_alive.calls k  t364 _ A11.out).mono ?_); rintro e w12 ⟨rfl, hb⟩; have n0_ := Aside0.mk (Kd.R_below (by (with_reducible repeat (first | apply Kd.R_alloc | apply Kd.R_drewN | apply Kd.R_drew)); exact (Kd.R_mono (Kd.R_far (p := ⟨gb363, 1, none⟩) (Kd.R_far (p := ⟨gb363, 0, none⟩) (Kd.R_types HO358.out BK363.out (by decide)) (fun _ hk => hk.2) (.int .i64 t355)) (fun _ hk => hk.2) (.slice Ao9 t356.length co9)) (fun _ h_ => h_.1))) hb); have n1_ := Aside0.mk (Kd.R_below (by (with_reducible repeat (first | apply Kd.R_alloc | apply Kd.R_drewN | apply Kd.R_drew)); exact (Kd.R_mono (Kd.R_far (p := ⟨gb363, 1, none⟩) (Kd.R_far (p := ⟨gb363, 0, none⟩) (Kd.R_types HO361.out BK363.out (by decide)) (fun _ hk => hk.2) (.int .i64 t355)) (fun _ hk => hk.2) (.slice Ao9 t356.length co9)) (fun _ h_ => h_.1))) hb); have n2_ := Aside0.mk (blk_below (g := gb363) (o := .cells #[.int .i64 t355, .slice Ao9 t356.length co9] 50 (0, 0)) (by (with_reducible repeat (first | refine blk_drewN ?_ _ | refine blk_drew ?_ | refine blk_alloc ?_ _)); refine blk_put (cs := #[.int .i64 t355, .slice none 0 0]) ?_ 1 _ rfl; (with_reducible repeat (first | refine blk_drewN ?_ _ | refine blk_drew ?_ | refine blk_alloc ?_ _)); refine blk_put (cs := #[.int .i64 0, .slice none 0 0]) ?_ 0 _ rfl; (with_reducible repeat (first | refine blk_drewN ?_ _ | refine blk_drew ?_ | refine blk_alloc ?_ _)); exact BK363.out) hb); have n3_ := Aside0.mk (below_step (by repeat (first | (with_reducible first | exact HB.out | apply below_alloc | apply pw_below_drewN | apply below_drew1 | refine below_set ?_ GE363.out) | exact HB.out)) hb); clear HO358; clear HO361; clear BK363; clear HB; have HO358 := n0_; have HO361 := n1_; have BK363 := n2_; have HB := n3_; clear n0_ n1_ n2_ n3_; (try clear hb); (try clear hb2); (try clear hk); (try clear hi)))
      go_meet
      case rel => exact ⟨_, (!t364), (by first | rfl | (simp; done) | (simp [*]; done)), H', ⟨by first | omega | exact Nat.le_refl _⟩, ⟨by (with_reducible repeat (first | apply Kd.R_alloc | apply Kd.R_drewN | apply Kd.R_drew)); exact HO361.out⟩, ⟨by (with_reducible repeat (first | apply Kd.R_alloc | apply Kd.R_drewN | apply Kd.R_drew)); exact HO358.out⟩, ⟨by (with_reducible repeat (first | refine blk_drewN ?_ _ | refine blk_drew ?_ | refine blk_alloc ?_ _)); exact BK363.out⟩, ⟨by repeat (first | (with_reducible first | exact HB.out | apply below_alloc | apply pw_below_drewN | apply below_drew1 | refine below_set ?_ GE363.out) | exact HB.out)⟩⟩
    · replace c10 := Bool.eq_false_iff.mpr c10
      subst c10
      have H1 : (deadboltlaw08_TreapShape.j0 k l1 a2 t359 true t355 t356) = some r := by rw [if_neg (show ¬ (false = true) by decide)] at H; exact H
      clear H
      have H := H1
      clear H1
      have H' := Aside0.mk H
      clear H
      go_wp2
      go_meet
      case rel => exact ⟨_, (true), (by first | rfl | (simp; done) | (simp [*]; done)), H', ⟨by first | omega | exact Nat.le_refl _⟩, ⟨by (with_reducible repeat (first | apply Kd.R_alloc | apply Kd.R_drewN | apply Kd.R_drew)); exact Kd.R_mono (Kd.R_far (p := ⟨gb363, 1, none⟩) (Kd.R_far (p := ⟨gb363, 0, none⟩) (Kd.R_types HO361.out BK363.out (by decide)) (fun _ hk => hk.2) (.int .i64 t355)) (fun _ hk => hk.2) (.slice Ao9 t356.length co9)) (fun _ hk => trivial)⟩, ⟨by (with_reducible repeat (first | apply Kd.R_alloc | apply Kd.R_drewN | apply Kd.R_drew)); exact Kd.R_mono (Kd.R_far (p := ⟨gb363, 1, none⟩) (Kd.R_far (p := ⟨gb363, 0, none⟩) (Kd.R_types HO358.out BK363.out (by decide)) (fun _ hk => hk.2) (.int .i64 t355)) (fun _ hk => hk.2) (.slice Ao9 t356.length co9)) (fun _ hk => trivial)⟩, ⟨by (with_reducible repeat (first | refine blk_drewN ?_ _ | refine blk_drew ?_ | refine blk_alloc ?_ _)); refine blk_put (cs := #[.int .i64 t355, .slice none 0 0]) ?_ 1 _ rfl; (with_reducible repeat (first | refine blk_drewN ?_ _ | refine blk_drew ?_ | refine blk_alloc ?_ _)); refine blk_put (cs := #[.int .i64 0, .slice none 0 0]) ?_ 0 _ rfl; (with_reducible repeat (first | refine blk_drewN ?_ _ | refine blk_drew ?_ | refine blk_alloc ?_ _)); exact BK363.out⟩, ⟨by repeat (first | (with_reducible first | exact HB.out | apply below_alloc | apply pw_below_drewN | apply below_drew1 | refine below_set ?_ GE363.out) | exact HB.out)⟩⟩
  case rest =>
    clear HC5
    try clear c1
    try clear c2
    try clear p2
    try clear c10
    try clear c11
    try clear hcz8_0
    try clear hcz8_1
    try clear hfz8_0
    try clear hfz8_1
    obtain ⟨kq, x37_4, rfl, HA, HJ4, HO_8, HO_364001, BK363, HB⟩ := hcut
    cases kq with
    | zero => exact absurd HA.out (by simp [deadboltlaw08_TreapShape.j0])
    | succ kj4 =>
      have H := HA.out
      clear HA
      simp only [deadboltlaw08_TreapShape.j0] at H
      by_cases c13 : x37_4 = true
      · subst c13
        have H1 : (some false) = some r := by rw [if_pos rfl] at H; exact H
        clear H
        have H := H1
        clear H1
        obtain rfl := Option.some.inj H
        go_wp2
        go_ret
        exact ⟨by first | rfl | (simp [errW_none, errW_some] <;> rfl) | (simp [*, errW_none, errW_some] <;> rfl), by repeat (first | (with_reducible first | exact HB.out | apply below_alloc | apply pw_below_drewN | apply below_drew1 | refine below_set ?_ GE363.out) | exact HB.out)⟩
      · replace c13 := Bool.eq_false_iff.mpr c13
        subst c13
        have H1 : (if 0 ≤ (mn (l1.length : Int) 40) then (if (mn (l1.length : Int) 40) ≤ (l1.length : Int) then (deadboltlaw08_TreapShape.l0 kj4 a2 t359 (l1.take ((mn (l1.length : Int) 40) : Int).toNat) ((l1.take ((mn (l1.length : Int) 40) : Int).toNat).length : Int) 0 t355 t356) else (none)) else (none)) = some r := by rw [if_neg (show ¬ (false = true) by decide)] at H; exact H
        clear H
        have H := H1
        clear H1
        obtain ⟨ji14, hji14⟩ : ∃ j_ : Int, (mn (l1.length : Int) 40) = j_ := ⟨_, rfl⟩
        replace H : (if 0 ≤ (ji14) then (if (ji14) ≤ (l1.length : Int) then (deadboltlaw08_TreapShape.l0 kj4 a2 t359 (l1.take ((ji14) : Int).toNat) ((l1.take ((ji14) : Int).toNat).length : Int) 0 t355 t356) else (none)) else (none)) = some r := by first | (rw [hji14] at H; exact H) | (simp only [hji14] at H ⊢; exact H)
        have hji14_ : (if 40 < (l1.length : Int) then 40 else (l1.length : Int)) = ji14 := hji14
        by_cases c15 : 0 ≤ (ji14)
        · rw [if_pos c15] at H
          have c15b0 := eq_true c15
          have c15b1 : decide (0 ≤ (ji14)) = true := decide_eq_true c15
          clear c15
          by_cases c16 : (ji14) ≤ (l1.length : Int)
          · rw [if_pos c16] at H
            have c16b0 := eq_true c16
            have c16b1 : decide ((ji14) ≤ (l1.length : Int)) = true := decide_eq_true c16
            clear c16
            have H' := Aside0.mk H
            clear H
            obtain ⟨i017, hi017, _, hsz17, _⟩ := info_parts info3
            obtain ⟨hcut17, hA17, hC17⟩ := print_take_of (P := Try.prog) (Value.int .i64) 0 26 3 .i64 Try.underlying26 hi017 hsz17 A1 c1 l1 (ji14) (of_decide_eq_true (by first | (with_reducible assumption) | assumption)) (of_decide_eq_true (by first | (with_reducible assumption) | assumption)) HC1.out
            have HR365 := Aside0.mk (Kd.C_of_reads (h1 := fun _ => rfl) (hA17 _ (Kd.reads_of_C HR1.out)))
            have HC365 := Aside0.mk hC17
            clear hA17 hC17 hi017 hsz17
            go_wp2
            go_loopg [8, 44] kj4 (fun kq v8 v44 w' => ∃ (x8_2 : List Int) (x44_2 : Int) (x364000_2 : Int) (x364001_2 : List (S87)) (u364001 : Value), v44 = .int .i64 x44_2 ∧ Aside0 (deadboltlaw08_TreapShape.l0 kq a2 x8_2 (l1.take ((ji14) : Int).toNat) ((l1.take ((ji14) : Int).toNat).length : Int) x44_2 x364000_2 x364001_2 = some r) ∧ Aside0 (kq ≤ kj4) ∧ Aside0 (Kd.R (Kd.int .i64) 3 w' w.heap.size (fun _ => True) v8 x8_2) ∧ Aside0 (Kd.R k87 87 w' w.heap.size (fun _ => True) u364001 x364001_2) ∧ Aside0 (w'.heap[gb363]? = some (.cells #[.int .i64 x364000_2, u364001] 50 (0, 0))) ∧ Aside0 (Below w.heap.size w w'))
            case atStart => exact ⟨(t359), (0), (t355), (t356), (.slice Ao9 t356.length co9), (by first | rfl | (simp; done) | (simp [*]; done)), H', ⟨Nat.le_refl _⟩, ⟨by (with_reducible repeat (first | apply Kd.R_alloc | apply Kd.R_drewN | apply Kd.R_drew)); exact HO_8.out⟩, ⟨by (with_reducible repeat (first | apply Kd.R_alloc | apply Kd.R_drewN | apply Kd.R_drew)); exact HO_364001.out⟩, ⟨by (with_reducible repeat (first | refine blk_drewN ?_ _ | refine blk_drew ?_ | refine blk_alloc ?_ _)); exact BK363.out⟩, ⟨by repeat (first | (with_reducible first | exact HB.out | apply below_alloc | apply pw_below_drewN | apply below_drew1 | refine below_set ?_ GE363.out) | exact HB.out)⟩⟩
            case round =>
              clear H'
              try clear c1
              try clear c2
              try clear p2
              try clear c10
              try clear c11
              try clear c13
              try clear c15
              try clear c15b0
              try clear c15b1
              try clear c16
              try clear c16b0
              try clear c16b1
              try clear hcz8_0
              try clear hcz8_1
              try clear hfz8_0
              try clear hfz8_1
              try clear p2
              obtain ⟨x8_2, x44_2, x364000_2, x364001_2, u364001, rfl, HA, HK2, HO_8, HO_364001, BK363, HB⟩ := hrel
              cases gk with
              | zero => exact absurd HA.out (by simp [deadboltlaw08_TreapShape.l0])
              | succ k2 =>
                have H := HA.out
                clear HA
                simp only [deadboltlaw08_TreapShape.l0] at H
                by_cases c18 : x44_2 < ((l1.take ((ji14) : Int).toNat).length : Int)
                · rw [if_pos c18] at H
                  have c18b0 : decide (x44_2 < ((l1.take ((ji14) : Int).toNat).length : Int)) = true := decide_eq_true c18; (try (have c18b0x : decide (x44_2 < max ji14 0) = true := by (have hq_ := c18; rw [List.length_take] at hq_; have hj_ := hji14; unfold mn at hj_; apply decide_eq_true; split at hj_ <;> omega))); (try (have c18b0y := eq_true (of_decide_eq_true c18b0x))); (try (have c18b0z := eq_false (of_decide_eq_false c18b0x)))
                  clear c18
                  by_cases c19 : 0 ≤ x44_2
                  · rw [if_pos c19] at H
                    have c19b0 : decide (0 ≤ x44_2) = true := decide_eq_true c19
                    clear c19
                    by_cases c20 : x44_2 < ((l1.take ((ji14) : Int).toNat).length : Int)
                    · rw [if_pos c20] at H
                      have c20b0 : decide (x44_2 < ((l1.take ((ji14) : Int).toNat).length : Int)) = true := decide_eq_true c20; (try (have c20b0x : decide (x44_2 < max ji14 0) = true := by (have hq_ := c20; rw [List.length_take] at hq_; have hj_ := hji14; unfold mn at hj_; apply decide_eq_true; split at hj_ <;> omega))); (try (have c20b0y := eq_true (of_decide_eq_true c20b0x))); (try (have c20b0z := eq_false (of_decide_eq_false c20b0x)))
                      clear c20
                      replace H := Option.bind_eq_some_iff.mp H
                      obtain ⟨⟨t367, t368, t371⟩, A210, H⟩ := H
                      replace H : ((deadboltref08_Place.f k2 x8_2 (wrap64 (Int.tmod (IntKind.u64.wrap (rd (l1.take ((ji14) : Int).toNat) x44_2)) 4294967296))).bind fun t373 => (if t373 < 0 then (if t371 = 4 then (deadboltlaw08_TreapShape.l0 k2 a2 x8_2 (l1.take ((ji14) : Int).toNat) ((l1.take ((ji14) : Int).toNat).length : Int) (wrap64 (x44_2 + 1)) x364000_2 x364001_2) else (some false)) else (if t371 = 0 then ((deadboltref08_Without.f k2 x8_2 (wrap64 (Int.tmod (IntKind.u64.wrap (rd (l1.take ((ji14) : Int).toNat) x44_2)) 4294967296))).bind fun t374 => (deadboltlaw08_TreapShape.l0 k2 a2 t374 (l1.take ((ji14) : Int).toNat) ((l1.take ((ji14) : Int).toNat).length : Int) (wrap64 (x44_2 + 1)) t367 t368)) else (some false)))) = some r := H
                      have A21 := Aside0.mk A210
                      clear A210
                      replace H := Option.bind_eq_some_iff.mp H
                      obtain ⟨t373, A220, H⟩ := H
                      replace H : (if t373 < 0 then (if t371 = 4 then (deadboltlaw08_TreapShape.l0 k2 a2 x8_2 (l1.take ((ji14) : Int).toNat) ((l1.take ((ji14) : Int).toNat).length : Int) (wrap64 (x44_2 + 1)) x364000_2 x364001_2) else (some false)) else (if t371 = 0 then ((deadboltref08_Without.f k2 x8_2 (wrap64 (Int.tmod (IntKind.u64.wrap (rd (l1.take ((ji14) : Int).toNat) x44_2)) 4294967296))).bind fun t374 => (deadboltlaw08_TreapShape.l0 k2 a2 t374 (l1.take ((ji14) : Int).toNat) ((l1.take ((ji14) : Int).toNat).length : Int) (wrap64 (x44_2 + 1)) t367 t368)) else (some false))) = some r := H
                      have A22 := Aside0.mk A220
                      clear A220
                      by_cases c23 : t373 < 0
                      · rw [if_pos c23] at H
                        have c23b0 : decide (t373 < 0) = true := decide_eq_true c23
                        clear c23
                        by_cases c24 : t371 = 4
                        · rw [if_pos c24] at H
                          have c24b0 : (t371 == 4) = true := beq_iff_eq.mpr c24
                          have c24b1 : (t371 != 4) = false := bne_eq_false_iff_eq.mpr c24
                          clear c24
                          have H' := Aside0.mk H
                          clear H
                          have p366 : 0 ≤ (x44_2 : Int) := of_decide_eq_true (by first | (with_reducible assumption) | assumption)
                          have q366 : x44_2 < ((l1.take ((ji14) : Int).toNat).length : Int) := of_decide_eq_true (by first | (with_reducible assumption) | assumption)
                          obtain ⟨ad366, e366, hx366_0⟩ := Kd.at_int HR365.out x44_2 p366 q366
                          cases e366
                          replace hx366_0 := (HB.out.cell (World.block_lt_of_cell? w _ hx366_0)).trans hx366_0
                          replace p366 := eq_true p366
                          replace q366 := eq_true q366
                          have hcz25_0 : wr.cell? ⟨gb363, 0, none⟩ = some (.int .i64 x364000_2) := (blk_cell BK363.out 0).trans rfl
                          have hcz25_1 : wr.cell? ⟨gb363, 1, none⟩ = some (u364001) := (blk_cell BK363.out 1).trans rfl
                          have hfz25_0 := blk_frozen BK363.out 0
                          have hfz25_1 := blk_frozen BK363.out 1
                          obtain ⟨Ao26, co26, eo26⟩ := Kd.R_slice HO_364001.out
                          subst eo26
                          go_wp2_with (first | ((with_reducible refine gate_callee (f := 46) rfl ?_); refine goesL_ (some 55) rfl rfl Try.func46 (by kernel_rfl) rfl #[.agg #[.int .i64 x364000_2, .slice Ao26 x364001_2.length co26], .int .i64 (wrap64 (Int.tmod (IntKind.u64.wrap (rd (l1.take ((ji14) : Int).toNat) x44_2)) 4294967296))] rfl (by (try simp only [List.map_toArray, List.map_cons, List.map_nil]); first | done | (simp only [hji14]; rfl) | rfl | (simp only [List.length_drop, List.length_take]; rfl)) ?_; (with_reducible refine (treap_Del.calls x364000_2 _ _ x364001_2 (wrap64 (Int.tmod (IntKind.u64.wrap (rd (l1.take ((ji14) : Int).toNat) x44_2)) 4294967296)) t367 t368 t371 _ ?side1 ?side2 A21.out).mono ?_); (case side1 => repeat (first | exact (Kd.R_reads' HO_364001.out).2.2 | (with_reducible refine Kd.C_alloc ?_ _) | (with_reducible refine Kd.C_drewN ?_ _) | (with_reducible refine Kd.C_drew ?_))); (case side2 => exact (Kd.R_reads' HO_364001.out).2.1); rintro e w27 ⟨v369, rfl, ho0, hb⟩; refine ⟨_, rfl, ?_⟩; have n0_ := Aside0.mk (Kd.R_below (by (with_reducible repeat (first | apply Kd.R_alloc | apply Kd.R_drewN | apply Kd.R_drew)); exact HO_8.out) hb); have n1_ := Aside0.mk (Kd.R_elder' (by (with_reducible repeat (first | apply Kd.R_alloc | apply Kd.R_drewN | apply Kd.R_drew)); exact HO_364001.out) (Kd.R_base ho0) hb); have n2_ := Aside0.mk (Kd.R_lower (Kd.R_new' ho0 (Kd.R_lt (by (with_reducible repeat (first | apply Kd.R_alloc | apply Kd.R_drewN | apply Kd.R_drew)); exact HO_364001.out))) (below_size (by repeat (first | (with_reducible first | exact HB.out | apply below_alloc | apply pw_below_drewN | apply below_drew1 | refine below_set ?_ GE363.out) | exact HB.out)))); have n3_ := Aside0.mk (blk_below (g := gb363) (o := .cells #[.int .i64 x364000_2, .slice Ao26 x364001_2.length co26] 50 (0, 0)) (by (with_reducible repeat (first | refine blk_drewN ?_ _ | refine blk_drew ?_ | refine blk_alloc ?_ _)); exact BK363.out) hb); have n4_ := Aside0.mk (below_step (by repeat (first | (with_reducible first | exact HB.out | apply below_alloc | apply pw_below_drewN | apply below_drew1 | refine below_set ?_ GE363.out) | exact HB.out)) hb); clear HO_8; clear HO_364001; clear BK363; clear HB; have HO_8 := n0_; have HO_364001 := n1_; have HO370 := n2_; have BK363 := n3_; have HB := n4_; clear n0_ n1_ n2_ n3_ n4_; (try clear hb); (try clear hb2); (try clear hk); (try clear hi); (try clear ho0)) | ((with_reducible refine gate_dst (N := 12) rfl ?_); (try (refine gate_guard (by rfl) ?_; dsimp only)); refine box_event ?hg (N := 12) ?hd (cs := #[.int .i64 0, .slice none 0 0]) (t := 50) ?hr ?_; (case hd => rfl); (case hg => rfl); (case hr => first | (go_simp; done) | (go_simp; rfl)); intro gb372 hg w28 hbox hb; have n0_ := Aside0.mk (Kd.R_below (by (with_reducible repeat (first | apply Kd.R_alloc | apply Kd.R_drewN | apply Kd.R_drew)); exact HO_8.out) hb); have n1_ := Aside0.mk (Kd.R_below (by (with_reducible repeat (first | apply Kd.R_alloc | apply Kd.R_drewN | apply Kd.R_drew)); exact HO_364001.out) hb); have n2_ := Aside0.mk (Kd.R_below (by (with_reducible repeat (first | apply Kd.R_alloc | apply Kd.R_drewN | apply Kd.R_drew)); exact HO370.out) hb); have n3_ := Aside0.mk (blk_below (g := gb363) (o := .cells #[.int .i64 x364000_2, .slice Ao26 x364001_2.length co26] 50 (0, 0)) (by (with_reducible repeat (first | refine blk_drewN ?_ _ | refine blk_drew ?_ | refine blk_alloc ?_ _)); exact BK363.out) hb); have n4_ := Aside0.mk (below_step (by repeat (first | (with_reducible first | exact HB.out | apply below_alloc | apply pw_below_drewN | apply below_drew1 | refine below_set ?_ GE363.out) | exact HB.out)) hb); have n5_ := Aside0.mk (hbox); have n6_ := Aside0.mk ((by rw [hg]; exact (below_size (by repeat (first | (with_reducible first | exact HB.out | apply below_alloc | apply pw_below_drewN | apply below_drew1 | refine below_set ?_ GE363.out) | exact HB.out))) : w.heap.size ≤ gb372)); have n7_ := Aside0.mk ((by rw [hg]; exact (below_size (by repeat (first | (with_reducible first | exact HB.out | apply below_alloc | apply pw_below_drewN | apply below_drew1 | refine below_set ?_ GE363.out) | exact HB.out))) : w.heap.size ≤ gb372)); have n8_ := Aside0.mk ((by rw [hg]; exact Nat.ne_of_lt (blk_lt (g := gb363) (o := .cells #[.int .i64 x364000_2, .slice Ao26 x364001_2.length co26] 50 (0, 0)) (by (with_reducible repeat (first | refine blk_drewN ?_ _ | refine blk_drew ?_ | refine blk_alloc ?_ _)); exact BK363.out)) : gb363 ≠ gb372)); have n9_ := Aside0.mk ((by rw [hg]; exact Nat.ne_of_gt (blk_lt (g := gb363) (o := .cells #[.int .i64 x364000_2, .slice Ao26 x364001_2.length co26] 50 (0, 0)) (by (with_reducible repeat (first | refine blk_drewN ?_ _ | refine blk_drew ?_ | refine blk_alloc ?_ _)); exact BK363.out)) : gb372 ≠ gb363)); clear HO_8; clear HO_364001; clear HO370; clear BK363; clear HB; have HO_8 := n0_; have HO_364001 := n1_; have HO370 := n2_; have BK363 := n3_; have HB := n4_; have BK372 := n5_; have GW372 := n6_; have GE372 := n7_; have NB363_372 := n8_; have NB372_363 := n9_; clear n0_ n1_ n2_ n3_ n4_ n5_ n6_ n7_ n8_ n9_; clear hb hbox hg; have hnb29 := NB372_363.out; have hnc29 := NB363_372.out; have hcz30_0 : w28.cell? ⟨gb372, 0, none⟩ = some (.int .i64 0) := (blk_cell BK372.out 0).trans rfl; have hcz30_1 : w28.cell? ⟨gb372, 1, none⟩ = some (.slice none 0 0) := (blk_cell BK372.out 1).trans rfl; have hfz30_0 := blk_frozen BK372.out 0; have hfz30_1 := blk_frozen BK372.out 1; obtain ⟨Ao31, co31, eo31⟩ := Kd.R_slice HO370.out; subst eo31; obtain ⟨Ao32, co32, eo32⟩ := Kd.R_slice HO_8.out; subst eo32) | ((with_reducible refine gate_callee (f := 43) rfl ?_); refine goesL_ (some 60) rfl rfl Try.func43 (by kernel_rfl) rfl #[.slice Ao32 x8_2.length co32, .int .i64 (wrap64 (Int.tmod (IntKind.u64.wrap (rd (l1.take ((ji14) : Int).toNat) x44_2)) 4294967296))] rfl (by (try simp only [List.map_toArray, List.map_cons, List.map_nil]); first | done | (simp only [hji14]; rfl) | rfl | (simp only [List.length_drop, List.length_take]; rfl)) ?_; (with_reducible refine (deadboltref08_Place.calls k2 _ _ x8_2 (wrap64 (Int.tmod (IntKind.u64.wrap (rd (l1.take ((ji14) : Int).toNat) x44_2)) 4294967296)) t373 _ ?side1 ?side2 A22.out).mono ?_); (case side1 => refine (Kd.R_reads' (e := 3) (base := w.heap.size) (ok := fun k_ => True) (n := x8_2.length) (c := co32) ?_).2.2; exact (by (with_reducible repeat (first | apply Kd.R_alloc | apply Kd.R_drewN | apply Kd.R_drew)); exact (Kd.R_mono (Kd.R_far (p := ⟨gb372, 1, none⟩) (Kd.R_far (p := ⟨gb372, 0, none⟩) (Kd.R_types HO_8.out BK372.out (by decide)) (fun _ hk => hk.2) (.int .i64 t367)) (fun _ hk => hk.2) (.slice Ao31 t368.length co31)) (fun _ h_ => h_.1)))); (case side2 => exact (Kd.R_reads' HO_8.out).2.1); rintro e w' ⟨rfl, ⟨nd, rfl⟩⟩; refine ⟨_, rfl, ?_⟩))
                          go_roundg k2
                          case measure => have := HJ4.out; have := HK2.out; omega
                          case rel => exact ⟨(x8_2), (wrap64 (x44_2 + 1)), (x364000_2), (x364001_2), (.slice Ao26 x364001_2.length co26), (by first | rfl | (simp; done) | (simp [*]; done)), H', ⟨by have := HJ4.out; have := HK2.out; omega⟩, ⟨by (with_reducible repeat (first | apply Kd.R_alloc | apply Kd.R_drewN | apply Kd.R_drew)); exact Kd.R_mono (Kd.R_far (p := ⟨gb372, 1, none⟩) (Kd.R_far (p := ⟨gb372, 0, none⟩) (Kd.R_types HO_8.out BK372.out (by decide)) (fun _ hk => hk.2) (.int .i64 t367)) (fun _ hk => hk.2) (.slice Ao31 t368.length co31)) (fun _ hk => trivial)⟩, ⟨by (with_reducible repeat (first | apply Kd.R_alloc | apply Kd.R_drewN | apply Kd.R_drew)); exact Kd.R_mono (Kd.R_far (p := ⟨gb372, 1, none⟩) (Kd.R_far (p := ⟨gb372, 0, none⟩) (Kd.R_types HO_364001.out BK372.out (by decide)) (fun _ hk => hk.2) (.int .i64 t367)) (fun _ hk => hk.2) (.slice Ao31 t368.length co31)) (fun _ hk => trivial)⟩, ⟨by (with_reducible repeat (first | refine blk_drewN ?_ _ | refine blk_drew ?_ | refine blk_alloc ?_ _)); refine blk_far ?_ NB363_372.out _; (with_reducible repeat (first | refine blk_drewN ?_ _ | refine blk_drew ?_ | refine blk_alloc ?_ _)); refine blk_far ?_ NB363_372.out _; (with_reducible repeat (first | refine blk_drewN ?_ _ | refine blk_drew ?_ | refine blk_alloc ?_ _)); exact BK363.out⟩, ⟨by repeat (first | (with_reducible first | exact HB.out | apply below_alloc | apply pw_below_drewN | apply below_drew1 | refine below_set ?_ GE363.out | refine below_set ?_ GE372.out) | exact HB.out)⟩⟩
                        · rw [if_neg c24] at H
                          have c24b0 : (t371 == 4) = false := beq_eq_false_iff_ne.mpr c24
                          have c24b1 : (t371 != 4) = true := bne_iff_ne.mpr c24
                          obtain rfl := Option.some.inj H
                          have p366 : 0 ≤ (x44_2 : Int) := of_decide_eq_true (by first | (with_reducible assumption) | assumption)
                          have q366 : x44_2 < ((l1.take ((ji14) : Int).toNat).length : Int) := of_decide_eq_true (by first | (with_reducible assumption) | assumption)
                          obtain ⟨ad366, e366, hx366_0⟩ := Kd.at_int HR365.out x44_2 p366 q366
                          cases e366
                          replace hx366_0 := (HB.out.cell (World.block_lt_of_cell? w _ hx366_0)).trans hx366_0
                          replace p366 := eq_true p366
                          replace q366 := eq_true q366
                          have hcz33_0 : wr.cell? ⟨gb363, 0, none⟩ = some (.int .i64 x364000_2) := (blk_cell BK363.out 0).trans rfl
                          have hcz33_1 : wr.cell? ⟨gb363, 1, none⟩ = some (u364001) := (blk_cell BK363.out 1).trans rfl
                          have hfz33_0 := blk_frozen BK363.out 0
                          have hfz33_1 := blk_frozen BK363.out 1
                          obtain ⟨Ao34, co34, eo34⟩ := Kd.R_slice HO_364001.out
                          subst eo34
                          go_wp2_with (first | ((with_reducible refine gate_callee (f := 46) rfl ?_); refine goesL_ (some 55) rfl rfl Try.func46 (by kernel_rfl) rfl #[.agg #[.int .i64 x364000_2, .slice Ao34 x364001_2.length co34], .int .i64 (wrap64 (Int.tmod (IntKind.u64.wrap (rd (l1.take ((ji14) : Int).toNat) x44_2)) 4294967296))] rfl (by (try simp only [List.map_toArray, List.map_cons, List.map_nil]); first | done | (simp only [hji14]; rfl) | rfl | (simp only [List.length_drop, List.length_take]; rfl)) ?_; (with_reducible refine (treap_Del.calls x364000_2 _ _ x364001_2 (wrap64 (Int.tmod (IntKind.u64.wrap (rd (l1.take ((ji14) : Int).toNat) x44_2)) 4294967296)) t367 t368 t371 _ ?side1 ?side2 A21.out).mono ?_); (case side1 => repeat (first | exact (Kd.R_reads' HO_364001.out).2.2 | (with_reducible refine Kd.C_alloc ?_ _) | (with_reducible refine Kd.C_drewN ?_ _) | (with_reducible refine Kd.C_drew ?_))); (case side2 => exact (Kd.R_reads' HO_364001.out).2.1); rintro e w35 ⟨v369, rfl, ho0, hb⟩; refine ⟨_, rfl, ?_⟩; have n0_ := Aside0.mk (Kd.R_below (by (with_reducible repeat (first | apply Kd.R_alloc | apply Kd.R_drewN | apply Kd.R_drew)); exact HO_8.out) hb); have n1_ := Aside0.mk (Kd.R_elder' (by (with_reducible repeat (first | apply Kd.R_alloc | apply Kd.R_drewN | apply Kd.R_drew)); exact HO_364001.out) (Kd.R_base ho0) hb); have n2_ := Aside0.mk (Kd.R_lower (Kd.R_new' ho0 (Kd.R_lt (by (with_reducible repeat (first | apply Kd.R_alloc | apply Kd.R_drewN | apply Kd.R_drew)); exact HO_364001.out))) (below_size (by repeat (first | (with_reducible first | exact HB.out | apply below_alloc | apply pw_below_drewN | apply below_drew1 | refine below_set ?_ GE363.out) | exact HB.out)))); have n3_ := Aside0.mk (blk_below (g := gb363) (o := .cells #[.int .i64 x364000_2, .slice Ao34 x364001_2.length co34] 50 (0, 0)) (by (with_reducible repeat (first | refine blk_drewN ?_ _ | refine blk_drew ?_ | refine blk_alloc ?_ _)); exact BK363.out) hb); have n4_ := Aside0.mk (below_step (by repeat (first | (with_reducible first | exact HB.out | apply below_alloc | apply pw_below_drewN | apply below_drew1 | refine below_set ?_ GE363.out) | exact HB.out)) hb); clear HO_8; clear HO_364001; clear BK363; clear HB; have HO_8 := n0_; have HO_364001 := n1_; have HO370 := n2_; have BK363 := n3_; have HB := n4_; clear n0_ n1_ n2_ n3_ n4_; (try clear hb); (try clear hb2); (try clear hk); (try clear hi); (try clear ho0)) | ((with_reducible refine gate_dst (N := 12) rfl ?_); (try (refine gate_guard (by rfl) ?_; dsimp only)); refine box_event ?hg (N := 12) ?hd (cs := #[.int .i64 0, .slice none 0 0]) (t := 50) ?hr ?_; (case hd => rfl); (case hg => rfl); (case hr => first | (go_simp; done) | (go_simp; rfl)); intro gb372 hg w36 hbox hb; have n0_ := Aside0.mk (Kd.R_below (by (with_reducible repeat (first | apply Kd.R_alloc | apply Kd.R_drewN | apply Kd.R_drew)); exact HO_8.out) hb); have n1_ := Aside0.mk (Kd.R_below (by (with_reducible repeat (first | apply Kd.R_alloc | apply Kd.R_drewN | apply Kd.R_drew)); exact HO_364001.out) hb); have n2_ := Aside0.mk (Kd.R_below (by (with_reducible repeat (first | apply Kd.R_alloc | apply Kd.R_drewN | apply Kd.R_drew)); exact HO370.out) hb); have n3_ := Aside0.mk (blk_below (g := gb363) (o := .cells #[.int .i64 x364000_2, .slice Ao34 x364001_2.length co34] 50 (0, 0)) (by (with_reducible repeat (first | refine blk_drewN ?_ _ | refine blk_drew ?_ | refine blk_alloc ?_ _)); exact BK363.out) hb); have n4_ := Aside0.mk (below_step (by repeat (first | (with_reducible first | exact HB.out | apply below_alloc | apply pw_below_drewN | apply below_drew1 | refine below_set ?_ GE363.out) | exact HB.out)) hb); have n5_ := Aside0.mk (hbox); have n6_ := Aside0.mk ((by rw [hg]; exact (below_size (by repeat (first | (with_reducible first | exact HB.out | apply below_alloc | apply pw_below_drewN | apply below_drew1 | refine below_set ?_ GE363.out) | exact HB.out))) : w.heap.size ≤ gb372)); have n7_ := Aside0.mk ((by rw [hg]; exact (below_size (by repeat (first | (with_reducible first | exact HB.out | apply below_alloc | apply pw_below_drewN | apply below_drew1 | refine below_set ?_ GE363.out) | exact HB.out))) : w.heap.size ≤ gb372)); have n8_ := Aside0.mk ((by rw [hg]; exact Nat.ne_of_lt (blk_lt (g := gb363) (o := .cells #[.int .i64 x364000_2, .slice Ao34 x364001_2.length co34] 50 (0, 0)) (by (with_reducible repeat (first | refine blk_drewN ?_ _ | refine blk_drew ?_ | refine blk_alloc ?_ _)); exact BK363.out)) : gb363 ≠ gb372)); have n9_ := Aside0.mk ((by rw [hg]; exact Nat.ne_of_gt (blk_lt (g := gb363) (o := .cells #[.int .i64 x364000_2, .slice Ao34 x364001_2.length co34] 50 (0, 0)) (by (with_reducible repeat (first | refine blk_drewN ?_ _ | refine blk_drew ?_ | refine blk_alloc ?_ _)); exact BK363.out)) : gb372 ≠ gb363)); clear HO_8; clear HO_364001; clear HO370; clear BK363; clear HB; have HO_8 := n0_; have HO_364001 := n1_; have HO370 := n2_; have BK363 := n3_; have HB := n4_; have BK372 := n5_; have GW372 := n6_; have GE372 := n7_; have NB363_372 := n8_; have NB372_363 := n9_; clear n0_ n1_ n2_ n3_ n4_ n5_ n6_ n7_ n8_ n9_; clear hb hbox hg; have hnb37 := NB372_363.out; have hnc37 := NB363_372.out; have hcz38_0 : w36.cell? ⟨gb372, 0, none⟩ = some (.int .i64 0) := (blk_cell BK372.out 0).trans rfl; have hcz38_1 : w36.cell? ⟨gb372, 1, none⟩ = some (.slice none 0 0) := (blk_cell BK372.out 1).trans rfl; have hfz38_0 := blk_frozen BK372.out 0; have hfz38_1 := blk_frozen BK372.out 1; obtain ⟨Ao39, co39, eo39⟩ := Kd.R_slice HO370.out; subst eo39; obtain ⟨Ao40, co40, eo40⟩ := Kd.R_slice HO_8.out; subst eo40) | ((with_reducible refine gate_callee (f := 43) rfl ?_); refine goesL_ (some 60) rfl rfl Try.func43 (by kernel_rfl) rfl #[.slice Ao40 x8_2.length co40, .int .i64 (wrap64 (Int.tmod (IntKind.u64.wrap (rd (l1.take ((ji14) : Int).toNat) x44_2)) 4294967296))] rfl (by (try simp only [List.map_toArray, List.map_cons, List.map_nil]); first | done | (simp only [hji14]; rfl) | rfl | (simp only [List.length_drop, List.length_take]; rfl)) ?_; (with_reducible refine (deadboltref08_Place.calls k2 _ _ x8_2 (wrap64 (Int.tmod (IntKind.u64.wrap (rd (l1.take ((ji14) : Int).toNat) x44_2)) 4294967296)) t373 _ ?side1 ?side2 A22.out).mono ?_); (case side1 => refine (Kd.R_reads' (e := 3) (base := w.heap.size) (ok := fun k_ => True) (n := x8_2.length) (c := co40) ?_).2.2; exact (by (with_reducible repeat (first | apply Kd.R_alloc | apply Kd.R_drewN | apply Kd.R_drew)); exact (Kd.R_mono (Kd.R_far (p := ⟨gb372, 1, none⟩) (Kd.R_far (p := ⟨gb372, 0, none⟩) (Kd.R_types HO_8.out BK372.out (by decide)) (fun _ hk => hk.2) (.int .i64 t367)) (fun _ hk => hk.2) (.slice Ao39 t368.length co39)) (fun _ h_ => h_.1)))); (case side2 => exact (Kd.R_reads' HO_8.out).2.1); rintro e w' ⟨rfl, ⟨nd, rfl⟩⟩; refine ⟨_, rfl, ?_⟩))
                          go_ret
                          exact ⟨by first | rfl | (simp [errW_none, errW_some] <;> rfl) | (simp only [← hji14]; first | rfl | (simp [errW_none, errW_some] <;> rfl)) | (simp [*, errW_none, errW_some] <;> rfl), by repeat (first | (with_reducible first | exact HB.out | apply below_alloc | apply pw_below_drewN | apply below_drew1 | refine below_set ?_ GE363.out | refine below_set ?_ GE372.out) | exact HB.out)⟩
                      · rw [if_neg c23] at H
                        have c23b0 : decide (t373 < 0) = false := decide_eq_false c23
                        clear c23
                        by_cases c41 : t371 = 0
                        · rw [if_pos c41] at H
                          have c41b0 : (t371 == 0) = true := beq_iff_eq.mpr c41
                          have c41b1 : (t371 != 0) = false := bne_eq_false_iff_eq.mpr c41
                          clear c41
                          replace H := Option.bind_eq_some_iff.mp H
                          obtain ⟨t374, A420, H⟩ := H
                          replace H : (deadboltlaw08_TreapShape.l0 k2 a2 t374 (l1.take ((ji14) : Int).toNat) ((l1.take ((ji14) : Int).toNat).length : Int) (wrap64 (x44_2 + 1)) t367 t368) = some r := H
                          have A42 := Aside0.mk A420
                          clear A420
                          have H' := Aside0.mk H
                          clear H
                          have p366 : 0 ≤ (x44_2 : Int) := of_decide_eq_true (by first | (with_reducible assumption) | assumption)
                          have q366 : x44_2 < ((l1.take ((ji14) : Int).toNat).length : Int) := of_decide_eq_true (by first | (with_reducible assumption) | assumption)
                          obtain ⟨ad366, e366, hx366_0⟩ := Kd.at_int HR365.out x44_2 p366 q366
                          cases e366
                          replace hx366_0 := (HB.out.cell (World.block_lt_of_cell? w _ hx366_0)).trans hx366_0
                          replace p366 := eq_true p366
                          replace q366 := eq_true q366
                          have hcz43_0 : wr.cell? ⟨gb363, 0, none⟩ = some (.int .i64 x364000_2) := (blk_cell BK363.out 0).trans rfl
                          have hcz43_1 : wr.cell? ⟨gb363, 1, none⟩ = some (u364001) := (blk_cell BK363.out 1).trans rfl
                          have hfz43_0 := blk_frozen BK363.out 0
                          have hfz43_1 := blk_frozen BK363.out 1
                          obtain ⟨Ao44, co44, eo44⟩ := Kd.R_slice HO_364001.out
                          subst eo44
                          try go_wp2_with (first | ((with_reducible refine gate_callee (f := 46) rfl ?_); refine goesL_ (some 55) rfl rfl Try.func46 (by kernel_rfl) rfl #[.agg #[.int .i64 x364000_2, .slice Ao44 x364001_2.length co44], .int .i64 (wrap64 (Int.tmod (IntKind.u64.wrap (rd (l1.take ((ji14) : Int).toNat) x44_2)) 4294967296))] rfl (by (try simp only [List.map_toArray, List.map_cons, List.map_nil]); first | done | (simp only [hji14]; rfl) | rfl | (simp only [List.length_drop, List.length_take]; rfl)) ?_; (with_reducible refine (treap_Del.calls x364000_2 _ _ x364001_2 (wrap64 (Int.tmod (IntKind.u64.wrap (rd (l1.take ((ji14) : Int).toNat) x44_2)) 4294967296)) t367 t368 t371 _ ?side1 ?side2 A21.out).mono ?_); (case side1 => repeat (first | exact (Kd.R_reads' HO_364001.out).2.2 | (with_reducible refine Kd.C_alloc ?_ _) | (with_reducible refine Kd.C_drewN ?_ _) | (with_reducible refine Kd.C_drew ?_))); (case side2 => exact (Kd.R_reads' HO_364001.out).2.1); rintro e w45 ⟨v369, rfl, ho0, hb⟩; refine ⟨_, rfl, ?_⟩; have n0_ := Aside0.mk (Kd.R_below (by (with_reducible repeat (first | apply Kd.R_alloc | apply Kd.R_drewN | apply Kd.R_drew)); exact HO_8.out) hb); have n1_ := Aside0.mk (Kd.R_elder' (by (with_reducible repeat (first | apply Kd.R_alloc | apply Kd.R_drewN | apply Kd.R_drew)); exact HO_364001.out) (Kd.R_base ho0) hb); have n2_ := Aside0.mk (Kd.R_lower (Kd.R_new' ho0 (Kd.R_lt (by (with_reducible repeat (first | apply Kd.R_alloc | apply Kd.R_drewN | apply Kd.R_drew)); exact HO_364001.out))) (below_size (by repeat (first | (with_reducible first | exact HB.out | apply below_alloc | apply pw_below_drewN | apply below_drew1 | refine below_set ?_ GE363.out) | exact HB.out)))); have n3_ := Aside0.mk (blk_below (g := gb363) (o := .cells #[.int .i64 x364000_2, .slice Ao44 x364001_2.length co44] 50 (0, 0)) (by (with_reducible repeat (first | refine blk_drewN ?_ _ | refine blk_drew ?_ | refine blk_alloc ?_ _)); exact BK363.out) hb); have n4_ := Aside0.mk (below_step (by repeat (first | (with_reducible first | exact HB.out | apply below_alloc | apply pw_below_drewN | apply below_drew1 | refine below_set ?_ GE363.out) | exact HB.out)) hb); clear HO_8; clear HO_364001; clear BK363; clear HB; have HO_8 := n0_; have HO_364001 := n1_; have HO370 := n2_; have BK363 := n3_; have HB := n4_; clear n0_ n1_ n2_ n3_ n4_; (try clear hb); (try clear hb2); (try clear hk); (try clear hi); (try clear ho0)) | ((with_reducible refine gate_dst (N := 12) rfl ?_); (try (refine gate_guard (by rfl) ?_; dsimp only)); refine box_event ?hg (N := 12) ?hd (cs := #[.int .i64 0, .slice none 0 0]) (t := 50) ?hr ?_; (case hd => rfl); (case hg => rfl); (case hr => first | (go_simp; done) | (go_simp; rfl)); intro gb372 hg w46 hbox hb; have n0_ := Aside0.mk (Kd.R_below (by (with_reducible repeat (first | apply Kd.R_alloc | apply Kd.R_drewN | apply Kd.R_drew)); exact HO_8.out) hb); have n1_ := Aside0.mk (Kd.R_below (by (with_reducible repeat (first | apply Kd.R_alloc | apply Kd.R_drewN | apply Kd.R_drew)); exact HO_364001.out) hb); have n2_ := Aside0.mk (Kd.R_below (by (with_reducible repeat (first | apply Kd.R_alloc | apply Kd.R_drewN | apply Kd.R_drew)); exact HO370.out) hb); have n3_ := Aside0.mk (blk_below (g := gb363) (o := .cells #[.int .i64 x364000_2, .slice Ao44 x364001_2.length co44] 50 (0, 0)) (by (with_reducible repeat (first | refine blk_drewN ?_ _ | refine blk_drew ?_ | refine blk_alloc ?_ _)); exact BK363.out) hb); have n4_ := Aside0.mk (below_step (by repeat (first | (with_reducible first | exact HB.out | apply below_alloc | apply pw_below_drewN | apply below_drew1 | refine below_set ?_ GE363.out) | exact HB.out)) hb); have n5_ := Aside0.mk (hbox); have n6_ := Aside0.mk ((by rw [hg]; exact (below_size (by repeat (first | (with_reducible first | exact HB.out | apply below_alloc | apply pw_below_drewN | apply below_drew1 | refine below_set ?_ GE363.out) | exact HB.out))) : w.heap.size ≤ gb372)); have n7_ := Aside0.mk ((by rw [hg]; exact (below_size (by repeat (first | (with_reducible first | exact HB.out | apply below_alloc | apply pw_below_drewN | apply below_drew1 | refine below_set ?_ GE363.out) | exact HB.out))) : w.heap.size ≤ gb372)); have n8_ := Aside0.mk ((by rw [hg]; exact Nat.ne_of_lt (blk_lt (g := gb363) (o := .cells #[.int .i64 x364000_2, .slice Ao44 x364001_2.length co44] 50 (0, 0)) (by (with_reducible repeat (first | refine blk_drewN ?_ _ | refine blk_drew ?_ | refine blk_alloc ?_ _)); exact BK363.out)) : gb363 ≠ gb372)); have n9_ := Aside0.mk ((by rw [hg]; exact Nat.ne_of_gt (blk_lt (g := gb363) (o := .cells #[.int .i64 x364000_2, .slice Ao44 x364001_2.length co44] 50 (0, 0)) (by (with_reducible repeat (first | refine blk_drewN ?_ _ | refine blk_drew ?_ | refine blk_alloc ?_ _)); exact BK363.out)) : gb372 ≠ gb363)); clear HO_8; clear HO_364001; clear HO370; clear BK363; clear HB; have HO_8 := n0_; have HO_364001 := n1_; have HO370 := n2_; have BK363 := n3_; have HB := n4_; have BK372 := n5_; have GW372 := n6_; have GE372 := n7_; have NB363_372 := n8_; have NB372_363 := n9_; clear n0_ n1_ n2_ n3_ n4_ n5_ n6_ n7_ n8_ n9_; clear hb hbox hg; have hnb47 := NB372_363.out; have hnc47 := NB363_372.out; have hcz48_0 : w46.cell? ⟨gb372, 0, none⟩ = some (.int .i64 0) := (blk_cell BK372.out 0).trans rfl; have hcz48_1 : w46.cell? ⟨gb372, 1, none⟩ = some (.slice none 0 0) := (blk_cell BK372.out 1).trans rfl; have hfz48_0 := blk_frozen BK372.out 0; have hfz48_1 := blk_frozen BK372.out 1; obtain ⟨Ao49, co49, eo49⟩ := Kd.R_slice HO370.out; subst eo49; obtain ⟨Ao50, co50, eo50⟩ := Kd.R_slice HO_8.out; subst eo50) | ((with_reducible refine gate_callee (f := 43) rfl ?_); refine goesL_ (some 60) rfl rfl Try.func43 (by kernel_rfl) rfl #[.slice Ao50 x8_2.length co50, .int .i64 (wrap64 (Int.tmod (IntKind.u64.wrap (rd (l1.take ((ji14) : Int).toNat) x44_2)) 4294967296))] rfl (by (try simp only [List.map_toArray, List.map_cons, List.map_nil]); first | done | (simp only [hji14]; rfl) | rfl | (simp only [List.length_drop, List.length_take]; rfl)) ?_; (with_reducible refine (deadboltref08_Place.calls k2 _ _ x8_2 (wrap64 (Int.tmod (IntKind.u64.wrap (rd (l1.take ((ji14) : Int).toNat) x44_2)) 4294967296)) t373 _ ?side1 ?side2 A22.out).mono ?_); (case side1 => refine (Kd.R_reads' (e := 3) (base := w.heap.size) (ok := fun k_ => True) (n := x8_2.length) (c := co50) ?_).2.2; exact (by (with_reducible repeat (first | apply Kd.R_alloc | apply Kd.R_drewN | apply Kd.R_drew)); exact (Kd.R_mono (Kd.R_far (p := ⟨gb372, 1, none⟩) (Kd.R_far (p := ⟨gb372, 0, none⟩) (Kd.R_types HO_8.out BK372.out (by decide)) (fun _ hk => hk.2) (.int .i64 t367)) (fun _ hk => hk.2) (.slice Ao49 t368.length co49)) (fun _ h_ => h_.1)))); (case side2 => exact (Kd.R_reads' HO_8.out).2.1); rintro e w' ⟨rfl, ⟨nd, rfl⟩⟩; refine ⟨_, rfl, ?_⟩))
                          have n0_ : Aside0 (Kd.R (Kd.int .i64) 3 ((w46.setCell ⟨gb372, 0, none⟩ (.int .i64 t367)).setCell ⟨gb372, 1, none⟩ (.slice Ao49 t368.length co49)) w.heap.size (fun _ => True) (.slice Ao50 x8_2.length co50) x8_2) := ⟨by (with_reducible repeat (first | apply Kd.R_alloc | apply Kd.R_drewN | apply Kd.R_drew)); exact Kd.R_mono (Kd.R_far (p := ⟨gb372, 1, none⟩) (Kd.R_far (p := ⟨gb372, 0, none⟩) (Kd.R_types HO_8.out BK372.out (by decide)) (fun _ hk => hk.2) (.int .i64 t367)) (fun _ hk => hk.2) (.slice Ao49 t368.length co49)) (fun _ hk => trivial)⟩
                          have n1_ : Aside0 (Kd.R k87 87 ((w46.setCell ⟨gb372, 0, none⟩ (.int .i64 t367)).setCell ⟨gb372, 1, none⟩ (.slice Ao49 t368.length co49)) w.heap.size (fun k_ => some k_ ≠ (.slice Ao49 t368.length co49 : Value).ownBlock) (.slice Ao44 x364001_2.length co44) x364001_2) := ⟨by (with_reducible repeat (first | apply Kd.R_alloc | apply Kd.R_drewN | apply Kd.R_drew)); exact Kd.R_mono (Kd.R_far (p := ⟨gb372, 1, none⟩) (Kd.R_far (p := ⟨gb372, 0, none⟩) (Kd.R_types HO_364001.out BK372.out (by decide)) (fun _ hk => hk.2) (.int .i64 t367)) (fun _ hk => hk.2) (.slice Ao49 t368.length co49)) (fun _ hk => hk.1.2)⟩
                          have n2_ : Aside0 (Kd.R k87 87 ((w46.setCell ⟨gb372, 0, none⟩ (.int .i64 t367)).setCell ⟨gb372, 1, none⟩ (.slice Ao49 t368.length co49)) w.heap.size (fun k_ => some k_ ≠ (.slice Ao44 x364001_2.length co44 : Value).ownBlock) (.slice Ao49 t368.length co49) t368) := ⟨by (with_reducible repeat (first | apply Kd.R_alloc | apply Kd.R_drewN | apply Kd.R_drew)); exact Kd.R_mono (Kd.R_far (p := ⟨gb372, 1, none⟩) (Kd.R_far (p := ⟨gb372, 0, none⟩) (Kd.R_types HO370.out BK372.out (by decide)) (fun _ hk => hk.2) (.int .i64 t367)) (fun _ hk => hk.2) (.slice Ao49 t368.length co49)) (fun _ hk => hk.1.2)⟩
                          have n3_ : Aside0 (((w46.setCell ⟨gb372, 0, none⟩ (.int .i64 t367)).setCell ⟨gb372, 1, none⟩ (.slice Ao49 t368.length co49)).heap[gb363]? = some (.cells #[.int .i64 x364000_2, .slice Ao44 x364001_2.length co44] 50 (0, 0))) := ⟨by (with_reducible repeat (first | refine blk_drewN ?_ _ | refine blk_drew ?_ | refine blk_alloc ?_ _)); refine blk_far ?_ NB363_372.out _; (with_reducible repeat (first | refine blk_drewN ?_ _ | refine blk_drew ?_ | refine blk_alloc ?_ _)); refine blk_far ?_ NB363_372.out _; (with_reducible repeat (first | refine blk_drewN ?_ _ | refine blk_drew ?_ | refine blk_alloc ?_ _)); exact BK363.out⟩
                          have n4_ : Aside0 (((w46.setCell ⟨gb372, 0, none⟩ (.int .i64 t367)).setCell ⟨gb372, 1, none⟩ (.slice Ao49 t368.length co49)).heap[gb372]? = some (.cells #[.int .i64 t367, .slice Ao49 t368.length co49] 50 (0, 0))) := ⟨by (with_reducible repeat (first | refine blk_drewN ?_ _ | refine blk_drew ?_ | refine blk_alloc ?_ _)); refine blk_put (cs := #[.int .i64 t367, .slice none 0 0]) ?_ 1 _ rfl; (with_reducible repeat (first | refine blk_drewN ?_ _ | refine blk_drew ?_ | refine blk_alloc ?_ _)); refine blk_put (cs := #[.int .i64 0, .slice none 0 0]) ?_ 0 _ rfl; (with_reducible repeat (first | refine blk_drewN ?_ _ | refine blk_drew ?_ | refine blk_alloc ?_ _)); exact BK372.out⟩
                          have n5_ : Aside0 (Below w.heap.size w ((w46.setCell ⟨gb372, 0, none⟩ (.int .i64 t367)).setCell ⟨gb372, 1, none⟩ (.slice Ao49 t368.length co49))) := ⟨by repeat (first | (with_reducible first | exact HB.out | apply below_alloc | apply pw_below_drewN | apply below_drew1 | refine below_set ?_ GE363.out | refine below_set ?_ GE372.out) | exact HB.out)⟩
                          (try clear HO_8)
                          (try clear HO_364001)
                          (try clear HO370)
                          (try clear BK363)
                          (try clear BK372)
                          (try clear HB)
                          generalize ((w46.setCell ⟨gb372, 0, none⟩ (.int .i64 t367)).setCell ⟨gb372, 1, none⟩ (.slice Ao49 t368.length co49)) = w51 at n0_ n1_ n2_ n3_ n4_ n5_ ⊢
                          have HO_8 := n0_
                          have HO_364001 := n1_
                          have HO370 := n2_
                          have BK363 := n3_
                          have BK372 := n4_
                          have HB := n5_
                          clear n0_ n1_ n2_ n3_ n4_ n5_
                          (try (rw [drewN_self w51]; generalize hq_ : World.drewN w51 _ = w51; have n0_ : Aside0 (Kd.R k87 87 w51 w.heap.size (fun k_ => some k_ ≠ (.slice Ao44 x364001_2.length co44 : Value).ownBlock) (.slice Ao49 t368.length co49) t368) := ⟨by rw [← hq_]; exact (by (with_reducible repeat (first | apply Kd.R_alloc | apply Kd.R_drewN | apply Kd.R_drew)); exact HO370.out)⟩; have n1_ : Aside0 (Kd.R k87 87 w51 w.heap.size (fun k_ => some k_ ≠ (.slice Ao49 t368.length co49 : Value).ownBlock) (.slice Ao44 x364001_2.length co44) x364001_2) := ⟨by rw [← hq_]; exact (by (with_reducible repeat (first | apply Kd.R_alloc | apply Kd.R_drewN | apply Kd.R_drew)); exact HO_364001.out)⟩; have n2_ : Aside0 (Kd.R (Kd.int .i64) 3 w51 w.heap.size (fun _ => True) (.slice Ao50 x8_2.length co50) x8_2) := ⟨by rw [← hq_]; exact (by (with_reducible repeat (first | apply Kd.R_alloc | apply Kd.R_drewN | apply Kd.R_drew)); exact HO_8.out)⟩; have n3_ : Aside0 (w51.heap[gb363]? = some (.cells #[.int .i64 x364000_2, .slice Ao44 x364001_2.length co44] 50 (0, 0))) := ⟨by rw [← hq_]; exact (by (with_reducible repeat (first | refine blk_drewN ?_ _ | refine blk_drew ?_ | refine blk_alloc ?_ _)); exact BK363.out)⟩; have n4_ : Aside0 (w51.heap[gb372]? = some (.cells #[.int .i64 t367, .slice Ao49 t368.length co49] 50 (0, 0))) := ⟨by rw [← hq_]; exact (by (with_reducible repeat (first | refine blk_drewN ?_ _ | refine blk_drew ?_ | refine blk_alloc ?_ _)); exact BK372.out)⟩; have n5_ : Aside0 (Below w.heap.size w w51) := ⟨by rw [← hq_]; exact (by repeat (first | (with_reducible first | exact HB.out | apply below_alloc | apply pw_below_drewN | apply below_drew1 | refine below_set ?_ GE363.out | refine below_set ?_ GE372.out) | exact HB.out))⟩; clear HO370 HO_364001 HO_8 BK363 BK372 HB hq_; have HO370 := n0_; have HO_364001 := n1_; have HO_8 := n2_; have BK363 := n3_; have BK372 := n4_; have HB := n5_; clear n0_ n1_ n2_ n3_ n4_ n5_))
                          have n0_ := Aside0.mk (Kd.R_drew HO_8.out)
                          have n1_ := Aside0.mk (Kd.R_drew HO_364001.out)
                          have n2_ := Aside0.mk (Kd.R_drew HO370.out)
                          have n3_ := Aside0.mk (blk_drew BK363.out)
                          have n4_ := Aside0.mk (blk_drew BK372.out)
                          have n5_ := Aside0.mk (below_drew1 HB.out)
                          clear HO_8
                          clear HO_364001
                          clear HO370
                          clear BK363
                          clear BK372
                          clear HB
                          have HO_8 := n0_
                          have HO_364001 := n1_
                          have HO370 := n2_
                          have BK363 := n3_
                          have BK372 := n4_
                          have HB := n5_
                          clear n0_ n1_ n2_ n3_ n4_ n5_
                          refine start_ (n := 6) (S := fun w' => w'.cell? ⟨gb372, 0, none⟩ = some (.int .i64 t367) ∧ w'.cell? ⟨gb372, 1, none⟩ = some (.slice Ao49 t368.length co49)) (ds := []) #[false, false, false, false, false, false] (by kernel_rfl) rfl rfl ⟨(blk_cell BK372.out 0).trans rfl, (blk_cell BK372.out 1).trans rfl⟩ (fun hHeld => ?_)
                          generalize w51.drew = w52 at HO_8 HO_364001 HO370 BK363 BK372 HB hHeld ⊢
                          refine pure_ (i := 1) (N := some 67) (v := ?_) (a' := ?_) #[false, true, false, false, false, false] rfl rfl (by kernel_rfl) (fun _ _ _ h => h) (Or.inl ⟨by rfl, ?_⟩) ?_ ?_
                          rotate_left
                          · intro w'
                            go_simp
                            with_reducible rfl
                          rotate_left
                          · simp only [Act.put, List.setIfInBounds_toArray, List.set_cons_zero, List.set_cons_succ, i64_w, i32_w]
                            rfl
                          refine pure_ (i := 2) (N := some 68) (v := ?_) (a' := ?_) #[false, true, true, false, false, false] rfl rfl (by kernel_rfl) (fun _ _ _ h => h) (Or.inl ⟨by rfl, ?_⟩) ?_ ?_
                          rotate_left
                          · intro w'
                            go_simp
                            with_reducible rfl
                          rotate_left
                          · simp only [Act.put, List.setIfInBounds_toArray, List.set_cons_zero, List.set_cons_succ, i64_w, i32_w]
                            rfl
                          refine take_ (i := 0) (N := some 66) (v := ?_) (a' := ?_) #[true, true, true, false, false, false] rfl rfl (by kernel_rfl) (fun _ _ _ h => h) (Or.inl ⟨by rfl, ?_⟩) hHeld ?_ ?_
                          rotate_left
                          · rintro w' ⟨s0, s1⟩
                            go_simp
                            with_reducible rfl
                          rotate_left
                          · simp only [Act.put, List.setIfInBounds_toArray, List.set_cons_zero, List.set_cons_succ, i64_w, i32_w]
                            rfl
                          refine one_ (i := 3) (N := some 69) #[true, true, true, true, false, false] rfl rfl (by kernel_rfl) (by decide) (fun K hK => ?_)
                          refine goes_ Try.func48 (by kernel_rfl) rfl #[.slice Ao50 x8_2.length co50, .int .i64 (wrap64 (Int.tmod (IntKind.u64.wrap (rd (l1.take ((ji14) : Int).toNat) x44_2)) 4294967296))] (by rfl) rfl rfl (by (try simp only [List.map_toArray, List.map_cons, List.map_nil]); first | done | (simp only [hji14]; rfl) | rfl | (simp only [List.length_drop, List.length_take]; rfl)) ?_
                          with_reducible refine (deadboltref08_Without.calls k2 _ _ x8_2 (wrap64 (Int.tmod (IntKind.u64.wrap (rd (l1.take ((ji14) : Int).toNat) x44_2)) 4294967296)) t374 _ ?side1 ?side2 A42.out).mono ?_
                          (case side1 => repeat (first | exact (Kd.R_reads' HO_8.out).2.2 | (with_reducible refine Kd.C_alloc ?_ _) | (with_reducible refine Kd.C_drewN ?_ _) | (with_reducible refine Kd.C_drew ?_)))
                          (case side2 => exact (Kd.R_reads' HO_8.out).2.1)
                          rintro e w53 ⟨v375, rfl, ho0, hb⟩
                          refine ⟨_, rfl, ?_⟩
                          have n0_ := Aside0.mk (Kd.R_elder' (by (with_reducible repeat (first | apply Kd.R_alloc | apply Kd.R_drewN | apply Kd.R_drew)); exact HO_8.out) (Kd.R_base ho0) hb)
                          have n1_ := Aside0.mk (Kd.R_below (by (with_reducible repeat (first | apply Kd.R_alloc | apply Kd.R_drewN | apply Kd.R_drew)); exact HO_364001.out) hb)
                          have n2_ := Aside0.mk (Kd.R_below (by (with_reducible repeat (first | apply Kd.R_alloc | apply Kd.R_drewN | apply Kd.R_drew)); exact HO370.out) hb)
                          have n3_ := Aside0.mk (Kd.R_lower (Kd.R_new' ho0 (Kd.R_lt (by (with_reducible repeat (first | apply Kd.R_alloc | apply Kd.R_drewN | apply Kd.R_drew)); exact HO_8.out))) (below_size (by repeat (first | (with_reducible first | exact HB.out | apply below_alloc | apply pw_below_drewN | apply below_drew1 | refine below_set ?_ GE363.out | refine below_set ?_ GE372.out) | exact HB.out))))
                          have n4_ := Aside0.mk (blk_below (g := gb363) (o := .cells #[.int .i64 x364000_2, .slice Ao44 x364001_2.length co44] 50 (0, 0)) (by (with_reducible repeat (first | refine blk_drewN ?_ _ | refine blk_drew ?_ | refine blk_alloc ?_ _)); exact BK363.out) hb)
                          have n5_ := Aside0.mk (blk_below (g := gb372) (o := .cells #[.int .i64 t367, .slice Ao49 t368.length co49] 50 (0, 0)) (by (with_reducible repeat (first | refine blk_drewN ?_ _ | refine blk_drew ?_ | refine blk_alloc ?_ _)); exact BK372.out) hb)
                          have n6_ := Aside0.mk (below_step (by repeat (first | (with_reducible first | exact HB.out | apply below_alloc | apply pw_below_drewN | apply below_drew1 | refine below_set ?_ GE363.out | refine below_set ?_ GE372.out) | exact HB.out)) hb)
                          clear HO_8
                          clear HO_364001
                          clear HO370
                          clear BK363
                          clear BK372
                          clear HB
                          have HO_8 := n0_
                          have HO_364001 := n1_
                          have HO370 := n2_
                          have HO376 := n3_
                          have BK363 := n4_
                          have BK372 := n5_
                          have HB := n6_
                          clear n0_ n1_ n2_ n3_ n4_ n5_ n6_
                          (try clear hb)
                          (try clear hb2)
                          (try clear hk)
                          (try clear hi)
                          (try clear ho0)
                          refine hK.out _ _ ⟨(blk_cell BK372.out 0).trans rfl, (blk_cell BK372.out 1).trans rfl⟩ (fun hHeld => ?_)
                          clear hK K
                          refine norm_ (a' := ?_) ?_ ?_
                          rotate_left
                          · show Act.put _ (some 69) _ = _
                            simp only [Act.put, List.setIfInBounds_toArray, List.set_cons_zero, List.set_cons_succ, i64_w, i32_w]
                            rfl
                          refine one_ (i := 4) (N := none) #[true, true, true, true, true, false] rfl rfl (by kernel_rfl) (by decide) (fun K hK => ?_)
                          have hs54 : w53.cell? ⟨gb363, 0, none⟩ = some (.int .i64 x364000_2) := (blk_cell BK363.out 0).trans rfl
                          have hfs54 := blk_frozen BK363.out 0
                          have hns54_1 := NB372_363.out
                          have hms54_1 := NB363_372.out
                          have hs55 : w53.cell? ⟨gb363, 1, none⟩ = some (.slice Ao44 x364001_2.length co44) := (blk_cell BK363.out 1).trans rfl
                          have hfs55 := blk_frozen BK363.out 1
                          have hns55_1 := NB372_363.out
                          have hms55_1 := NB363_372.out
                          refine skip_ (w1 := ?_) (by rfl) rfl ?_ ?_
                          rotate_left
                          · go_simp
                            rfl
                          refine hK.out _ _ ⟨((cell_far (p := ⟨gb363, _, none⟩) NB372_363.out _).trans (((cell_far (p := ⟨gb363, _, none⟩) NB372_363.out _).trans (hHeld.1)))), ((cell_far (p := ⟨gb363, _, none⟩) NB372_363.out _).trans (((cell_far (p := ⟨gb363, _, none⟩) NB372_363.out _).trans (hHeld.2))))⟩ (fun hHeld => ?_)
                          clear hK K
                          refine pure_ (i := 5) (N := some 8) (v := ?_) (a' := ?_) #[true, true, true, true, true, true] rfl rfl (by kernel_rfl) (fun _ _ _ h => h) (Or.inl ⟨by rfl, ?_⟩) ?_ ?_
                          rotate_left
                          · intro w'
                            go_simp
                            with_reducible rfl
                          rotate_left
                          · simp only [Act.put, List.setIfInBounds_toArray, List.set_cons_zero, List.set_cons_succ, i64_w, i32_w]
                            rfl
                          refine done_ (by kernel_rfl) ?_
                          try go_wp2
                          go_roundg k2
                          case measure => have := HJ4.out; have := HK2.out; omega
                          case rel => exact ⟨(t374), (wrap64 (x44_2 + 1)), (t367), (t368), (.slice Ao49 t368.length co49), (by first | rfl | (simp; done) | (simp [*]; done)), H', ⟨by have := HJ4.out; have := HK2.out; omega⟩, ⟨by (with_reducible repeat (first | apply Kd.R_alloc | apply Kd.R_drewN | apply Kd.R_drew)); exact Kd.R_mono (Kd.R_far (p := ⟨gb363, 1, none⟩) (Kd.R_far (p := ⟨gb363, 0, none⟩) (Kd.R_types HO376.out BK363.out (by decide)) (fun _ hk => hk.2) (.int .i64 t367)) (fun _ hk => hk.2) (.slice Ao49 t368.length co49)) (fun _ hk => trivial)⟩, ⟨by (with_reducible repeat (first | apply Kd.R_alloc | apply Kd.R_drewN | apply Kd.R_drew)); exact Kd.R_mono (Kd.R_far (p := ⟨gb363, 1, none⟩) (Kd.R_far (p := ⟨gb363, 0, none⟩) (Kd.R_types HO370.out BK363.out (by decide)) (fun _ hk => hk.2) (.int .i64 t367)) (fun _ hk => hk.2) (.slice Ao49 t368.length co49)) (fun _ hk => trivial)⟩, ⟨by (with_reducible repeat (first | refine blk_drewN ?_ _ | refine blk_drew ?_ | refine blk_alloc ?_ _)); refine blk_put (cs := #[.int .i64 t367, .slice Ao44 x364001_2.length co44]) ?_ 1 _ rfl; (with_reducible repeat (first | refine blk_drewN ?_ _ | refine blk_drew ?_ | refine blk_alloc ?_ _)); refine blk_put (cs := #[.int .i64 x364000_2, .slice Ao44 x364001_2.length co44]) ?_ 0 _ rfl; (with_reducible repeat (first | refine blk_drewN ?_ _ | refine blk_drew ?_ | refine blk_alloc ?_ _)); exact BK363.out⟩, ⟨by repeat (first | (with_reducible first | exact HB.out | apply below_alloc | apply pw_below_drewN | apply below_drew1 | refine below_set ?_ GE363.out | refine below_set ?_ GE372.out) | exact HB.out)⟩⟩
                        · rw [if_neg c41] at H
                          have c41b0 : (t371 == 0) = false := beq_eq_false_iff_ne.mpr c41
                          have c41b1 : (t371 != 0) = true := bne_iff_ne.mpr c41
                          obtain rfl := Option.some.inj H
                          have p366 : 0 ≤ (x44_2 : Int) := of_decide_eq_true (by first | (with_reducible assumption) | assumption)
                          have q366 : x44_2 < ((l1.take ((ji14) : Int).toNat).length : Int) := of_decide_eq_true (by first | (with_reducible assumption) | assumption)
                          obtain ⟨ad366, e366, hx366_0⟩ := Kd.at_int HR365.out x44_2 p366 q366
                          cases e366
                          replace hx366_0 := (HB.out.cell (World.block_lt_of_cell? w _ hx366_0)).trans hx366_0
                          replace p366 := eq_true p366
                          replace q366 := eq_true q366
                          have hcz56_0 : wr.cell? ⟨gb363, 0, none⟩ = some (.int .i64 x364000_2) := (blk_cell BK363.out 0).trans rfl
                          have hcz56_1 : wr.cell? ⟨gb363, 1, none⟩ = some (u364001) := (blk_cell BK363.out 1).trans rfl
                          have hfz56_0 := blk_frozen BK363.out 0
                          have hfz56_1 := blk_frozen BK363.out 1
                          obtain ⟨Ao57, co57, eo57⟩ := Kd.R_slice HO_364001.out
                          subst eo57
                          go_wp2_with (first | ((with_reducible refine gate_callee (f := 46) rfl ?_); refine goesL_ (some 55) rfl rfl Try.func46 (by kernel_rfl) rfl #[.agg #[.int .i64 x364000_2, .slice Ao57 x364001_2.length co57], .int .i64 (wrap64 (Int.tmod (IntKind.u64.wrap (rd (l1.take ((ji14) : Int).toNat) x44_2)) 4294967296))] rfl (by (try simp only [List.map_toArray, List.map_cons, List.map_nil]); first | done | (simp only [hji14]; rfl) | rfl | (simp only [List.length_drop, List.length_take]; rfl)) ?_; (with_reducible refine (treap_Del.calls x364000_2 _ _ x364001_2 (wrap64 (Int.tmod (IntKind.u64.wrap (rd (l1.take ((ji14) : Int).toNat) x44_2)) 4294967296)) t367 t368 t371 _ ?side1 ?side2 A21.out).mono ?_); (case side1 => repeat (first | exact (Kd.R_reads' HO_364001.out).2.2 | (with_reducible refine Kd.C_alloc ?_ _) | (with_reducible refine Kd.C_drewN ?_ _) | (with_reducible refine Kd.C_drew ?_))); (case side2 => exact (Kd.R_reads' HO_364001.out).2.1); rintro e w58 ⟨v369, rfl, ho0, hb⟩; refine ⟨_, rfl, ?_⟩; have n0_ := Aside0.mk (Kd.R_below (by (with_reducible repeat (first | apply Kd.R_alloc | apply Kd.R_drewN | apply Kd.R_drew)); exact HO_8.out) hb); have n1_ := Aside0.mk (Kd.R_elder' (by (with_reducible repeat (first | apply Kd.R_alloc | apply Kd.R_drewN | apply Kd.R_drew)); exact HO_364001.out) (Kd.R_base ho0) hb); have n2_ := Aside0.mk (Kd.R_lower (Kd.R_new' ho0 (Kd.R_lt (by (with_reducible repeat (first | apply Kd.R_alloc | apply Kd.R_drewN | apply Kd.R_drew)); exact HO_364001.out))) (below_size (by repeat (first | (with_reducible first | exact HB.out | apply below_alloc | apply pw_below_drewN | apply below_drew1 | refine below_set ?_ GE363.out) | exact HB.out)))); have n3_ := Aside0.mk (blk_below (g := gb363) (o := .cells #[.int .i64 x364000_2, .slice Ao57 x364001_2.length co57] 50 (0, 0)) (by (with_reducible repeat (first | refine blk_drewN ?_ _ | refine blk_drew ?_ | refine blk_alloc ?_ _)); exact BK363.out) hb); have n4_ := Aside0.mk (below_step (by repeat (first | (with_reducible first | exact HB.out | apply below_alloc | apply pw_below_drewN | apply below_drew1 | refine below_set ?_ GE363.out) | exact HB.out)) hb); clear HO_8; clear HO_364001; clear BK363; clear HB; have HO_8 := n0_; have HO_364001 := n1_; have HO370 := n2_; have BK363 := n3_; have HB := n4_; clear n0_ n1_ n2_ n3_ n4_; (try clear hb); (try clear hb2); (try clear hk); (try clear hi); (try clear ho0)) | ((with_reducible refine gate_dst (N := 12) rfl ?_); (try (refine gate_guard (by rfl) ?_; dsimp only)); refine box_event ?hg (N := 12) ?hd (cs := #[.int .i64 0, .slice none 0 0]) (t := 50) ?hr ?_; (case hd => rfl); (case hg => rfl); (case hr => first | (go_simp; done) | (go_simp; rfl)); intro gb372 hg w59 hbox hb; have n0_ := Aside0.mk (Kd.R_below (by (with_reducible repeat (first | apply Kd.R_alloc | apply Kd.R_drewN | apply Kd.R_drew)); exact HO_8.out) hb); have n1_ := Aside0.mk (Kd.R_below (by (with_reducible repeat (first | apply Kd.R_alloc | apply Kd.R_drewN | apply Kd.R_drew)); exact HO_364001.out) hb); have n2_ := Aside0.mk (Kd.R_below (by (with_reducible repeat (first | apply Kd.R_alloc | apply Kd.R_drewN | apply Kd.R_drew)); exact HO370.out) hb); have n3_ := Aside0.mk (blk_below (g := gb363) (o := .cells #[.int .i64 x364000_2, .slice Ao57 x364001_2.length co57] 50 (0, 0)) (by (with_reducible repeat (first | refine blk_drewN ?_ _ | refine blk_drew ?_ | refine blk_alloc ?_ _)); exact BK363.out) hb); have n4_ := Aside0.mk (below_step (by repeat (first | (with_reducible first | exact HB.out | apply below_alloc | apply pw_below_drewN | apply below_drew1 | refine below_set ?_ GE363.out) | exact HB.out)) hb); have n5_ := Aside0.mk (hbox); have n6_ := Aside0.mk ((by rw [hg]; exact (below_size (by repeat (first | (with_reducible first | exact HB.out | apply below_alloc | apply pw_below_drewN | apply below_drew1 | refine below_set ?_ GE363.out) | exact HB.out))) : w.heap.size ≤ gb372)); have n7_ := Aside0.mk ((by rw [hg]; exact (below_size (by repeat (first | (with_reducible first | exact HB.out | apply below_alloc | apply pw_below_drewN | apply below_drew1 | refine below_set ?_ GE363.out) | exact HB.out))) : w.heap.size ≤ gb372)); have n8_ := Aside0.mk ((by rw [hg]; exact Nat.ne_of_lt (blk_lt (g := gb363) (o := .cells #[.int .i64 x364000_2, .slice Ao57 x364001_2.length co57] 50 (0, 0)) (by (with_reducible repeat (first | refine blk_drewN ?_ _ | refine blk_drew ?_ | refine blk_alloc ?_ _)); exact BK363.out)) : gb363 ≠ gb372)); have n9_ := Aside0.mk ((by rw [hg]; exact Nat.ne_of_gt (blk_lt (g := gb363) (o := .cells #[.int .i64 x364000_2, .slice Ao57 x364001_2.length co57] 50 (0, 0)) (by (with_reducible repeat (first | refine blk_drewN ?_ _ | refine blk_drew ?_ | refine blk_alloc ?_ _)); exact BK363.out)) : gb372 ≠ gb363)); clear HO_8; clear HO_364001; clear HO370; clear BK363; clear HB; have HO_8 := n0_; have HO_364001 := n1_; have HO370 := n2_; have BK363 := n3_; have HB := n4_; have BK372 := n5_; have GW372 := n6_; have GE372 := n7_; have NB363_372 := n8_; have NB372_363 := n9_; clear n0_ n1_ n2_ n3_ n4_ n5_ n6_ n7_ n8_ n9_; clear hb hbox hg; have hnb60 := NB372_363.out; have hnc60 := NB363_372.out; have hcz61_0 : w59.cell? ⟨gb372, 0, none⟩ = some (.int .i64 0) := (blk_cell BK372.out 0).trans rfl; have hcz61_1 : w59.cell? ⟨gb372, 1, none⟩ = some (.slice none 0 0) := (blk_cell BK372.out 1).trans rfl; have hfz61_0 := blk_frozen BK372.out 0; have hfz61_1 := blk_frozen BK372.out 1; obtain ⟨Ao62, co62, eo62⟩ := Kd.R_slice HO370.out; subst eo62; obtain ⟨Ao63, co63, eo63⟩ := Kd.R_slice HO_8.out; subst eo63) | ((with_reducible refine gate_callee (f := 43) rfl ?_); refine goesL_ (some 60) rfl rfl Try.func43 (by kernel_rfl) rfl #[.slice Ao63 x8_2.length co63, .int .i64 (wrap64 (Int.tmod (IntKind.u64.wrap (rd (l1.take ((ji14) : Int).toNat) x44_2)) 4294967296))] rfl (by (try simp only [List.map_toArray, List.map_cons, List.map_nil]); first | done | (simp only [hji14]; rfl) | rfl | (simp only [List.length_drop, List.length_take]; rfl)) ?_; (with_reducible refine (deadboltref08_Place.calls k2 _ _ x8_2 (wrap64 (Int.tmod (IntKind.u64.wrap (rd (l1.take ((ji14) : Int).toNat) x44_2)) 4294967296)) t373 _ ?side1 ?side2 A22.out).mono ?_); (case side1 => refine (Kd.R_reads' (e := 3) (base := w.heap.size) (ok := fun k_ => True) (n := x8_2.length) (c := co63) ?_).2.2; exact (by (with_reducible repeat (first | apply Kd.R_alloc | apply Kd.R_drewN | apply Kd.R_drew)); exact (Kd.R_mono (Kd.R_far (p := ⟨gb372, 1, none⟩) (Kd.R_far (p := ⟨gb372, 0, none⟩) (Kd.R_types HO_8.out BK372.out (by decide)) (fun _ hk => hk.2) (.int .i64 t367)) (fun _ hk => hk.2) (.slice Ao62 t368.length co62)) (fun _ h_ => h_.1)))); (case side2 => exact (Kd.R_reads' HO_8.out).2.1); rintro e w' ⟨rfl, ⟨nd, rfl⟩⟩; refine ⟨_, rfl, ?_⟩))
                          go_ret
                          exact ⟨by first | rfl | (simp [errW_none, errW_some] <;> rfl) | (simp only [← hji14]; first | rfl | (simp [errW_none, errW_some] <;> rfl)) | (simp [*, errW_none, errW_some] <;> rfl), by repeat (first | (with_reducible first | exact HB.out | apply below_alloc | apply pw_below_drewN | apply below_drew1 | refine below_set ?_ GE363.out | refine below_set ?_ GE372.out) | exact HB.out)⟩
                    · rw [if_neg c20] at H
                      exact absurd H (by simp)
                  · rw [if_neg c19] at H
                    exact absurd H (by simp)
                · rw [if_neg c18] at H
                  have c18b0 : decide (x44_2 < ((l1.take ((ji14) : Int).toNat).length : Int)) = false := decide_eq_false c18; (try (have c18b0x : decide (x44_2 < max ji14 0) = false := by (have hq_ := c18; rw [List.length_take] at hq_; have hj_ := hji14; unfold mn at hj_; apply decide_eq_false; split at hj_ <;> omega))); (try (have c18b0y := eq_true (of_decide_eq_true c18b0x))); (try (have c18b0z := eq_false (of_decide_eq_false c18b0x)))
                  clear c18
                  have H' := Aside0.mk H
                  clear H
                  obtain ⟨Ao64, co64, eo64⟩ := Kd.R_slice HO_8.out
                  subst eo64
                  go_wp2
                  go_loopg [14, 73] k2 (fun kq v14 v73 w' => ∃ (x14_3 : List Int) (x73_3 : Int), v73 = .int .i64 x73_3 ∧ Aside0 (deadboltlaw08_TreapShape.l1 kq a2 x8_2 x14_3 (x8_2.length : Int) x73_3 x364000_2 x364001_2 = some r) ∧ Aside0 (kq ≤ k2) ∧ Aside0 (Kd.R (Kd.int .i64) 3 w' w.heap.size (fun k_ => some k_ ≠ (v14 : Value).ownBlock) (.slice Ao64 x8_2.length co64) x8_2) ∧ Aside0 (Kd.R (Kd.int .i64) 3 w' w.heap.size (fun k_ => some k_ ≠ ((.slice Ao64 x8_2.length co64) : Value).ownBlock) v14 x14_3) ∧ Aside0 (Kd.R k87 87 w' w.heap.size (fun _ => True) u364001 x364001_2) ∧ Aside0 (w'.heap[gb363]? = some (.cells #[.int .i64 x364000_2, u364001] 50 (0, 0))) ∧ Aside0 (Below w.heap.size w w'))
                  case atStart => exact ⟨(([] : List Int)), (0), (by first | rfl | (simp; done) | (simp [*]; done)), H', ⟨Nat.le_refl _⟩, ⟨by (with_reducible repeat (first | apply Kd.R_alloc | apply Kd.R_drewN | apply Kd.R_drew)); exact Kd.R_mono HO_8.out (fun _ hk => (by simp [Value.ownBlock]))⟩, ⟨by first | exact Kd.R_nil _ _ _ _ _ | exact Kd.N_nil _ _ _ _ _ | exact Kd.V_nil _ _ _ _ _ | exact Kd.Q_nil _ _ _ _ _ | exact Kd.S_nil _ _ _ _ _⟩, ⟨by (with_reducible repeat (first | apply Kd.R_alloc | apply Kd.R_drewN | apply Kd.R_drew)); exact HO_364001.out⟩, ⟨by (with_reducible repeat (first | refine blk_drewN ?_ _ | refine blk_drew ?_ | refine blk_alloc ?_ _)); exact BK363.out⟩, ⟨by repeat (first | (with_reducible first | exact HB.out | apply below_alloc | apply pw_below_drewN | apply below_drew1 | refine below_set ?_ GE363.out) | exact HB.out)⟩⟩
                  case round =>
                    clear H'
                    try clear c1
                    try clear c2
                    try clear p2
                    try clear c3
                    try clear p3
                    try clear q3
                    try clear hx3
                    try clear c4
                    try clear c6
                    try clear p6
                    try clear c10
                    try clear c11
                    try clear c13
                    try clear c15
                    try clear c15b0
                    try clear c15b1
                    try clear c16
                    try clear c16b0
                    try clear c16b1
                    try clear c18
                    try clear c18b0
                    try clear c19
                    try clear c19b0
                    try clear c20
                    try clear c20b0
                    try clear c23
                    try clear c23b0
                    try clear c24
                    try clear c24b0
                    try clear c24b1
                    try clear c29
                    try clear p36
                    try clear q36
                    try clear hx36
                    try clear c37
                    try clear c41
                    try clear c41b0
                    try clear c41b1
                    try clear c43
                    try clear c46
                    try clear c47
                    try clear c48
                    try clear c60
                    try clear p64
                    try clear hcz25_0
                    try clear hcz25_1
                    try clear hcz30_0
                    try clear hcz30_1
                    try clear hcz33_0
                    try clear hcz33_1
                    try clear hcz38_0
                    try clear hcz38_1
                    try clear hcz43_0
                    try clear hcz43_1
                    try clear hcz48_0
                    try clear hcz48_1
                    try clear hcz56_0
                    try clear hcz56_1
                    try clear hcz61_0
                    try clear hcz61_1
                    try clear hcz8_0
                    try clear hcz8_1
                    try clear hfz25_0
                    try clear hfz25_1
                    try clear hfz30_0
                    try clear hfz30_1
                    try clear hfz33_0
                    try clear hfz33_1
                    try clear hfz38_0
                    try clear hfz38_1
                    try clear hfz43_0
                    try clear hfz43_1
                    try clear hfz48_0
                    try clear hfz48_1
                    try clear hfz56_0
                    try clear hfz56_1
                    try clear hfz61_0
                    try clear hfz61_1
                    try clear hfz8_0
                    try clear hfz8_1
                    try clear hx366_0
                    try clear p2
                    try clear p366
                    try clear q366
                    obtain ⟨x14_3, x73_3, rfl, HA, HK3, HO_8, HO_14, HO_364001, BK363, HB⟩ := hrel
                    cases gk with
                    | zero => exact absurd HA.out (by simp [deadboltlaw08_TreapShape.l1])
                    | succ k3 =>
                      have H := HA.out
                      clear HA
                      simp only [deadboltlaw08_TreapShape.l1] at H
                      by_cases c65 : x73_3 < (x8_2.length : Int)
                      · rw [if_pos c65] at H
                        have c65b0 : decide (x73_3 < (x8_2.length : Int)) = true := decide_eq_true c65
                        clear c65
                        by_cases c66 : (x8_2.length : Int) = 0
                        · rw [if_pos c66] at H
                          exact absurd H (by simp)
                        · rw [if_neg c66] at H
                          have c66b0 : ((x8_2.length : Int) == 0) = false := beq_eq_false_iff_ne.mpr c66
                          have c66b1 : ((x8_2.length : Int) != 0) = true := bne_iff_ne.mpr c66
                          have c66b2 : ¬ (x8_2 = []) := fun h_ => c66 (by rw [h_]; rfl)
                          obtain ⟨ji67, hji67⟩ : ∃ j_ : Int, (Int.tmod (wrap64 (x73_3 + (Int.tmod (wrap64 ((Int.tmod a2 64) + 64)) 64))) (x8_2.length : Int)) = j_ := ⟨_, rfl⟩
                          replace H : (if 0 ≤ (ji67) then (if (ji67) < (x8_2.length : Int) then (if x14_3.length < 17592186044416 then (deadboltlaw08_TreapShape.l1 k3 a2 x8_2 (x14_3 ++ [rd x8_2 (ji67)]) (x8_2.length : Int) (wrap64 (x73_3 + 1)) x364000_2 x364001_2) else (none)) else (none)) else (none)) = some r := by first | (rw [hji67] at H; exact H) | (simp only [hji67] at H ⊢; exact H)
                          by_cases c68 : 0 ≤ (ji67)
                          · rw [if_pos c68] at H
                            have c68b0 : decide (0 ≤ (ji67)) = true := decide_eq_true c68
                            clear c68
                            by_cases c69 : (ji67) < (x8_2.length : Int)
                            · rw [if_pos c69] at H
                              have c69b0 : decide ((ji67) < (x8_2.length : Int)) = true := decide_eq_true c69
                              clear c69
                              by_cases c70 : x14_3.length < 17592186044416
                              · rw [if_pos c70] at H
                                have LMc70 := Aside0.mk c70
                                clear c70
                                obtain ⟨y378, hy378⟩ : ∃ y_ : List Int, y_ = (x14_3 ++ [rd x8_2 (ji67)]) := ⟨_, rfl⟩
                                replace H : (deadboltlaw08_TreapShape.l1 k3 a2 x8_2 y378 (x8_2.length : Int) (wrap64 (x73_3 + 1)) x364000_2 x364001_2) = some r := by first | (rw [hy378]; with_reducible exact H) | (have H2_ := (Option.bind_some _ _).symm.trans H; rw [hy378]; with_reducible exact H2_) | (have H2_ := (Option.bind_some _ _).symm.trans H; with_reducible exact H2_) | with_reducible exact H | (rw [hy378]; exact H) | exact H
                                have Ny378 := Aside0.mk hy378
                                clear hy378
                                have H' := Aside0.mk H
                                clear H
                                have p377 : 0 ≤ ((ji67) : Int) := of_decide_eq_true (by first | (with_reducible assumption) | assumption)
                                have q377 : (ji67) < (x8_2.length : Int) := of_decide_eq_true (by first | (with_reducible assumption) | assumption)
                                obtain ⟨ad377, e377, hx377_0⟩ := Kd.at_int (Kd.R_reads' HO_8.out).2.2 (ji67) p377 q377
                                cases e377
                                replace p377 := eq_true p377
                                replace q377 := eq_true q377
                                go_wp2_with (first | ((with_reducible refine gate_builtin (b := .append) (xs := #[.tmp 76, .tmp 89]) rfl ?_); (try (refine gate_guard (by rfl) ?_; dsimp only)); at_builtin; refine Kd.R_append (Kd.int .i64) (w0 := w) w.heap.size rfl (.tmp 76) (.tmp 89) 26 3 (.int .i64 0) 8 rfl Try.underlying26 info3 rfl (by decide) (by omega) u14 x14_3 (rd x8_2 (ji67)) [.int .i64 (rd x8_2 (ji67))] (fun k_ => some k_ ≠ (.slice (some ad377) x8_2.length co64 : Value).ownBlock) (fun _ => False) rfl rfl ?aP (fun _ hk => hk.elim) ?aF ?aO ?aB ?aS ?aL ?_; (case aP => exact rfl); (case aB => exact (by repeat (first | (with_reducible first | exact HB.out | apply below_alloc | apply pw_below_drewN | apply below_drew1 | refine below_set ?_ GE363.out) | exact HB.out))); (case aF => exact (fun k_ hk => Kd.fresh' (Kd.R_lt (by (with_reducible repeat (first | apply Kd.R_alloc | apply Kd.R_drewN | apply Kd.R_drew)); exact HO_8.out)) k_ hk)); (case aO => exact (by (with_reducible repeat (first | apply Kd.R_alloc | apply Kd.R_drewN | apply Kd.R_drew)); exact HO_14.out)); (case aS => exact (below_size (by repeat (first | (with_reducible first | exact HB.out | apply below_alloc | apply pw_below_drewN | apply below_drew1 | refine below_set ?_ GE363.out) | exact HB.out)))); (case aL => have := LMc70.out; omega); intro v379 w71 ho hb hg hat; rw [← Ny378.out] at ho; have n0_ := Aside0.mk (Kd.R_after (ok := (fun _ => True)) (by (with_reducible repeat (first | apply Kd.R_alloc | apply Kd.R_drewN | apply Kd.R_drew)); exact Kd.R_mono HO_8.out (fun _ hk => ⟨trivial, hk⟩)) hg hat); have n1_ := Aside0.mk (Kd.R_over' (by (with_reducible repeat (first | apply Kd.R_alloc | apply Kd.R_drewN | apply Kd.R_drew)); exact HO_364001.out) (Kd.R_typed (by (with_reducible repeat (first | apply Kd.R_alloc | apply Kd.R_drewN | apply Kd.R_drew)); exact HO_14.out)) (by decide) hg); have n2_ := Aside0.mk (blk_grown (g := gb363) (o := .cells #[.int .i64 x364000_2, u364001] 50 (0, 0)) (by (with_reducible repeat (first | refine blk_drewN ?_ _ | refine blk_drew ?_ | refine blk_alloc ?_ _)); exact BK363.out) hg (Kd.R_ne HO_14.out BK363.out (by decide))); have n3_ := Aside0.mk (hb); have n4_ := Aside0.mk (ho); clear HO_8; clear HO_364001; clear BK363; clear HB; clear HO_14; have HO_8 := n0_; have HO_364001 := n1_; have BK363 := n2_; have HB := n3_; have HO380 := n4_; clear n0_ n1_ n2_ n3_ n4_; clear ho hb hg hat))
                                go_roundg k3
                                case measure => have := HJ4.out; have := HK2.out; have := HK3.out; omega
                                case rel => exact ⟨(y378), (wrap64 (x73_3 + 1)), (by first | rfl | (simp; done) | (simp [*]; done)), H', ⟨by have := HJ4.out; have := HK2.out; have := HK3.out; omega⟩, ⟨by (with_reducible repeat (first | apply Kd.R_alloc | apply Kd.R_drewN | apply Kd.R_drew)); exact Kd.R_mono HO_8.out (fun _ hk => hk.2)⟩, ⟨by (with_reducible repeat (first | apply Kd.R_alloc | apply Kd.R_drewN | apply Kd.R_drew)); exact HO380.out⟩, ⟨by (with_reducible repeat (first | apply Kd.R_alloc | apply Kd.R_drewN | apply Kd.R_drew)); exact HO_364001.out⟩, ⟨by (with_reducible repeat (first | refine blk_drewN ?_ _ | refine blk_drew ?_ | refine blk_alloc ?_ _)); exact BK363.out⟩, ⟨by repeat (first | (with_reducible first | exact HB.out | apply below_alloc | apply pw_below_drewN | apply below_drew1 | refine below_set ?_ GE363.out) | exact HB.out)⟩⟩
                              · rw [if_neg c70] at H
                                exact absurd H (by simp)
                            · rw [if_neg c69] at H
                              exact absurd H (by simp)
                          · rw [if_neg c68] at H
                            exact absurd H (by simp)
                      · rw [if_neg c65] at H
                        have c65b0 : decide (x73_3 < (x8_2.length : Int)) = false := decide_eq_false c65
                        clear c65
                        replace H := Option.bind_eq_some_iff.mp H
                        obtain ⟨⟨t381, t382, t385, t388⟩, A720, H⟩ := H
                        replace H : ((treap_Keys.f x364000_2 x364001_2).bind fun bt390 => (if t388 = true then (if bt390.2 = 0 then ((deadboltref08_Same.f k3 bt390.1 x8_2).bind fun t394 => (if t394 = true then ((treap_Right.f x364000_2 x364001_2).bind fun t395 => (deadboltlaw08_TreapShape.j3 k3 x8_2 (!t395) x364000_2 x364001_2 t381 t382)) else (deadboltlaw08_TreapShape.j3 k3 x8_2 true x364000_2 x364001_2 t381 t382))) else (deadboltlaw08_TreapShape.j3 k3 x8_2 true x364000_2 x364001_2 t381 t382)) else (deadboltlaw08_TreapShape.j3 k3 x8_2 true x364000_2 x364001_2 t381 t382))) = some r := H
                        have A72 := Aside0.mk A720
                        clear A720
                        replace H := Option.bind_eq_some_iff.mp H
                        obtain ⟨⟨t390, t393⟩, A730, H⟩ := H
                        replace H : (if t388 = true then (if t393 = 0 then ((deadboltref08_Same.f k3 t390 x8_2).bind fun t394 => (if t394 = true then ((treap_Right.f x364000_2 x364001_2).bind fun t395 => (deadboltlaw08_TreapShape.j3 k3 x8_2 (!t395) x364000_2 x364001_2 t381 t382)) else (deadboltlaw08_TreapShape.j3 k3 x8_2 true x364000_2 x364001_2 t381 t382))) else (deadboltlaw08_TreapShape.j3 k3 x8_2 true x364000_2 x364001_2 t381 t382)) else (deadboltlaw08_TreapShape.j3 k3 x8_2 true x364000_2 x364001_2 t381 t382)) = some r := H
                        have A73 := Aside0.mk A730
                        clear A730
                        have HC74 := Aside0.mk H
                        clear H
                        obtain ⟨Ao75, co75, eo75⟩ := Kd.R_slice HO_14.out
                        subst eo75
                        go_upto_region 24 with (first | ((with_reducible refine gate_callee (f := 29) rfl ?_); refine goesL_ (some 94) rfl rfl Try.func29 (by kernel_rfl) rfl #[.slice Ao75 x14_3.length co75] rfl (by (try simp only [List.map_toArray, List.map_cons, List.map_nil]); first | done | rfl | (simp only [List.length_drop, List.length_take]; rfl)) ?_; (with_reducible refine (deadboltlaw08_made.calls k3 _ _ x14_3 t381 t382 t385 t388 _ ?side1 ?side2 A72.out).mono ?_); (case side1 => repeat (first | exact (Kd.R_reads' HO_14.out).2.2 | (with_reducible refine Kd.C_alloc ?_ _) | (with_reducible refine Kd.C_drewN ?_ _) | (with_reducible refine Kd.C_drew ?_))); (case side2 => exact (Kd.R_reads' HO_14.out).2.1); rintro e w76 ⟨v383, v386, rfl, ho0, ho1, hb⟩; refine ⟨_, rfl, ?_⟩; have n0_ := Aside0.mk (Kd.R_elder' (by (with_reducible repeat (first | apply Kd.R_alloc | apply Kd.R_drewN | apply Kd.R_drew)); exact HO_8.out) (Kd.R_base ho1) hb); have n1_ := Aside0.mk (Kd.R_elder' (by (with_reducible repeat (first | apply Kd.R_alloc | apply Kd.R_drewN | apply Kd.R_drew)); exact HO_14.out) (Kd.R_base ho1) hb); have n2_ := Aside0.mk (Kd.R_elder' (by (with_reducible repeat (first | apply Kd.R_alloc | apply Kd.R_drewN | apply Kd.R_drew)); exact HO_364001.out) (Kd.R_base ho0) hb); have n3_ := Aside0.mk (Kd.R_lower (Kd.R_new' ho0 (Kd.R_lt (by (with_reducible repeat (first | apply Kd.R_alloc | apply Kd.R_drewN | apply Kd.R_drew)); exact HO_364001.out))) (below_size (by repeat (first | (with_reducible first | exact HB.out | apply below_alloc | apply pw_below_drewN | apply below_drew1 | refine below_set ?_ GE363.out) | exact HB.out)))); have n4_ := Aside0.mk (Kd.R_lower (Kd.R_new' (Kd.R_new' ho1 (Kd.R_lt (by (with_reducible repeat (first | apply Kd.R_alloc | apply Kd.R_drewN | apply Kd.R_drew)); exact HO_8.out))) (Kd.R_lt (by (with_reducible repeat (first | apply Kd.R_alloc | apply Kd.R_drewN | apply Kd.R_drew)); exact HO_14.out))) (below_size (by repeat (first | (with_reducible first | exact HB.out | apply below_alloc | apply pw_below_drewN | apply below_drew1 | refine below_set ?_ GE363.out) | exact HB.out)))); have n5_ := Aside0.mk (blk_below (g := gb363) (o := .cells #[.int .i64 x364000_2, u364001] 50 (0, 0)) (by (with_reducible repeat (first | refine blk_drewN ?_ _ | refine blk_drew ?_ | refine blk_alloc ?_ _)); exact BK363.out) hb); have n6_ := Aside0.mk (below_step (by repeat (first | (with_reducible first | exact HB.out | apply below_alloc | apply pw_below_drewN | apply below_drew1 | refine below_set ?_ GE363.out) | exact HB.out)) hb); clear HO_8; clear HO_14; clear HO_364001; clear BK363; clear HB; have HO_8 := n0_; have HO_14 := n1_; have HO_364001 := n2_; have HO384 := n3_; have HO387 := n4_; have BK363 := n5_; have HB := n6_; clear n0_ n1_ n2_ n3_ n4_ n5_ n6_; (try clear hb); (try clear hb2); (try clear hk); (try clear hi); (try clear ho0); (try clear ho1)) | ((with_reducible refine gate_dst (N := 16) rfl ?_); (try (refine gate_guard (by rfl) ?_; dsimp only)); refine box_event ?hg (N := 16) ?hd (cs := #[.int .i64 0, .slice none 0 0]) (t := 50) ?hr ?_; (case hd => rfl); (case hg => rfl); (case hr => first | (go_simp; done) | (go_simp; rfl)); intro gb389 hg w77 hbox hb; have n0_ := Aside0.mk (Kd.R_below (by (with_reducible repeat (first | apply Kd.R_alloc | apply Kd.R_drewN | apply Kd.R_drew)); exact HO_8.out) hb); have n1_ := Aside0.mk (Kd.R_below (by (with_reducible repeat (first | apply Kd.R_alloc | apply Kd.R_drewN | apply Kd.R_drew)); exact HO_14.out) hb); have n2_ := Aside0.mk (Kd.R_below (by (with_reducible repeat (first | apply Kd.R_alloc | apply Kd.R_drewN | apply Kd.R_drew)); exact HO_364001.out) hb); have n3_ := Aside0.mk (Kd.R_below (by (with_reducible repeat (first | apply Kd.R_alloc | apply Kd.R_drewN | apply Kd.R_drew)); exact HO384.out) hb); have n4_ := Aside0.mk (Kd.R_below (by (with_reducible repeat (first | apply Kd.R_alloc | apply Kd.R_drewN | apply Kd.R_drew)); exact HO387.out) hb); have n5_ := Aside0.mk (blk_below (g := gb363) (o := .cells #[.int .i64 x364000_2, u364001] 50 (0, 0)) (by (with_reducible repeat (first | refine blk_drewN ?_ _ | refine blk_drew ?_ | refine blk_alloc ?_ _)); exact BK363.out) hb); have n6_ := Aside0.mk (below_step (by repeat (first | (with_reducible first | exact HB.out | apply below_alloc | apply pw_below_drewN | apply below_drew1 | refine below_set ?_ GE363.out) | exact HB.out)) hb); have n7_ := Aside0.mk (hbox); have n8_ := Aside0.mk ((by rw [hg]; exact (below_size (by repeat (first | (with_reducible first | exact HB.out | apply below_alloc | apply pw_below_drewN | apply below_drew1 | refine below_set ?_ GE363.out) | exact HB.out))) : w.heap.size ≤ gb389)); have n9_ := Aside0.mk ((by rw [hg]; exact (below_size (by repeat (first | (with_reducible first | exact HB.out | apply below_alloc | apply pw_below_drewN | apply below_drew1 | refine below_set ?_ GE363.out) | exact HB.out))) : w.heap.size ≤ gb389)); have n10_ := Aside0.mk ((by rw [hg]; exact Nat.ne_of_lt (blk_lt (g := gb363) (o := .cells #[.int .i64 x364000_2, u364001] 50 (0, 0)) (by (with_reducible repeat (first | refine blk_drewN ?_ _ | refine blk_drew ?_ | refine blk_alloc ?_ _)); exact BK363.out)) : gb363 ≠ gb389)); have n11_ := Aside0.mk ((by rw [hg]; exact Nat.ne_of_gt (blk_lt (g := gb363) (o := .cells #[.int .i64 x364000_2, u364001] 50 (0, 0)) (by (with_reducible repeat (first | refine blk_drewN ?_ _ | refine blk_drew ?_ | refine blk_alloc ?_ _)); exact BK363.out)) : gb389 ≠ gb363)); clear HO_8; clear HO_14; clear HO_364001; clear HO384; clear HO387; clear BK363; clear HB; have HO_8 := n0_; have HO_14 := n1_; have HO_364001 := n2_; have HO384 := n3_; have HO387 := n4_; have BK363 := n5_; have HB := n6_; have BK389 := n7_; have GW389 := n8_; have GE389 := n9_; have NB363_389 := n10_; have NB389_363 := n11_; clear n0_ n1_ n2_ n3_ n4_ n5_ n6_ n7_ n8_ n9_ n10_ n11_; clear hb hbox hg; have hnb78 := NB389_363.out; have hnc78 := NB363_389.out; have hcz79_0 : w77.cell? ⟨gb389, 0, none⟩ = some (.int .i64 0) := (blk_cell BK389.out 0).trans rfl; have hcz79_1 : w77.cell? ⟨gb389, 1, none⟩ = some (.slice none 0 0) := (blk_cell BK389.out 1).trans rfl; have hfz79_0 := blk_frozen BK389.out 0; have hfz79_1 := blk_frozen BK389.out 1; obtain ⟨Ao80, co80, eo80⟩ := Kd.R_slice HO384.out; subst eo80; have hcz81_0 : w77.cell? ⟨gb363, 0, none⟩ = some (.int .i64 x364000_2) := (blk_cell BK363.out 0).trans rfl; have hcz81_1 : w77.cell? ⟨gb363, 1, none⟩ = some (u364001) := (blk_cell BK363.out 1).trans rfl; have hfz81_0 := blk_frozen BK363.out 0; have hfz81_1 := blk_frozen BK363.out 1; obtain ⟨Ao82, co82, eo82⟩ := Kd.R_slice HO_364001.out; subst eo82) | ((with_reducible refine gate_callee (f := 35) rfl ?_); refine goesL_ (some 100) rfl rfl Try.func35 (by kernel_rfl) rfl #[.agg #[.int .i64 x364000_2, .slice Ao82 x364001_2.length co82]] rfl (by (try simp only [List.map_toArray, List.map_cons, List.map_nil]); first | done | rfl | (simp only [List.length_drop, List.length_take]; rfl)) ?_; (with_reducible refine (treap_Keys.calls x364000_2 _ _ x364001_2 t390 t393 _ ?side1 ?side2 A73.out).mono ?_); (case side1 => refine (Kd.R_reads' (e := 87) (base := w.heap.size) (ok := fun k_ => (True ∧ some k_ ≠ (.slice Ao80 t382.length co80 : Value).ownBlock)) (n := x364001_2.length) (c := co82) ?_).2.2; exact (by (with_reducible repeat (first | apply Kd.R_alloc | apply Kd.R_drewN | apply Kd.R_drew)); exact (Kd.R_mono (Kd.R_far (p := ⟨gb389, 1, none⟩) (Kd.R_far (p := ⟨gb389, 0, none⟩) (Kd.R_types HO_364001.out BK389.out (by decide)) (fun _ hk => hk.2) (.int .i64 t381)) (fun _ hk => hk.2) (.slice Ao80 t382.length co80)) (fun _ h_ => h_.1)))); (case side2 => exact (Kd.R_reads' HO_364001.out).2.1); rintro e w83 ⟨v391, rfl, ho0, hb⟩; refine ⟨_, rfl, ?_⟩; have n0_ := Aside0.mk (Kd.R_elder' (by (with_reducible repeat (first | apply Kd.R_alloc | apply Kd.R_drewN | apply Kd.R_drew)); exact (Kd.R_mono (Kd.R_far (p := ⟨gb389, 1, none⟩) (Kd.R_far (p := ⟨gb389, 0, none⟩) (Kd.R_types HO_8.out BK389.out (by decide)) (fun _ hk => hk.2) (.int .i64 t381)) (fun _ hk => hk.2) (.slice Ao80 t382.length co80)) (fun _ h_ => h_.1))) (Kd.R_base ho0) hb); have n1_ := Aside0.mk (Kd.R_elder' (by (with_reducible repeat (first | apply Kd.R_alloc | apply Kd.R_drewN | apply Kd.R_drew)); exact (Kd.R_mono (Kd.R_far (p := ⟨gb389, 1, none⟩) (Kd.R_far (p := ⟨gb389, 0, none⟩) (Kd.R_types HO_14.out BK389.out (by decide)) (fun _ hk => hk.2) (.int .i64 t381)) (fun _ hk => hk.2) (.slice Ao80 t382.length co80)) (fun _ h_ => h_.1))) (Kd.R_base ho0) hb); have n2_ := Aside0.mk (Kd.R_below (by (with_reducible repeat (first | apply Kd.R_alloc | apply Kd.R_drewN | apply Kd.R_drew)); exact (Kd.R_mono (Kd.R_far (p := ⟨gb389, 1, none⟩) (Kd.R_far (p := ⟨gb389, 0, none⟩) (Kd.R_types HO_364001.out BK389.out (by decide)) (fun _ hk => hk.2) (.int .i64 t381)) (fun _ hk => hk.2) (.slice Ao80 t382.length co80)) (fun _ h_ => h_.1))) hb); have n3_ := Aside0.mk (Kd.R_below (by (with_reducible repeat (first | apply Kd.R_alloc | apply Kd.R_drewN | apply Kd.R_drew)); exact (Kd.R_mono (Kd.R_far (p := ⟨gb389, 1, none⟩) (Kd.R_far (p := ⟨gb389, 0, none⟩) (Kd.R_types HO384.out BK389.out (by decide)) (fun _ hk => hk.2) (.int .i64 t381)) (fun _ hk => hk.2) (.slice Ao80 t382.length co80)) (fun _ h_ => h_.1))) hb); have n4_ := Aside0.mk (Kd.R_elder' (by (with_reducible repeat (first | apply Kd.R_alloc | apply Kd.R_drewN | apply Kd.R_drew)); exact (Kd.R_mono (Kd.R_far (p := ⟨gb389, 1, none⟩) (Kd.R_far (p := ⟨gb389, 0, none⟩) (Kd.R_types HO387.out BK389.out (by decide)) (fun _ hk => hk.2) (.int .i64 t381)) (fun _ hk => hk.2) (.slice Ao80 t382.length co80)) (fun _ h_ => h_.1))) (Kd.R_base ho0) hb); have n5_ := Aside0.mk (Kd.R_lower (Kd.R_new' (Kd.R_new' (Kd.R_new' ho0 (Kd.R_lt (by (with_reducible repeat (first | apply Kd.R_alloc | apply Kd.R_drewN | apply Kd.R_drew)); exact (Kd.R_mono (Kd.R_far (p := ⟨gb389, 1, none⟩) (Kd.R_far (p := ⟨gb389, 0, none⟩) (Kd.R_types HO_8.out BK389.out (by decide)) (fun _ hk => hk.2) (.int .i64 t381)) (fun _ hk => hk.2) (.slice Ao80 t382.length co80)) (fun _ h_ => h_.1))))) (Kd.R_lt (by (with_reducible repeat (first | apply Kd.R_alloc | apply Kd.R_drewN | apply Kd.R_drew)); exact (Kd.R_mono (Kd.R_far (p := ⟨gb389, 1, none⟩) (Kd.R_far (p := ⟨gb389, 0, none⟩) (Kd.R_types HO_14.out BK389.out (by decide)) (fun _ hk => hk.2) (.int .i64 t381)) (fun _ hk => hk.2) (.slice Ao80 t382.length co80)) (fun _ h_ => h_.1))))) (Kd.R_lt (by (with_reducible repeat (first | apply Kd.R_alloc | apply Kd.R_drewN | apply Kd.R_drew)); exact (Kd.R_mono (Kd.R_far (p := ⟨gb389, 1, none⟩) (Kd.R_far (p := ⟨gb389, 0, none⟩) (Kd.R_types HO387.out BK389.out (by decide)) (fun _ hk => hk.2) (.int .i64 t381)) (fun _ hk => hk.2) (.slice Ao80 t382.length co80)) (fun _ h_ => h_.1))))) (below_size (by repeat (first | (with_reducible first | exact HB.out | apply below_alloc | apply pw_below_drewN | apply below_drew1 | refine below_set ?_ GE363.out | refine below_set ?_ GE389.out) | exact HB.out)))); have n6_ := Aside0.mk (blk_below (g := gb363) (o := .cells #[.int .i64 x364000_2, .slice Ao82 x364001_2.length co82] 50 (0, 0)) (by (with_reducible repeat (first | refine blk_drewN ?_ _ | refine blk_drew ?_ | refine blk_alloc ?_ _)); refine blk_far ?_ NB363_389.out _; (with_reducible repeat (first | refine blk_drewN ?_ _ | refine blk_drew ?_ | refine blk_alloc ?_ _)); refine blk_far ?_ NB363_389.out _; (with_reducible repeat (first | refine blk_drewN ?_ _ | refine blk_drew ?_ | refine blk_alloc ?_ _)); exact BK363.out) hb); have n7_ := Aside0.mk (blk_below (g := gb389) (o := .cells #[.int .i64 t381, .slice Ao80 t382.length co80] 50 (0, 0)) (by (with_reducible repeat (first | refine blk_drewN ?_ _ | refine blk_drew ?_ | refine blk_alloc ?_ _)); refine blk_put (cs := #[.int .i64 t381, .slice none 0 0]) ?_ 1 _ rfl; (with_reducible repeat (first | refine blk_drewN ?_ _ | refine blk_drew ?_ | refine blk_alloc ?_ _)); refine blk_put (cs := #[.int .i64 0, .slice none 0 0]) ?_ 0 _ rfl; (with_reducible repeat (first | refine blk_drewN ?_ _ | refine blk_drew ?_ | refine blk_alloc ?_ _)); exact BK389.out) hb); have n8_ := Aside0.mk (below_step (by repeat (first | (with_reducible first | exact HB.out | apply below_alloc | apply pw_below_drewN | apply below_drew1 | refine below_set ?_ GE363.out | refine below_set ?_ GE389.out) | exact HB.out)) hb); clear HO_8; clear HO_14; clear HO_364001; clear HO384; clear HO387; clear BK363; clear BK389; clear HB; have HO_8 := n0_; have HO_14 := n1_; have HO_364001 := n2_; have HO384 := n3_; have HO387 := n4_; have HO392 := n5_; have BK363 := n6_; have BK389 := n7_; have HB := n8_; clear n0_ n1_ n2_ n3_ n4_ n5_ n6_ n7_ n8_; (try clear hb); (try clear hb2); (try clear hk); (try clear hi); (try clear ho0)))
                        (try simp only [Act.put, List.setIfInBounds_toArray, List.set_cons_zero, List.set_cons_succ])
                        go_cut [119] (fun v119 wc => ∃ (kq : Nat) (x119_73 : Bool), v119 = .bool x119_73 ∧ Aside0 (deadboltlaw08_TreapShape.j3 kq x8_2 x119_73 x364000_2 x364001_2 t381 t382 = some r) ∧ Aside0 (kq ≤ k3) ∧ Aside0 (Kd.R (Kd.int .i64) 3 wc w.heap.size (fun _ => True) (.slice Ao64 x8_2.length co64) x8_2) ∧ Aside0 (Kd.R k87 87 wc w.heap.size (fun k_ => some k_ ≠ ((.slice Ao80 t382.length co80) : Value).ownBlock) (.slice Ao82 x364001_2.length co82) x364001_2) ∧ Aside0 (Kd.R k87 87 wc w.heap.size (fun k_ => some k_ ≠ ((.slice Ao82 x364001_2.length co82) : Value).ownBlock) (.slice Ao80 t382.length co80) t382) ∧ Aside0 (wc.heap[gb363]? = some (.cells #[.int .i64 x364000_2, (.slice Ao82 x364001_2.length co82)] 50 (0, 0))) ∧ Aside0 (wc.heap[gb389]? = some (.cells #[.int .i64 t381, (.slice Ao80 t382.length co80)] 50 (0, 0))) ∧ Aside0 (Below w.heap.size w wc))
                        case first =>
                          have H := HC74.out
                          clear HC74
                          by_cases c84 : t388 = true
                          · subst c84
                            have H1 : (if t393 = 0 then ((deadboltref08_Same.f k3 t390 x8_2).bind fun t394 => (if t394 = true then ((treap_Right.f x364000_2 x364001_2).bind fun t395 => (deadboltlaw08_TreapShape.j3 k3 x8_2 (!t395) x364000_2 x364001_2 t381 t382)) else (deadboltlaw08_TreapShape.j3 k3 x8_2 true x364000_2 x364001_2 t381 t382))) else (deadboltlaw08_TreapShape.j3 k3 x8_2 true x364000_2 x364001_2 t381 t382)) = some r := by rw [if_pos rfl] at H; exact H
                            clear H
                            have H := H1
                            clear H1
                            by_cases c85 : t393 = 0
                            · rw [if_pos c85] at H
                              have c85b0 : (t393 == 0) = true := beq_iff_eq.mpr c85
                              have c85b1 : (t393 != 0) = false := bne_eq_false_iff_eq.mpr c85
                              clear c85
                              (first | rw [c85b0] | (simp only [i64_w, i32_w]; rw [c85b0]) | skip)
                              replace H := Option.bind_eq_some_iff.mp H
                              obtain ⟨t394, A860, H⟩ := H
                              replace H : (if t394 = true then ((treap_Right.f x364000_2 x364001_2).bind fun t395 => (deadboltlaw08_TreapShape.j3 k3 x8_2 (!t395) x364000_2 x364001_2 t381 t382)) else (deadboltlaw08_TreapShape.j3 k3 x8_2 true x364000_2 x364001_2 t381 t382)) = some r := H
                              have A86 := Aside0.mk A860
                              clear A860
                              by_cases c87 : t394 = true
                              · subst c87
                                have H1 : ((treap_Right.f x364000_2 x364001_2).bind fun t395 => (deadboltlaw08_TreapShape.j3 k3 x8_2 (!t395) x364000_2 x364001_2 t381 t382)) = some r := by rw [if_pos rfl] at H; exact H
                                clear H
                                have H := H1
                                clear H1
                                replace H := Option.bind_eq_some_iff.mp H
                                obtain ⟨t395, A880, H⟩ := H
                                replace H : (deadboltlaw08_TreapShape.j3 k3 x8_2 (!t395) x364000_2 x364001_2 t381 t382) = some r := H
                                have A88 := Aside0.mk A880
                                clear A880
                                have H' := Aside0.mk H
                                clear H
                                obtain ⟨Ao89, co89, eo89⟩ := Kd.R_slice HO392.out
                                subst eo89
                                go_wp2_with (first | (go_at_call 41; (with_reducible refine (deadboltref08_Same.calls k3 _ _ t390 _ _ x8_2 true _ ?side1 ?side2 ?side3 ?side4 A86.out).mono ?_); (case side1 => repeat (first | exact (Kd.R_reads' HO392.out).2.2 | (with_reducible refine Kd.C_alloc ?_ _) | (with_reducible refine Kd.C_drewN ?_ _) | (with_reducible refine Kd.C_drew ?_))); (case side2 => exact (Kd.R_reads' HO392.out).2.1); (case side3 => repeat (first | exact (Kd.R_reads' HO_8.out).2.2 | (with_reducible refine Kd.C_alloc ?_ _) | (with_reducible refine Kd.C_drewN ?_ _) | (with_reducible refine Kd.C_drew ?_))); (case side4 => exact (Kd.R_reads' HO_8.out).2.1); rintro e w' ⟨rfl, ⟨nd, rfl⟩⟩; have hnb90 := NB363_389.out; have hnc90 := NB389_363.out; have hcz91_0 : w83.cell? ⟨gb363, 0, none⟩ = some (.int .i64 x364000_2) := (blk_cell BK363.out 0).trans rfl; have hcz91_1 : w83.cell? ⟨gb363, 1, none⟩ = some (.slice Ao82 x364001_2.length co82) := (blk_cell BK363.out 1).trans rfl; have hfz91_0 := blk_frozen BK363.out 0; have hfz91_1 := blk_frozen BK363.out 1) | (go_at_call 39; (with_reducible refine (treap_Right.calls x364000_2 _ _ x364001_2 t395 _ ?side1 ?side2 A88.out).mono ?_); (case side1 => repeat (first | exact (Kd.R_reads' HO_364001.out).2.2 | (with_reducible refine Kd.C_alloc ?_ _) | (with_reducible refine Kd.C_drewN ?_ _) | (with_reducible refine Kd.C_drew ?_))); (case side2 => exact (Kd.R_reads' HO_364001.out).2.1); rintro e w92 ⟨rfl, hb⟩; have n0_ := Aside0.mk (Kd.R_below (by (with_reducible repeat (first | apply Kd.R_alloc | apply Kd.R_drewN | apply Kd.R_drew)); exact HO_8.out) hb); have n1_ := Aside0.mk (Kd.R_below (by (with_reducible repeat (first | apply Kd.R_alloc | apply Kd.R_drewN | apply Kd.R_drew)); exact HO_14.out) hb); have n2_ := Aside0.mk (Kd.R_below (by (with_reducible repeat (first | apply Kd.R_alloc | apply Kd.R_drewN | apply Kd.R_drew)); exact HO_364001.out) hb); have n3_ := Aside0.mk (Kd.R_below (by (with_reducible repeat (first | apply Kd.R_alloc | apply Kd.R_drewN | apply Kd.R_drew)); exact HO384.out) hb); have n4_ := Aside0.mk (Kd.R_below (by (with_reducible repeat (first | apply Kd.R_alloc | apply Kd.R_drewN | apply Kd.R_drew)); exact HO387.out) hb); have n5_ := Aside0.mk (Kd.R_below (by (with_reducible repeat (first | apply Kd.R_alloc | apply Kd.R_drewN | apply Kd.R_drew)); exact HO392.out) hb); have n6_ := Aside0.mk (blk_below (g := gb363) (o := .cells #[.int .i64 x364000_2, .slice Ao82 x364001_2.length co82] 50 (0, 0)) (by (with_reducible repeat (first | refine blk_drewN ?_ _ | refine blk_drew ?_ | refine blk_alloc ?_ _)); exact BK363.out) hb); have n7_ := Aside0.mk (blk_below (g := gb389) (o := .cells #[.int .i64 t381, .slice Ao80 t382.length co80] 50 (0, 0)) (by (with_reducible repeat (first | refine blk_drewN ?_ _ | refine blk_drew ?_ | refine blk_alloc ?_ _)); exact BK389.out) hb); have n8_ := Aside0.mk (below_step (by repeat (first | (with_reducible first | exact HB.out | apply below_alloc | apply pw_below_drewN | apply below_drew1 | refine below_set ?_ GE363.out | refine below_set ?_ GE389.out) | exact HB.out)) hb); clear HO_8; clear HO_14; clear HO_364001; clear HO384; clear HO387; clear HO392; clear BK363; clear BK389; clear HB; have HO_8 := n0_; have HO_14 := n1_; have HO_364001 := n2_; have HO384 := n3_; have HO387 := n4_; have HO392 := n5_; have BK363 := n6_; have BK389 := n7_; have HB := n8_; clear n0_ n1_ n2_ n3_ n4_ n5_ n6_ n7_ n8_; (try clear hb); (try clear hb2); (try clear hk); (try clear hi)))
                                go_meet
                                case rel => exact ⟨_, (!t395), (by first | rfl | (simp; done) | (simp [*]; done)), H', ⟨by have := HJ4.out; have := HK2.out; have := HK3.out; first | omega | exact Nat.le_refl _⟩, ⟨by (with_reducible repeat (first | apply Kd.R_alloc | apply Kd.R_drewN | apply Kd.R_drew)); exact Kd.R_mono HO_8.out (fun _ hk => trivial)⟩, ⟨by (with_reducible repeat (first | apply Kd.R_alloc | apply Kd.R_drewN | apply Kd.R_drew)); exact Kd.R_mono HO_364001.out (fun _ hk => hk.2)⟩, ⟨by (with_reducible repeat (first | apply Kd.R_alloc | apply Kd.R_drewN | apply Kd.R_drew)); exact Kd.R_mono HO384.out (fun _ hk => hk.2)⟩, ⟨by (with_reducible repeat (first | refine blk_drewN ?_ _ | refine blk_drew ?_ | refine blk_alloc ?_ _)); exact BK363.out⟩, ⟨by (with_reducible repeat (first | refine blk_drewN ?_ _ | refine blk_drew ?_ | refine blk_alloc ?_ _)); exact BK389.out⟩, ⟨by repeat (first | (with_reducible first | exact HB.out | apply below_alloc | apply pw_below_drewN | apply below_drew1 | refine below_set ?_ GE363.out | refine below_set ?_ GE389.out) | exact HB.out)⟩⟩
                              · replace c87 := Bool.eq_false_iff.mpr c87
                                subst c87
                                have H1 : (deadboltlaw08_TreapShape.j3 k3 x8_2 true x364000_2 x364001_2 t381 t382) = some r := by rw [if_neg (show ¬ (false = true) by decide)] at H; exact H
                                clear H
                                have H := H1
                                clear H1
                                have H' := Aside0.mk H
                                clear H
                                obtain ⟨Ao93, co93, eo93⟩ := Kd.R_slice HO392.out
                                subst eo93
                                go_wp2_with (first | (go_at_call 41; (with_reducible refine (deadboltref08_Same.calls k3 _ _ t390 _ _ x8_2 false _ ?side1 ?side2 ?side3 ?side4 A86.out).mono ?_); (case side1 => repeat (first | exact (Kd.R_reads' HO392.out).2.2 | (with_reducible refine Kd.C_alloc ?_ _) | (with_reducible refine Kd.C_drewN ?_ _) | (with_reducible refine Kd.C_drew ?_))); (case side2 => exact (Kd.R_reads' HO392.out).2.1); (case side3 => repeat (first | exact (Kd.R_reads' HO_8.out).2.2 | (with_reducible refine Kd.C_alloc ?_ _) | (with_reducible refine Kd.C_drewN ?_ _) | (with_reducible refine Kd.C_drew ?_))); (case side4 => exact (Kd.R_reads' HO_8.out).2.1); rintro e w' ⟨rfl, ⟨nd, rfl⟩⟩))
                                go_meet
                                case rel => exact ⟨_, (true), (by first | rfl | (simp; done) | (simp [*]; done)), H', ⟨by have := HJ4.out; have := HK2.out; have := HK3.out; first | omega | exact Nat.le_refl _⟩, ⟨by (with_reducible repeat (first | apply Kd.R_alloc | apply Kd.R_drewN | apply Kd.R_drew)); exact Kd.R_mono HO_8.out (fun _ hk => trivial)⟩, ⟨by (with_reducible repeat (first | apply Kd.R_alloc | apply Kd.R_drewN | apply Kd.R_drew)); exact Kd.R_mono HO_364001.out (fun _ hk => hk.2)⟩, ⟨by (with_reducible repeat (first | apply Kd.R_alloc | apply Kd.R_drewN | apply Kd.R_drew)); exact Kd.R_mono HO384.out (fun _ hk => hk.2)⟩, ⟨by (with_reducible repeat (first | refine blk_drewN ?_ _ | refine blk_drew ?_ | refine blk_alloc ?_ _)); exact BK363.out⟩, ⟨by (with_reducible repeat (first | refine blk_drewN ?_ _ | refine blk_drew ?_ | refine blk_alloc ?_ _)); exact BK389.out⟩, ⟨by repeat (first | (with_reducible first | exact HB.out | apply below_alloc | apply pw_below_drewN | apply below_drew1 | refine below_set ?_ GE363.out | refine below_set ?_ GE389.out) | exact HB.out)⟩⟩
                            · rw [if_neg c85] at H
                              have c85b0 : (t393 == 0) = false := beq_eq_false_iff_ne.mpr c85
                              have c85b1 : (t393 != 0) = true := bne_iff_ne.mpr c85
                              (first | rw [c85b0] | (simp only [i64_w, i32_w]; rw [c85b0]) | skip)
                              have H' := Aside0.mk H
                              clear H
                              go_wp2
                              go_meet
                              case rel => exact ⟨_, (true), (by first | rfl | (simp; done) | (simp [*]; done)), H', ⟨by have := HJ4.out; have := HK2.out; have := HK3.out; first | omega | exact Nat.le_refl _⟩, ⟨by (with_reducible repeat (first | apply Kd.R_alloc | apply Kd.R_drewN | apply Kd.R_drew)); exact Kd.R_mono HO_8.out (fun _ hk => trivial)⟩, ⟨by (with_reducible repeat (first | apply Kd.R_alloc | apply Kd.R_drewN | apply Kd.R_drew)); exact Kd.R_mono HO_364001.out (fun _ hk => hk.2)⟩, ⟨by (with_reducible repeat (first | apply Kd.R_alloc | apply Kd.R_drewN | apply Kd.R_drew)); exact Kd.R_mono HO384.out (fun _ hk => hk.2)⟩, ⟨by (with_reducible repeat (first | refine blk_drewN ?_ _ | refine blk_drew ?_ | refine blk_alloc ?_ _)); exact BK363.out⟩, ⟨by (with_reducible repeat (first | refine blk_drewN ?_ _ | refine blk_drew ?_ | refine blk_alloc ?_ _)); exact BK389.out⟩, ⟨by repeat (first | (with_reducible first | exact HB.out | apply below_alloc | apply pw_below_drewN | apply below_drew1 | refine below_set ?_ GE363.out | refine below_set ?_ GE389.out) | exact HB.out)⟩⟩
                          · replace c84 := Bool.eq_false_iff.mpr c84
                            subst c84
                            have H1 : (deadboltlaw08_TreapShape.j3 k3 x8_2 true x364000_2 x364001_2 t381 t382) = some r := by rw [if_neg (show ¬ (false = true) by decide)] at H; exact H
                            clear H
                            have H := H1
                            clear H1
                            have H' := Aside0.mk H
                            clear H
                            go_wp2
                            go_meet
                            case rel => exact ⟨_, (true), (by first | rfl | (simp; done) | (simp [*]; done)), H', ⟨by have := HJ4.out; have := HK2.out; have := HK3.out; first | omega | exact Nat.le_refl _⟩, ⟨by (with_reducible repeat (first | apply Kd.R_alloc | apply Kd.R_drewN | apply Kd.R_drew)); exact Kd.R_mono HO_8.out (fun _ hk => trivial)⟩, ⟨by (with_reducible repeat (first | apply Kd.R_alloc | apply Kd.R_drewN | apply Kd.R_drew)); exact Kd.R_mono HO_364001.out (fun _ hk => hk.2)⟩, ⟨by (with_reducible repeat (first | apply Kd.R_alloc | apply Kd.R_drewN | apply Kd.R_drew)); exact Kd.R_mono HO384.out (fun _ hk => hk.2)⟩, ⟨by (with_reducible repeat (first | refine blk_drewN ?_ _ | refine blk_drew ?_ | refine blk_alloc ?_ _)); exact BK363.out⟩, ⟨by (with_reducible repeat (first | refine blk_drewN ?_ _ | refine blk_drew ?_ | refine blk_alloc ?_ _)); exact BK389.out⟩, ⟨by repeat (first | (with_reducible first | exact HB.out | apply below_alloc | apply pw_below_drewN | apply below_drew1 | refine below_set ?_ GE363.out | refine below_set ?_ GE389.out) | exact HB.out)⟩⟩
                        case rest =>
                          clear HC74
                          try clear c1
                          try clear c2
                          try clear p2
                          try clear c3
                          try clear p3
                          try clear q3
                          try clear hx3
                          try clear c4
                          try clear c6
                          try clear p6
                          try clear c7
                          try clear c8
                          try clear c9
                          try clear c10
                          try clear c11
                          try clear c13
                          try clear c15
                          try clear c15b0
                          try clear c15b1
                          try clear c16
                          try clear c16b0
                          try clear c16b1
                          try clear c18
                          try clear c18b0
                          try clear c19
                          try clear c19b0
                          try clear c20
                          try clear c20b0
                          try clear c23
                          try clear c23b0
                          try clear c24
                          try clear c24b0
                          try clear c24b1
                          try clear c29
                          try clear c35
                          try clear p36
                          try clear q36
                          try clear hx36
                          try clear c37
                          try clear p37
                          try clear q37
                          try clear hx37
                          try clear c41
                          try clear c41b0
                          try clear c41b1
                          try clear c43
                          try clear c46
                          try clear c47
                          try clear c48
                          try clear c60
                          try clear p64
                          try clear c65
                          try clear c65b0
                          try clear c66
                          try clear c66b0
                          try clear c66b1
                          try clear c66b2
                          try clear c68
                          try clear c68b0
                          try clear c69
                          try clear c69b0
                          try clear c70
                          try clear c78
                          try clear c84
                          try clear c85
                          try clear c85b0
                          try clear c85b1
                          try clear c87
                          try clear c90
                          try clear hcz25_0
                          try clear hcz25_1
                          try clear hcz30_0
                          try clear hcz30_1
                          try clear hcz33_0
                          try clear hcz33_1
                          try clear hcz38_0
                          try clear hcz38_1
                          try clear hcz43_0
                          try clear hcz43_1
                          try clear hcz48_0
                          try clear hcz48_1
                          try clear hcz56_0
                          try clear hcz56_1
                          try clear hcz61_0
                          try clear hcz61_1
                          try clear hcz79_0
                          try clear hcz79_1
                          try clear hcz81_0
                          try clear hcz81_1
                          try clear hcz8_0
                          try clear hcz8_1
                          try clear hcz91_0
                          try clear hcz91_1
                          try clear hfz25_0
                          try clear hfz25_1
                          try clear hfz30_0
                          try clear hfz30_1
                          try clear hfz33_0
                          try clear hfz33_1
                          try clear hfz38_0
                          try clear hfz38_1
                          try clear hfz43_0
                          try clear hfz43_1
                          try clear hfz48_0
                          try clear hfz48_1
                          try clear hfz56_0
                          try clear hfz56_1
                          try clear hfz61_0
                          try clear hfz61_1
                          try clear hfz79_0
                          try clear hfz79_1
                          try clear hfz81_0
                          try clear hfz81_1
                          try clear hfz8_0
                          try clear hfz8_1
                          try clear hfz91_0
                          try clear hfz91_1
                          try clear hx366_0
                          try clear hx377_0
                          try clear p2
                          try clear p3
                          try clear p36
                          try clear p366
                          try clear p377
                          try clear p6
                          try clear p64
                          try clear q3
                          try clear q36
                          try clear q366
                          try clear q377
                          obtain ⟨kq, x119_73, rfl, HA, HJ73, HO_8, HO_364001, HO_390001, BK363, BK389, HB⟩ := hcut
                          cases kq with
                          | zero => exact absurd HA.out (by simp [deadboltlaw08_TreapShape.j3])
                          | succ kj73 =>
                            have H := HA.out
                            clear HA
                            simp only [deadboltlaw08_TreapShape.j3] at H
                            by_cases c94 : x119_73 = true
                            · subst c94
                              have H1 : (some false) = some r := by rw [if_pos rfl] at H; exact H
                              clear H
                              have H := H1
                              clear H1
                              obtain rfl := Option.some.inj H
                              go_wp2
                              go_ret
                              exact ⟨by first | rfl | (simp [errW_none, errW_some] <;> rfl) | (simp only [← hji14]; first | rfl | (simp [errW_none, errW_some] <;> rfl)) | (simp [*, errW_none, errW_some] <;> rfl), by repeat (first | (with_reducible first | exact HB.out | apply below_alloc | apply pw_below_drewN | apply below_drew1 | refine below_set ?_ GE363.out | refine below_set ?_ GE389.out) | exact HB.out)⟩
                            · replace c94 := Bool.eq_false_iff.mpr c94
                              subst c94
                              have H1 : (deadboltlaw08_TreapShape.l2 kj73 x8_2 x8_2 (x8_2.length : Int) 0 x364000_2 x364001_2 t381 t382) = some r := by rw [if_neg (show ¬ (false = true) by decide)] at H; exact H
                              clear H
                              have H := H1
                              clear H1
                              have H' := Aside0.mk H
                              clear H
                              go_wp2
                              go_loopg [122] kj73 (fun kq v122 w' => ∃ (x122_5 : Int), v122 = .int .i64 x122_5 ∧ Aside0 (deadboltlaw08_TreapShape.l2 kq x8_2 x8_2 (x8_2.length : Int) x122_5 x364000_2 x364001_2 t381 t382 = some r) ∧ Aside0 (kq ≤ kj73) ∧ Aside0 (Kd.R (Kd.int .i64) 3 w' w.heap.size (fun _ => True) (.slice Ao64 x8_2.length co64) x8_2) ∧ Aside0 (Kd.R (Kd.int .i64) 3 w' w.heap.size (fun _ => True) (.slice Ao64 x8_2.length co64) x8_2) ∧ Aside0 (Kd.R k87 87 w' w.heap.size (fun k_ => some k_ ≠ ((.slice Ao80 t382.length co80) : Value).ownBlock) (.slice Ao82 x364001_2.length co82) x364001_2) ∧ Aside0 (Kd.R k87 87 w' w.heap.size (fun k_ => some k_ ≠ ((.slice Ao82 x364001_2.length co82) : Value).ownBlock) (.slice Ao80 t382.length co80) t382) ∧ Aside0 (w'.heap[gb363]? = some (.cells #[.int .i64 x364000_2, (.slice Ao82 x364001_2.length co82)] 50 (0, 0))) ∧ Aside0 (w'.heap[gb389]? = some (.cells #[.int .i64 t381, (.slice Ao80 t382.length co80)] 50 (0, 0))) ∧ Aside0 (Below w.heap.size w w'))
                              case atStart => exact ⟨(0), (by first | rfl | (simp; done) | (simp [*]; done)), H', ⟨Nat.le_refl _⟩, ⟨by (with_reducible repeat (first | apply Kd.R_alloc | apply Kd.R_drewN | apply Kd.R_drew)); exact HO_8.out⟩, ⟨by (with_reducible repeat (first | apply Kd.R_alloc | apply Kd.R_drewN | apply Kd.R_drew)); exact HO_8.out⟩, ⟨by (with_reducible repeat (first | apply Kd.R_alloc | apply Kd.R_drewN | apply Kd.R_drew)); exact HO_364001.out⟩, ⟨by (with_reducible repeat (first | apply Kd.R_alloc | apply Kd.R_drewN | apply Kd.R_drew)); exact HO_390001.out⟩, ⟨by (with_reducible repeat (first | refine blk_drewN ?_ _ | refine blk_drew ?_ | refine blk_alloc ?_ _)); exact BK363.out⟩, ⟨by (with_reducible repeat (first | refine blk_drewN ?_ _ | refine blk_drew ?_ | refine blk_alloc ?_ _)); exact BK389.out⟩, ⟨by repeat (first | (with_reducible first | exact HB.out | apply below_alloc | apply pw_below_drewN | apply below_drew1 | refine below_set ?_ GE363.out | refine below_set ?_ GE389.out) | exact HB.out)⟩⟩
                              case round =>
                                clear H'
                                try clear c1
                                try clear c2
                                try clear p2
                                try clear c3
                                try clear p3
                                try clear q3
                                try clear hx3
                                try clear c4
                                try clear c6
                                try clear p6
                                try clear c7
                                try clear c8
                                try clear c9
                                try clear c10
                                try clear c11
                                try clear c13
                                try clear c15
                                try clear c15b0
                                try clear c15b1
                                try clear c16
                                try clear c16b0
                                try clear c16b1
                                try clear c18
                                try clear c18b0
                                try clear c19
                                try clear c19b0
                                try clear c20
                                try clear c20b0
                                try clear c23
                                try clear c23b0
                                try clear c24
                                try clear c24b0
                                try clear c24b1
                                try clear c29
                                try clear c35
                                try clear p36
                                try clear q36
                                try clear hx36
                                try clear c37
                                try clear p37
                                try clear q37
                                try clear hx37
                                try clear c41
                                try clear c41b0
                                try clear c41b1
                                try clear c43
                                try clear c46
                                try clear c47
                                try clear c48
                                try clear c60
                                try clear p64
                                try clear c65
                                try clear c65b0
                                try clear c66
                                try clear c66b0
                                try clear c66b1
                                try clear c66b2
                                try clear c68
                                try clear c68b0
                                try clear c69
                                try clear c69b0
                                try clear c70
                                try clear c78
                                try clear c84
                                try clear c85
                                try clear c85b0
                                try clear c85b1
                                try clear c87
                                try clear c90
                                try clear c94
                                try clear hcz25_0
                                try clear hcz25_1
                                try clear hcz30_0
                                try clear hcz30_1
                                try clear hcz33_0
                                try clear hcz33_1
                                try clear hcz38_0
                                try clear hcz38_1
                                try clear hcz43_0
                                try clear hcz43_1
                                try clear hcz48_0
                                try clear hcz48_1
                                try clear hcz56_0
                                try clear hcz56_1
                                try clear hcz61_0
                                try clear hcz61_1
                                try clear hcz79_0
                                try clear hcz79_1
                                try clear hcz81_0
                                try clear hcz81_1
                                try clear hcz8_0
                                try clear hcz8_1
                                try clear hcz91_0
                                try clear hcz91_1
                                try clear hfz25_0
                                try clear hfz25_1
                                try clear hfz30_0
                                try clear hfz30_1
                                try clear hfz33_0
                                try clear hfz33_1
                                try clear hfz38_0
                                try clear hfz38_1
                                try clear hfz43_0
                                try clear hfz43_1
                                try clear hfz48_0
                                try clear hfz48_1
                                try clear hfz56_0
                                try clear hfz56_1
                                try clear hfz61_0
                                try clear hfz61_1
                                try clear hfz79_0
                                try clear hfz79_1
                                try clear hfz81_0
                                try clear hfz81_1
                                try clear hfz8_0
                                try clear hfz8_1
                                try clear hfz91_0
                                try clear hfz91_1
                                try clear hx366_0
                                try clear hx377_0
                                try clear p2
                                try clear p3
                                try clear p36
                                try clear p366
                                try clear p37
                                try clear p377
                                try clear p6
                                try clear p64
                                try clear q3
                                try clear q36
                                try clear q366
                                try clear q37
                                try clear q377
                                obtain ⟨x122_5, rfl, HA, HK5, HO_8, HO_120, HO_364001, HO_390001, BK363, BK389, HB⟩ := hrel
                                cases gk with
                                | zero => exact absurd HA.out (by simp [deadboltlaw08_TreapShape.l2])
                                | succ k5 =>
                                  have H := HA.out
                                  clear HA
                                  simp only [deadboltlaw08_TreapShape.l2] at H
                                  by_cases c95 : x122_5 < (x8_2.length : Int)
                                  · rw [if_pos c95] at H
                                    have c95b0 : decide (x122_5 < (x8_2.length : Int)) = true := decide_eq_true c95
                                    clear c95
                                    by_cases c96 : 0 ≤ x122_5
                                    · rw [if_pos c96] at H
                                      have c96b0 : decide (0 ≤ x122_5) = true := decide_eq_true c96
                                      clear c96
                                      by_cases c97 : x122_5 < (x8_2.length : Int)
                                      · rw [if_pos c97] at H
                                        have c97b0 : decide (x122_5 < (x8_2.length : Int)) = true := decide_eq_true c97
                                        clear c97
                                        replace H := Option.bind_eq_some_iff.mp H
                                        obtain ⟨⟨t397, t398⟩, A980, H⟩ := H
                                        replace H : ((treap_Find.f t381 t382 (rd x8_2 x122_5)).bind fun bt399 => (if t398 = 0 then (if bt399.2 = 0 then (if t397 = bt399.1 then (if t397 < 0 then (some false) else (if t397 ≥ (x8_2.length : Int) then (some false) else (deadboltlaw08_TreapShape.l2 k5 x8_2 x8_2 (x8_2.length : Int) (wrap64 (x122_5 + 1)) x364000_2 x364001_2 t381 t382))) else (some false)) else (some false)) else (some false))) = some r := H
                                        have A98 := Aside0.mk A980
                                        clear A980
                                        replace H := Option.bind_eq_some_iff.mp H
                                        obtain ⟨⟨t399, t400⟩, A990, H⟩ := H
                                        replace H : (if t398 = 0 then (if t400 = 0 then (if t397 = t399 then (if t397 < 0 then (some false) else (if t397 ≥ (x8_2.length : Int) then (some false) else (deadboltlaw08_TreapShape.l2 k5 x8_2 x8_2 (x8_2.length : Int) (wrap64 (x122_5 + 1)) x364000_2 x364001_2 t381 t382))) else (some false)) else (some false)) else (some false)) = some r := H
                                        have A99 := Aside0.mk A990
                                        clear A990
                                        by_cases c100 : t398 = 0
                                        · rw [if_pos c100] at H
                                          have c100b0 : (t398 == 0) = true := beq_iff_eq.mpr c100
                                          have c100b1 : (t398 != 0) = false := bne_eq_false_iff_eq.mpr c100
                                          clear c100
                                          by_cases c101 : t400 = 0
                                          · rw [if_pos c101] at H
                                            have c101b0 : (t400 == 0) = true := beq_iff_eq.mpr c101
                                            have c101b1 : (t400 != 0) = false := bne_eq_false_iff_eq.mpr c101
                                            clear c101
                                            by_cases c102 : t397 = t399
                                            · rw [if_pos c102] at H
                                              have c102b0 : (t397 == t399) = true := beq_iff_eq.mpr c102
                                              have c102b1 : (t397 != t399) = false := bne_eq_false_iff_eq.mpr c102
                                              clear c102
                                              by_cases c103 : t397 < 0
                                              · rw [if_pos c103] at H
                                                have c103b0 : decide (t397 < 0) = true := decide_eq_true c103
                                                clear c103
                                                obtain rfl := Option.some.inj H
                                                have p396 : 0 ≤ (x122_5 : Int) := of_decide_eq_true (by first | (with_reducible assumption) | assumption)
                                                have q396 : x122_5 < (x8_2.length : Int) := of_decide_eq_true (by first | (with_reducible assumption) | assumption)
                                                obtain ⟨ad396, e396, hx396_0⟩ := Kd.at_int (Kd.R_reads' HO_120.out).2.2 x122_5 p396 q396
                                                cases e396
                                                replace p396 := eq_true p396
                                                replace q396 := eq_true q396
                                                have hnb104 := NB363_389.out
                                                have hnc104 := NB389_363.out
                                                have hcz105_0 : wr.cell? ⟨gb363, 0, none⟩ = some (.int .i64 x364000_2) := (blk_cell BK363.out 0).trans rfl
                                                have hcz105_1 : wr.cell? ⟨gb363, 1, none⟩ = some (.slice Ao82 x364001_2.length co82) := (blk_cell BK363.out 1).trans rfl
                                                have hfz105_0 := blk_frozen BK363.out 0
                                                have hfz105_1 := blk_frozen BK363.out 1
                                                go_wp2_with (first | ((with_reducible refine gate_callee (f := 34) rfl ?_); refine goesL_ (some 129) rfl rfl Try.func34 (by kernel_rfl) rfl #[.agg #[.int .i64 x364000_2, .slice Ao82 x364001_2.length co82], .int .i64 (rd x8_2 x122_5)] rfl (by (try simp only [List.map_toArray, List.map_cons, List.map_nil]); first | done | rfl | (simp only [List.length_drop, List.length_take]; rfl)) ?_; (with_reducible refine (treap_Find.calls x364000_2 _ _ x364001_2 (rd x8_2 x122_5) t397 t398 _ ?side1 ?side2 A98.out).mono ?_); (case side1 => repeat (first | exact (Kd.R_reads' HO_364001.out).2.2 | (with_reducible refine Kd.C_alloc ?_ _) | (with_reducible refine Kd.C_drewN ?_ _) | (with_reducible refine Kd.C_drew ?_))); (case side2 => exact (Kd.R_reads' HO_364001.out).2.1); rintro e w106 ⟨rfl, hb⟩; refine ⟨_, rfl, ?_⟩; have n0_ := Aside0.mk (Kd.R_below (by (with_reducible repeat (first | apply Kd.R_alloc | apply Kd.R_drewN | apply Kd.R_drew)); exact HO_8.out) hb); have n1_ := Aside0.mk (Kd.R_below (by (with_reducible repeat (first | apply Kd.R_alloc | apply Kd.R_drewN | apply Kd.R_drew)); exact HO_120.out) hb); have n2_ := Aside0.mk (Kd.R_below (by (with_reducible repeat (first | apply Kd.R_alloc | apply Kd.R_drewN | apply Kd.R_drew)); exact HO_364001.out) hb); have n3_ := Aside0.mk (Kd.R_below (by (with_reducible repeat (first | apply Kd.R_alloc | apply Kd.R_drewN | apply Kd.R_drew)); exact HO_390001.out) hb); have n4_ := Aside0.mk (blk_below (g := gb363) (o := .cells #[.int .i64 x364000_2, .slice Ao82 x364001_2.length co82] 50 (0, 0)) (by (with_reducible repeat (first | refine blk_drewN ?_ _ | refine blk_drew ?_ | refine blk_alloc ?_ _)); exact BK363.out) hb); have n5_ := Aside0.mk (blk_below (g := gb389) (o := .cells #[.int .i64 t381, .slice Ao80 t382.length co80] 50 (0, 0)) (by (with_reducible repeat (first | refine blk_drewN ?_ _ | refine blk_drew ?_ | refine blk_alloc ?_ _)); exact BK389.out) hb); have n6_ := Aside0.mk (below_step (by repeat (first | (with_reducible first | exact HB.out | apply below_alloc | apply pw_below_drewN | apply below_drew1 | refine below_set ?_ GE363.out | refine below_set ?_ GE389.out) | exact HB.out)) hb); clear HO_8; clear HO_120; clear HO_364001; clear HO_390001; clear BK363; clear BK389; clear HB; have HO_8 := n0_; have HO_120 := n1_; have HO_364001 := n2_; have HO_390001 := n3_; have BK363 := n4_; have BK389 := n5_; have HB := n6_; clear n0_ n1_ n2_ n3_ n4_ n5_ n6_; (try clear hb); (try clear hb2); (try clear hk); (try clear hi); have hcz107_0 : w106.cell? ⟨gb389, 0, none⟩ = some (.int .i64 t381) := (blk_cell BK389.out 0).trans rfl; have hcz107_1 : w106.cell? ⟨gb389, 1, none⟩ = some (.slice Ao80 t382.length co80) := (blk_cell BK389.out 1).trans rfl; have hfz107_0 := blk_frozen BK389.out 0; have hfz107_1 := blk_frozen BK389.out 1) | ((with_reducible refine gate_callee (f := 34) rfl ?_); refine goesL_ (some 135) rfl rfl Try.func34 (by kernel_rfl) rfl #[.agg #[.int .i64 t381, .slice Ao80 t382.length co80], .int .i64 (rd x8_2 x122_5)] rfl (by (try simp only [List.map_toArray, List.map_cons, List.map_nil]); first | done | rfl | (simp only [List.length_drop, List.length_take]; rfl)) ?_; (with_reducible refine (treap_Find.calls t381 _ _ t382 (rd x8_2 x122_5) t399 t400 _ ?side1 ?side2 A99.out).mono ?_); (case side1 => repeat (first | exact (Kd.R_reads' HO_390001.out).2.2 | (with_reducible refine Kd.C_alloc ?_ _) | (with_reducible refine Kd.C_drewN ?_ _) | (with_reducible refine Kd.C_drew ?_))); (case side2 => exact (Kd.R_reads' HO_390001.out).2.1); rintro e w108 ⟨rfl, hb⟩; refine ⟨_, rfl, ?_⟩; have n0_ := Aside0.mk (Kd.R_below (by (with_reducible repeat (first | apply Kd.R_alloc | apply Kd.R_drewN | apply Kd.R_drew)); exact HO_8.out) hb); have n1_ := Aside0.mk (Kd.R_below (by (with_reducible repeat (first | apply Kd.R_alloc | apply Kd.R_drewN | apply Kd.R_drew)); exact HO_120.out) hb); have n2_ := Aside0.mk (Kd.R_below (by (with_reducible repeat (first | apply Kd.R_alloc | apply Kd.R_drewN | apply Kd.R_drew)); exact HO_364001.out) hb); have n3_ := Aside0.mk (Kd.R_below (by (with_reducible repeat (first | apply Kd.R_alloc | apply Kd.R_drewN | apply Kd.R_drew)); exact HO_390001.out) hb); have n4_ := Aside0.mk (blk_below (g := gb363) (o := .cells #[.int .i64 x364000_2, .slice Ao82 x364001_2.length co82] 50 (0, 0)) (by (with_reducible repeat (first | refine blk_drewN ?_ _ | refine blk_drew ?_ | refine blk_alloc ?_ _)); exact BK363.out) hb); have n5_ := Aside0.mk (blk_below (g := gb389) (o := .cells #[.int .i64 t381, .slice Ao80 t382.length co80] 50 (0, 0)) (by (with_reducible repeat (first | refine blk_drewN ?_ _ | refine blk_drew ?_ | refine blk_alloc ?_ _)); exact BK389.out) hb); have n6_ := Aside0.mk (below_step (by repeat (first | (with_reducible first | exact HB.out | apply below_alloc | apply pw_below_drewN | apply below_drew1 | refine below_set ?_ GE363.out | refine below_set ?_ GE389.out) | exact HB.out)) hb); clear HO_8; clear HO_120; clear HO_364001; clear HO_390001; clear BK363; clear BK389; clear HB; have HO_8 := n0_; have HO_120 := n1_; have HO_364001 := n2_; have HO_390001 := n3_; have BK363 := n4_; have BK389 := n5_; have HB := n6_; clear n0_ n1_ n2_ n3_ n4_ n5_ n6_; (try clear hb); (try clear hb2); (try clear hk); (try clear hi)))
                                                go_ret
                                                exact ⟨by first | rfl | (simp [errW_none, errW_some] <;> rfl) | (simp only [← hji14]; first | rfl | (simp [errW_none, errW_some] <;> rfl)) | (simp [*, errW_none, errW_some] <;> rfl), by repeat (first | (with_reducible first | exact HB.out | apply below_alloc | apply pw_below_drewN | apply below_drew1 | refine below_set ?_ GE363.out | refine below_set ?_ GE389.out) | exact HB.out)⟩
                                              · rw [if_neg c103] at H
                                                have c103b0 : decide (t397 < 0) = false := decide_eq_false c103
                                                clear c103
                                                by_cases c109 : t397 ≥ (x8_2.length : Int)
                                                · rw [if_pos c109] at H
                                                  have c109b0 : decide ((x8_2.length : Int) ≤ t397) = true := decide_eq_true c109
                                                  clear c109
                                                  obtain rfl := Option.some.inj H
                                                  have p396 : 0 ≤ (x122_5 : Int) := of_decide_eq_true (by first | (with_reducible assumption) | assumption)
                                                  have q396 : x122_5 < (x8_2.length : Int) := of_decide_eq_true (by first | (with_reducible assumption) | assumption)
                                                  obtain ⟨ad396, e396, hx396_0⟩ := Kd.at_int (Kd.R_reads' HO_120.out).2.2 x122_5 p396 q396
                                                  cases e396
                                                  replace p396 := eq_true p396
                                                  replace q396 := eq_true q396
                                                  have hnb110 := NB363_389.out
                                                  have hnc110 := NB389_363.out
                                                  have hcz111_0 : wr.cell? ⟨gb363, 0, none⟩ = some (.int .i64 x364000_2) := (blk_cell BK363.out 0).trans rfl
                                                  have hcz111_1 : wr.cell? ⟨gb363, 1, none⟩ = some (.slice Ao82 x364001_2.length co82) := (blk_cell BK363.out 1).trans rfl
                                                  have hfz111_0 := blk_frozen BK363.out 0
                                                  have hfz111_1 := blk_frozen BK363.out 1
                                                  go_wp2_with (first | ((with_reducible refine gate_callee (f := 34) rfl ?_); refine goesL_ (some 129) rfl rfl Try.func34 (by kernel_rfl) rfl #[.agg #[.int .i64 x364000_2, .slice Ao82 x364001_2.length co82], .int .i64 (rd x8_2 x122_5)] rfl (by (try simp only [List.map_toArray, List.map_cons, List.map_nil]); first | done | rfl | (simp only [List.length_drop, List.length_take]; rfl)) ?_; (with_reducible refine (treap_Find.calls x364000_2 _ _ x364001_2 (rd x8_2 x122_5) t397 t398 _ ?side1 ?side2 A98.out).mono ?_); (case side1 => repeat (first | exact (Kd.R_reads' HO_364001.out).2.2 | (with_reducible refine Kd.C_alloc ?_ _) | (with_reducible refine Kd.C_drewN ?_ _) | (with_reducible refine Kd.C_drew ?_))); (case side2 => exact (Kd.R_reads' HO_364001.out).2.1); rintro e w112 ⟨rfl, hb⟩; refine ⟨_, rfl, ?_⟩; have n0_ := Aside0.mk (Kd.R_below (by (with_reducible repeat (first | apply Kd.R_alloc | apply Kd.R_drewN | apply Kd.R_drew)); exact HO_8.out) hb); have n1_ := Aside0.mk (Kd.R_below (by (with_reducible repeat (first | apply Kd.R_alloc | apply Kd.R_drewN | apply Kd.R_drew)); exact HO_120.out) hb); have n2_ := Aside0.mk (Kd.R_below (by (with_reducible repeat (first | apply Kd.R_alloc | apply Kd.R_drewN | apply Kd.R_drew)); exact HO_364001.out) hb); have n3_ := Aside0.mk (Kd.R_below (by (with_reducible repeat (first | apply Kd.R_alloc | apply Kd.R_drewN | apply Kd.R_drew)); exact HO_390001.out) hb); have n4_ := Aside0.mk (blk_below (g := gb363) (o := .cells #[.int .i64 x364000_2, .slice Ao82 x364001_2.length co82] 50 (0, 0)) (by (with_reducible repeat (first | refine blk_drewN ?_ _ | refine blk_drew ?_ | refine blk_alloc ?_ _)); exact BK363.out) hb); have n5_ := Aside0.mk (blk_below (g := gb389) (o := .cells #[.int .i64 t381, .slice Ao80 t382.length co80] 50 (0, 0)) (by (with_reducible repeat (first | refine blk_drewN ?_ _ | refine blk_drew ?_ | refine blk_alloc ?_ _)); exact BK389.out) hb); have n6_ := Aside0.mk (below_step (by repeat (first | (with_reducible first | exact HB.out | apply below_alloc | apply pw_below_drewN | apply below_drew1 | refine below_set ?_ GE363.out | refine below_set ?_ GE389.out) | exact HB.out)) hb); clear HO_8; clear HO_120; clear HO_364001; clear HO_390001; clear BK363; clear BK389; clear HB; have HO_8 := n0_; have HO_120 := n1_; have HO_364001 := n2_; have HO_390001 := n3_; have BK363 := n4_; have BK389 := n5_; have HB := n6_; clear n0_ n1_ n2_ n3_ n4_ n5_ n6_; (try clear hb); (try clear hb2); (try clear hk); (try clear hi); have hcz113_0 : w112.cell? ⟨gb389, 0, none⟩ = some (.int .i64 t381) := (blk_cell BK389.out 0).trans rfl; have hcz113_1 : w112.cell? ⟨gb389, 1, none⟩ = some (.slice Ao80 t382.length co80) := (blk_cell BK389.out 1).trans rfl; have hfz113_0 := blk_frozen BK389.out 0; have hfz113_1 := blk_frozen BK389.out 1) | ((with_reducible refine gate_callee (f := 34) rfl ?_); refine goesL_ (some 135) rfl rfl Try.func34 (by kernel_rfl) rfl #[.agg #[.int .i64 t381, .slice Ao80 t382.length co80], .int .i64 (rd x8_2 x122_5)] rfl (by (try simp only [List.map_toArray, List.map_cons, List.map_nil]); first | done | rfl | (simp only [List.length_drop, List.length_take]; rfl)) ?_; (with_reducible refine (treap_Find.calls t381 _ _ t382 (rd x8_2 x122_5) t399 t400 _ ?side1 ?side2 A99.out).mono ?_); (case side1 => repeat (first | exact (Kd.R_reads' HO_390001.out).2.2 | (with_reducible refine Kd.C_alloc ?_ _) | (with_reducible refine Kd.C_drewN ?_ _) | (with_reducible refine Kd.C_drew ?_))); (case side2 => exact (Kd.R_reads' HO_390001.out).2.1); rintro e w114 ⟨rfl, hb⟩; refine ⟨_, rfl, ?_⟩; have n0_ := Aside0.mk (Kd.R_below (by (with_reducible repeat (first | apply Kd.R_alloc | apply Kd.R_drewN | apply Kd.R_drew)); exact HO_8.out) hb); have n1_ := Aside0.mk (Kd.R_below (by (with_reducible repeat (first | apply Kd.R_alloc | apply Kd.R_drewN | apply Kd.R_drew)); exact HO_120.out) hb); have n2_ := Aside0.mk (Kd.R_below (by (with_reducible repeat (first | apply Kd.R_alloc | apply Kd.R_drewN | apply Kd.R_drew)); exact HO_364001.out) hb); have n3_ := Aside0.mk (Kd.R_below (by (with_reducible repeat (first | apply Kd.R_alloc | apply Kd.R_drewN | apply Kd.R_drew)); exact HO_390001.out) hb); have n4_ := Aside0.mk (blk_below (g := gb363) (o := .cells #[.int .i64 x364000_2, .slice Ao82 x364001_2.length co82] 50 (0, 0)) (by (with_reducible repeat (first | refine blk_drewN ?_ _ | refine blk_drew ?_ | refine blk_alloc ?_ _)); exact BK363.out) hb); have n5_ := Aside0.mk (blk_below (g := gb389) (o := .cells #[.int .i64 t381, .slice Ao80 t382.length co80] 50 (0, 0)) (by (with_reducible repeat (first | refine blk_drewN ?_ _ | refine blk_drew ?_ | refine blk_alloc ?_ _)); exact BK389.out) hb); have n6_ := Aside0.mk (below_step (by repeat (first | (with_reducible first | exact HB.out | apply below_alloc | apply pw_below_drewN | apply below_drew1 | refine below_set ?_ GE363.out | refine below_set ?_ GE389.out) | exact HB.out)) hb); clear HO_8; clear HO_120; clear HO_364001; clear HO_390001; clear BK363; clear BK389; clear HB; have HO_8 := n0_; have HO_120 := n1_; have HO_364001 := n2_; have HO_390001 := n3_; have BK363 := n4_; have BK389 := n5_; have HB := n6_; clear n0_ n1_ n2_ n3_ n4_ n5_ n6_; (try clear hb); (try clear hb2); (try clear hk); (try clear hi)))
                                                  go_ret
                                                  exact ⟨by first | rfl | (simp [errW_none, errW_some] <;> rfl) | (simp only [← hji14]; first | rfl | (simp [errW_none, errW_some] <;> rfl)) | (simp [*, errW_none, errW_some] <;> rfl), by repeat (first | (with_reducible first | exact HB.out | apply below_alloc | apply pw_below_drewN | apply below_drew1 | refine below_set ?_ GE363.out | refine below_set ?_ GE389.out) | exact HB.out)⟩
                                                · rw [if_neg c109] at H
                                                  have c109b0 : decide ((x8_2.length : Int) ≤ t397) = false := decide_eq_false c109
                                                  clear c109
                                                  have H' := Aside0.mk H
                                                  clear H
                                                  have p396 : 0 ≤ (x122_5 : Int) := of_decide_eq_true (by first | (with_reducible assumption) | assumption)
                                                  have q396 : x122_5 < (x8_2.length : Int) := of_decide_eq_true (by first | (with_reducible assumption) | assumption)
                                                  obtain ⟨ad396, e396, hx396_0⟩ := Kd.at_int (Kd.R_reads' HO_120.out).2.2 x122_5 p396 q396
                                                  cases e396
                                                  replace p396 := eq_true p396
                                                  replace q396 := eq_true q396
                                                  have hnb115 := NB363_389.out
                                                  have hnc115 := NB389_363.out
                                                  have hcz116_0 : wr.cell? ⟨gb363, 0, none⟩ = some (.int .i64 x364000_2) := (blk_cell BK363.out 0).trans rfl
                                                  have hcz116_1 : wr.cell? ⟨gb363, 1, none⟩ = some (.slice Ao82 x364001_2.length co82) := (blk_cell BK363.out 1).trans rfl
                                                  have hfz116_0 := blk_frozen BK363.out 0
                                                  have hfz116_1 := blk_frozen BK363.out 1
                                                  go_wp2_with (first | ((with_reducible refine gate_callee (f := 34) rfl ?_); refine goesL_ (some 129) rfl rfl Try.func34 (by kernel_rfl) rfl #[.agg #[.int .i64 x364000_2, .slice Ao82 x364001_2.length co82], .int .i64 (rd x8_2 x122_5)] rfl (by (try simp only [List.map_toArray, List.map_cons, List.map_nil]); first | done | rfl | (simp only [List.length_drop, List.length_take]; rfl)) ?_; (with_reducible refine (treap_Find.calls x364000_2 _ _ x364001_2 (rd x8_2 x122_5) t397 t398 _ ?side1 ?side2 A98.out).mono ?_); (case side1 => repeat (first | exact (Kd.R_reads' HO_364001.out).2.2 | (with_reducible refine Kd.C_alloc ?_ _) | (with_reducible refine Kd.C_drewN ?_ _) | (with_reducible refine Kd.C_drew ?_))); (case side2 => exact (Kd.R_reads' HO_364001.out).2.1); rintro e w117 ⟨rfl, hb⟩; refine ⟨_, rfl, ?_⟩; have n0_ := Aside0.mk (Kd.R_below (by (with_reducible repeat (first | apply Kd.R_alloc | apply Kd.R_drewN | apply Kd.R_drew)); exact HO_8.out) hb); have n1_ := Aside0.mk (Kd.R_below (by (with_reducible repeat (first | apply Kd.R_alloc | apply Kd.R_drewN | apply Kd.R_drew)); exact HO_120.out) hb); have n2_ := Aside0.mk (Kd.R_below (by (with_reducible repeat (first | apply Kd.R_alloc | apply Kd.R_drewN | apply Kd.R_drew)); exact HO_364001.out) hb); have n3_ := Aside0.mk (Kd.R_below (by (with_reducible repeat (first | apply Kd.R_alloc | apply Kd.R_drewN | apply Kd.R_drew)); exact HO_390001.out) hb); have n4_ := Aside0.mk (blk_below (g := gb363) (o := .cells #[.int .i64 x364000_2, .slice Ao82 x364001_2.length co82] 50 (0, 0)) (by (with_reducible repeat (first | refine blk_drewN ?_ _ | refine blk_drew ?_ | refine blk_alloc ?_ _)); exact BK363.out) hb); have n5_ := Aside0.mk (blk_below (g := gb389) (o := .cells #[.int .i64 t381, .slice Ao80 t382.length co80] 50 (0, 0)) (by (with_reducible repeat (first | refine blk_drewN ?_ _ | refine blk_drew ?_ | refine blk_alloc ?_ _)); exact BK389.out) hb); have n6_ := Aside0.mk (below_step (by repeat (first | (with_reducible first | exact HB.out | apply below_alloc | apply pw_below_drewN | apply below_drew1 | refine below_set ?_ GE363.out | refine below_set ?_ GE389.out) | exact HB.out)) hb); clear HO_8; clear HO_120; clear HO_364001; clear HO_390001; clear BK363; clear BK389; clear HB; have HO_8 := n0_; have HO_120 := n1_; have HO_364001 := n2_; have HO_390001 := n3_; have BK363 := n4_; have BK389 := n5_; have HB := n6_; clear n0_ n1_ n2_ n3_ n4_ n5_ n6_; (try clear hb); (try clear hb2); (try clear hk); (try clear hi); have hcz118_0 : w117.cell? ⟨gb389, 0, none⟩ = some (.int .i64 t381) := (blk_cell BK389.out 0).trans rfl; have hcz118_1 : w117.cell? ⟨gb389, 1, none⟩ = some (.slice Ao80 t382.length co80) := (blk_cell BK389.out 1).trans rfl; have hfz118_0 := blk_frozen BK389.out 0; have hfz118_1 := blk_frozen BK389.out 1) | ((with_reducible refine gate_callee (f := 34) rfl ?_); refine goesL_ (some 135) rfl rfl Try.func34 (by kernel_rfl) rfl #[.agg #[.int .i64 t381, .slice Ao80 t382.length co80], .int .i64 (rd x8_2 x122_5)] rfl (by (try simp only [List.map_toArray, List.map_cons, List.map_nil]); first | done | rfl | (simp only [List.length_drop, List.length_take]; rfl)) ?_; (with_reducible refine (treap_Find.calls t381 _ _ t382 (rd x8_2 x122_5) t399 t400 _ ?side1 ?side2 A99.out).mono ?_); (case side1 => repeat (first | exact (Kd.R_reads' HO_390001.out).2.2 | (with_reducible refine Kd.C_alloc ?_ _) | (with_reducible refine Kd.C_drewN ?_ _) | (with_reducible refine Kd.C_drew ?_))); (case side2 => exact (Kd.R_reads' HO_390001.out).2.1); rintro e w119 ⟨rfl, hb⟩; refine ⟨_, rfl, ?_⟩; have n0_ := Aside0.mk (Kd.R_below (by (with_reducible repeat (first | apply Kd.R_alloc | apply Kd.R_drewN | apply Kd.R_drew)); exact HO_8.out) hb); have n1_ := Aside0.mk (Kd.R_below (by (with_reducible repeat (first | apply Kd.R_alloc | apply Kd.R_drewN | apply Kd.R_drew)); exact HO_120.out) hb); have n2_ := Aside0.mk (Kd.R_below (by (with_reducible repeat (first | apply Kd.R_alloc | apply Kd.R_drewN | apply Kd.R_drew)); exact HO_364001.out) hb); have n3_ := Aside0.mk (Kd.R_below (by (with_reducible repeat (first | apply Kd.R_alloc | apply Kd.R_drewN | apply Kd.R_drew)); exact HO_390001.out) hb); have n4_ := Aside0.mk (blk_below (g := gb363) (o := .cells #[.int .i64 x364000_2, .slice Ao82 x364001_2.length co82] 50 (0, 0)) (by (with_reducible repeat (first | refine blk_drewN ?_ _ | refine blk_drew ?_ | refine blk_alloc ?_ _)); exact BK363.out) hb); have n5_ := Aside0.mk (blk_below (g := gb389) (o := .cells #[.int .i64 t381, .slice Ao80 t382.length co80] 50 (0, 0)) (by (with_reducible repeat (first | refine blk_drewN ?_ _ | refine blk_drew ?_ | refine blk_alloc ?_ _)); exact BK389.out) hb); have n6_ := Aside0.mk (below_step (by repeat (first | (with_reducible first | exact HB.out | apply below_alloc | apply pw_below_drewN | apply below_drew1 | refine below_set ?_ GE363.out | refine below_set ?_ GE389.out) | exact HB.out)) hb); clear HO_8; clear HO_120; clear HO_364001; clear HO_390001; clear BK363; clear BK389; clear HB; have HO_8 := n0_; have HO_120 := n1_; have HO_364001 := n2_; have HO_390001 := n3_; have BK363 := n4_; have BK389 := n5_; have HB := n6_; clear n0_ n1_ n2_ n3_ n4_ n5_ n6_; (try clear hb); (try clear hb2); (try clear hk); (try clear hi)))
                                                  go_roundg k5
                                                  case measure => have := HJ4.out; have := HK2.out; have := HK3.out; have := HJ73.out; have := HK5.out; omega
                                                  case rel => exact ⟨(wrap64 (x122_5 + 1)), (by first | rfl | (simp; done) | (simp [*]; done)), H', ⟨by have := HJ4.out; have := HK2.out; have := HK3.out; have := HJ73.out; have := HK5.out; omega⟩, ⟨by (with_reducible repeat (first | apply Kd.R_alloc | apply Kd.R_drewN | apply Kd.R_drew)); exact HO_8.out⟩, ⟨by (with_reducible repeat (first | apply Kd.R_alloc | apply Kd.R_drewN | apply Kd.R_drew)); exact HO_120.out⟩, ⟨by (with_reducible repeat (first | apply Kd.R_alloc | apply Kd.R_drewN | apply Kd.R_drew)); exact HO_364001.out⟩, ⟨by (with_reducible repeat (first | apply Kd.R_alloc | apply Kd.R_drewN | apply Kd.R_drew)); exact HO_390001.out⟩, ⟨by (with_reducible repeat (first | refine blk_drewN ?_ _ | refine blk_drew ?_ | refine blk_alloc ?_ _)); exact BK363.out⟩, ⟨by (with_reducible repeat (first | refine blk_drewN ?_ _ | refine blk_drew ?_ | refine blk_alloc ?_ _)); exact BK389.out⟩, ⟨by repeat (first | (with_reducible first | exact HB.out | apply below_alloc | apply pw_below_drewN | apply below_drew1 | refine below_set ?_ GE363.out | refine below_set ?_ GE389.out) | exact HB.out)⟩⟩
                                            · rw [if_neg c102] at H
                                              have c102b0 : (t397 == t399) = false := beq_eq_false_iff_ne.mpr c102
                                              have c102b1 : (t397 != t399) = true := bne_iff_ne.mpr c102
                                              obtain rfl := Option.some.inj H
                                              have p396 : 0 ≤ (x122_5 : Int) := of_decide_eq_true (by first | (with_reducible assumption) | assumption)
                                              have q396 : x122_5 < (x8_2.length : Int) := of_decide_eq_true (by first | (with_reducible assumption) | assumption)
                                              obtain ⟨ad396, e396, hx396_0⟩ := Kd.at_int (Kd.R_reads' HO_120.out).2.2 x122_5 p396 q396
                                              cases e396
                                              replace p396 := eq_true p396
                                              replace q396 := eq_true q396
                                              have hnb120 := NB363_389.out
                                              have hnc120 := NB389_363.out
                                              have hcz121_0 : wr.cell? ⟨gb363, 0, none⟩ = some (.int .i64 x364000_2) := (blk_cell BK363.out 0).trans rfl
                                              have hcz121_1 : wr.cell? ⟨gb363, 1, none⟩ = some (.slice Ao82 x364001_2.length co82) := (blk_cell BK363.out 1).trans rfl
                                              have hfz121_0 := blk_frozen BK363.out 0
                                              have hfz121_1 := blk_frozen BK363.out 1
                                              go_wp2_with (first | ((with_reducible refine gate_callee (f := 34) rfl ?_); refine goesL_ (some 129) rfl rfl Try.func34 (by kernel_rfl) rfl #[.agg #[.int .i64 x364000_2, .slice Ao82 x364001_2.length co82], .int .i64 (rd x8_2 x122_5)] rfl (by (try simp only [List.map_toArray, List.map_cons, List.map_nil]); first | done | rfl | (simp only [List.length_drop, List.length_take]; rfl)) ?_; (with_reducible refine (treap_Find.calls x364000_2 _ _ x364001_2 (rd x8_2 x122_5) t397 t398 _ ?side1 ?side2 A98.out).mono ?_); (case side1 => repeat (first | exact (Kd.R_reads' HO_364001.out).2.2 | (with_reducible refine Kd.C_alloc ?_ _) | (with_reducible refine Kd.C_drewN ?_ _) | (with_reducible refine Kd.C_drew ?_))); (case side2 => exact (Kd.R_reads' HO_364001.out).2.1); rintro e w122 ⟨rfl, hb⟩; refine ⟨_, rfl, ?_⟩; have n0_ := Aside0.mk (Kd.R_below (by (with_reducible repeat (first | apply Kd.R_alloc | apply Kd.R_drewN | apply Kd.R_drew)); exact HO_8.out) hb); have n1_ := Aside0.mk (Kd.R_below (by (with_reducible repeat (first | apply Kd.R_alloc | apply Kd.R_drewN | apply Kd.R_drew)); exact HO_120.out) hb); have n2_ := Aside0.mk (Kd.R_below (by (with_reducible repeat (first | apply Kd.R_alloc | apply Kd.R_drewN | apply Kd.R_drew)); exact HO_364001.out) hb); have n3_ := Aside0.mk (Kd.R_below (by (with_reducible repeat (first | apply Kd.R_alloc | apply Kd.R_drewN | apply Kd.R_drew)); exact HO_390001.out) hb); have n4_ := Aside0.mk (blk_below (g := gb363) (o := .cells #[.int .i64 x364000_2, .slice Ao82 x364001_2.length co82] 50 (0, 0)) (by (with_reducible repeat (first | refine blk_drewN ?_ _ | refine blk_drew ?_ | refine blk_alloc ?_ _)); exact BK363.out) hb); have n5_ := Aside0.mk (blk_below (g := gb389) (o := .cells #[.int .i64 t381, .slice Ao80 t382.length co80] 50 (0, 0)) (by (with_reducible repeat (first | refine blk_drewN ?_ _ | refine blk_drew ?_ | refine blk_alloc ?_ _)); exact BK389.out) hb); have n6_ := Aside0.mk (below_step (by repeat (first | (with_reducible first | exact HB.out | apply below_alloc | apply pw_below_drewN | apply below_drew1 | refine below_set ?_ GE363.out | refine below_set ?_ GE389.out) | exact HB.out)) hb); clear HO_8; clear HO_120; clear HO_364001; clear HO_390001; clear BK363; clear BK389; clear HB; have HO_8 := n0_; have HO_120 := n1_; have HO_364001 := n2_; have HO_390001 := n3_; have BK363 := n4_; have BK389 := n5_; have HB := n6_; clear n0_ n1_ n2_ n3_ n4_ n5_ n6_; (try clear hb); (try clear hb2); (try clear hk); (try clear hi); have hcz123_0 : w122.cell? ⟨gb389, 0, none⟩ = some (.int .i64 t381) := (blk_cell BK389.out 0).trans rfl; have hcz123_1 : w122.cell? ⟨gb389, 1, none⟩ = some (.slice Ao80 t382.length co80) := (blk_cell BK389.out 1).trans rfl; have hfz123_0 := blk_frozen BK389.out 0; have hfz123_1 := blk_frozen BK389.out 1) | ((with_reducible refine gate_callee (f := 34) rfl ?_); refine goesL_ (some 135) rfl rfl Try.func34 (by kernel_rfl) rfl #[.agg #[.int .i64 t381, .slice Ao80 t382.length co80], .int .i64 (rd x8_2 x122_5)] rfl (by (try simp only [List.map_toArray, List.map_cons, List.map_nil]); first | done | rfl | (simp only [List.length_drop, List.length_take]; rfl)) ?_; (with_reducible refine (treap_Find.calls t381 _ _ t382 (rd x8_2 x122_5) t399 t400 _ ?side1 ?side2 A99.out).mono ?_); (case side1 => repeat (first | exact (Kd.R_reads' HO_390001.out).2.2 | (with_reducible refine Kd.C_alloc ?_ _) | (with_reducible refine Kd.C_drewN ?_ _) | (with_reducible refine Kd.C_drew ?_))); (case side2 => exact (Kd.R_reads' HO_390001.out).2.1); rintro e w124 ⟨rfl, hb⟩; refine ⟨_, rfl, ?_⟩; have n0_ := Aside0.mk (Kd.R_below (by (with_reducible repeat (first | apply Kd.R_alloc | apply Kd.R_drewN | apply Kd.R_drew)); exact HO_8.out) hb); have n1_ := Aside0.mk (Kd.R_below (by (with_reducible repeat (first | apply Kd.R_alloc | apply Kd.R_drewN | apply Kd.R_drew)); exact HO_120.out) hb); have n2_ := Aside0.mk (Kd.R_below (by (with_reducible repeat (first | apply Kd.R_alloc | apply Kd.R_drewN | apply Kd.R_drew)); exact HO_364001.out) hb); have n3_ := Aside0.mk (Kd.R_below (by (with_reducible repeat (first | apply Kd.R_alloc | apply Kd.R_drewN | apply Kd.R_drew)); exact HO_390001.out) hb); have n4_ := Aside0.mk (blk_below (g := gb363) (o := .cells #[.int .i64 x364000_2, .slice Ao82 x364001_2.length co82] 50 (0, 0)) (by (with_reducible repeat (first | refine blk_drewN ?_ _ | refine blk_drew ?_ | refine blk_alloc ?_ _)); exact BK363.out) hb); have n5_ := Aside0.mk (blk_below (g := gb389) (o := .cells #[.int .i64 t381, .slice Ao80 t382.length co80] 50 (0, 0)) (by (with_reducible repeat (first | refine blk_drewN ?_ _ | refine blk_drew ?_ | refine blk_alloc ?_ _)); exact BK389.out) hb); have n6_ := Aside0.mk (below_step (by repeat (first | (with_reducible first | exact HB.out | apply below_alloc | apply pw_below_drewN | apply below_drew1 | refine below_set ?_ GE363.out | refine below_set ?_ GE389.out) | exact HB.out)) hb); clear HO_8; clear HO_120; clear HO_364001; clear HO_390001; clear BK363; clear BK389; clear HB; have HO_8 := n0_; have HO_120 := n1_; have HO_364001 := n2_; have HO_390001 := n3_; have BK363 := n4_; have BK389 := n5_; have HB := n6_; clear n0_ n1_ n2_ n3_ n4_ n5_ n6_; (try clear hb); (try clear hb2); (try clear hk); (try clear hi)))
                                              go_ret
                                              exact ⟨by first | rfl | (simp [errW_none, errW_some] <;> rfl) | (simp only [← hji14]; first | rfl | (simp [errW_none, errW_some] <;> rfl)) | (simp [*, errW_none, errW_some] <;> rfl), by repeat (first | (with_reducible first | exact HB.out | apply below_alloc | apply pw_below_drewN | apply below_drew1 | refine below_set ?_ GE363.out | refine below_set ?_ GE389.out) | exact HB.out)⟩
                                          · rw [if_neg c101] at H
                                            have c101b0 : (t400 == 0) = false := beq_eq_false_iff_ne.mpr c101
                                            have c101b1 : (t400 != 0) = true := bne_iff_ne.mpr c101
                                            obtain rfl := Option.some.inj H
                                            have p396 : 0 ≤ (x122_5 : Int) := of_decide_eq_true (by first | (with_reducible assumption) | assumption)
                                            have q396 : x122_5 < (x8_2.length : Int) := of_decide_eq_true (by first | (with_reducible assumption) | assumption)
                                            obtain ⟨ad396, e396, hx396_0⟩ := Kd.at_int (Kd.R_reads' HO_120.out).2.2 x122_5 p396 q396
                                            cases e396
                                            replace p396 := eq_true p396
                                            replace q396 := eq_true q396
                                            have hnb125 := NB363_389.out
                                            have hnc125 := NB389_363.out
                                            have hcz126_0 : wr.cell? ⟨gb363, 0, none⟩ = some (.int .i64 x364000_2) := (blk_cell BK363.out 0).trans rfl
                                            have hcz126_1 : wr.cell? ⟨gb363, 1, none⟩ = some (.slice Ao82 x364001_2.length co82) := (blk_cell BK363.out 1).trans rfl
                                            have hfz126_0 := blk_frozen BK363.out 0
                                            have hfz126_1 := blk_frozen BK363.out 1
                                            go_wp2_with (first | ((with_reducible refine gate_callee (f := 34) rfl ?_); refine goesL_ (some 129) rfl rfl Try.func34 (by kernel_rfl) rfl #[.agg #[.int .i64 x364000_2, .slice Ao82 x364001_2.length co82], .int .i64 (rd x8_2 x122_5)] rfl (by (try simp only [List.map_toArray, List.map_cons, List.map_nil]); first | done | rfl | (simp only [List.length_drop, List.length_take]; rfl)) ?_; (with_reducible refine (treap_Find.calls x364000_2 _ _ x364001_2 (rd x8_2 x122_5) t397 t398 _ ?side1 ?side2 A98.out).mono ?_); (case side1 => repeat (first | exact (Kd.R_reads' HO_364001.out).2.2 | (with_reducible refine Kd.C_alloc ?_ _) | (with_reducible refine Kd.C_drewN ?_ _) | (with_reducible refine Kd.C_drew ?_))); (case side2 => exact (Kd.R_reads' HO_364001.out).2.1); rintro e w127 ⟨rfl, hb⟩; refine ⟨_, rfl, ?_⟩; have n0_ := Aside0.mk (Kd.R_below (by (with_reducible repeat (first | apply Kd.R_alloc | apply Kd.R_drewN | apply Kd.R_drew)); exact HO_8.out) hb); have n1_ := Aside0.mk (Kd.R_below (by (with_reducible repeat (first | apply Kd.R_alloc | apply Kd.R_drewN | apply Kd.R_drew)); exact HO_120.out) hb); have n2_ := Aside0.mk (Kd.R_below (by (with_reducible repeat (first | apply Kd.R_alloc | apply Kd.R_drewN | apply Kd.R_drew)); exact HO_364001.out) hb); have n3_ := Aside0.mk (Kd.R_below (by (with_reducible repeat (first | apply Kd.R_alloc | apply Kd.R_drewN | apply Kd.R_drew)); exact HO_390001.out) hb); have n4_ := Aside0.mk (blk_below (g := gb363) (o := .cells #[.int .i64 x364000_2, .slice Ao82 x364001_2.length co82] 50 (0, 0)) (by (with_reducible repeat (first | refine blk_drewN ?_ _ | refine blk_drew ?_ | refine blk_alloc ?_ _)); exact BK363.out) hb); have n5_ := Aside0.mk (blk_below (g := gb389) (o := .cells #[.int .i64 t381, .slice Ao80 t382.length co80] 50 (0, 0)) (by (with_reducible repeat (first | refine blk_drewN ?_ _ | refine blk_drew ?_ | refine blk_alloc ?_ _)); exact BK389.out) hb); have n6_ := Aside0.mk (below_step (by repeat (first | (with_reducible first | exact HB.out | apply below_alloc | apply pw_below_drewN | apply below_drew1 | refine below_set ?_ GE363.out | refine below_set ?_ GE389.out) | exact HB.out)) hb); clear HO_8; clear HO_120; clear HO_364001; clear HO_390001; clear BK363; clear BK389; clear HB; have HO_8 := n0_; have HO_120 := n1_; have HO_364001 := n2_; have HO_390001 := n3_; have BK363 := n4_; have BK389 := n5_; have HB := n6_; clear n0_ n1_ n2_ n3_ n4_ n5_ n6_; (try clear hb); (try clear hb2); (try clear hk); (try clear hi); have hcz128_0 : w127.cell? ⟨gb389, 0, none⟩ = some (.int .i64 t381) := (blk_cell BK389.out 0).trans rfl; have hcz128_1 : w127.cell? ⟨gb389, 1, none⟩ = some (.slice Ao80 t382.length co80) := (blk_cell BK389.out 1).trans rfl; have hfz128_0 := blk_frozen BK389.out 0; have hfz128_1 := blk_frozen BK389.out 1) | ((with_reducible refine gate_callee (f := 34) rfl ?_); refine goesL_ (some 135) rfl rfl Try.func34 (by kernel_rfl) rfl #[.agg #[.int .i64 t381, .slice Ao80 t382.length co80], .int .i64 (rd x8_2 x122_5)] rfl (by (try simp only [List.map_toArray, List.map_cons, List.map_nil]); first | done | rfl | (simp only [List.length_drop, List.length_take]; rfl)) ?_; (with_reducible refine (treap_Find.calls t381 _ _ t382 (rd x8_2 x122_5) t399 t400 _ ?side1 ?side2 A99.out).mono ?_); (case side1 => repeat (first | exact (Kd.R_reads' HO_390001.out).2.2 | (with_reducible refine Kd.C_alloc ?_ _) | (with_reducible refine Kd.C_drewN ?_ _) | (with_reducible refine Kd.C_drew ?_))); (case side2 => exact (Kd.R_reads' HO_390001.out).2.1); rintro e w129 ⟨rfl, hb⟩; refine ⟨_, rfl, ?_⟩; have n0_ := Aside0.mk (Kd.R_below (by (with_reducible repeat (first | apply Kd.R_alloc | apply Kd.R_drewN | apply Kd.R_drew)); exact HO_8.out) hb); have n1_ := Aside0.mk (Kd.R_below (by (with_reducible repeat (first | apply Kd.R_alloc | apply Kd.R_drewN | apply Kd.R_drew)); exact HO_120.out) hb); have n2_ := Aside0.mk (Kd.R_below (by (with_reducible repeat (first | apply Kd.R_alloc | apply Kd.R_drewN | apply Kd.R_drew)); exact HO_364001.out) hb); have n3_ := Aside0.mk (Kd.R_below (by (with_reducible repeat (first | apply Kd.R_alloc | apply Kd.R_drewN | apply Kd.R_drew)); exact HO_390001.out) hb); have n4_ := Aside0.mk (blk_below (g := gb363) (o := .cells #[.int .i64 x364000_2, .slice Ao82 x364001_2.length co82] 50 (0, 0)) (by (with_reducible repeat (first | refine blk_drewN ?_ _ | refine blk_drew ?_ | refine blk_alloc ?_ _)); exact BK363.out) hb); have n5_ := Aside0.mk (blk_below (g := gb389) (o := .cells #[.int .i64 t381, .slice Ao80 t382.length co80] 50 (0, 0)) (by (with_reducible repeat (first | refine blk_drewN ?_ _ | refine blk_drew ?_ | refine blk_alloc ?_ _)); exact BK389.out) hb); have n6_ := Aside0.mk (below_step (by repeat (first | (with_reducible first | exact HB.out | apply below_alloc | apply pw_below_drewN | apply below_drew1 | refine below_set ?_ GE363.out | refine below_set ?_ GE389.out) | exact HB.out)) hb); clear HO_8; clear HO_120; clear HO_364001; clear HO_390001; clear BK363; clear BK389; clear HB; have HO_8 := n0_; have HO_120 := n1_; have HO_364001 := n2_; have HO_390001 := n3_; have BK363 := n4_; have BK389 := n5_; have HB := n6_; clear n0_ n1_ n2_ n3_ n4_ n5_ n6_; (try clear hb); (try clear hb2); (try clear hk); (try clear hi)))
                                            go_ret
                                            exact ⟨by first | rfl | (simp [errW_none, errW_some] <;> rfl) | (simp only [← hji14]; first | rfl | (simp [errW_none, errW_some] <;> rfl)) | (simp [*, errW_none, errW_some] <;> rfl), by repeat (first | (with_reducible first | exact HB.out | apply below_alloc | apply pw_below_drewN | apply below_drew1 | refine below_set ?_ GE363.out | refine below_set ?_ GE389.out) | exact HB.out)⟩
                                        · rw [if_neg c100] at H
                                          have c100b0 : (t398 == 0) = false := beq_eq_false_iff_ne.mpr c100
                                          have c100b1 : (t398 != 0) = true := bne_iff_ne.mpr c100
                                          obtain rfl := Option.some.inj H
                                          have p396 : 0 ≤ (x122_5 : Int) := of_decide_eq_true (by first | (with_reducible assumption) | assumption)
                                          have q396 : x122_5 < (x8_2.length : Int) := of_decide_eq_true (by first | (with_reducible assumption) | assumption)
                                          obtain ⟨ad396, e396, hx396_0⟩ := Kd.at_int (Kd.R_reads' HO_120.out).2.2 x122_5 p396 q396
                                          cases e396
                                          replace p396 := eq_true p396
                                          replace q396 := eq_true q396
                                          have hnb130 := NB363_389.out
                                          have hnc130 := NB389_363.out
                                          have hcz131_0 : wr.cell? ⟨gb363, 0, none⟩ = some (.int .i64 x364000_2) := (blk_cell BK363.out 0).trans rfl
                                          have hcz131_1 : wr.cell? ⟨gb363, 1, none⟩ = some (.slice Ao82 x364001_2.length co82) := (blk_cell BK363.out 1).trans rfl
                                          have hfz131_0 := blk_frozen BK363.out 0
                                          have hfz131_1 := blk_frozen BK363.out 1
                                          go_wp2_with (first | ((with_reducible refine gate_callee (f := 34) rfl ?_); refine goesL_ (some 129) rfl rfl Try.func34 (by kernel_rfl) rfl #[.agg #[.int .i64 x364000_2, .slice Ao82 x364001_2.length co82], .int .i64 (rd x8_2 x122_5)] rfl (by (try simp only [List.map_toArray, List.map_cons, List.map_nil]); first | done | rfl | (simp only [List.length_drop, List.length_take]; rfl)) ?_; (with_reducible refine (treap_Find.calls x364000_2 _ _ x364001_2 (rd x8_2 x122_5) t397 t398 _ ?side1 ?side2 A98.out).mono ?_); (case side1 => repeat (first | exact (Kd.R_reads' HO_364001.out).2.2 | (with_reducible refine Kd.C_alloc ?_ _) | (with_reducible refine Kd.C_drewN ?_ _) | (with_reducible refine Kd.C_drew ?_))); (case side2 => exact (Kd.R_reads' HO_364001.out).2.1); rintro e w132 ⟨rfl, hb⟩; refine ⟨_, rfl, ?_⟩; have n0_ := Aside0.mk (Kd.R_below (by (with_reducible repeat (first | apply Kd.R_alloc | apply Kd.R_drewN | apply Kd.R_drew)); exact HO_8.out) hb); have n1_ := Aside0.mk (Kd.R_below (by (with_reducible repeat (first | apply Kd.R_alloc | apply Kd.R_drewN | apply Kd.R_drew)); exact HO_120.out) hb); have n2_ := Aside0.mk (Kd.R_below (by (with_reducible repeat (first | apply Kd.R_alloc | apply Kd.R_drewN | apply Kd.R_drew)); exact HO_364001.out) hb); have n3_ := Aside0.mk (Kd.R_below (by (with_reducible repeat (first | apply Kd.R_alloc | apply Kd.R_drewN | apply Kd.R_drew)); exact HO_390001.out) hb); have n4_ := Aside0.mk (blk_below (g := gb363) (o := .cells #[.int .i64 x364000_2, .slice Ao82 x364001_2.length co82] 50 (0, 0)) (by (with_reducible repeat (first | refine blk_drewN ?_ _ | refine blk_drew ?_ | refine blk_alloc ?_ _)); exact BK363.out) hb); have n5_ := Aside0.mk (blk_below (g := gb389) (o := .cells #[.int .i64 t381, .slice Ao80 t382.length co80] 50 (0, 0)) (by (with_reducible repeat (first | refine blk_drewN ?_ _ | refine blk_drew ?_ | refine blk_alloc ?_ _)); exact BK389.out) hb); have n6_ := Aside0.mk (below_step (by repeat (first | (with_reducible first | exact HB.out | apply below_alloc | apply pw_below_drewN | apply below_drew1 | refine below_set ?_ GE363.out | refine below_set ?_ GE389.out) | exact HB.out)) hb); clear HO_8; clear HO_120; clear HO_364001; clear HO_390001; clear BK363; clear BK389; clear HB; have HO_8 := n0_; have HO_120 := n1_; have HO_364001 := n2_; have HO_390001 := n3_; have BK363 := n4_; have BK389 := n5_; have HB := n6_; clear n0_ n1_ n2_ n3_ n4_ n5_ n6_; (try clear hb); (try clear hb2); (try clear hk); (try clear hi); have hcz133_0 : w132.cell? ⟨gb389, 0, none⟩ = some (.int .i64 t381) := (blk_cell BK389.out 0).trans rfl; have hcz133_1 : w132.cell? ⟨gb389, 1, none⟩ = some (.slice Ao80 t382.length co80) := (blk_cell BK389.out 1).trans rfl; have hfz133_0 := blk_frozen BK389.out 0; have hfz133_1 := blk_frozen BK389.out 1) | ((with_reducible refine gate_callee (f := 34) rfl ?_); refine goesL_ (some 135) rfl rfl Try.func34 (by kernel_rfl) rfl #[.agg #[.int .i64 t381, .slice Ao80 t382.length co80], .int .i64 (rd x8_2 x122_5)] rfl (by (try simp only [List.map_toArray, List.map_cons, List.map_nil]); first | done | rfl | (simp only [List.length_drop, List.length_take]; rfl)) ?_; (with_reducible refine (treap_Find.calls t381 _ _ t382 (rd x8_2 x122_5) t399 t400 _ ?side1 ?side2 A99.out).mono ?_); (case side1 => repeat (first | exact (Kd.R_reads' HO_390001.out).2.2 | (with_reducible refine Kd.C_alloc ?_ _) | (with_reducible refine Kd.C_drewN ?_ _) | (with_reducible refine Kd.C_drew ?_))); (case side2 => exact (Kd.R_reads' HO_390001.out).2.1); rintro e w134 ⟨rfl, hb⟩; refine ⟨_, rfl, ?_⟩; have n0_ := Aside0.mk (Kd.R_below (by (with_reducible repeat (first | apply Kd.R_alloc | apply Kd.R_drewN | apply Kd.R_drew)); exact HO_8.out) hb); have n1_ := Aside0.mk (Kd.R_below (by (with_reducible repeat (first | apply Kd.R_alloc | apply Kd.R_drewN | apply Kd.R_drew)); exact HO_120.out) hb); have n2_ := Aside0.mk (Kd.R_below (by (with_reducible repeat (first | apply Kd.R_alloc | apply Kd.R_drewN | apply Kd.R_drew)); exact HO_364001.out) hb); have n3_ := Aside0.mk (Kd.R_below (by (with_reducible repeat (first | apply Kd.R_alloc | apply Kd.R_drewN | apply Kd.R_drew)); exact HO_390001.out) hb); have n4_ := Aside0.mk (blk_below (g := gb363) (o := .cells #[.int .i64 x364000_2, .slice Ao82 x364001_2.length co82] 50 (0, 0)) (by (with_reducible repeat (first | refine blk_drewN ?_ _ | refine blk_drew ?_ | refine blk_alloc ?_ _)); exact BK363.out) hb); have n5_ := Aside0.mk (blk_below (g := gb389) (o := .cells #[.int .i64 t381, .slice Ao80 t382.length co80] 50 (0, 0)) (by (with_reducible repeat (first | refine blk_drewN ?_ _ | refine blk_drew ?_ | refine blk_alloc ?_ _)); exact BK389.out) hb); have n6_ := Aside0.mk (below_step (by repeat (first | (with_reducible first | exact HB.out | apply below_alloc | apply pw_below_drewN | apply below_drew1 | refine below_set ?_ GE363.out | refine below_set ?_ GE389.out) | exact HB.out)) hb); clear HO_8; clear HO_120; clear HO_364001; clear HO_390001; clear BK363; clear BK389; clear HB; have HO_8 := n0_; have HO_120 := n1_; have HO_364001 := n2_; have HO_390001 := n3_; have BK363 := n4_; have BK389 := n5_; have HB := n6_; clear n0_ n1_ n2_ n3_ n4_ n5_ n6_; (try clear hb); (try clear hb2); (try clear hk); (try clear hi)))
                                          go_ret
                                          exact ⟨by first | rfl | (simp [errW_none, errW_some] <;> rfl) | (simp only [← hji14]; first | rfl | (simp [errW_none, errW_some] <;> rfl)) | (simp [*, errW_none, errW_some] <;> rfl), by repeat (first | (with_reducible first | exact HB.out | apply below_alloc | apply pw_below_drewN | apply below_drew1 | refine below_set ?_ GE363.out | refine below_set ?_ GE389.out) | exact HB.out)⟩
                                      · rw [if_neg c97] at H
                                        exact absurd H (by simp)
                                    · rw [if_neg c96] at H
                                      exact absurd H (by simp)
                                  · rw [if_neg c95] at H
                                    have c95b0 : decide (x122_5 < (x8_2.length : Int)) = false := decide_eq_false c95
                                    clear c95
                                    obtain rfl := Option.some.inj H
                                    go_wp2
                                    go_ret
                                    exact ⟨by first | rfl | (simp [errW_none, errW_some] <;> rfl) | (simp only [← hji14]; first | rfl | (simp [errW_none, errW_some] <;> rfl)) | (simp [*, errW_none, errW_some] <;> rfl), by repeat (first | (with_reducible first | exact HB.out | apply below_alloc | apply pw_below_drewN | apply below_drew1 | refine below_set ?_ GE363.out | refine below_set ?_ GE389.out) | exact HB.out)⟩
          · rw [if_neg c16] at H
            exact absurd H (by simp)
        · rw [if_neg c15] at H
          exact absurd H (by simp)

/-- THE ONE PURE STATEMENT of deadboltlaw08_TreapShape: yours. -/
def deadboltlaw08_TreapShape.Pure : Prop := ∀ (l0 : List Int) (l1 : List Int) (a2 : Int), l0.length ≤ maxLen → l0.length * 8 ≤ 140737488351232 → (∀ x ∈ l0, (Lit.int .i64 x).wf = true) → l1.length ≤ maxLen → l1.length * 8 ≤ 140737488351232 → (∀ x ∈ l1, (Lit.int .i64 x).wf = true) → (Lit.int .i64 a2).wf = true → ∃ k, deadboltlaw08_TreapShape.f k l0 l1 a2 = some true
theorem deadboltlaw08_TreapShape.walk (P : deadboltlaw08_TreapShape.Pure) (a0 : Option Addr) (len0 cap0 : Nat) (z0 : List Int) (a1 : Option Addr) (len1 cap1 : Nat) (z1 : List Int) (a2 : Int) (w : World) (w0 : (a0 = none ∧ len0 = 0 ∧ cap0 = 0 ∧ z0 = []) ∨ ∃ x, a0 = some x ∧ len0 ≤ cap0 ∧ cap0 ≤ maxLen ∧ z0.length = cap0 ∧ (∀ i, i < z0.length → w.cell? (x.add i) = some (.int .i64 (z0.getD i 0))) ∧ ∀ n ∈ z0, (Lit.int .i64 n).wf = true) (y0 : len0 * 8 ≤ 140737488351232) (w1 : (a1 = none ∧ len1 = 0 ∧ cap1 = 0 ∧ z1 = []) ∨ ∃ x, a1 = some x ∧ len1 ≤ cap1 ∧ cap1 ≤ maxLen ∧ z1.length = cap1 ∧ (∀ i, i < z1.length → w.cell? (x.add i) = some (.int .i64 (z1.getD i 0))) ∧ ∀ n ∈ z1, (Lit.int .i64 n).wf = true) (y1 : len1 * 8 ≤ 140737488351232) (w2 : (Lit.int .i64 a2).wf = true) :
    Calls Try.prog 11 #[.slice a0 len0 cap0, .slice a1 len1 cap1, .int .i64 a2] w fun e w' => e = .returned (.bool true) ∧ Below w.heap.size w w' := by
  obtain ⟨l0, rfl, hr0, hm0, hw0, hc0⟩ := ReadsInt.ofRowC w0
  obtain ⟨l1, rfl, hr1, hm1, hw1, hc1⟩ := ReadsInt.ofRowC w1
  obtain ⟨k, h⟩ := P l0 l1 a2 hm0 y0 hw0 hm1 y1 hw1 w2
  refine (deadboltlaw08_TreapShape.calls k _ _ l0 _ _ l1 a2 true w (Kd.C_of_reads (d := (0 : Int)) (h1 := fun _ => rfl) hr0) hc0 (Kd.C_of_reads (d := (0 : Int)) (h1 := fun _ => rfl) hr1) hc1 h).mono ?_
  rintro e w' ⟨rfl, hd⟩
  exact ⟨rfl, hd⟩

end Go.Proofs.Ytjdjmhagafmkaaa.PX

/-
  In whatever order keys come and go: the law's plain form tells true. Plain lists.
-/
namespace Go.Proofs.Ytjdjmhagafmkaaa.PX
open Go.RowKit Treap Go.Proofs.YtjdjmhagafmkaaaW.PrintWords Go.Proofs.YtjdjmhagafmkaaaW.PrintLast Go.Proofs.YtjdjmhagafmkaaaW.PrintMore
namespace TreapP
theorem without_l0 (key : Int) (l : List Int) (hn : l.length ≤ 1000) : ∀ (d i k : Nat) (acc : List Int), i + d = l.length → acc.length ≤ i → d < k →
    deadboltref08_Without.l0 k key acc l (l.length : Int) (i : Int) = some (acc ++ (l.drop i).filter (fun x => !(x == key))) := by
  intro d
  induction d with
  | zero =>
    intro i k acc hi ha hk
    obtain ⟨k, rfl⟩ : ∃ q, k = q + 1 := ⟨k - 1, by omega⟩
    rw [deadboltref08_Without.l0, if_neg (by omega), List.drop_eq_nil_of_le (by omega)]
    simp
  | succ d ih =>
    intro i k acc hi ha hk
    obtain ⟨k, rfl⟩ : ∃ q, k = q + 1 := ⟨k - 1, by omega⟩
    have hlt : i < l.length := by omega
    rw [deadboltref08_Without.l0, if_pos (by omega), if_pos (by omega), if_pos (by omega), w64_next hlt hn, rdI hlt, List.drop_eq_getElem_cons hlt, List.filter_cons]
    by_cases he : l[i] = key
    · rw [if_pos he, ih (i + 1) k acc (by omega) (by omega) (by omega), if_neg (by simp [he])]
    · rw [if_neg he, if_pos (by omega), ih (i + 1) k _ (by omega) (by simp; omega) (by omega), if_pos (by simp [he])]
      simp
theorem without_f (key : Int) (l : List Int) (hn : l.length ≤ 1000) (k : Nat) (hk : l.length < k) : deadboltref08_Without.f k l key = some (l.filter (fun x => !(x == key))) := without_l0 key l hn l.length 0 k [] (by omega) (by simp) hk
theorem same_l0 (l m : List Int) (hm : l.length = m.length) (hn : l.length ≤ 1000) : ∀ (d i k : Nat), i + d = l.length → d < k →
    deadboltref08_Same.l0 k l m (l.length : Int) (i : Int) = some (decide (l.drop i = m.drop i)) := by
  intro d
  induction d with
  | zero =>
    intro i k hi hk
    obtain ⟨k, rfl⟩ : ∃ q, k = q + 1 := ⟨k - 1, by omega⟩
    rw [deadboltref08_Same.l0, if_neg (by omega), List.drop_eq_nil_of_le (by omega), List.drop_eq_nil_of_le (by omega)]
    rfl
  | succ d ih =>
    intro i k hi hk
    obtain ⟨k, rfl⟩ : ∃ q, k = q + 1 := ⟨k - 1, by omega⟩
    have hlt : i < l.length := by omega
    have hlt2 : i < m.length := by omega
    rw [deadboltref08_Same.l0, if_pos (by omega), if_pos (by omega), if_pos (by omega), if_pos (by omega), w64_next hlt hn, rdI hlt, rdI hlt2]
    have e1 : l.drop i = l[i] :: l.drop (i + 1) := List.drop_eq_getElem_cons hlt
    have e2 : m.drop i = m[i] :: m.drop (i + 1) := List.drop_eq_getElem_cons hlt2
    rw [e1, e2]
    by_cases he : l[i] = m[i]
    · rw [if_pos he, ih (i + 1) k (by omega) (by omega), he]
      exact congrArg some (decide_eq_decide.2 ⟨fun h => by rw [h], fun h => (List.cons.inj h).2⟩)
    · rw [if_neg he, decide_eq_false (by intro h; exact he (List.cons.inj h).1)]
theorem same_f (l m : List Int) (hn : l.length ≤ 1000) (k : Nat) (hk : l.length < k) : deadboltref08_Same.f k l m = some (decide (l = m)) := by
  unfold deadboltref08_Same.f
  by_cases h : l.length = m.length
  · rw [if_pos (by omega)]
    exact same_l0 l m h hn l.length 0 k (by omega) hk
  · rw [if_neg (by omega), decide_eq_false (fun e => h (by rw [e]))]
section
variable {root : Int} {ns : List S87} {keys : List Int}
theorem filter_mid (key : Int) : ∀ (A B : List Int), (A ++ key :: B).Pairwise (· < ·) → (A ++ key :: B).filter (fun x => !(x == key)) = A ++ B := by
  intro A B h
  rw [List.pairwise_append, List.pairwise_cons] at h
  rw [List.filter_append, List.filter_cons, if_neg (by simp)]
  congr 1
  · rw [List.filter_eq_self]
    intro x hx
    have := h.2.2 x hx key (by simp)
    simp
    omega
  · rw [List.filter_eq_self]
    intro x hx
    have := h.2.1.1 x hx
    simp
    omega
theorem Tr.del_none (h : Tr root ns keys) (h64 : ns.length ≤ 64) {key : Int} (hk : isKey key = true) (hin : key ∉ keys) : treap_Del.f root ns key = some (0, [], 4) := by
  obtain ⟨t, hg, rfl⟩ := h
  unfold treap_Del.f
  have e : delF (ns.map toNd) root key = some (([], 0), 4) := Treap.del_none hg (by simpa using h64) hk hin
  rw [if_pos (by omega), e]
  rfl
theorem Tr.del (h : Tr root ns keys) (h64 : ns.length ≤ 64) {key : Int} (hk : isKey key = true) (hin : key ∈ keys) : ∃ root' ns', treap_Del.f root ns key = some (root', ns', 0) ∧ ns'.length = ns.length - 1 ∧ Tr root' ns' (keys.filter (fun x => !(x == key))) := by
  obtain ⟨t, hg, rfl⟩ := h
  obtain ⟨s', t', h1, h2, h3, A, B, h4, h5⟩ := del_good hg (by simpa using h64) hk hin
  have h1' : delF (ns.map toNd) root key = some (s', 0) := h1
  have hup := hg.up
  refine ⟨s'.2, s'.1.map ofNd, ?_, by simpa using h2, t', ?_, ?_⟩
  · unfold treap_Del.f
    rw [if_pos (by omega), h1']
    rfl
  · rw [map_to_of]; exact h3
  · rw [map_to_of, h4, filter_mid key A B (by rw [← h4]; exact hup), ← h5]
theorem Tr.right (h : Tr root ns keys) (h64 : ns.length ≤ 64) : treap_Right.f root ns = some true := by
  obtain ⟨t, hg, rfl⟩ := h
  unfold treap_Right.f
  rw [if_pos (by omega)]
  exact congrArg some (hg.right (by simpa using h64))
theorem Tr.all (h : Tr root ns keys) (h64 : ns.length ≤ 64) : treap_Keys.f root ns = some (keys, 0) := by
  obtain ⟨t, hg, rfl⟩ := h
  unfold treap_Keys.f keysF
  have h1 : rightB (ns.map toNd) root = true := hg.right (by simpa using h64)
  rw [if_pos (by omega), if_pos h1]
  exact congrArg some (Prod.ext hg.keysL rfl)
theorem Tr.find (h : Tr root ns keys) (h64 : ns.length ≤ 64) {key : Int} (hk : isKey key = true) (hin : key ∈ keys) : ∃ d : KT, d.Heap ∧ d.keys = keys ∧ treap_Find.f root ns key = some ((((KT.dep key d : Nat) : Int), (0 : Int)) : Int × Int) := by
  obtain ⟨t, hg, rfl⟩ := h
  refine ⟨t.kt (K (ns.map toNd, root)), kt_heap _ t hg.heap, kt_keys _ t, ?_⟩
  unfold treap_Find.f
  have e : findF (ns.map toNd) root key = _ := find_good hg (by simpa using h64) hk
  rw [if_pos (by omega), e, if_pos hin]
theorem sorted_ext : ∀ (a b : List Int), a.Pairwise (· < ·) → b.Pairwise (· < ·) → (∀ x, x ∈ a ↔ x ∈ b) → a = b := by
  intro a
  induction a with
  | nil =>
    intro b _ _ h
    cases b with
    | nil => rfl
    | cons y b => exact absurd ((h y).2 (by simp)) (by simp)
  | cons x a ih =>
    intro b ha hb h
    cases b with
    | nil => exact absurd ((h x).1 (by simp)) (by simp)
    | cons y b =>
      rw [List.pairwise_cons] at ha hb
      have hxy : x = y := by
        rcases List.mem_cons.1 ((h x).1 (by simp)) with e | hx
        · exact e
        · rcases List.mem_cons.1 ((h y).2 (by simp)) with e | hy
          · exact e.symm
          · have h1 := hb.1 x hx
            have h2 := ha.1 y hy
            omega
      subst hxy
      rw [ih b ha.2 hb.2 (fun z => ?_)]
      constructor
      · intro hz
        rcases List.mem_cons.1 ((h z).1 (List.mem_cons_of_mem _ hz)) with e | hz2
        · have := ha.1 z hz; omega
        · exact hz2
      · intro hz
        rcases List.mem_cons.1 ((h z).2 (List.mem_cons_of_mem _ hz)) with e | hz2
        · have := hb.1 z hz; omega
        · exact hz2
end
/-- The last loop: as deep in the one as in the other. -/
theorem shape_l2 {ra rb : Int} {na nb : List S87} {keys : List Int} (ha : Tr ra na keys) (hb : Tr rb nb keys) (h64 : na.length ≤ 64) : ∀ (d i k : Nat), i + d = keys.length → d < k →
    deadboltlaw08_TreapShape.l2 k keys keys (keys.length : Int) (i : Int) ra na rb nb = some true := by
  have hla := ha.len
  have hlb := hb.len
  intro d
  induction d with
  | zero =>
    intro i k hi hk
    obtain ⟨k, rfl⟩ : ∃ q, k = q + 1 := ⟨k - 1, by omega⟩
    rw [deadboltlaw08_TreapShape.l2, if_neg (by omega)]
  | succ d ih =>
    intro i k hi hk
    obtain ⟨k, rfl⟩ : ∃ q, k = q + 1 := ⟨k - 1, by omega⟩
    have hlt : i < keys.length := by omega
    have hmem : keys[i] ∈ keys := List.getElem_mem _
    obtain ⟨da, h1, h2, h3⟩ := ha.find h64 (ha.key _ hmem) hmem
    obtain ⟨db, g1, g2, g3⟩ := hb.find (by omega) (ha.key _ hmem) hmem
    have e : da = db := KT.uniq _ _ h1 g1 (by rw [h2, g2])
    subst e
    have hdl := KT.dep_lt keys[i] da (by rw [h2]; exact ha.up) (by rw [h2]; exact hmem)
    rw [h2] at hdl
    rw [deadboltlaw08_TreapShape.l2, if_pos (by omega), if_pos (by omega), if_pos (by omega), w64_next hlt (by omega), rdI hlt, h3, g3]
    simp only [Option.bind_some, if_true]
    rw [if_neg (by omega), if_neg (by omega)]
    exact ih (i + 1) k (by omega) (by omega)
theorem turn_mod (turn : Int) (hw : -9223372036854775808 ≤ turn ∧ turn ≤ 9223372036854775807) : Int.tmod (wrap64 ((Int.tmod turn 64) + 64)) 64 = turn % 64 := by
  by_cases h0 : 0 ≤ turn
  · rw [Int.tmod_eq_emod_of_nonneg h0]
    have e : wrap64 (turn % 64 + 64) = turn % 64 + 64 := by unfold wrap64; omega
    rw [e, Int.tmod_eq_emod_of_nonneg (by omega)]
    omega
  · obtain ⟨u, hu⟩ : ∃ u : Int, turn = -u := ⟨-turn, by omega⟩
    subst hu
    rw [Int.neg_tmod, Int.tmod_eq_emod_of_nonneg (a := u) (by omega)]
    have e : wrap64 (-(u % 64) + 64) = -(u % 64) + 64 := by unfold wrap64; omega
    rw [e, Int.tmod_eq_emod_of_nonneg (by omega)]
    omega
theorem turned_mem (keys : List Int) (t : Nat) (x : Int) : x ∈ (List.range keys.length).map (fun j => keys.getD ((j + t) % keys.length) 0) ↔ x ∈ keys := by
  rw [List.mem_map]
  constructor
  · rintro ⟨j, hj, rfl⟩
    have hj := List.mem_range.1 hj
    have hlt : (j + t) % keys.length < keys.length := Nat.mod_lt _ (by omega)
    rw [List.getD_eq_getElem?_getD, List.getElem?_eq_getElem hlt]
    exact List.getElem_mem _
  · intro hx
    obtain ⟨q, hq, rfl⟩ := List.getElem_of_mem hx
    have hr : t % keys.length < keys.length := Nat.mod_lt _ (by omega)
    refine ⟨if t % keys.length ≤ q then q - t % keys.length else q + keys.length - t % keys.length, List.mem_range.2 (by split <;> omega), ?_⟩
    have e : ((if t % keys.length ≤ q then q - t % keys.length else q + keys.length - t % keys.length) + t) % keys.length = q := by
      rw [Nat.add_mod]
      split
      · rw [Nat.mod_eq_of_lt (show q - t % keys.length < keys.length by omega), Nat.sub_add_cancel (by assumption), Nat.mod_eq_of_lt hq]
      · rw [Nat.mod_eq_of_lt (show q + keys.length - t % keys.length < keys.length by omega), Nat.sub_add_cancel (by omega), Nat.add_mod_right, Nat.mod_eq_of_lt hq]
    rw [e, List.getD_eq_getElem?_getD, List.getElem?_eq_getElem hq]
    rfl
/-- The keys in another order. -/
theorem shape_l1 {ra : Int} {na : List S87} {keys : List Int} (ha : Tr ra na keys) (h64 : na.length ≤ 64) (turn : Int) (hw : -9223372036854775808 ≤ turn ∧ turn ≤ 9223372036854775807) : ∀ (d i k : Nat) (acc : List Int), i + d = keys.length → 400 + d ≤ k →
    acc = (List.range i).map (fun j => keys.getD ((j + (turn % 64).toNat) % keys.length) 0) → deadboltlaw08_TreapShape.l1 k turn keys acc (keys.length : Int) (i : Int) ra na = some true := by
  have hla := ha.len
  have hq := turn_mod turn hw
  intro d
  induction d with
  | zero =>
    intro i k acc hi hk hacc
    obtain ⟨k, rfl⟩ : ∃ q, k = q + 1 := ⟨k - 1, by omega⟩
    obtain rfl : i = keys.length := by omega
    obtain ⟨rb, nb, kb, h1, h2, h3, h4⟩ := made_f acc k (by omega)
    have hkb : kb = keys := by
      refine sorted_ext _ _ h2.up ha.up (fun x => ?_)
      have hin := turned_mem keys (turn % 64).toNat x
      rw [← hacc] at hin
      rw [h4, List.take_of_length_le (by rw [hacc]; simp; omega), ← hin, List.mem_map]
      have hk : ∀ y ∈ acc, keyOf y = y := fun y hy => keyOf_key (ha.key y ((turned_mem keys (turn % 64).toNat y).1 (by rw [← hacc]; exact hy)))
      constructor
      · rintro ⟨y, hy, rfl⟩
        rw [hk y hy]
        exact hy
      · exact fun hy => ⟨x, hy, hk x hy⟩
    subst hkb
    rw [deadboltlaw08_TreapShape.l1, if_neg (by omega), h1]
    simp only [Option.bind_some]
    rw [ha.all h64]
    simp only [Option.bind_some, if_true]
    rw [same_f kb kb (by omega) k (by omega), decide_eq_true rfl]
    simp only [Option.bind_some, if_true]
    rw [ha.right h64]
    simp only [Option.bind_some]
    obtain ⟨k, rfl⟩ : ∃ q, k = q + 1 := ⟨k - 1, by omega⟩
    rw [deadboltlaw08_TreapShape.j3, if_neg (by simp)]
    exact shape_l2 ha h2 h64 kb.length 0 k (by omega) (by omega)
  | succ d ih =>
    intro i k acc hi hk hacc
    obtain ⟨k, rfl⟩ : ∃ q, k = q + 1 := ⟨k - 1, by omega⟩
    have hlt : i < keys.length := by omega
    have hm : wrap64 ((i : Int) + turn % 64) = ((i + (turn % 64).toNat : Nat) : Int) := by unfold wrap64; omega
    have hlt2 : (i + (turn % 64).toNat) % keys.length < keys.length := Nat.mod_lt _ (by omega)
    have htm : Int.tmod ((i + (turn % 64).toNat : Nat) : Int) (keys.length : Int) = (((i + (turn % 64).toNat) % keys.length : Nat) : Int) := by
      rw [Int.tmod_eq_emod_of_nonneg (by omega)]
      rfl
    rw [deadboltlaw08_TreapShape.l1, if_pos (by omega), if_neg (by omega), hq, hm, htm, if_pos (by omega), if_pos (by omega), if_pos (by rw [hacc]; simp; omega), rdI hlt2, w64_next hlt (by omega)]
    refine ih (i + 1) k _ (by omega) (by omega) ?_
    rw [hacc, List.range_succ, List.map_append]
    congr 1
    simp only [List.map_cons, List.map_nil]
    congr 1
    rw [List.getD_eq_getElem?_getD, List.getElem?_eq_getElem hlt2]
    rfl
/-- Keys go. -/
theorem shape_l0 (l : List Int) (hl : l.length ≤ 1000) (turn : Int) (hw : -9223372036854775808 ≤ turn ∧ turn ≤ 9223372036854775807) : ∀ (d i k : Nat) (root : Int) (ns : List S87) (keys : List Int), i + d = l.length → ns.length ≤ 64 → d + 600 ≤ k → Tr root ns keys →
    deadboltlaw08_TreapShape.l0 k turn keys l (l.length : Int) (i : Int) root ns = some true := by
  intro d
  induction d with
  | zero =>
    intro i k root ns keys hi h64 hk ht
    obtain ⟨k, rfl⟩ : ∃ q, k = q + 1 := ⟨k - 1, by omega⟩
    have := ht.len
    rw [deadboltlaw08_TreapShape.l0, if_neg (by omega)]
    exact shape_l1 ht h64 turn hw keys.length 0 k [] (by omega) (by omega) rfl
  | succ d ih =>
    intro i k root ns keys hi h64 hk ht
    obtain ⟨k, rfl⟩ : ∃ q, k = q + 1 := ⟨k - 1, by omega⟩
    have hlt : i < l.length := by omega
    have hkl := ht.len
    rw [deadboltlaw08_TreapShape.l0, if_pos (by omega), if_pos (by omega), if_pos (by omega), w64_next hlt hl, rdI hlt]
    change (treap_Del.f root ns (keyOf l[i])).bind _ = _
    have hpl := place_f (keyOf l[i]) keys (by omega) k (by omega)
    by_cases hin : keyOf l[i] ∈ keys
    · obtain ⟨r1, n1, hp, hlen, ht1⟩ := ht.del h64 (keyOf_isKey l[i]) hin
      rw [hp]
      show (deadboltref08_Place.f k keys (keyOf l[i])).bind _ = _
      rw [hpl]
      show (if placeF (keyOf l[i]) 0 keys < 0 then _ else _) = _
      have := (placeF_iff (keyOf l[i]) keys 0 (by omega)).1 hin
      rw [if_neg (by omega), if_pos rfl]
      show (deadboltref08_Without.f k keys (keyOf l[i])).bind _ = _
      rw [without_f _ _ (by omega) k (by omega)]
      exact ih (i + 1) k r1 n1 _ (by omega) (by omega) (by omega) ht1
    · rw [ht.del_none h64 (keyOf_isKey l[i]) hin]
      show (deadboltref08_Place.f k keys (keyOf l[i])).bind _ = _
      rw [hpl]
      show (if placeF (keyOf l[i]) 0 keys < 0 then _ else _) = _
      rw [(placeF_iff _ keys 0 (by omega)).2 hin, if_pos (by omega), if_pos rfl]
      exact ih (i + 1) k root ns keys (by omega) h64 (by omega) ht
theorem shape_true (l0 l1 : List Int) (a2 : Int) (hw : -9223372036854775808 ≤ a2 ∧ a2 ≤ 9223372036854775807) : ∃ k, deadboltlaw08_TreapShape.f k l0 l1 a2 = some true := by
  obtain ⟨k, hk⟩ : ∃ k : Nat, k = 2000 := ⟨_, rfl⟩
  refine ⟨k, ?_⟩
  obtain ⟨root, ns, keys, h1, h2, h3, _⟩ := made_f l0 k (by omega)
  unfold deadboltlaw08_TreapShape.f
  rw [h1]
  simp only [Option.bind_some, if_true]
  rw [alive_f k (by omega)]
  simp only [Option.bind_some]
  obtain ⟨q, rfl⟩ : ∃ q, k = q + 1 := ⟨k - 1, by omega⟩
  obtain ⟨j, hj⟩ : ∃ j : Int, mn (l1.length : Int) 40 = j := ⟨_, rfl⟩
  have h0 : 0 ≤ j ∧ j ≤ l1.length ∧ j ≤ 40 := by
    unfold mn at hj
    split at hj
    · subst hj; exact ⟨by omega, by omega, by omega⟩
    · subst hj; exact ⟨by omega, by omega, by omega⟩
  rw [deadboltlaw08_TreapShape.j0, if_neg (by simp), hj, if_pos h0.1, if_pos h0.2.1]
  have hl : (l1.take j.toNat).length ≤ 40 := by rw [List.length_take]; omega
  exact shape_l0 (l1.take j.toNat) (by omega) a2 hw (l1.take j.toNat).length 0 q root ns keys (by omega) h3 (by omega) h2
end TreapP
theorem treapShape_calls (A0 : Option Addr) (c0 : Nat) (l0 : List Int) (A1 : Option Addr) (c1 : Nat) (l1 : List Int) (a2 : Int) (w : World) (hC : Kd.C (Kd.int .i64) w A0 l0.length l0) (hl : l0.length ≤ c0) (hC1 : Kd.C (Kd.int .i64) w A1 l1.length l1) (hl1 : l1.length ≤ c1) (hw : (Lit.int .i64 a2).wf = true) :
    Calls Try.prog 11 #[.slice A0 l0.length c0, .slice A1 l1.length c1, .int .i64 a2] w fun e w' => e = .returned (.bool true) ∧ Below w.heap.size w w' := by
  have hb := wf_bd hw
  obtain ⟨k, hk⟩ := TreapP.shape_true l0 l1 a2 hb
  exact deadboltlaw08_TreapShape.calls k A0 c0 l0 A1 c1 l1 a2 true w hC hl hC1 hl1 hk
end Go.Proofs.Ytjdjmhagafmkaaa.PX

/-
  The statement on TreapShape, out of what its printed form comes to: for every input the call returns true, and each argument reads behind it as it read before.
-/
namespace Go.Proofs.Ytjdjmhagafmkaaa.treapShape
open Go.ChangeShapes Go.WideShapes Go.ChangeAt Go.RowKit Go.Proofs.YtjdjmhagafmkaaaW.PrintWords Go.Proofs.Ytjdjmhagafmkaaa.PX
set_option linter.unusedVariables false
theorem own : ownKnob Try.prog.godebug = none := by kernel_rfl
set_option maxRecDepth 100000 in
theorem lifted (os : Os) (started : os.Started) (H : Type) (enc : TypeId × Value → H) :
    ReturnsInHanded {} Try.checked os 11 .any (Rows.treapShapeSpec.pre6 enc Try.prog Try.f11 Rows.treapShapeRow.domain false) (Rows.treapShapeSpec.post enc Try.prog Try.f11 false true false false) := by
  refine returnsInHanded_of_change (C := Try.checked) own started (by kernel_rfl) Try.func11
    (ChangeSpec.witness6 (enc := enc) (C := Try.checked) false ⟨#[], #[.slice none 0 0, .slice none 0 0, .int .i64 0], []⟩ 8 (by kernel_rfl) (by kernel_rfl) (by kernel_rfl) (by kernel_rfl)) ?_
  intro W base args ds gs before hval0 hW hcnd _
  have hval : ∀ (j : Nat) t v, Try.f11.params[j]? = some t → args[j]? = some v → Value.okWide Try.prog W .any base t v := hval0
  have hW' := hW
  obtain ⟨p, q, hA0, hV, hpq, hfz, hnd⟩ := hW
  have hA : DataW.TrodAll enc Try.prog W 0 (fun _ => true) true Try.f11.params.toList args.toList ds p := hA0
  rw [Try.params11] at hA hval
  obtain ⟨v0, vs0, d0, ds0, p0, q0, hargs, rfl, hp0, h0, r0⟩ := trodAll_cons hA
  obtain ⟨v1, vs1, d1, ds1, p1, q1, rfl, rfl, hp1, h1, r1⟩ := trodAll_cons r0
  obtain ⟨v2, vs2, d2, ds2, p2, q2, rfl, rfl, hp2, h2, r2⟩ := trodAll_cons r1
  obtain ⟨rfl, rfl, _⟩ := trodAll_nil r2
  obtain rfl : args = #[v0, v1, v2] := by cases args; simp_all
  obtain ⟨rfl, _⟩ := trodVars_none hV
  obtain ⟨A0, c0, l0, rfl, hl0, hC0, hw0⟩ := open_C Try.underlying26 (by kernel_rfl) (Opens.int Try.underlying3) (hval 0 26 v0 rfl rfl) h0
  obtain ⟨A1, c1, l1, rfl, hl1, hC1, hw1⟩ := open_C Try.underlying26 (by kernel_rfl) (Opens.int Try.underlying3) (hval 1 26 v1 rfl rfl) h1
  obtain ⟨a2, rfl, _, _, w2⟩ := open_int Try.underlying3 (hval 2 3 v2 rfl rfl) h2
  refine (treapShape_calls A0 c0 l0 A1 c1 l1 a2 W hC0 hl0 hC1 hl1 w2).mono fun e W' ⟨he, hb⟩ => ?_
  subst he
  exact ⟨_, rfl, law_post (by kernel_rfl) (by kernel_rfl) (by kernel_rfl) Try.underlying4 rfl hW' rfl hb⟩

theorem rowOver : Rows.treapShapeRow.holds Try.pinned (OpenSpec.ofChange Rows.treapShapeSpec) :=
  OpenClaim.holds_of_wide 11 Try.f11 rfl rfl rfl rfl rfl rfl rfl ⟨rfl, rfl, rfl, rfl, rfl⟩ rfl rfl rfl rfl rfl (by kernel_rfl) Try.func11 (by kernel_rfl)
    (of_decide_eq_true (by kernel_rfl)) (by unfold Func.isWrapper; first | (rw [if_pos (by decide +kernel)]; kernel_rfl) | (rw [if_neg (by decide +kernel)]; exact ⟨rfl, rfl⟩))
    (fun os started H enc _ => lifted os started H enc)

theorem proved : Rows.TreapShapeSaid := rowOver
#print axioms proved
end Go.Proofs.Ytjdjmhagafmkaaa.treapShape
