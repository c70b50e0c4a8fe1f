/-
 The statement on RootKeeps, out of what its printed form comes to: for every input the call returns true, and each argument reads behind it as it read before.
-/
import Derived.Test.YtnjnjajgpkmfhaaBRootKeeps5
import Derived.Test.YtnjnjajgpkmfhaaRows
/-
 The law RootKeeps, told of its printed form.
-/
namespace Go.Proofs.Ytnjnjajgpkmfhaa.PX
open Go.RowKit Go.Proofs.YtnjnjajgpkmfhaaW.PrintWords Go.Proofs.YtnjnjajgpkmfhaaW.PrintLast Go.Proofs.YtnjnjajgpkmfhaaW.PrintMore
theorem set_any {L : List Sp} (hL : L.length ≤ 80) (h2 : ∀ s ∈ L, s.f2.length ≤ 1000) {s : Sp} (hs : s.f2.length ≤ 1000) :
  ∃ r, root_Set.f L s.f0 s.f1 s.f2 = some r ∧ ((r.2 = 0 ∧ Tab L ∧ SpotP s ∧ (setT L s).length ≤ 64 ∧ r.1 = setT L s) ∨ (r.2 ≠ 0 ∧ r.1 = [])) := by
 by_cases h : Tab L ∧ SpotP s
 ·refine ⟨_, set_f h.1 h.2, ?_⟩
  by_cases hq : (setT L s).length > 64
  ·rw [if_pos hq]
   exact .inr ⟨by simp, rfl⟩
  ·rw [if_neg hq]
   exact .inl ⟨rfl, h.1, h.2, by omega, rfl⟩
 ·refine ⟨_, set_bad hL h2 hs ?_, .inr ⟨by simp, rfl⟩⟩
  by_cases h' : Tab L
  ·exact .inr fun h'' => h ⟨h', h''⟩
  ·exact .inl h'
theorem keeps_j0 {L : List Sp} (hL : L.length ≤ 80) (h2 : ∀ s ∈ L, s.f2.length ≤ 1000) {A B : Sp} (hB : B.f2.length ≤ 1000) (hT : Tab L) (hA : SpotP A) (hn : (setT L A).length ≤ 64) {k : Nat} (hk : 4000 ≤ k) :
  rootKeeps.j0 k L (setT L A) false A.f0 A.f1 A.f2 B.f0 B.f1 B.f2 = some true := by
 obtain ⟨k, rfl⟩ : ∃ q, k = q + 1 + 1 := ⟨k - 2, by omega⟩
 have hX := tab_set hT hA hn
 have hAl := ((lineB_iff _).1 hA.2.2.1).2.2
 have hr := rootI_bd A.f0
 obtain ⟨eb, e1, e2⟩ := refempty_f A
 rw [rootKeeps.j0, if_neg Bool.false_ne_true, root_ok hA.1]
 simp only [Option.bind_some]
 rw [under_f hX hr.1 hr.2 hX.lens (by omega)]
 simp only [Option.bind_some]
 have hfl := List.length_filter_le (isAt (rootI A.f0)) (setT L A)
 rw [if_pos trivial, if_pos trivial, place_f A.f0 (by rw [List.length_map]; omega) (by rw [List.length_map]; omega), e1]
 simp only [Option.bind_some]
 have hmem : A.f0 ∈ ((setT L A).filter (isAt (rootI A.f0))).map (·.f0) ↔ ¬ EmptyP A := by
  constructor
  ·intro h
   obtain ⟨x, hx, e⟩ := List.mem_map.1 h
   rcases mem_setT.1 (List.mem_filter.1 hx).1 with ⟨h3, h4⟩ | ⟨_, h4⟩
   ·exact h4
   ·exact absurd e h4
  ·intro h
   exact List.mem_map.2 ⟨A, List.mem_filter.2 ⟨mem_setT.2 (.inl ⟨rfl, h⟩), by simp [isAt]⟩, rfl⟩
 have hx : (decide (placeI (((setT L A).filter (isAt (rootI A.f0))).map (·.f0)) A.f0 ≥ 0) != !eb) = false := by
  have h5 := placeI_mem (((setT L A).filter (isAt (rootI A.f0))).map (·.f0)) A.f0
  cases eb with
  | true =>
   have : ¬ placeI (((setT L A).filter (isAt (rootI A.f0))).map (·.f0)) A.f0 ≥ 0 := fun h => hmem.1 (h5.1 h) (e2.1 rfl)
   rw [decide_eq_false this]
   rfl
  | false =>
   have : placeI (((setT L A).filter (isAt (rootI A.f0))).map (·.f0)) A.f0 ≥ 0 := h5.2 (hmem.2 fun h => by have := e2.2 h; cases this)
   rw [decide_eq_true this]
   rfl
 rw [hx, rootKeeps.j1, if_neg Bool.false_ne_true]
 obtain ⟨p, p1, p2⟩ := set_any (L := setT L A) (by omega) hX.lens hB
 obtain ⟨q, q1, q2⟩ := set_any hL h2 hB
 have hq1 : q.1.length ≤ 80 ∧ ∀ s ∈ q.1, s.f2.length ≤ 1000 := by
  rcases q2 with ⟨_, _, h4, h5, h6⟩ | ⟨_, h6⟩
  ·rw [h6]
   exact ⟨by omega, (tab_set hT h4 h5).lens⟩
  ·rw [h6]
   exact ⟨by simp, by simp⟩
 obtain ⟨r, r1, r2⟩ := set_any hq1.1 hq1.2 (s := A) (by omega)
 rw [p1, q1]
 simp only [Option.bind_some]
 rw [r1]
 simp only [Option.bind_some]
 rcases p2 with ⟨p0, _, pB, pn, pe⟩ | ⟨p0, _⟩
 ·rcases q2 with ⟨q0, _, _, qn, qe⟩ | ⟨q0, _⟩
  ·rcases r2 with ⟨r0, rT, _, rn, re⟩ | ⟨r0, _⟩
   ·rw [if_pos p0, if_pos q0, if_pos r0]
    by_cases hab : A.f0 = B.f0
    ·rw [if_pos hab]
    ·rw [if_neg hab]
     have hS := tab_set hT pB qn
     rw [qe] at re rn rT
     have heq : p.1 = r.1 := by
      rw [pe, re]
      refine ext_get (up_setT hX pB) (up_setT hS hA) (full_setT hX) (full_setT hS) fun c => ?_
      rw [getT_set hX pB, getT_set hS hA, getT_set hT hA, getT_set hT pB]
      by_cases c1 : c = B.f0
      ·by_cases c2 : c = A.f0
       ·exact absurd (c2.symm.trans c1) hab
       ·rw [if_pos c1, if_neg c2, if_pos c1]
      ·rw [if_neg c1, if_neg c1]
     have hsm : p.1.length ≤ 1000 ∧ ∀ s ∈ p.1, s.f2.length ≤ 1000 := by
      rw [pe]
      exact ⟨by omega, (tab_set hX pB pn).lens⟩
     obtain ⟨b, b1, b2⟩ := refsame_f p.1 r.1 hsm.1 hsm.2 (k := k) (by omega)
     rw [b1, b2.2 heq]
     rfl
   ·rw [if_pos p0, if_pos q0, if_neg r0]
  ·rw [if_pos p0, if_neg q0]
 ·rw [if_neg p0]
theorem keeps_all (l : List Sp) (a0 a1 : Int) (a2 : List Int) (b0 b1 : Int) (b2 : List Int) (c : Int) : rootKeeps.f 5000 l a0 a1 a2 b0 b1 b2 c = some true := by
 have hL : (fewF l).length ≤ 80 := by have := few_len l; omega
 have h2 := few_lens l
 unfold rootKeeps.f deadboltlaw09_cut.f
 rw [few_f l 5000 (by omega)]
 simp only [Option.bind_some]
 generalize fewF l = L at *
 obtain ⟨A, hA0, hA⟩ : ∃ s : Sp, s = ⟨a0, a1, a2.take 70⟩ ∧ s.f2.length ≤ 1000 := ⟨_, rfl, by
  show (a2.take 70).length ≤ 1000
  rw [List.length_take]
  omega⟩
 obtain ⟨B, hB0, hB⟩ : ∃ s : Sp, s = ⟨b0, b1, b2.take 70⟩ ∧ s.f2.length ≤ 1000 := ⟨_, rfl, by
  show (b2.take 70).length ≤ 1000
  rw [List.length_take]
  omega⟩
 have e0 : a0 = A.f0 := by rw [hA0]
 have e1 : a1 = A.f1 := by rw [hA0]
 have e2 : a2.take 70 = A.f2 := by rw [hA0]
 have e3 : b0 = B.f0 := by rw [hB0]
 have e4 : b1 = B.f1 := by rw [hB0]
 have e5 : b2.take 70 = B.f2 := by rw [hB0]
 rw [e0, e1, e2, e3, e4, e5]
 clear e0 e1 e2 e3 e4 e5 hA0 hB0
 obtain ⟨r, r1, r2⟩ := set_any hL h2 hA
 rw [r1]
 simp only [Option.bind_some]
 rcases r2 with ⟨r0, hT, hS, hn, re⟩ | ⟨r0, re⟩
 ·have hX := tab_set hT hS hn
  rw [if_pos r0, re, get_f hX hS.1, getT_set hT hS, if_pos rfl]
  simp only [Option.bind_some]
  have hj := keeps_j0 hL h2 hB hT hS hn (k := 5000) (by omega)
  have hright : root_Right.f 5000 (setT L A) = some true := right_yes hX (by omega)
  obtain ⟨sb, s1, s2⟩ := refspots_f A A hA (k := 5000) (by omega)
  have s1' : deadboltref09_Spots.f 5000 A.f0 A.f1 A.f2 A.f0 A.f1 A.f2 = some true := by rw [s1, s2.2 rfl]
  have hal := alive_ok
  by_cases hc : isAddrB c = true
  ·have hc' := (addr_iff c).1 hc
   rw [get_f hT hc', get_f hX hc', getT_set hT hS]
   simp only [Option.bind_some]
   rw [if_pos trivial, s1']
   simp only [Option.bind_some]
   rw [if_pos trivial, if_pos trivial, hright, hal]
   simp only [Option.bind_some]
   by_cases hca : c = A.f0
   ·rw [if_pos hca, if_pos trivial]
    exact hj
   ·rw [if_neg hca, if_neg hca]
    have hg : (getT L c).f2.length ≤ 1000 := by
     by_cases hm : c ∈ L.map (·.f0)
     ·exact h2 _ (getT_in hm).2.2
     ·rw [getT_out hm]; simp
    obtain ⟨tb, t1, t2⟩ := refspots_f (getT L c) (getT L c) hg (k := 5000) (by omega)
    rw [t1, t2.2 rfl]
    simp only [Option.bind_some]
    rw [if_pos trivial, if_pos trivial]
    exact hj
  ·have hc2 : isAddrB c = false := by simpa using hc
   have hca : c ≠ A.f0 := fun e => hc ((addr_iff c).2 (by rw [e]; exact hS.1))
   have hf := hX.few
   rw [get_bad hL h2 (.inr hc2), get_bad (by omega) hX.lens (.inr hc2)]
   simp only [Option.bind_some]
   rw [if_pos trivial, s1']
   simp only [Option.bind_some]
   obtain ⟨tb, t1, t2⟩ := refspots_f ⟨0, 0, []⟩ ⟨0, 0, []⟩ (by simp) (k := 5000) (by simp)
   simp only at t1
   rw [if_pos trivial, if_pos trivial, if_neg hca, t1, t2.2 rfl]
   simp only [Option.bind_some]
   rw [if_pos trivial, hright, hal]
   simp only [Option.bind_some]
   rw [if_pos trivial]
   exact hj
 ·rw [if_neg r0, alive_ok, re]
  rfl
end Go.Proofs.Ytnjnjajgpkmfhaa.PX

/-
 A spot, opened.
-/
namespace Go.Proofs.Ytnjnjajgpkmfhaa.PX
open Go.RowKit Go.Proofs.YtnjnjajgpkmfhaaW.PrintWords
theorem opensP {H : Type} {enc : TypeId × Value → H} {w : World} : Opens enc Try.prog w 33 k33 (fun x => (Lit.int .i64 x.f0).wf = true ∧ (Lit.int .i64 x.f1).wf = true) := by
 intro fuel cs x h
 obtain ⟨a, hk, hw⟩ := Opens.struct (g := fun x : S33 => (x.f0, x.f1, x.f2)) Try.underlying33 (by kernel_rfl) (fun x : Int × Int × List Int => ⟨x.1, x.2.1, x.2.2⟩) (fun _ => rfl)
  (OpensF.cons rfl (by kernel_rfl) (Opens.int Try.underlying3) rfl (OpensF.cons rfl (by kernel_rfl) (Opens.int Try.underlying3) rfl (OpensF.one rfl (by kernel_rfl) (Opens.slice Try.underlying25 (by kernel_rfl) (Opens.int Try.underlying3))))) fuel cs x h
 exact ⟨a, hk, hw.1, hw.2.1⟩
theorem spot_k {w : World} {P : Array Value → Prop} {cs : List Value} {x : S33} (hK : k33.K w x cs) (h : ∀ A c, x.f2.length ≤ c → Kd.C (Kd.int .i64) w A x.f2.length x.f2 → P #[.int .i64 x.f0, .int .i64 x.f1, .slice A x.f2.length c]) : P cs.toArray := by
 obtain ⟨A, c, rfl, hc, hC⟩ := k33_open hK
 exact h A c hc hC
end Go.Proofs.Ytnjnjajgpkmfhaa.PX

/-
 The statement on RootKeeps, out of what its printed form comes to: for every input the call returns true, and each argument reads behind it as it read before.
-/
namespace Go.Proofs.Ytnjnjajgpkmfhaa.rootKeeps
open Go.ChangeShapes Go.WideShapes Go.ChangeAt Go.RowKit Go.Proofs.YtnjnjajgpkmfhaaW.PrintWords Go.Proofs.Ytnjnjajgpkmfhaa.PX
set_option linter.unusedVariables false
theorem own : ownKnob Try.prog.godebug = none := by kernel_rfl
set_option maxRecDepth 100000 in
theorem lifted (os : Os) (started : os.Started) (H : Type) (enc : TypeId × Value → H) :
  ReturnsInHanded {} Try.checked os 5 .any (Rows.rootKeepsSpec.pre6 enc Try.prog Try.f5 Rows.rootKeepsRow.domain false) (Rows.rootKeepsSpec.post enc Try.prog Try.f5 false true false false) := by
 refine returnsInHanded_of_change (C := Try.checked) own started (by kernel_rfl) Try.func5
  (ChangeSpec.witness6 (enc := enc) (C := Try.checked) false ⟨#[], #[.slice none 0 0, .agg #[.int .i64 0, .int .i64 0, .slice none 0 0], .agg #[.int .i64 0, .int .i64 0, .slice none 0 0], .int .i64 0], []⟩ 8 (by kernel_rfl) (by kernel_rfl) (by kernel_rfl) (by kernel_rfl)) ?_
 intro W base args ds gs before hval0 hW hcnd _
 have hval : ∀ (j : Nat) t v, Try.f5.params[j]? = some t → args[j]? = some v → Value.okWide Try.prog W .any base t v := hval0
 have hW' := hW
 obtain ⟨p, q, hA0, hV, hpq, hfz, hnd⟩ := hW
 have hA : DataW.TrodAll enc Try.prog W 0 (fun _ => true) true Try.f5.params.toList args.toList ds p := hA0
 rw [Try.params5] at hA hval
 obtain ⟨v0, vs0, d0, ds0, p0, q0, hargs, rfl, hp0, h0, r0⟩ := trodAll_cons hA
 obtain ⟨v1, vs1, d1, ds1, p1, q1, rfl, rfl, hp1, h1, r1⟩ := trodAll_cons r0
 obtain ⟨v2, vs2, d2, ds2, p2, q2, rfl, rfl, hp2, h2, r2⟩ := trodAll_cons r1
 obtain ⟨v3, vs3, d3, ds3, p3, q3, rfl, rfl, hp3, h3, r3⟩ := trodAll_cons r2
 obtain ⟨rfl, rfl, _⟩ := trodAll_nil r3
 obtain rfl : args = #[v0, v1, v2, v3] := by cases args; simp_all
 obtain ⟨rfl, _⟩ := trodVars_none hV
 obtain ⟨A0, c0, l0, rfl, hl0, hC0, hw0⟩ := open_C Try.underlying22 (by kernel_rfl) opensP (hval 0 22 v0 rfl rfl) h0
 obtain ⟨cs1, x1, rfl, hK1, hw1⟩ := open_K Try.underlying33 opensP (hval 1 33 v1 rfl rfl) h1
 obtain ⟨cs2, x2, rfl, hK2, hw2⟩ := open_K Try.underlying33 opensP (hval 2 33 v2 rfl rfl) h2
 obtain ⟨a3, rfl, _, _, w3⟩ := open_int Try.underlying3 (hval 3 3 v3 rfl rfl) h3
 refine (spot_k (P := fun v => Calls Try.prog 5 #[.slice A0 l0.length c0, .agg v, .agg cs2.toArray, .int .i64 a3] W fun e w' => e = .returned (.bool true) ∧ Below W.heap.size W w') hK1 (fun A c hc hC => spot_k (P := fun v => Calls Try.prog 5 #[.slice A0 l0.length c0, .agg #[.int .i64 x1.f0, .int .i64 x1.f1, .slice A x1.f2.length c], .agg v, .int .i64 a3] W fun e w' => e = .returned (.bool true) ∧ Below W.heap.size W w') hK2 (fun A' c' hc' hC' => rootKeeps.calls 5000 A0 c0 l0 x1.f0 x1.f1 A c x1.f2 x2.f0 x2.f1 A' c' x2.f2 a3 true W hC0 hl0 hC hc hC' hc' (keeps_all l0 x1.f0 x1.f1 x1.f2 x2.f0 x2.f1 x2.f2 a3)))).mono fun e W' ⟨he, hb⟩ => ?_
 subst he
 exact ⟨_, rfl, law_post (by kernel_rfl) (by kernel_rfl) (by kernel_rfl) Try.underlying4 rfl hW' rfl hb⟩

theorem rowOver : Rows.rootKeepsRow.holds Try.pinned (OpenSpec.ofChange Rows.rootKeepsSpec) :=
 OpenClaim.holds_of_wide 5 Try.f5 rfl rfl rfl rfl rfl rfl rfl ⟨rfl, rfl, rfl, rfl, rfl⟩ rfl rfl rfl rfl rfl (by kernel_rfl) Try.func5 (by kernel_rfl)
  (of_decide_eq_true (by kernel_rfl)) (by unfold Func.isWrapper; first | (rw [if_pos (by decide +kernel)]; kernel_rfl) | (rw [if_neg (by decide +kernel)]; exact ⟨rfl, rfl⟩))
  (fun os started H enc _ => lifted os started H enc)

theorem proved : Rows.RootKeepsSaid := rowOver
#print axioms proved
end Go.Proofs.Ytnjnjajgpkmfhaa.rootKeeps
