/-
  The statement on OrderJoins, out of its walk: for every input the call returns true, and each argument reads behind it as it read before.
-/
import Derived.Test.YtkjhacbkgnjilaaRows
import Derived.Test.YtkjhacbkgnjilaaBase
import Derived.Test.YtkjhacbkgnjilaaLOrderJoins
import Derived.Test.YtkjhacbkgnjilaaOpenF
namespace Go.Proofs.Ytkjhacbkgnjilaa.orderJoins
open Go.ChangeShapes Go.WideShapes Go.ChangeAt Go.RowKit
set_option linter.unusedVariables false
theorem own : ownKnob Try.prog.godebug = none := by kernel_rfl
set_option maxRecDepth 100000 in
theorem lifted (os : Os) (started : os.Started) (H : Type) (enc : TypeId × Value → H) :
    ReturnsInHanded {} Try.checked os 7 .any (Rows.orderJoinsSpec.pre6 enc Try.prog Try.f7 Rows.orderJoinsRow.domain false) (Rows.orderJoinsSpec.post enc Try.prog Try.f7 false true false false) := by
  refine returnsInHanded_of_change (C := Try.checked) own started (by kernel_rfl) Try.func7
    (ChangeSpec.witness6 (enc := enc) (C := Try.checked) false ⟨#[], #[.slice none 0 0, .slice none 0 0, .float .f64 0], []⟩ 8 (by kernel_rfl) (by kernel_rfl) (by kernel_rfl) (by kernel_rfl)) ?_
  intro W base args ds gs before hval0 hW hcnd _
  have hval : ∀ (j : Nat) t v, Try.f7.params[j]? = some t → args[j]? = some v → Value.okWide Try.prog W .any base t v := hval0
  have hW' := hW
  obtain ⟨p, q, hA0, hV, hpq, hfz, hnd⟩ := hW
  have hA : DataW.TrodAll enc Try.prog W 0 (fun _ => true) true Try.f7.params.toList args.toList ds p := hA0
  rw [Try.params7] at hA hval
  obtain ⟨v0, vs0, d0, ds0, p0, q0, hargs, rfl, hp0, h0, r0⟩ := trodAll_cons hA
  obtain ⟨v1, vs1, d1, ds1, p1, q1, rfl, rfl, hp1, h1, r1⟩ := trodAll_cons r0
  obtain ⟨v2, vs2, d2, ds2, p2, q2, rfl, rfl, hp2, h2, r2⟩ := trodAll_cons r1
  obtain ⟨rfl, rfl, _⟩ := trodAll_nil r2
  obtain rfl : args = #[v0, v1, v2] := by cases args; simp_all
  obtain ⟨rfl, _⟩ := trodVars_none hV
  obtain ⟨A0, n0, c0, zs0, rfl, w0, hr0, hc0⟩ := open_row_float Try.underlying29 Try.underlying22 (by kernel_rfl) (hval 0 29 v0 rfl rfl) h0
  obtain ⟨A1, n1, c1, zs1, rfl, w1, hr1, hc1⟩ := open_row_float Try.underlying29 Try.underlying22 (by kernel_rfl) (hval 1 29 v1 rfl rfl) h1
  obtain ⟨a2, rfl, _, _, w2⟩ := open_float Try.underlying22 (hval 2 22 v2 rfl rfl) h2
  refine (walk A0 n0 c0 zs0 A1 n1 c1 zs1 a2 W w0 hr0 hc0 w1 hr1 hc1 w2).mono fun e W' ⟨he, hb⟩ => ?_
  subst he
  exact ⟨_, rfl, law_post (by kernel_rfl) (by kernel_rfl) (by kernel_rfl) Try.underlying4 rfl hW' rfl hb⟩

theorem rowOver : Rows.orderJoinsRow.holds Try.pinned (OpenSpec.ofChange Rows.orderJoinsSpec) :=
  OpenClaim.holds_of_wide 7 Try.f7 rfl rfl rfl rfl rfl rfl rfl ⟨rfl, rfl, rfl, rfl, rfl⟩ rfl rfl rfl rfl rfl (by kernel_rfl) Try.func7 (by kernel_rfl)
    (of_decide_eq_true (by kernel_rfl)) (by unfold Func.isWrapper; first | (rw [if_pos (by decide +kernel)]; kernel_rfl) | (rw [if_neg (by decide +kernel)]; exact ⟨rfl, rfl⟩))
    (fun os started H enc _ => lifted os started H enc)

theorem proved : Rows.OrderJoinsSaid := rowOver
#print axioms proved
end Go.Proofs.Ytkjhacbkgnjilaa.orderJoins
