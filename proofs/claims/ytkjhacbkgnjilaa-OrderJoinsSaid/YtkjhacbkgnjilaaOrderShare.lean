/-
  The contract of order.Share (and the reference's), and 'alive' of layer 5.
-/
import Derived.Test.YtkjhacbkgnjilaaOrderClass
namespace Go.Proofs.Ytkjhacbkgnjilaa
open Go.RowKit
namespace Fl
/-- What a share may be: its bits where the division is valid, else any that are no number. -/
def isShare (a b : Int) (r : Nat) : Prop := r < 18446744073709551616 ∧ (∀ q, floatBits .quo .f64 (floatOfInt .f64 a) (floatOfInt .f64 b) = some q → r = q) ∧ (floatBits .quo .f64 (floatOfInt .f64 a) (floatOfInt .f64 b) = none → nan r = true)
theorem wf_lt {b : Nat} (h : (Lit.float .f64 b).wf = true) : b < 18446744073709551616 := by simpa [Lit.wf] using h
theorem bits_lt {op : BinOp} {x y r : Nat} (h : floatBits op .f64 x y = some r) : r < 18446744073709551616 := wf_lt (floatBits_wf h)
theorem share_rank {a b : Int} {r s : Nat} (hr : isShare a b r) (hs : isShare a b s) : rank r = rank s := by
  cases h : floatBits .quo .f64 (floatOfInt .f64 a) (floatOfInt .f64 b) with
  | some q => rw [hr.2.1 q h, hs.2.1 q h]
  | none => simp [rank, hr.2.2 h, hs.2.2 h]
def anyNan (n : Nat) : Nat := (n % 2) * 2 ^ 63 + 9218868437227405312 + 1 + (n / 2) % (2 ^ 52 - 1)
theorem anyNan_lt (n : Nat) : anyNan n < 18446744073709551616 := by unfold anyNan; omega
theorem anyNan_nan (n : Nat) : nan (anyNan n) = true := by
  refine decide_eq_true ?_
  unfold rung anyNan
  have hu : n % 2 < 2 := Nat.mod_lt _ (by omega)
  have hv : n / 2 % (2 ^ 52 - 1) < 4503599627370495 := Nat.mod_lt _ (by omega)
  generalize n % 2 = u at hu
  generalize n / 2 % (2 ^ 52 - 1) = v at hv
  rcases (by omega : u = 0 ∨ u = 1) with rfl | rfl <;> omega
theorem run_nan (P : Program) (op : BinOp) (hop : op = .quo ∨ op = .add) (t : TypeId) (x y : Nat) (h : floatBits op .f64 x y = none) (w : World) :
    ∃ n, (binOp op t (.float .f64 x) (.float .f64 y)).run P w = .ok (.float .f64 (anyNan n)) w.drew := by
  unfold floatBits at h
  refine ⟨w.tape w.drawn (.nanBits .f64 x y), ?_⟩
  rcases hop with rfl | rfl <;> simp only at h <;> simp [binOp, Op.floatArith, h, Question.forced, Question.cut, anyNan]
end Fl
namespace Order
def ShareOf (a b : Int) (e : Ending) : Prop := ∃ r, e = .returned (.float .f64 r) ∧ Fl.isShare a b r
theorem share (a b : Int) (w : World) : Calls Try.prog 13 #[.int .i64 a, .int .i64 b] w fun e w' => ShareOf a b e ∧ Below w.heap.size w w' := by
  cases h : floatBits .quo .f64 (floatOfInt .f64 a) (floatOfInt .f64 b) with
  | some q =>
    have hd : ∀ w, (binOp .quo 22 (.float .f64 (floatOfInt .f64 a)) (.float .f64 (floatOfInt .f64 b))).run Try.prog w = .ok (.float .f64 q) w := fun w => run_float_arith w .quo _ .f64 _ _ _ h
    have H : Hid (Fl.isShare a b q) := ⟨Fl.bits_lt h, fun x hx => by rw [h] at hx; exact Option.some.inj hx, fun hx => by rw [h] at hx; cases hx⟩
    clear h
    go_enter Try.func13, Try.ntmps13
    go_wp2_with fail
    go_ret
    exact ⟨⟨q, rfl, H.out⟩, Below.refl _ _⟩
  | none =>
    obtain ⟨n, hd⟩ := Fl.run_nan Try.prog .quo (.inl rfl) 22 _ _ h w
    have H : Hid (Fl.isShare a b (Fl.anyNan n)) := ⟨Fl.anyNan_lt n, fun x hx => by (rw [h] at hx; cases hx), fun _ => Fl.anyNan_nan n⟩
    clear h
    go_enter Try.func13, Try.ntmps13
    go_wp2_with fail
    go_ret
    exact ⟨⟨_, rfl, H.out⟩, (Below.refl _ _).drew⟩
end Order
end Go.Proofs.Ytkjhacbkgnjilaa
