/-
  The statement on ParkOnce for every input: out of the walk over the rows it looks at.
-/
import Derived.Test.YteejgejeggackaaLParkOnce
import Derived.Test.YteejgejeggackaaOpen2
namespace Go.Proofs.Yteejgejeggackaa
open Go.RowKit Go.ChangeShapes Go.WideShapes Go.Deep
namespace parkOnce
theorem walk (N0 : Int) (A : Option Addr) (n c : Nat) (xs : List (Int × Int)) (w : World) (_ : (Lit.int .i64 N0).wf = true) (_ : ∀ g ∈ xs, (Lit.int .i64 g.1).wf = true ∧ (Lit.int .i64 g.2).wf = true)
    (hr : Reads w w.heap.size 2 A n (xs.flatMap two)) (hc : n ≤ c ∧ c ≤ maxLen) :
    Calls Try.prog 8 #[.int .i64 N0, .slice A n c] w fun e w' => e = .returned (.bool true) ∧ Below w.heap.size w w' := by
  by_cases h : n ≤ 100
  · exact walk1 N0 A n n c xs w (.inl ⟨h, rfl⟩) hc.1 hc.2 hr
  · have h1 := hr.take_ (k := 100) (by omega)
    rw [flat_take two 2 two_len] at h1
    exact walk1 N0 A n 100 c (xs.take 100) w (.inr ⟨by omega, rfl⟩) hc.1 hc.2 h1
end parkOnce
end Go.Proofs.Yteejgejeggackaa
