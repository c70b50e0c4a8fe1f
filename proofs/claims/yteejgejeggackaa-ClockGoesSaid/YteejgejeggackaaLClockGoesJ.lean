/-
  The walk of ClockGoes (layer 4), whole.
-/
import Derived.Test.YteejgejeggackaaLClockGoesA
import Derived.Test.YteejgejeggackaaLClockGoesB
import Derived.Test.YteejgejeggackaaLClockGoesC
namespace Go.Proofs.Yteejgejeggackaa
open Go.RowKit
namespace clockGoes
theorem walk (ar br cr dr : Int) (w : World) (_ : (Lit.int .i64 ar).wf = true) (_ : (Lit.int .i64 br).wf = true) (_ : (Lit.int .i64 cr).wf = true) (_ : (Lit.int .i64 dr).wf = true) :
    Calls Try.prog 5 #[.int .i64 ar, .int .i64 br, .int .i64 cr, .int .i64 dr] w fun e w' => e = .returned (.bool true) ∧ Below w.heap.size w w' := by
  obtain ⟨n, hn, n0, n1⟩ := mod60 ar
  obtain ⟨a, ha, a0, a1⟩ := mod60 br
  obtain ⟨b, hb, b0, b1⟩ := mod60 cr
  obtain ⟨f, hf, f0, f1⟩ := mod60 dr
  by_cases h : f ≤ n
  · by_cases h2 : 1000000 < max (n - f) 0
    · exact walkB n a b f ar br cr dr w hn n0 n1 ha a0 a1 hb b0 b1 hf f0 f1 (Lib.hid ⟨h, h2⟩)
    · exact walkA n a b f ar br cr dr w hn n0 n1 ha a0 a1 hb b0 b1 hf f0 f1 (Lib.hid ⟨h, h2⟩)
  · exact walkC n a b f ar br cr dr w hn n0 n1 ha a0 a1 hb b0 b1 hf f0 f1 (Lib.hid (by omega))
end clockGoes
end Go.Proofs.Yteejgejeggackaa
