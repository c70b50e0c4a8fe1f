/-
  The walk of ClockGoes (layer 4).
-/
import Derived.Test.YteejgejeggackaaLClock
import Derived.Test.YteejgejeggackaaSpread
namespace Go.Proofs.Yteejgejeggackaa
open Go.RowKit
namespace clockGoes

theorem three (w : World) (a b c : Int) (t : TypeId) : Reads (w.alloc (.cells #[.int .i64 a, .int .i64 b, .int .i64 c] t)) (w.alloc (.cells #[.int .i64 a, .int .i64 b, .int .i64 c] t)).heap.size 1 (some ⟨w.heap.size, 0, none⟩) 3 ([a, b, c].map (Value.int .i64)) := by
  refine ⟨rfl, fun _ => ⟨_, rfl, by simp, fun j u hu => ?_⟩⟩
  have h := (Blk.new w t #[.int .i64 a, .int .i64 b, .int .i64 c]).cell j
  have e : (⟨w.heap.size, 0, none⟩ : Addr).add j = ⟨w.heap.size, j, none⟩ := by unfold Addr.add; by_cases hj : j = 0 <;> simp [hj]
  rw [e, h]
  simpa using hu

/-- What the law's last tests lean on: the three ways that the numbers may lie. -/
theorem facts (n a b f s : Int) (_ : 0 ≤ n) (a0 : 0 ≤ a) (b0 : 0 ≤ b) (hs : Clock.IsSpread [n, f, n + a + b] s) :
    n + b + a = n + a + b ∧ max (n + a + b - n) 0 = a + b ∧ max (f - n) 0 ≤ s ∧ max (n - f) 0 ≤ s ∧ a + b ≤ s ∧
      ((f ≤ n ∧ s = n + a + b - f) ∨ (n < f ∧ f ≤ n + a + b ∧ s = a + b) ∨ (n + a + b < f ∧ s = f - n)) := by
  have hs : (f ≤ n ∧ s = n + a + b - f) ∨ (n < f ∧ f ≤ n + a + b ∧ s = a + b) ∨ (n + a + b < f ∧ s = f - n) := by
    rcases hs with ⟨h, _⟩ | ⟨x, hx, y, hy, rfl, hall⟩
    · cases h
    · have h1 := hall n (by simp)
      have h2 := hall f (by simp)
      have h3 := hall (n + a + b) (by simp)
      simp at hx hy
      omega
  exact ⟨by omega, by omega, by omega, by omega, by omega, hs⟩

theorem eqf {a b : Int} (h : a ≠ b) : (a == b) = false := by simpa using h
end clockGoes
end Go.Proofs.Yteejgejeggackaa
