/-
  A slice from an index on, under one name.
-/
import Derived.Test.YteejgejeggackaaWords2
namespace Go.Proofs.Yteejgejeggackaa
open Go.RowKit
def cutA (A : Option Addr) (c k size : Nat) : Option Addr := if c = k then A else A.map (·.add (k * size))
theorem Reads.cutA {w : World} {B size n k c : Nat} {A : Option Addr} {xs : List Value} (h : Reads w B size A n xs) (hk : k ≤ n) (hc : n ≤ c) : Reads w B size (cutA A c k size) (n - k) (xs.drop (k * size)) := h.cut hk hc
theorem Reads.int_drop {w : World} {B n k c : Nat} {A : Option Addr} {zs : List Int} (h : Reads w B 1 A n (zs.map (Value.int .i64))) (hk : k ≤ n) (hc : n ≤ c) : Reads w B 1 (Go.Proofs.Yteejgejeggackaa.cutA A c k 1) (n - k) ((zs.drop k).map (Value.int .i64)) := by
  have := h.cutA hk hc
  rwa [Nat.mul_one, ← List.map_drop] at this
theorem run_from_ints (A : Option Addr) (n c k : Nat) (hk : k ≤ n) (w : World) : (Instr.slice 30 (.slice A n c) (some (.int .i64 k)) none none).run Try.prog w = .ok (.slice (cutA A c k 1) (n - k) (c - k)) w := by
  have hi : (Try.prog.info? 3).map (fun i => (i.zero, i.size, i.bytes)) = some (some (.int .i64 0), 1, 8) := by kernel_rfl
  obtain ⟨i0, hi, hz0, hz1, hz2⟩ := info_parts hi
  have he : Try.prog.elem 30 = 3 := by kernel_rfl
  rw [run_slice_l w 30 A n c (by rw [he]; exact Try.underlying30) .i64 k (by omega) (by omega), he]
  simp [sizeOf, typeInfo, hi, hz1, sliced, cutA]

theorem own_reads3 {w : World} {B n size : Nat} {e : TypeId} {v : Value} {xs : List Value} (h : w.ownsRow B e size v n xs) : ∃ A c, v = .slice A n c ∧ n ≤ c ∧ c ≤ maxLen ∧ Reads w w.heap.size size A n xs := by
  have h' := h
  rcases h.2 with ⟨rfl, rfl⟩ | ⟨g, cap, cur, rfl, _, _, h1, h2, _⟩
  · exact ⟨none, 0, rfl, Nat.le_refl _, by simp [maxLen], Reads.of_own h'⟩
  · exact ⟨_, cap, rfl, h1, h2, Reads.of_own h'⟩
end Go.Proofs.Yteejgejeggackaa
