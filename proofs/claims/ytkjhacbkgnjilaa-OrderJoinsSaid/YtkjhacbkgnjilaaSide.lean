/-
  What a function value may turn: its own blocks, and what it makes; all else stays.
-/
import Derived.Test.YtkjhacbkgnjilaaWords
namespace Go.Proofs.Ytkjhacbkgnjilaa
open Go.RowKit

/-- All blocks but own ones are as they were; the streams are; no block has gone. -/
structure Kp (own : Nat → Prop) (w w' : World) : Prop where
  zero : Below 0 w w'
  same : ∀ k, k < w.heap.size → ¬ own k → w'.heap[k]? = w.heap[k]?
section
variable {own own' : Nat → Prop} {w a b w' : World}
theorem Kp.refl (own : Nat → Prop) (w : World) : Kp own w w := ⟨Below.refl _ _, fun _ _ _ => rfl⟩
theorem Kp.of_below (h : Below w.heap.size w w') : Kp own w w' := ⟨h.mono (Nat.zero_le _), fun k hk _ => h.block k hk⟩
theorem Kp.size (h : Kp own w w') : w.heap.size ≤ w'.heap.size := h.zero.size
theorem Kp.trans (h : Kp own w a) (k : Kp own' a b) (hs : ∀ i, own' i → own i ∨ w.heap.size ≤ i) : Kp own w b :=
  ⟨h.zero.trans k.zero, fun i hi hn => (k.same i (Nat.lt_of_lt_of_le hi h.size) (fun ho => by
    rcases hs i ho with h1 | h1
    · exact hn h1
    · omega)).trans (h.same i hi hn)⟩
theorem Kp.below_ {B : Nat} (h : Kp own w w') (hB : B ≤ w.heap.size) (ho : ∀ k, own k → B ≤ k) : Below B w w' :=
  ⟨h.zero.os, h.zero.tape, h.zero.output, h.zero.size, fun k hk => h.same k (by omega) (fun hq => by have := ho k hq; omega)⟩
theorem Kp.alloc (h : Kp own w a) (o : Obj) : Kp own w (a.alloc o) := h.trans (own' := fun _ => False) (.of_below ((Below.refl _ _).alloc (Nat.le_refl _) o)) (fun _ h => h.elim)
theorem Kp.drew (h : Kp own w a) : Kp own w a.drew := h.trans (own' := fun _ => False) (.of_below (Below.refl _ _).drew) (fun _ h => h.elim)
theorem Kp.more (h : Kp own w a) (k : Below a.heap.size a b) : Kp own w b := h.trans (own' := fun _ => False) (.of_below k) (fun _ h => h.elim)
theorem Kp.setCell (h : Kp own w a) {p : Addr} (hp : own p.block ∨ w.heap.size ≤ p.block) (u : Value) : Kp own w (a.setCell p u) :=
  ⟨h.zero.setCell (Nat.zero_le _) u, fun k hk hn => (Below.heap_setCell a p u k (fun e => by
    subst e
    rcases hp with hp | hp
    · exact hn hp
    · omega)).trans (h.same k hk hn)⟩
theorem Kp.grown {row : Option Nat} (h : Kp own w a) (hg : a.grownBy b row) (hr : ∀ g, row = some g → own g ∨ w.heap.size ≤ g) : Kp own w b :=
  ⟨h.zero.grown hg (Nat.zero_le _) (fun _ _ => Nat.zero_le _), fun k hk hn => (hg.block k (Nat.lt_of_lt_of_le hk h.size) (fun e => by
    rcases hr k e.symm with hq | hq
    · exact hn hq
    · omega)).trans (h.same k hk hn)⟩
theorem Kp.imp (h : Kp own w w') (ho : ∀ k, own k → own' k) : Kp own' w w' := ⟨h.zero, fun k hk hn => h.same k hk (fun hq => hn (ho k hq))⟩
theorem Blk.kp {g : Nat} {t : TypeId} {cs : Array Value} (h : Blk w g t cs) (hk : Kp own w w') (hg : ¬ own g) : Blk w' g t cs := (hk.same g h.lt hg).trans h
theorem own_kp {base : Nat} {e : TypeId} {size n : Nat} {v : Value} {xs : List Value} (h : w.ownsRow base e size v n xs) (hk : Kp own w w') (hg : ∀ g, v.ownBlock = some g → ¬ own g) : w'.ownsRow base e size v n xs := by
  obtain ⟨h1, h2⟩ := h
  refine ⟨h1, ?_⟩
  rcases h2 with h2 | ⟨g, cap, cur, rfl, hb, hh, r⟩
  · exact .inl h2
  · have hlt : g < w.heap.size := by
      rcases Nat.lt_or_ge g w.heap.size with hlt | hge
      · exact hlt
      · rw [Array.getElem?_eq_none hge] at hh; cases hh
    exact .inr ⟨g, cap, cur, rfl, hb, (hk.same g hlt (hg g (by simp [Value.ownBlock]))).trans hh, r⟩
end
/-- A row of the call's own, cut behind. -/
theorem own_cut {w : World} {base : Nat} {e : TypeId} {size n k : Nat} {g : Addr} {c : Nat} {xs : List Value} (h : w.ownsRow base e size (.slice (some g) n c) n xs) (hk : k ≤ n) : w.ownsRow base e size (.slice (some g) k c) k (xs.take (k * size)) := by
  obtain ⟨h1, h2⟩ := h
  have hm := Nat.mul_le_mul_right size hk
  rcases h2 with ⟨hv, _⟩ | ⟨g', cap, cur, hv, hb, hh, hn, hm2, hs, hx⟩
  · cases hv
  · injection hv with e1 e2 e3
    injection e1 with e1
    subst e1 e3
    refine ⟨by rw [List.length_take, h1]; omega, .inr ⟨g', c, cur, rfl, hb, hh, by omega, hm2, hs, ?_⟩⟩
    rw [← hx, List.take_take, Nat.min_eq_left hm]
end Go.Proofs.Ytkjhacbkgnjilaa
