/-
  Somebody who compares two floats: by which function, with what it holds.
-/
import Derived.Test.YtkjhacbkgnjilaaSortRow
import Derived.Test.YtkjhacbkgnjilaaFloat
namespace Go.Proofs.Ytkjhacbkgnjilaa
open Go.RowKit
namespace Sorts
def cmpI (x y : Nat) : Int := if Fl.rank x < Fl.rank y then -1 else if Fl.rank y < Fl.rank x then 1 else 0
theorem cmpI_neg (x y : Nat) : decide (cmpI x y < 0) = decide (Fl.rank x < Fl.rank y) := by
  unfold cmpI
  by_cases h : Fl.rank x < Fl.rank y
  · rw [if_pos h, decide_eq_true h]; rfl
  · rw [if_neg h, decide_eq_false h]
    split <;> rfl
structure CmpF where
  K : Nat
  caps : Array Value
  own : Nat → Prop
  I : World → Prop
  enter : ∀ (x y : Nat) (w : World), (callFunc K (#[.float .f64 x, .float .f64 y] ++ caps)).run Try.prog w = .ok (.enter K (#[.float .f64 x, .float .f64 y] ++ caps)) w
  keep : ∀ {w w'}, I w → (∀ k, own k → w'.heap[k]? = w.heap[k]?) → I w'
  lt : ∀ {w}, I w → ∀ k, own k → k < w.heap.size
  run : ∀ {w} (x y : Nat), x < 18446744073709551616 → y < 18446744073709551616 → I w → Calls Try.prog K (#[.float .f64 x, .float .f64 y] ++ caps) w fun e w' => e = .returned (.int .i64 (cmpI x y)) ∧ Below w.heap.size w w'
def okF (L : List Nat) : Prop := ∀ x ∈ L, x < 18446744073709551616
theorem okF.get {L : List Nat} (h : okF L) (i : Nat) : L.getD i 0 < 18446744073709551616 := by
  rw [List.getD_eq_getElem?_getD]
  cases e : L[i]? with
  | none => decide
  | some x => exact h x (List.mem_of_getElem? e)
theorem okF.perm {L M : List Nat} (h : okF L) (p : M.Perm L) : okF M := fun x hx => h x (p.mem_iff.1 hx)
theorem swp_perm (L : List Nat) {i j : Nat} (hi : i < L.length) (hj : j < L.length) : (swp L i j).Perm L := by
  have main : ∀ i j, i < j → j < L.length → (swp L i j).Perm L := fun i j hij hj => by
    have e1 : L = L.take i ++ L.getD i 0 :: ((L.drop (i + 1)).take (j - i - 1) ++ L.getD j 0 :: L.drop (j + 1)) := by
      have hi : i < L.length := by omega
      conv => lhs; rw [← List.take_append_drop i L, List.drop_eq_getElem_cons hi, ← List.take_append_drop (j - i - 1) (L.drop (i + 1)), List.drop_drop, show i + 1 + (j - i - 1) = j by omega, List.drop_eq_getElem_cons hj]
      rw [List.getD_eq_getElem?_getD, List.getElem?_eq_getElem hi, List.getD_eq_getElem?_getD, List.getElem?_eq_getElem hj]
      rfl
    obtain ⟨P, hP⟩ : ∃ P, P = L.take i := ⟨_, rfl⟩
    obtain ⟨Y, hY⟩ : ∃ Y, Y = (L.drop (i + 1)).take (j - i - 1) := ⟨_, rfl⟩
    obtain ⟨x, hx⟩ : ∃ x, x = L.getD i 0 := ⟨_, rfl⟩
    obtain ⟨y, hy⟩ : ∃ y, y = L.getD j 0 := ⟨_, rfl⟩
    obtain ⟨S, hS⟩ : ∃ S, S = L.drop (j + 1) := ⟨_, rfl⟩
    have hPl : P.length = i := by rw [hP, List.length_take]; omega
    have hYl : P.length + 1 + Y.length = j := by rw [hPl, hY, List.length_take, List.length_drop]; omega
    rw [← hP, ← hY, ← hx, ← hy, ← hS] at e1
    have e2 : swp L i j = P ++ y :: (Y ++ x :: S) := by
      rw [e1, ← hPl]
      have := swp_mid P Y S x y
      rw [hYl] at this
      exact this
    rw [e2, e1]
    refine List.Perm.append_left P ?_
    have h1 : (y :: (Y ++ x :: S)).Perm (y :: x :: (Y ++ S)) := List.Perm.cons y List.perm_middle
    have h2 : (x :: (Y ++ y :: S)).Perm (x :: y :: (Y ++ S)) := List.Perm.cons x List.perm_middle
    exact h1.trans ((List.Perm.swap x y (Y ++ S)).trans h2.symm)
  rcases Nat.lt_trichotomy i j with h | h | h
  · exact main i j h hj
  · subst h
    unfold swp
    rw [List.set_set]
    have : L.set i (L.getD i 0) = L := by
      apply List.ext_getElem?
      intro q
      rw [List.getElem?_set]
      split
      · rename_i e
        subst e
        rw [List.getD_eq_getElem?_getD, List.getElem?_eq_getElem hi]
        rfl
      · rfl
    rw [this]
  · rw [swp_comm L i j hi hj]
    exact main j i h hi
end Sorts
end Go.Proofs.Ytkjhacbkgnjilaa
