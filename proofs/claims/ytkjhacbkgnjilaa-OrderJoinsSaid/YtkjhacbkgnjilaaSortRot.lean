/-
  Two runs, one behind the other, change their places: round by round. Plain lists, no program.
-/
import Derived.Test.YtkjhacbkgnjilaaSortSym
namespace Go.Proofs.Ytkjhacbkgnjilaa
namespace Sorts
/-- Runs of i and of j meet at m; when they have changed their places it is T. -/
def Rot (T : List Nat) (i j m : Nat) (D : List Nat) : Prop := ∃ P L R Q, D = P ++ (L ++ (R ++ Q)) ∧ L.length = i ∧ R.length = j ∧ P.length + i = m ∧ T = P ++ (R ++ (L ++ Q))
def swaps (D : List Nat) (a b k : Nat) : List Nat := (List.range k).foldl (fun L x => swp L (a + x) (b + x)) D
theorem swaps_succ (D : List Nat) (a b k : Nat) : swaps D a b (k + 1) = swp (swaps D a b k) (a + k) (b + k) := by
  unfold swaps
  rw [List.range_succ, List.foldl_append]
  rfl
theorem swaps_len (D : List Nat) (a b : Nat) : ∀ k, (swaps D a b k).length = D.length := by
  intro k
  induction k with
  | zero => rfl
  | succ k ih => rw [swaps_succ, swp_len, ih]
theorem swaps_run (P X Y Z S : List Nat) {a b k : Nat} (hX : X.length = k) (hZ : Z.length = k) (ha : a = P.length) (hb : b = P.length + k + Y.length) : swaps (P ++ (X ++ (Y ++ (Z ++ S)))) a b k = P ++ (Z ++ (Y ++ (X ++ S))) := by
  subst ha hb
  exact swp_run k P X Y Z S hX hZ
theorem Rot.le {T D : List Nat} {i j m : Nat} (h : Rot T i j m D) : i ≤ m ∧ m + j ≤ D.length := by
  obtain ⟨P, L, R, Q, rfl, h1, h2, h3, _⟩ := h
  simp
  omega
theorem rot_gt {T D : List Nat} {i j m : Nat} (h : Rot T i j m D) (hij : j < i) : Rot T (i - j) j m (swaps D (m - i) m j) := by
  obtain ⟨P, L, R, Q, rfl, h1, h2, h3, rfl⟩ := h
  obtain ⟨L1, L2, rfl, hl⟩ : ∃ L1 L2, L = L1 ++ L2 ∧ L1.length = j := ⟨L.take j, L.drop j, (List.take_append_drop j L).symm, by rw [List.length_take]; omega⟩
  rw [List.length_append] at h1
  have e := swaps_run P L1 L2 R Q (a := m - i) (b := m) (k := j) hl h2 (by omega) (by omega)
  simp only [List.append_assoc]
  rw [e]
  exact ⟨P ++ R, L2, L1, Q, by simp, by omega, hl, by simp; omega, by simp⟩
theorem rot_lt {T D : List Nat} {i j m : Nat} (h : Rot T i j m D) (hij : i < j) : Rot T i (j - i) m (swaps D (m - i) (m + j - i) i) := by
  obtain ⟨P, L, R, Q, rfl, h1, h2, h3, rfl⟩ := h
  obtain ⟨R1, R2, rfl, hl⟩ : ∃ R1 R2, R = R1 ++ R2 ∧ R1.length = j - i := ⟨R.take (j - i), R.drop (j - i), (List.take_append_drop (j - i) R).symm, by rw [List.length_take]; omega⟩
  rw [List.length_append] at h2
  have e := swaps_run P L R1 R2 Q (a := m - i) (b := m + j - i) (k := i) h1 (by omega) (by omega) (by omega)
  simp only [List.append_assoc]
  rw [e]
  exact ⟨P, R2, R1, L ++ Q, by simp, by omega, hl, h3, by simp⟩
theorem rot_eq {T D : List Nat} {i m : Nat} (h : Rot T i i m D) : swaps D (m - i) m i = T := by
  obtain ⟨P, L, R, Q, rfl, h1, h2, h3, rfl⟩ := h
  have := swaps_run P L [] R Q (a := m - i) (b := m) (k := i) h1 h2 (by omega) (by simp; omega)
  simpa using this
end Sorts
end Go.Proofs.Ytkjhacbkgnjilaa
