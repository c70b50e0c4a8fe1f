/-
  A run of a row is put in order; blocks in order are joined two by two. Plain lists, no program.
-/
import Derived.Test.YtkjhacbkgnjilaaSortLaw
namespace Go.Proofs.Ytkjhacbkgnjilaa
namespace Sorts
variable {rk : Nat → Int}
/-- From one place to another a row is in order now, with the same in it. -/
def Done (rk : Nat → Int) (a b : Nat) (D D' : List Nat) : Prop := ∃ P M M' Q, D = P ++ (M ++ Q) ∧ D' = P ++ (M' ++ Q) ∧ P.length = a ∧ P.length + M.length = b ∧ M'.Perm M ∧ Srt rk M'
section
variable {a b : Nat} {D D' : List Nat}
theorem Done.len (h : Done rk a b D D') : D'.length = D.length := by
  obtain ⟨P, M, M', Q, rfl, rfl, _, _, p, _⟩ := h
  simp [p.length_eq]
theorem Done.perm (h : Done rk a b D D') : D'.Perm D := by
  obtain ⟨P, M, M', Q, rfl, rfl, _, _, p, _⟩ := h
  exact seg_perm p
theorem Done.le (h : Done rk a b D D') : a ≤ b ∧ b ≤ D.length := by
  obtain ⟨P, M, M', Q, rfl, rfl, h1, h2, p, _⟩ := h
  simp
  omega
theorem Done.low (h : Done rk a b D D') {x y : Nat} (hy : y ≤ a) : seg D' x y = seg D x y := by
  obtain ⟨P, M, M', Q, rfl, rfl, h1, _, _, _⟩ := h
  exact seg_low P _ _ (by omega)
theorem Done.high (h : Done rk a b D D') {x y : Nat} (hx : b ≤ x) : seg D' x y = seg D x y := by
  obtain ⟨P, M, M', Q, rfl, rfl, _, h2, p, _⟩ := h
  exact seg_high P M M' Q p.length_eq (by omega)
theorem Done.srt (h : Done rk a b D D') : Srt rk (seg D' a b) := by
  obtain ⟨P, M, M', Q, rfl, rfl, h1, h2, p, s⟩ := h
  have e := seg_mid P M' Q
  rw [p.length_eq, h2, h1] at e
  rw [e]
  exact s
/-- As it is asked: out of what is at the places. -/
theorem Done.mk (hab : a ≤ b) (hb : b ≤ D.length) {M' : List Nat} (p : M'.Perm (seg D a b)) (s : Srt rk M') : Done rk a b D (D.take a ++ (M' ++ D.drop b)) := by
  refine ⟨D.take a, seg D a b, M', D.drop b, split3 D hab, rfl, ?_, ?_, p, s⟩
  · rw [List.length_take]; omega
  · rw [List.length_take, seg_len D hab hb]; omega
end
theorem Done.of' {a b : Nat} {P M M' Q : List Nat} (hP : P.length = a) (hM : P.length + M.length = b) (p : M'.Perm M) (s : Srt rk M') : Done rk a b (P ++ (M ++ Q)) (P ++ (M' ++ Q)) := ⟨P, M, M', Q, rfl, rfl, hP, hM, p, s⟩
theorem seg_over (L : List Nat) {a b : Nat} (h : L.length ≤ b) : seg L a b = seg L a L.length := by
  unfold seg
  rw [List.take_of_length_le (by rw [List.length_drop]; omega), List.take_of_length_le (by rw [List.length_drop]; omega)]
theorem seg_none (L : List Nat) {a b : Nat} (h : L.length ≤ a) : seg L a b = [] := by
  unfold seg
  rw [List.drop_of_length_le h, List.take_nil]
/-- All blocks of so many are in order. -/
def BS (rk : Nat → Int) (bs : Nat) (D : List Nat) : Prop := ∀ i, Srt rk (seg D (i * bs) ((i + 1) * bs))
/-- The first ones are in order. -/
def Up1 (rk : Nat → Int) (bs i : Nat) (D : List Nat) : Prop := ∀ j, j < i → Srt rk (seg D (j * bs) ((j + 1) * bs))
theorem up1_step {bs i : Nat} {D D' : List Nat} (h : Up1 rk bs i D) (hd : Done rk (i * bs) ((i + 1) * bs) D D') : Up1 rk bs (i + 1) D' := by
  intro j hj
  by_cases e : j = i
  · subst e; exact hd.srt
  · rw [hd.low (Nat.mul_le_mul_right bs (show j + 1 ≤ i by omega))]
    exact h j (by omega)
theorem up1_end {bs i : Nat} {D D' : List Nat} (h : Up1 rk bs i D) (hd : Done rk (i * bs) D.length D D') (hi : D.length < (i + 1) * bs) : BS rk bs D' := by
  intro j
  have hl := hd.len
  by_cases e : j < i
  · rw [hd.low (Nat.mul_le_mul_right bs (show j + 1 ≤ i by omega))]
    exact h j e
  · by_cases e2 : j = i
    · subst e2
      rw [seg_over D' (by omega), hl]
      exact hd.srt
    · have : (i + 1) * bs ≤ j * bs := Nat.mul_le_mul_right bs (show i + 1 ≤ j by omega)
      rw [seg_none D' (by omega)]
      exact List.Pairwise.nil
/-- The first pairs are joined, all others are blocks in order. -/
def Up2 (rk : Nat → Int) (bs i : Nat) (D : List Nat) : Prop := (∀ j, j < i → Srt rk (seg D (j * (2 * bs)) ((j + 1) * (2 * bs)))) ∧ ∀ j, 2 * i ≤ j → Srt rk (seg D (j * bs) ((j + 1) * bs))
theorem up2_start {bs : Nat} {D : List Nat} (h : BS rk bs D) : Up2 rk bs 0 D := ⟨fun j hj => by omega, fun j _ => h j⟩
theorem mul2 (i bs : Nat) : i * (2 * bs) = 2 * i * bs := by rw [← Nat.mul_assoc, Nat.mul_comm i 2]
theorem up2_two {bs i : Nat} {D : List Nat} (h : Up2 rk bs i D) : Srt rk (seg D (i * (2 * bs)) (i * (2 * bs) + bs)) ∧ Srt rk (seg D (i * (2 * bs) + bs) (i * (2 * bs) + 2 * bs)) := by
  have h1 := h.2 (2 * i) (Nat.le_refl _)
  have h2 := h.2 (2 * i + 1) (by omega)
  rw [← mul2, Nat.add_mul, ← mul2, Nat.one_mul] at h1
  rw [Nat.add_mul, Nat.add_mul, Nat.add_mul, ← mul2, Nat.one_mul] at h2
  refine ⟨h1, ?_⟩
  rw [show i * (2 * bs) + 2 * bs = i * (2 * bs) + bs + bs by omega]
  exact h2
theorem up2_step {bs i : Nat} {D D' : List Nat} (h : Up2 rk bs i D) (hd : Done rk (i * (2 * bs)) ((i + 1) * (2 * bs)) D D') : Up2 rk bs (i + 1) D' := by
  refine ⟨fun j hj => ?_, fun j hj => ?_⟩
  · by_cases e : j = i
    · subst e; exact hd.srt
    · rw [hd.low (Nat.mul_le_mul_right _ (show j + 1 ≤ i by omega))]
      exact h.1 j (by omega)
  · rw [hd.high (by rw [mul2]; exact Nat.mul_le_mul_right bs (by omega))]
    exact h.2 j (by omega)
theorem up2_end1 {bs i : Nat} {D D' : List Nat} (h : Up2 rk bs i D) (hd : Done rk (i * (2 * bs)) D.length D D') (hi : D.length < (i + 1) * (2 * bs)) : BS rk (2 * bs) D' := up1_end (fun j hj => h.1 j hj) hd hi
theorem up2_end2 {bs i : Nat} {D : List Nat} (h : Up2 rk bs i D) (hi : D.length ≤ i * (2 * bs) + bs) : BS rk (2 * bs) D := by
  intro j
  by_cases e : j < i
  · exact h.1 j e
  · by_cases e2 : j = i
    · subst e2
      rw [seg_over D (by rw [Nat.add_mul, Nat.one_mul]; omega)]
      have h1 := (up2_two h).1
      rw [seg_over D hi] at h1
      exact h1
    · have : (i + 1) * (2 * bs) ≤ j * (2 * bs) := Nat.mul_le_mul_right _ (show i + 1 ≤ j by omega)
      rw [Nat.add_mul, Nat.one_mul] at this
      rw [seg_none D (by omega)]
      exact List.Pairwise.nil
theorem bs_all {bs : Nat} {D : List Nat} (h : BS rk bs D) (hn : D.length ≤ bs) : Srt rk D := by
  have := h 0
  rw [Nat.zero_mul, Nat.zero_add, Nat.one_mul, seg_over D hn] at this
  unfold seg at this
  rwa [List.drop_zero, Nat.sub_zero, List.take_of_length_le (Nat.le_refl _)] at this
end Sorts
end Go.Proofs.Ytkjhacbkgnjilaa
