/-
  symMerge: two runs in order are parted, turned about, and joined each for itself. Plain lists, no program.
-/
import Derived.Test.YtkjhacbkgnjilaaSortDone
namespace Go.Proofs.Ytkjhacbkgnjilaa
namespace Sorts
variable {rk : Nat → Int}
theorem Done.at {a b : Nat} {P M Q D' : List Nat} (h : Done rk a b (P ++ (M ++ Q)) D') (hP : P.length = a) (hM : P.length + M.length = b) : ∃ M', D' = P ++ (M' ++ Q) ∧ M'.Perm M ∧ Srt rk M' := by
  obtain ⟨P1, M1, M1', Q1, e1, rfl, h1, h2, p, s⟩ := h
  obtain ⟨rfl, e2⟩ := List.append_inj e1 (by omega)
  obtain ⟨rfl, rfl⟩ := List.append_inj e2 (by omega)
  exact ⟨M1', rfl, p, s⟩
theorem Done.of {a b : Nat} {P M M' Q : List Nat} (hP : P.length = a) (hM : P.length + M.length = b) (p : M'.Perm M) (s : Srt rk M') : Done rk a b (P ++ (M ++ Q)) (P ++ (M' ++ Q)) := ⟨P, M, M', Q, rfl, rfl, hP, hM, p, s⟩
theorem seg_at {P M Q : List Nat} {a b : Nat} (hP : P.length = a) (hM : P.length + M.length = b) : seg (P ++ (M ++ Q)) a b = M := by
  subst hP hM
  exact seg_mid P M Q
structure Five (D : List Nat) (a s m e b : Nat) (P L1 L2 R1 R2 Q : List Nat) : Prop where
  eq : D = P ++ (L1 ++ (L2 ++ (R1 ++ (R2 ++ Q))))
  p : P.length = a
  l1 : a + L1.length = s
  l2 : s + L2.length = m
  r1 : m + R1.length = e
  r2 : e + R2.length = b
theorem five (D : List Nat) {a s m e b : Nat} (h1 : a ≤ s) (h2 : s ≤ m) (h3 : m ≤ e) (h4 : e ≤ b) (h5 : b ≤ D.length) : ∃ P L1 L2 R1 R2 Q, Five D a s m e b P L1 L2 R1 R2 Q := by
  refine ⟨D.take a, seg D a s, seg D s m, seg D m e, seg D e b, D.drop b, ⟨?_, ?_, ?_, ?_, ?_, ?_⟩⟩
  · have e1 := split3 D (show a ≤ b by omega)
    rw [seg_two D h1 (show s ≤ b by omega), seg_two D h2 (show m ≤ b by omega), seg_two D h3 h4] at e1
    simpa using e1
  · rw [List.length_take]; omega
  · rw [seg_len D h1 (by omega)]; omega
  · rw [seg_len D h2 (by omega)]; omega
  · rw [seg_len D h3 (by omega)]; omega
  · rw [seg_len D h4 h5]; omega
section
variable {D D1 D2 D3 P L1 L2 R1 R2 Q : List Nat} {a s m e b mid : Nat}
theorem Five.low (h : Five D a s m e b P L1 L2 R1 R2 Q) : seg D a m = L1 ++ L2 := by
  have := seg_at (P := P) (M := L1 ++ L2) (Q := R1 ++ (R2 ++ Q)) (a := a) (b := m) h.p (by have := h.p; have := h.l1; have := h.l2; simp; omega)
  rw [h.eq]
  simpa using this
theorem Five.high (h : Five D a s m e b P L1 L2 R1 R2 Q) : seg D m b = R1 ++ R2 := by
  have := seg_at (P := P ++ (L1 ++ L2)) (M := R1 ++ R2) (Q := Q) (a := m) (b := b) (by have := h.p; have := h.l1; have := h.l2; simp; omega) (by have := h.p; have := h.l1; have := h.l2; have := h.r1; have := h.r2; simp; omega)
  rw [h.eq]
  simpa using this
theorem five_join (h : Five D a s m e b P L1 L2 R1 R2 Q) (hmid : mid + m = s + e) (sL : Srt rk (seg D a m)) (sR : Srt rk (seg D m b))
    (hlow : s = a ∨ e = b ∨ rk (D.getD (s - 1) 0) ≤ rk (D.getD e 0)) (hhigh : s = m ∨ e = m ∨ rk (D.getD (e - 1) 0) ≤ rk (D.getD s 0))
    (h1 : D1 = P ++ (L1 ++ (R1 ++ (L2 ++ (R2 ++ Q))))) (h2 : Done rk a mid D1 D2 ∨ (D2 = D1 ∧ (s = a ∨ e = m))) (h3 : Done rk mid b D2 D3 ∨ (D3 = D2 ∧ (e = b ∨ s = m))) : Done rk a b D D3 := by
  rw [h.low] at sL
  rw [h.high] at sR
  have hp := h.p
  have hl1 := h.l1
  have hl2 := h.l2
  have hr1 := h.r1
  have hr2 := h.r2
  have c12 : ∀ x ∈ L1, ∀ y ∈ R2, rk x ≤ rk y := by
    refine cross_low (P := P) (Q := Q) sL sR ?_
    rw [← h.eq]
    rcases hlow with e1 | e1 | e1
    · exact .inl (List.eq_nil_of_length_eq_zero (by omega))
    · exact .inr (.inl (List.eq_nil_of_length_eq_zero (by omega)))
    · rw [show P.length + L1.length - 1 = s - 1 by omega, show P.length + L1.length + L2.length + R1.length = e by omega]
      exact .inr (.inr e1)
  have c21 : ∀ x ∈ R1, ∀ y ∈ L2, rk x ≤ rk y := by
    refine cross_high (P := P) (Q := Q) sL sR ?_
    rw [← h.eq]
    rcases hhigh with e1 | e1 | e1
    · exact .inl (List.eq_nil_of_length_eq_zero (by omega))
    · exact .inr (.inl (List.eq_nil_of_length_eq_zero (by omega)))
    · rw [show P.length + L1.length + L2.length + R1.length - 1 = e - 1 by omega, show P.length + L1.length = s by omega]
      exact .inr (.inr e1)
  obtain ⟨sL1, sL2, _⟩ := srt_app.1 sL
  obtain ⟨sR1, sR2, _⟩ := srt_app.1 sR
  have hmid2 : P.length + (L1 ++ R1).length = mid := by simp; omega
  have a1 : ∃ M1, D2 = P ++ (M1 ++ (L2 ++ (R2 ++ Q))) ∧ M1.Perm (L1 ++ R1) ∧ Srt rk M1 := by
    have e1 : D1 = P ++ ((L1 ++ R1) ++ (L2 ++ (R2 ++ Q))) := by rw [h1]; simp
    rcases h2 with h2 | ⟨h2, hn⟩
    · rw [e1] at h2
      exact h2.at hp hmid2
    · refine ⟨L1 ++ R1, by rw [h2, e1], List.Perm.refl _, ?_⟩
      rcases hn with hn | hn
      · rw [List.eq_nil_of_length_eq_zero (show L1.length = 0 by omega)]; exact sR1
      · rw [List.eq_nil_of_length_eq_zero (show R1.length = 0 by omega), List.append_nil]; exact sL1
  obtain ⟨M1, e2, p1, s1⟩ := a1
  have hM1 : P.length + M1.length = mid := by rw [p1.length_eq]; exact hmid2
  have a2 : ∃ M2, D3 = P ++ (M1 ++ (M2 ++ Q)) ∧ M2.Perm (L2 ++ R2) ∧ Srt rk M2 := by
    have e3 : D2 = (P ++ M1) ++ ((L2 ++ R2) ++ Q) := by rw [e2]; simp
    rcases h3 with h3 | ⟨h3, hn⟩
    · rw [e3] at h3
      obtain ⟨M2, e4, p2, s2⟩ := h3.at (by simp; omega) (by simp; omega)
      exact ⟨M2, by rw [e4]; simp, p2, s2⟩
    · refine ⟨L2 ++ R2, by rw [h3, e2]; simp, List.Perm.refl _, ?_⟩
      rcases hn with hn | hn
      · rw [List.eq_nil_of_length_eq_zero (show R2.length = 0 by omega), List.append_nil]; exact sL2
      · rw [List.eq_nil_of_length_eq_zero (show L2.length = 0 by omega)]; exact sR2
  obtain ⟨M2, e5, p2, s2⟩ := a2
  obtain ⟨sM, pM⟩ := srt_parts sL sR c12 c21 p1 p2 s1 s2
  have e6 : D = P ++ (((L1 ++ L2) ++ (R1 ++ R2)) ++ Q) := by rw [h.eq]; simp
  have e7 : D3 = P ++ ((M1 ++ M2) ++ Q) := by rw [e5]; simp
  rw [e6, e7]
  exact Done.of hp (by simp; omega) pM sM
/-- What the two calls within find. -/
theorem five_pre1 (h : Five D a s m e b P L1 L2 R1 R2 Q) (hmid : mid + m = s + e) (sL : Srt rk (seg D a m)) (sR : Srt rk (seg D m b)) (h1 : D1 = P ++ (L1 ++ (R1 ++ (L2 ++ (R2 ++ Q))))) : Srt rk (seg D1 a s) ∧ Srt rk (seg D1 s mid) := by
  rw [h.low] at sL
  rw [h.high] at sR
  have hp := h.p
  have hl1 := h.l1
  have hl2 := h.l2
  have hr1 := h.r1
  have e1 : seg D1 a s = L1 := by rw [h1]; exact seg_at hp (by omega)
  have e2 : seg D1 s mid = R1 := by
    rw [h1, show P ++ (L1 ++ (R1 ++ (L2 ++ (R2 ++ Q)))) = (P ++ L1) ++ (R1 ++ (L2 ++ (R2 ++ Q))) by simp]
    exact seg_at (by simp; omega) (by simp; omega)
  rw [e1, e2]
  exact ⟨(srt_app.1 sL).1, (srt_app.1 sR).1⟩
theorem five_pre2 (h : Five D a s m e b P L1 L2 R1 R2 Q) (hmid : mid + m = s + e) (sL : Srt rk (seg D a m)) (sR : Srt rk (seg D m b)) (h1 : D1 = P ++ (L1 ++ (R1 ++ (L2 ++ (R2 ++ Q))))) (h2 : Done rk a mid D1 D2 ∨ (D2 = D1 ∧ (s = a ∨ e = m))) : Srt rk (seg D2 mid e) ∧ Srt rk (seg D2 e b) := by
  have hp := h.p
  have hl1 := h.l1
  have hl2 := h.l2
  have hr1 := h.r1
  have hr2 := h.r2
  have e1 : seg D1 mid e = L2 := by
    rw [h1, show P ++ (L1 ++ (R1 ++ (L2 ++ (R2 ++ Q)))) = (P ++ (L1 ++ R1)) ++ (L2 ++ (R2 ++ Q)) by simp]
    exact seg_at (by simp; omega) (by simp; omega)
  have e2 : seg D1 e b = R2 := by
    rw [h1, show P ++ (L1 ++ (R1 ++ (L2 ++ (R2 ++ Q)))) = (P ++ (L1 ++ (R1 ++ L2))) ++ (R2 ++ Q) by simp]
    exact seg_at (by simp; omega) (by simp; omega)
  have e3 : seg D2 mid e = seg D1 mid e ∧ seg D2 e b = seg D1 e b := by
    rcases h2 with h2 | ⟨h2, _⟩
    · exact ⟨h2.high (Nat.le_refl _), h2.high (by omega)⟩
    · rw [h2]; exact ⟨rfl, rfl⟩
  rw [e3.1, e3.2, e1, e2]
  rw [h.low] at sL
  rw [h.high] at sR
  exact ⟨(srt_app.1 sL).2.1, (srt_app.1 sR).2.1⟩
end
/-- Neighbours change their places. -/
theorem swp_adj (P S : List Nat) (x y : Nat) : swp (P ++ x :: y :: S) P.length (P.length + 1) = P ++ y :: x :: S := by
  have := swp_mid P [] S x y
  simpa using this
theorem swp_adj' (P S : List Nat) (x y : Nat) : swp (P ++ x :: y :: S) (P.length + 1) P.length = P ++ y :: x :: S := by
  rw [swp_comm _ _ _ (by simp) (by simp)]
  exact swp_adj P S x y
/-- One alone ahead of a run: to its place. -/
theorem one_low {D D' P R1 R2 Q : List Nat} {v a m e b : Nat} (h : Five D a a m e b P [] [v] R1 R2 Q) (sR : Srt rk (seg D m b)) (h1 : R1 = [] ∨ rk (D.getD (e - 1) 0) ≤ rk v) (h2 : R2 = [] ∨ rk v ≤ rk (D.getD e 0)) (h' : D' = P ++ (R1 ++ v :: (R2 ++ Q))) : Done rk a b D D' := by
  have hp := h.p
  have hl2 := h.l2
  have hr1 := h.r1
  have hr2 := h.r2
  simp at hl2
  have hv : D.getD a 0 = v := by rw [h.eq, ← hp]; simp
  have sR' := sR
  rw [h.high] at sR'
  have sL : Srt rk (seg D a m) := by rw [h.low]; exact srt_one v
  have sv : Srt rk ([v] ++ R2) := by
    cases R2 with
    | nil => exact srt_one v
    | cons y R2 =>
      rcases h2 with h2 | h2
      · cases h2
      · have hy : D.getD e 0 = y := by
          rw [h.eq, show P ++ ([] ++ ([v] ++ (R1 ++ (y :: R2 ++ Q)))) = (P ++ (v :: R1)) ++ y :: (R2 ++ Q) by simp, show e = (P ++ (v :: R1)).length by simp; omega]
          exact getD_mid _ _ _
        rw [hy] at h2
        exact List.pairwise_cons.2 ⟨srt_first (srt_app.1 sR').2.1 h2, (srt_app.1 sR').2.1⟩
  refine five_join (mid := e - 1) (D1 := D') (D2 := D') h (by omega) sL sR (.inl rfl) ?_ (by rw [h']; simp) (.inr ⟨rfl, .inl rfl⟩) (.inl ?_)
  · rcases h1 with h1 | h1
    · rw [h1] at hr1; simp at hr1; exact .inr (.inl hr1.symm)
    · rw [hv]; exact .inr (.inr h1)
  · have e1 : D' = (P ++ R1) ++ (([v] ++ R2) ++ Q) := by rw [h']; simp
    rw [e1]
    exact Done.of (by simp; omega) (by simp; omega) (List.Perm.refl _) sv
/-- One alone behind a run: to its place. -/
theorem one_high {D D' P L1 L2 Q : List Nat} {v a s m b : Nat} (h : Five D a s m b b P L1 L2 [v] [] Q) (sL : Srt rk (seg D a m)) (h1 : L1 = [] ∨ rk (D.getD (s - 1) 0) ≤ rk v) (h2 : L2 = [] ∨ rk v ≤ rk (D.getD s 0)) (h' : D' = P ++ (L1 ++ v :: (L2 ++ Q))) : Done rk a b D D' := by
  have hp := h.p
  have hl1 := h.l1
  have hl2 := h.l2
  have hr1 := h.r1
  simp at hr1
  have hv : D.getD m 0 = v := by
    rw [h.eq, show P ++ (L1 ++ (L2 ++ ([v] ++ ([] ++ Q)))) = (P ++ (L1 ++ L2)) ++ v :: Q by simp, show m = (P ++ (L1 ++ L2)).length by simp; omega]
    exact getD_mid _ _ _
  have sL' := sL
  rw [h.low] at sL'
  have sR : Srt rk (seg D m b) := by rw [h.high]; exact srt_one v
  have sv : Srt rk (L1 ++ [v]) := by
    by_cases hn : L1 = []
    · rw [hn]; exact srt_one v
    · rcases h1 with h1 | h1
      · exact absurd h1 hn
      · obtain ⟨X, u, rfl⟩ := last_of hn
        have hu : D.getD (s - 1) 0 = u := by
          rw [h.eq, show P ++ (X ++ [u] ++ (L2 ++ ([v] ++ ([] ++ Q)))) = (P ++ X) ++ u :: (L2 ++ v :: Q) by simp, show s - 1 = (P ++ X).length by simp at hl1 ⊢; omega]
          exact getD_mid _ _ _
        rw [hu] at h1
        exact srt_app.2 ⟨(srt_app.1 sL').1, srt_one v, fun x hx y hy => by rw [List.mem_singleton.1 hy]; exact srt_last (srt_app.1 sL').1 h1 x hx⟩
  refine five_join (mid := s + 1) (D1 := D') (D2 := D') h (by omega) sL sR (.inr (.inl rfl)) ?_ (by rw [h']; simp) (.inl ?_) (.inr ⟨rfl, .inl rfl⟩)
  · rcases h2 with h2 | h2
    · rw [h2] at hl2; simp at hl2; exact .inl hl2
    · rw [show b - 1 = m by omega, hv]; exact .inr (.inr h2)
  · have e1 : D' = P ++ ((L1 ++ [v]) ++ (L2 ++ Q)) := by rw [h']; simp
    rw [e1]
    exact Done.of hp (by simp; omega) (List.Perm.refl _) sv
end Sorts
end Go.Proofs.Ytkjhacbkgnjilaa
