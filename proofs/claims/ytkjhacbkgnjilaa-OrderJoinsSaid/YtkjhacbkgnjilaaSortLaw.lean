/-
  Rows in order by a rank: what Go's stable sort makes of them, piece by piece. Plain lists, no program.
-/
import Derived.Test.YtkjhacbkgnjilaaBase
namespace Go.Proofs.Ytkjhacbkgnjilaa
namespace Sorts
variable (rk : Nat → Int)
def Srt (L : List Nat) : Prop := L.Pairwise (fun x y => rk x ≤ rk y)
variable {rk}
theorem srt_app {L R : List Nat} : Srt rk (L ++ R) ↔ Srt rk L ∧ Srt rk R ∧ ∀ x ∈ L, ∀ y ∈ R, rk x ≤ rk y := List.pairwise_append
theorem srt_one (v : Nat) : Srt rk [v] := List.pairwise_singleton _ _
/-- What is put into a row in order, at its place. -/
theorem srt_insert {X Y : List Nat} {v : Nat} (h : Srt rk (X ++ Y)) (h1 : ∀ x ∈ X, rk x ≤ rk v) (h2 : ∀ y ∈ Y, rk v ≤ rk y) : Srt rk (X ++ v :: Y) := by
  obtain ⟨a, b, c⟩ := srt_app.1 h
  refine srt_app.2 ⟨a, List.pairwise_cons.2 ⟨h2, b⟩, fun x hx y hy => ?_⟩
  rcases List.mem_cons.1 hy with rfl | hy
  · exact h1 x hx
  · exact c x hx y hy
theorem srt_last {X : List Nat} {u v : Nat} (h : Srt rk (X ++ [u])) (hu : rk u ≤ rk v) : ∀ x ∈ X ++ [u], rk x ≤ rk v := by
  obtain ⟨_, _, c⟩ := srt_app.1 h
  intro x hx
  rcases List.mem_append.1 hx with hx | hx
  · exact Int.le_trans (c x hx u (by simp)) hu
  · rw [List.mem_singleton.1 hx]; exact hu
theorem srt_first {Y : List Nat} {u v : Nat} (h : Srt rk (u :: Y)) (hu : rk v ≤ rk u) : ∀ y ∈ u :: Y, rk v ≤ rk y := by
  intro y hy
  rcases List.mem_cons.1 hy with rfl | hy
  · exact hu
  · exact Int.le_trans hu ((List.pairwise_cons.1 h).1 y hy)
/-- Two rows in order, each parted in two: what is ahead in both comes together, and what is behind. -/
theorem srt_parts {L1 L2 R1 R2 M1 M2 : List Nat} (hL : Srt rk (L1 ++ L2)) (hR : Srt rk (R1 ++ R2)) (h12 : ∀ x ∈ L1, ∀ y ∈ R2, rk x ≤ rk y) (h21 : ∀ x ∈ R1, ∀ y ∈ L2, rk x ≤ rk y)
    (p1 : M1.Perm (L1 ++ R1)) (p2 : M2.Perm (L2 ++ R2)) (s1 : Srt rk M1) (s2 : Srt rk M2) : Srt rk (M1 ++ M2) ∧ (M1 ++ M2).Perm ((L1 ++ L2) ++ (R1 ++ R2)) := by
  obtain ⟨_, _, cL⟩ := srt_app.1 hL
  obtain ⟨_, _, cR⟩ := srt_app.1 hR
  refine ⟨srt_app.2 ⟨s1, s2, fun x hx y hy => ?_⟩, ?_⟩
  · have hx := p1.mem_iff.1 hx
    have hy := p2.mem_iff.1 hy
    rcases List.mem_append.1 hx with hx | hx <;> rcases List.mem_append.1 hy with hy | hy
    · exact cL x hx y hy
    · exact h12 x hx y hy
    · exact h21 x hx y hy
    · exact cR x hx y hy
  · refine (p1.append p2).trans ?_
    have : ((L1 ++ R1) ++ (L2 ++ R2)).Perm ((L1 ++ L2) ++ (R1 ++ R2)) := by
      rw [List.append_assoc, List.append_assoc]
      refine List.Perm.append_left L1 ?_
      rw [← List.append_assoc, ← List.append_assoc]
      exact (List.perm_append_comm (l₁ := R1) (l₂ := L2)).append_right R2
    exact this
/-- A row at its place between others. -/
theorem at_mid {P S : List Nat} {x : Nat} : (P ++ x :: S)[P.length]? = some x := by simp
theorem set_mid {P S : List Nat} {x v : Nat} : (P ++ x :: S).set P.length v = P ++ v :: S := by simp
/-- Two places change what they have. -/
def swp (L : List Nat) (i j : Nat) : List Nat := (L.set i (L.getD j 0)).set j (L.getD i 0)
theorem swp_len (L : List Nat) (i j : Nat) : (swp L i j).length = L.length := by simp [swp]
theorem swp_mid (P Y S : List Nat) (x y : Nat) : swp (P ++ x :: (Y ++ y :: S)) P.length (P.length + 1 + Y.length) = P ++ y :: (Y ++ x :: S) := by
  have e1 : (P ++ x :: (Y ++ y :: S)).getD P.length 0 = x := by simp
  have e2 : (P ++ x :: (Y ++ y :: S)).getD (P.length + 1 + Y.length) 0 = y := by
    rw [List.getD_eq_getElem?_getD, show P ++ x :: (Y ++ y :: S) = (P ++ x :: Y) ++ y :: S by simp]
    rw [show P.length + 1 + Y.length = (P ++ x :: Y).length by simp; omega, at_mid]
    rfl
  unfold swp
  rw [e1, e2, set_mid, show P ++ y :: (Y ++ y :: S) = (P ++ y :: Y) ++ y :: S by simp, show P.length + 1 + Y.length = (P ++ y :: Y).length by simp; omega, set_mid]
  simp
theorem swp_comm (L : List Nat) (i j : Nat) (_hi : i < L.length) (_hj : j < L.length) : swp L i j = swp L j i := by
  unfold swp
  by_cases h : i = j
  · rw [h]
  · rw [List.set_comm _ _ h]
/-- Two runs of one length, one behind the other, change their places. -/
theorem swp_run : ∀ (n : Nat) (P X1 Y Z S : List Nat), X1.length = n → Z.length = n → (List.range n).foldl (fun L i => swp L (P.length + i) (P.length + n + Y.length + i)) (P ++ (X1 ++ (Y ++ (Z ++ S)))) = P ++ (Z ++ (Y ++ (X1 ++ S))) := by
  intro n
  induction n with
  | zero =>
    intro P X Y Z S hx hz
    obtain rfl := List.eq_nil_of_length_eq_zero hx
    obtain rfl := List.eq_nil_of_length_eq_zero hz
    rfl
  | succ n ih =>
    intro P X Y Z S hx hz
    cases X with
    | nil => simp at hx
    | cons x X =>
      cases Z with
      | nil => simp at hz
      | cons z Z =>
        rw [List.range_succ_eq_map, List.foldl_cons, List.foldl_map]
        have e0 : swp (P ++ (x :: X ++ (Y ++ (z :: Z ++ S)))) (P.length + 0) (P.length + (n + 1) + Y.length + 0) = P ++ z :: ((X ++ Y) ++ x :: (Z ++ S)) := by
          have := swp_mid P (X ++ Y) (Z ++ S) x z
          have hlen : P.length + 1 + (X ++ Y).length = P.length + (n + 1) + Y.length + 0 := by simp at hx ⊢; omega
          rw [hlen] at this
          first | (simp; done) | simpa using this
        rw [e0]
        have h := ih (P ++ [z]) X (Y ++ [x]) Z S (by simpa using hx) (by simpa using hz)
        have e1 : P ++ z :: ((X ++ Y) ++ x :: (Z ++ S)) = P ++ [z] ++ (X ++ (Y ++ [x] ++ (Z ++ S))) := by simp
        have e2 : P ++ [z] ++ (Z ++ (Y ++ [x] ++ (X ++ S))) = P ++ (z :: Z ++ (Y ++ (x :: X ++ S))) := by simp
        rw [e1, ← e2, ← h]
        congr 1
        funext L i
        simp only [List.length_append, List.length_cons, List.length_nil]
        congr 1 <;> omega
/-- A place in a row. -/
theorem getD_mid (P S : List Nat) (x : Nat) : (P ++ x :: S).getD P.length 0 = x := by simp
theorem last_of {X : List Nat} (h : X ≠ []) : ∃ Y u, X = Y ++ [u] := ⟨X.dropLast, X.getLast h, (List.dropLast_concat_getLast h).symm⟩
/-- What is ahead in the one is not behind what is behind in the other, where their ends tell so. -/
theorem cross_low {P L1 L2 R1 R2 Q : List Nat} (hL : Srt rk (L1 ++ L2)) (hR : Srt rk (R1 ++ R2)) (h : L1 = [] ∨ R2 = [] ∨ rk ((P ++ (L1 ++ (L2 ++ (R1 ++ (R2 ++ Q))))).getD (P.length + L1.length - 1) 0) ≤ rk ((P ++ (L1 ++ (L2 ++ (R1 ++ (R2 ++ Q))))).getD (P.length + L1.length + L2.length + R1.length) 0)) : ∀ x ∈ L1, ∀ y ∈ R2, rk x ≤ rk y := by
  intro x hx y hy
  have h1 : L1 ≠ [] := fun e => by rw [e] at hx; simp at hx
  have h2 : R2 ≠ [] := fun e => by rw [e] at hy; simp at hy
  rcases h with h | h | h
  · exact absurd h h1
  · exact absurd h h2
  · obtain ⟨X, u, rfl⟩ := last_of h1
    cases R2 with
    | nil => exact absurd rfl h2
    | cons v R2 =>
      have e1 : (P ++ (X ++ [u] ++ (L2 ++ (R1 ++ (v :: R2 ++ Q))))).getD (P.length + (X ++ [u]).length - 1) 0 = u := by
        have := getD_mid (P ++ X) (L2 ++ (R1 ++ (v :: R2 ++ Q))) u
        rw [show P.length + (X ++ [u]).length - 1 = (P ++ X).length by simp]
        first | (simp; done) | simpa using this
      have e2 : (P ++ (X ++ [u] ++ (L2 ++ (R1 ++ (v :: R2 ++ Q))))).getD (P.length + (X ++ [u]).length + L2.length + R1.length) 0 = v := by
        have := getD_mid (P ++ (X ++ [u] ++ (L2 ++ R1))) (R2 ++ Q) v
        rw [show P.length + (X ++ [u]).length + L2.length + R1.length = (P ++ (X ++ [u] ++ (L2 ++ R1))).length by simp; omega]
        first | (simp; done) | simpa using this
      rw [e1, e2] at h
      obtain ⟨sL, _, _⟩ := srt_app.1 hL
      obtain ⟨_, sR, _⟩ := srt_app.1 hR
      exact Int.le_trans (srt_last sL (Int.le_refl _) x hx) (Int.le_trans h (srt_first sR (Int.le_refl _) y hy))
theorem cross_high {P L1 L2 R1 R2 Q : List Nat} (hL : Srt rk (L1 ++ L2)) (hR : Srt rk (R1 ++ R2)) (h : L2 = [] ∨ R1 = [] ∨ rk ((P ++ (L1 ++ (L2 ++ (R1 ++ (R2 ++ Q))))).getD (P.length + L1.length + L2.length + R1.length - 1) 0) ≤ rk ((P ++ (L1 ++ (L2 ++ (R1 ++ (R2 ++ Q))))).getD (P.length + L1.length) 0)) : ∀ x ∈ R1, ∀ y ∈ L2, rk x ≤ rk y := by
  intro x hx y hy
  have h1 : R1 ≠ [] := fun e => by rw [e] at hx; simp at hx
  have h2 : L2 ≠ [] := fun e => by rw [e] at hy; simp at hy
  rcases h with h | h | h
  · exact absurd h h2
  · exact absurd h h1
  · obtain ⟨X, u, rfl⟩ := last_of h1
    cases L2 with
    | nil => exact absurd rfl h2
    | cons v L2 =>
      have e1 : (P ++ (L1 ++ (v :: L2 ++ (X ++ [u] ++ (R2 ++ Q))))).getD (P.length + L1.length + (v :: L2).length + (X ++ [u]).length - 1) 0 = u := by
        have := getD_mid (P ++ (L1 ++ (v :: L2 ++ X))) (R2 ++ Q) u
        rw [show P.length + L1.length + (v :: L2).length + (X ++ [u]).length - 1 = (P ++ (L1 ++ (v :: L2 ++ X))).length by simp; omega]
        first | (simp; done) | simpa using this
      have e2 : (P ++ (L1 ++ (v :: L2 ++ (X ++ [u] ++ (R2 ++ Q))))).getD (P.length + L1.length) 0 = v := by
        have := getD_mid (P ++ L1) (L2 ++ (X ++ [u] ++ (R2 ++ Q))) v
        rw [show P.length + L1.length = (P ++ L1).length by simp]
        first | (simp; done) | simpa using this
      rw [e1, e2] at h
      obtain ⟨_, sL, _⟩ := srt_app.1 hL
      obtain ⟨sR, _, _⟩ := srt_app.1 hR
      exact Int.le_trans (srt_last sR (Int.le_refl _) x hx) (Int.le_trans h (srt_first sL (Int.le_refl _) y hy))
/-- A run of a row. -/
def seg (L : List Nat) (a b : Nat) : List Nat := (L.drop a).take (b - a)
theorem seg_len (L : List Nat) {a b : Nat} (h : a ≤ b) (hb : b ≤ L.length) : (seg L a b).length = b - a := by simp [seg]; omega
theorem split3 (L : List Nat) {a b : Nat} (h : a ≤ b) : L = L.take a ++ (seg L a b ++ L.drop b) := by
  unfold seg
  have e : L.drop b = (L.drop a).drop (b - a) := by rw [List.drop_drop]; congr 1; omega
  rw [e, List.take_append_drop, List.take_append_drop]
theorem seg_mid (P M Q : List Nat) : seg (P ++ (M ++ Q)) P.length (P.length + M.length) = M := by
  unfold seg
  rw [List.drop_left', Nat.add_sub_cancel_left, List.take_left']
  · rfl
  · rfl
theorem seg_low (P X Y : List Nat) {a b : Nat} (hb : b ≤ P.length) : seg (P ++ X) a b = seg (P ++ Y) a b := by
  unfold seg
  have e : ∀ Z, ((P ++ Z).drop a).take (b - a) = (P.drop a).take (b - a) := fun Z => by
    by_cases h : a ≤ P.length
    · rw [List.drop_append_of_le_length h, List.take_append_of_le_length (by rw [List.length_drop]; omega)]
    · rw [show b - a = 0 by omega]; simp
  rw [e, e]
theorem seg_high (P M M' Q : List Nat) (hM : M'.length = M.length) {a b : Nat} (ha : P.length + M.length ≤ a) : seg (P ++ (M' ++ Q)) a b = seg (P ++ (M ++ Q)) a b := by
  unfold seg
  have e : ∀ Z : List Nat, Z.length = M.length → (P ++ (Z ++ Q)).drop a = Q.drop (a - P.length - M.length) := fun Z hZ => by
    rw [List.drop_append, List.drop_of_length_le (by omega), List.nil_append, List.drop_append, List.drop_of_length_le (by omega), List.nil_append, hZ]
  rw [e M' hM, e M rfl]
theorem seg_two (L : List Nat) {a m b : Nat} (h1 : a ≤ m) (h2 : m ≤ b) : seg L a b = seg L a m ++ seg L m b := by
  unfold seg
  have e : L.drop m = (L.drop a).drop (m - a) := by rw [List.drop_drop]; congr 1; omega
  rw [e, show b - a = (m - a) + (b - m) by omega, List.take_add]
theorem seg_perm {P M M' Q : List Nat} (h : M'.Perm M) : (P ++ (M' ++ Q)).Perm (P ++ (M ++ Q)) := (h.append_right Q).append_left P
/-- Two rows in order of the same: place for place of one rank. -/
theorem sorted_eq : ∀ (a b : List Int), a.Pairwise (· ≤ ·) → b.Pairwise (· ≤ ·) → a.Perm b → a = b := by
  intro a
  induction a with
  | nil => intro b _ _ h; exact (List.nil_perm.1 h).symm
  | cons x a ih =>
    intro b ha hb h
    cases b with
    | nil => exact absurd (List.perm_nil.1 h) (by simp)
    | cons y b =>
      have hx : x ∈ y :: b := h.mem_iff.1 (by simp)
      have hy : y ∈ x :: a := h.mem_iff.2 (by simp)
      rw [List.pairwise_cons] at ha hb
      have e : x = y := by
        rcases List.mem_cons.1 hx with e | hx
        · exact e
        · rcases List.mem_cons.1 hy with e | hy
          · exact e.symm
          · have := hb.1 x hx
            have := ha.1 y hy
            omega
      subst e
      rw [ih b ha.2 hb.2 ((List.perm_cons x).1 h)]
theorem ranks_eq {a b : List Nat} (ha : Srt rk a) (hb : Srt rk b) (h : a.Perm b) : a.map rk = b.map rk := by
  refine sorted_eq _ _ ?_ ?_ (h.map rk)
  · rw [List.pairwise_map]; exact ha
  · rw [List.pairwise_map]; exact hb
/-- The document's sort: each one is put behind all that it is not ahead of. -/
def insF (rk : Nat → Int) (v : Nat) : List Nat → List Nat
  | [] => [v]
  | x :: l => if rk v < rk x then v :: x :: l else x :: insF rk v l
theorem insF_perm (v : Nat) : ∀ l : List Nat, (insF rk v l).Perm (v :: l) := by
  intro l
  induction l with
  | nil => exact List.Perm.refl _
  | cons x l ih =>
    unfold insF
    split
    · exact List.Perm.refl _
    · exact (ih.cons x).trans (List.Perm.swap v x l)
theorem insF_srt (v : Nat) : ∀ l : List Nat, Srt rk l → Srt rk (insF rk v l) := by
  intro l
  induction l with
  | nil => exact fun _ => srt_one v
  | cons x l ih =>
    intro h
    unfold insF
    obtain ⟨h1, h2⟩ := List.pairwise_cons.1 h
    split
    · rename_i hv
      exact List.pairwise_cons.2 ⟨srt_first h (by omega), h⟩
    · rename_i hv
      refine List.pairwise_cons.2 ⟨fun y hy => ?_, ih h2⟩
      rcases List.mem_cons.1 ((insF_perm v l).mem_iff.1 hy) with rfl | hy
      · omega
      · exact h1 y hy
def sortF (rk : Nat → Int) (l : List Nat) : List Nat := l.foldl (fun out v => insF rk v out) []
theorem sortF_spec : ∀ (l out : List Nat), Srt rk out → Srt rk (l.foldl (fun out v => insF rk v out) out) ∧ (l.foldl (fun out v => insF rk v out) out).Perm (out ++ l) := by
  intro l
  induction l with
  | nil => exact fun out h => ⟨h, by simp⟩
  | cons v l ih =>
    intro out h
    obtain ⟨h1, h2⟩ := ih _ (insF_srt v out h)
    refine ⟨h1, h2.trans ?_⟩
    have := (insF_perm (rk := rk) v out).append_right l
    refine this.trans ?_
    exact (List.perm_middle (a := v) (l₁ := out) (l₂ := l)).symm
end Sorts
end Go.Proofs.Ytkjhacbkgnjilaa
