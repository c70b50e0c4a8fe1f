/-
  Arguments that are slices of structs, opened to lists.
-/
import Derived.Test.YteejgejeggackaaWords2
namespace Go.Proofs.Yteejgejeggackaa
open Go.RowKit Go.ChangeShapes Go.WideShapes Go.Deep

section
variable {H : Type} {enc : TypeId × Value → H} {P : Program} {w : World} {base : Nat} {spare : Nat → Bool} {held : Bool}
theorem open_slice_fields {t e : TypeId} {fs : Array Field} {fuel : Nat} {cs : List Value} {x : DataW H × List MemPlace} (ht : P.underlying t = some (.slice e)) (he : P.underlying e = some (.struct fs))
    (hone : oneCellFields P fs = true) (hC : P.cellsOf e = fs.size) (h : DataW.trod enc P w base spare held fuel t cs = some x) :
    (cs = [.slice none 0 0] ∧ x = (.nil, [])) ∨
    ∃ (a : Addr) (len cap m : Nat) (D : Nat → DataW H) (Pl : Nat → List MemPlace), cs = [.slice (some a) len cap] ∧ base ≤ a.block ∧ len ≤ cap ∧ cap ≤ maxLen ∧ m = (if spare a.block then cap else len) ∧
      x = (.slice ((List.range len).map D) ((List.range (m - len)).map fun j => D (len + j)), MemPlace.row a (m * fs.size) ++ (List.range m).flatMap Pl) ∧
      ∀ i, i < m → ∃ (ys : List (DataW H × List MemPlace)) (n : Nat), D i = .agg (ys.map (·.1)) ∧ Pl i = ys.flatMap (·.2) ∧ ys.length = fs.size ∧
        ∀ (j : Nat) (f : Field), fs[j]? = some f → ∃ (v : Value) (y : DataW H × List MemPlace), w.cell? (a.add (i * fs.size + j)) = some v ∧ ys[j]? = some y ∧ DataW.trod enc P w base spare held n f.type [v] = some y := by
  rcases open_slice ht h with h0 | ⟨a, len, cap, m, n, D, Pl, hcs, hb, hl, hm, hmm, hx, hi⟩
  · exact .inl h0
  · refine .inr ⟨a, len, cap, m, D, Pl, hcs, hb, hl, hm, hmm, by rw [hC] at hx; exact hx, fun i him => ?_⟩
    obtain ⟨cs', hc, ht'⟩ := hi i him
    rw [hC] at hc
    obtain ⟨ys, n', hn', hy, hlen, hyl, hf⟩ := DataW.trod_struct he ht'
    obtain ⟨_, hcl, hat⟩ := World.cells?_some hc
    simp only [Prod.mk.injEq] at hy
    refine ⟨ys, n', hy.1, hy.2, hyl, fun j f hj => ?_⟩
    obtain ⟨ho, hk⟩ := hone_of hone j f hj
    have hjl : j < fs.size := (Array.getElem?_eq_some_iff.1 hj).1
    have hcell := hat j hjl
    have hv : cs'[j]? = some (cs'[j]'(by omega)) := List.getElem?_eq_getElem (by omega)
    have h1 := hf j f hj
    rw [ho, hk] at h1
    have hone' : (cs'.drop j).take 1 = [cs'[j]'(by omega)] := by
      rw [List.drop_eq_getElem_cons (by omega)]
      rfl
    rw [hone'] at h1
    have hys : ys[j]? = some (ys[j]'(by omega)) := List.getElem?_eq_getElem (by omega)
    refine ⟨_, _, ?_, hys, h1.trans hys⟩
    rw [← Go.Deep.add_add, hcell, hv]
end

theorem list_of {α : Type} {P : Nat → α → Prop} : ∀ (n : Nat), (∀ i, i < n → ∃ x, P i x) → ∃ l : List α, l.length = n ∧ ∀ i x, l[i]? = some x → P i x
  | 0, _ => ⟨[], rfl, by simp⟩
  | n + 1, h => by
    obtain ⟨l, hl, hP⟩ := list_of n (fun i hi => h i (by omega))
    obtain ⟨x, hx⟩ := h n (by omega)
    refine ⟨l ++ [x], by simp [hl], fun i y hy => ?_⟩
    rcases Nat.lt_or_ge i n with hi | hi
    · rw [List.getElem?_append_left (by omega)] at hy
      exact hP i y hy
    · rw [List.getElem?_append_right (by omega)] at hy
      have : i = n := by
        rcases Nat.lt_or_ge n i with h1 | h1
        · rw [List.getElem?_eq_none (by simp; omega)] at hy; cases hy
        · omega
      subst this
      simp [hl] at hy
      exact hy ▸ hx

theorem Reads.mk_flat {α : Type} {w : World} {ad : Addr} {n m : Nat} (c : α → List Value) (hm : ∀ x, (c x).length = m) (hm0 : 0 < m) (l : List α) (hl : l.length = n)
    (h : ∀ i x, l[i]? = some x → ∀ r u, (c x)[r]? = some u → w.cell? (ad.add (i * m + r)) = some u) (hb : 0 < n → ad.block < w.heap.size) : Reads w w.heap.size m (some ad) n (l.flatMap c) := by
  refine ⟨by rw [flat_len c m hm, hl], fun hn => ⟨ad, rfl, hb hn, fun j u hu => ?_⟩⟩
  have hj : j < n * m := by
    obtain ⟨hj, _⟩ := List.getElem?_eq_some_iff.1 hu
    rwa [flat_len c m hm, hl] at hj
  have hi : j / m < n := Nat.div_lt_of_lt_mul (by rw [Nat.mul_comm]; exact hj)
  have hx : l[j / m]? = some l[j / m] := List.getElem?_eq_getElem (by omega)
  have hd : j / m * m + j % m = j := by rw [Nat.mul_comm]; exact Nat.div_add_mod j m
  have h1 := flat_at c m hm l (j / m) (j % m) _ hx (Nat.mod_lt j hm0)
  rw [hd, hu] at h1
  have h2 := h _ _ hx (j % m) u h1.symm
  rwa [hd] at h2

section
variable {H : Type} {enc : TypeId × Value → H} {P : Program}
/-- A slice of structs of an int and a bool. -/
theorem open_row_ib {t e : TypeId} {f0 f1 : Field} {r : Reach} {b0 : Nat} {w : World} {v : Value} {d : DataW H} {ps : List MemPlace} (ht : P.underlying t = some (.slice e)) (he : P.underlying e = some (.struct #[f0, f1]))
    (hone : oneCellFields P #[f0, f1] = true) (hC : P.cellsOf e = 2) (h0 : P.underlying f0.type = some (.int .i64)) (h1 : P.underlying f1.type = some .bool)
    (hv : Value.okWide P w r b0 t v) (h : DataW.Trod enc P w 0 (fun _ => true) true t v d ps) :
    ∃ (A : Option Addr) (n c : Nat) (gs : List (Int × Bool)), v = .slice A n c ∧ (∀ g ∈ gs, (Lit.int .i64 g.1).wf = true) ∧ Reads w w.heap.size 2 A n (gs.flatMap fun g => [.int .i64 g.1, .bool g.2]) ∧ n ≤ c ∧ c ≤ maxLen := by
  obtain ⟨A, n, c, rfl⟩ := okWide_slice ht hv
  obtain ⟨fuel, hf⟩ := h
  rcases open_slice_fields ht he hone hC hf with ⟨hcs, _⟩ | ⟨a, len, cap, m, D, Pl, hcs, _, hl, hm, hmm, _, hel⟩
  · simp [Value.cells] at hcs
    obtain ⟨rfl, rfl, rfl⟩ := hcs
    exact ⟨none, 0, 0, [], rfl, by simp, Reads.none_, Nat.le_refl _, by simp [maxLen]⟩
  · simp [Value.cells] at hcs
    obtain ⟨rfl, rfl, rfl⟩ := hcs
    simp at hmm
    obtain ⟨gs, hgl, hg⟩ := list_of (P := fun i (g : Int × Bool) => w.cell? (a.add (i * 2)) = some (.int .i64 g.1) ∧ w.cell? (a.add (i * 2 + 1)) = some (.bool g.2) ∧ (Lit.int .i64 g.1).wf = true) n (fun i hi => by
      obtain ⟨ys, k, _, _, _, hfs⟩ := hel i (by omega)
      obtain ⟨u0, y0, c0, _, t0⟩ := hfs 0 f0 rfl
      obtain ⟨u1, y1, c1, _, t1⟩ := hfs 1 f1 rfl
      obtain ⟨s, e0, _, ws⟩ := DataW.trod_int h0 t0
      obtain ⟨p, e1, _⟩ := DataW.trod_bool h1 t1
      simp at e0 e1
      subst e0 e1
      exact ⟨(s, p), by simpa using c0, by simpa using c1, ws⟩)
    refine ⟨some a, n, c, gs, rfl, fun g hgm => ?_, Reads.mk_flat (fun g : Int × Bool => [.int .i64 g.1, .bool g.2]) (fun _ => rfl) (by omega) gs hgl (fun i x hx r u hu => ?_) (fun hn => ?_), hl, hm⟩
    · obtain ⟨i, hi⟩ := List.getElem?_of_mem hgm
      exact (hg i g hi).2.2
    · obtain ⟨k0, k1, _⟩ := hg i x hx
      match r, hu with
      | 0, hu => simp at hu; subst hu; simpa using k0
      | 1, hu => simp at hu; subst hu; exact k1
      | r + 2, hu => simp at hu
    · have hx : gs[0]? = some gs[0] := List.getElem?_eq_getElem (by omega)
      have := lt_of_cell (hg 0 _ hx).1
      rwa [block_of_add] at this
end
end Go.Proofs.Yteejgejeggackaa
