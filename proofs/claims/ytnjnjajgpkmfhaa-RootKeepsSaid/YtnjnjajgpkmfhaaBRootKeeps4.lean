/-
  Texts of this claim, one behind the other: PRoot, PXx10, PSpots, PXx21, PXx16, PXx22, PXx15, PXx17, PXx23, PXx19, PXx20, PXx24, PXx11, PXx12, PXx13, PXx14, PXx18, PRootRef, PRootGet, PSet. All are cut down to the theorems that the claim leans on; those named W.. and PXx.. were written by the kit's print.
-/
import Derived.Test.YtnjnjajgpkmfhaaBRootKeeps3
/-
 The plain side of layer 9: what a table is, told of the printed functions; the addresses under a root.
-/
namespace Go.Proofs.Ytnjnjajgpkmfhaa.PX
open Go.RowKit Go.Proofs.YtnjnjajgpkmfhaaW.PrintWords Go.Proofs.YtnjnjajgpkmfhaaW.PrintLast Go.Proofs.YtnjnjajgpkmfhaaW.PrintMore
abbrev Sp := S33
theorem wrap_id {x : Int} (h1 : -9223372036854775808 ≤ x) (h2 : x ≤ 9223372036854775807) : wrap64 x = x := by unfold wrap64; omega
theorem rd_sp {l : List Sp} {i : Nat} {x : Sp} (h : l[i]? = some x) : rd_T33 l (i : Int) = x := by
 unfold rd_T33
 rw [Int.toNat_natCast, List.getD_eq_getElem?_getD, h]
 rfl
def cut70 (s : Sp) : Sp := ⟨s.f0, s.f1, s.f2.take 70⟩
def fewF (l : List Sp) : List Sp := (l.take 70).map cut70
theorem few_l0 (l : List Sp) (hl : l.length ≤ 1000) : ∀ (d i : Nat) (k : Nat) (out : List Sp), i + d = l.length → d < k → out.length ≤ 1000 + i → deadboltlaw09_few.l0 k out l (l.length : Int) (i : Int) = some (out ++ (l.drop i).map cut70) := by
 intro d
 induction d with
 | zero =>
  intro i k out h1 h2 h3
  obtain ⟨k, rfl⟩ : ∃ q, k = q + 1 := ⟨k - 1, by omega⟩
  rw [deadboltlaw09_few.l0, if_neg (by omega), List.drop_eq_nil_of_le (by omega)]
  simp
 | succ d ih =>
  intro i k out h1 h2 h3
  obtain ⟨k, rfl⟩ : ∃ q, k = q + 1 := ⟨k - 1, by omega⟩
  have hx : l[i]? = some l[i] := List.getElem?_eq_getElem (by omega)
  rw [deadboltlaw09_few.l0, if_pos (by omega), if_pos (by omega), if_pos (by omega), rd_sp hx]
  unfold deadboltlaw09_cut.f
  simp only [Option.bind_some]
  rw [if_pos (by omega), wrap_id (by omega) (by omega), show (i : Int) + 1 = ((i + 1 : Nat) : Int) by omega, ih (i + 1) k _ (by omega) (by omega) (by simp; omega)]
  rw [List.drop_eq_getElem_cons (show i < l.length by omega), List.map_cons, List.append_assoc]
  rfl
theorem few_f (l : List Sp) (k : Nat) (hk : 80 ≤ k) : deadboltlaw09_few.f k l = some (fewF l) := by
 unfold deadboltlaw09_few.f
 have hm : mn (l.length : Int) 70 = ((min l.length 70 : Nat) : Int) := by unfold mn; split <;> omega
 rw [hm, if_pos (by omega), if_pos (by omega), Int.toNat_natCast]
 simp only [Option.bind_some]
 have hl : (l.take (min l.length 70)).length ≤ 70 := by simp; omega
 have e : l.take (min l.length 70) = l.take 70 := by rw [Nat.min_comm, ← List.take_eq_take_min]
 rw [e] at hl ⊢
 have := few_l0 (l.take 70) (by omega) (l.take 70).length 0 k [] (by omega) (by omega) (by simp)
 rw [List.drop_zero, List.nil_append] at this
 exact this
/-- May a spot be. -/
def SpotP (s : Sp) : Prop := (0 ≤ s.f0 ∧ s.f0 ≤ 4294967295) ∧ (0 ≤ s.f1 ∧ s.f1 ≤ 2147483647) ∧ lineB s.f2 = true ∧ (s.f1 = 0 ∨ s.f2 = [])
theorem spot_f (s : Sp) (hl : s.f2.length ≤ 1000) : ∃ b, root_isSpot.f s.f0 s.f1 s.f2 = some b ∧ (b = true ↔ SpotP s) := by
 unfold root_isSpot.f
 rw [isAddr_f]
 simp only [Option.bind_some]
 unfold line_Right.f
 rw [if_pos hl]
 simp only [Option.bind_some]
 by_cases h0 : isAddrB s.f0 = true
 ·have h0' : 0 ≤ s.f0 ∧ s.f0 ≤ 4294967295 := by simpa [isAddrB] using h0
  rw [if_pos h0]
  by_cases h1 : s.f1 ≥ 0
  ·rw [if_pos h1]
   by_cases h2 : s.f1 ≤ 2147483647
   ·rw [if_pos h2]
    by_cases h3 : lineB s.f2 = true
    ·rw [if_pos h3]
     by_cases h4 : s.f1 = 0
     ·rw [if_pos h4]
      exact ⟨true, rfl, by simp [SpotP, h0', h3, h4]⟩
     ·rw [if_neg h4]
      refine ⟨_, rfl, ?_⟩
      have h1' : 0 ≤ s.f1 := h1
      simp only [SpotP, h0', h1', h2, h3, h4, true_and, and_true, false_or]
      cases s.f2 <;> simp; omega
    ·rw [if_neg h3]
     exact ⟨false, rfl, by simp [SpotP, h3]⟩
   ·rw [if_neg h2]
    exact ⟨false, rfl, by simp [SpotP, h2]⟩
  ·rw [if_neg h1]
   exact ⟨false, rfl, by simp only [SpotP]; constructor <;> intro h <;> first | (cases h; done) | omega⟩
 ·rw [if_neg h0]
  refine ⟨false, rfl, ?_⟩
  simp only [isAddrB, decide_eq_true_eq] at h0
  constructor
  ·intro h; cases h
  ·intro h; exact absurd h.1 h0
def EmptyP (s : Sp) : Prop := s.f1 = 0 ∧ s.f2 = []
theorem empty_f (s : Sp) : ∃ b, root_isEmpty.f s.f0 s.f1 s.f2 = some b ∧ (b = true ↔ EmptyP s) := by
 unfold root_isEmpty.f EmptyP
 by_cases h : s.f1 = 0
 ·rw [if_pos h]
  refine ⟨_, rfl, ?_⟩
  cases s.f2 <;> simp [h]; omega
 ·rw [if_neg h]
  exact ⟨false, rfl, by simp [h]⟩
/-- Which of two addresses comes first. -/
def LessP (a b : Int) : Prop := rootI a < rootI b ∨ rootI a = rootI b ∧ a < b
theorem rootI_bd (a : Int) : 0 ≤ rootI a ∧ rootI a < 251 := by
 unfold rootI
 split
 ·rename_i h
  rw [Int.tmod_eq_emod_of_nonneg (by omega)]
  omega
 ·omega
theorem order_less {a b : Int} (ha : 0 ≤ a ∧ a ≤ 4294967295) (hb : 0 ≤ b ∧ b ≤ 4294967295) : (orderI a b < 0 ↔ LessP a b) ∧ (orderI a b > 0 ↔ LessP b a) := by
 obtain ⟨e1, h1⟩ := root_f a
 obtain ⟨e2, h2⟩ := root_f b
 have p1 := rootI_bd a
 have p2 := rootI_bd b
 unfold orderI root_order.f LessP
 rw [h1, h2]
 simp only [Option.bind_some]
 split
 ·rename_i h
  simp only [Option.getD_some]
  rw [wrap_id (by omega) (by omega)]
  omega
 ·rename_i h
  simp only [Option.getD_some]
  rw [wrap_id (by omega) (by omega)]
  omega
/-- A table that may be. -/
structure Tab (l : List Sp) : Prop where
 spot : ∀ s ∈ l, SpotP s ∧ ¬ EmptyP s
 up : (l.map (·.f0)).Pairwise LessP
 few : l.length ≤ 64
theorem less_trans {a b c : Int} (h : LessP a b) (k : LessP b c) : LessP a c := by unfold LessP at *; omega
theorem right_l0 (l : List Sp) (hl : l.length ≤ 1000) (h2 : ∀ s ∈ l, s.f2.length ≤ 1000) : ∀ (d i : Nat) (k : Nat), i + d = l.length → d < k → (∀ j s, j < i → l[j]? = some s → SpotP s ∧ ¬ EmptyP s) → ((l.take i).map (·.f0)).Pairwise LessP →
  ∃ b, root_Right.l0 k l l (l.length : Int) (i : Int) = some b ∧ (b = true ↔ Tab l) := by
 intro d
 induction d with
 | zero =>
  intro i k h1 hk hs hp
  obtain ⟨k, rfl⟩ : ∃ q, k = q + 1 := ⟨k - 1, by omega⟩
  rw [root_Right.l0, if_neg (by omega)]
  refine ⟨_, rfl, ?_⟩
  rw [List.take_of_length_le (by omega)] at hp
  have hs' : ∀ s ∈ l, SpotP s ∧ ¬ EmptyP s := fun s h => by
   obtain ⟨j, hj, rfl⟩ := List.mem_iff_getElem.1 h
   exact hs j _ (by omega) (List.getElem?_eq_getElem hj)
  constructor
  ·intro h
   exact ⟨hs', hp, by have := of_decide_eq_true h; omega⟩
  ·intro h
   exact decide_eq_true (by have := h.few; omega)
 | succ d ih =>
  intro i k h1 hk hs hp
  obtain ⟨k, rfl⟩ : ∃ q, k = q + 1 := ⟨k - 1, by omega⟩
  have hx : l[i]? = some l[i] := List.getElem?_eq_getElem (by omega)
  have hmem : l[i] ∈ l := List.getElem_mem (by omega)
  obtain ⟨sb, e1, e2⟩ := spot_f l[i] (h2 _ hmem)
  obtain ⟨eb, e3, e4⟩ := empty_f l[i]
  rw [root_Right.l0, if_pos (by omega), if_pos (by omega), if_pos (by omega), rd_sp hx, e1]
  simp only [Option.bind_some]
  cases sb with
  | false =>
   refine ⟨false, by simp, ?_⟩
   constructor
   ·intro h; cases h
   ·intro h
    have := e2.2 (h.spot _ hmem).1
    cases this
  | true =>
   rw [if_pos rfl, e3]
   simp only [Option.bind_some]
   cases eb with
   | true =>
    refine ⟨false, by simp, ?_⟩
    constructor
    ·intro h; cases h
    ·intro h
     exact absurd (e4.1 rfl) (h.spot _ hmem).2
   | false =>
    rw [if_neg (by simp)]
    have hS := e2.1 rfl
    have hE : ¬ EmptyP l[i] := fun h => by have := e4.2 h; cases this
    have hs2 : ∀ j s, j < i + 1 → l[j]? = some s → SpotP s ∧ ¬ EmptyP s := fun j s hj hjs => by
     rcases Nat.lt_or_eq_of_le (Nat.le_of_lt_succ hj) with h | h
     ·exact hs j s h hjs
     ·rw [h, hx] at hjs
      obtain rfl := Option.some.inj hjs
      exact ⟨hS, hE⟩
    rcases Nat.eq_zero_or_pos i with h0 | h0
    ·subst h0
     rw [if_neg (by simp)]
     rw [wrap_id (by omega) (by omega), show (((0 : Nat) : Int) + 1) = ((0 + 1 : Nat) : Int) by omega]
     refine ih (0 + 1) k (by omega) (by omega) hs2 ?_
     rw [List.take_add_one, hx]
     simp
    ·have hy : l[i - 1]? = some l[i - 1] := List.getElem?_eq_getElem (by omega)
     have hyS := (hs (i - 1) _ (by omega) hy).1
     rw [if_pos (by omega), wrap_id (by omega) (by omega), show (i : Int) - 1 = ((i - 1 : Nat) : Int) by omega, if_pos (by omega), if_pos (by omega), rd_sp hy, order_is]
     simp only [Option.bind_some]
     have hord := (order_less hyS.1 hS.1).1
     by_cases hlt : orderI l[i - 1].f0 l[i].f0 ≥ 0
     ·rw [if_pos hlt]
      refine ⟨false, rfl, ?_⟩
      constructor
      ·intro h; cases h
      ·intro h
       have h3 := List.pairwise_iff_getElem.1 h.up (i - 1) i (by simp; omega) (by simp; omega) (by omega)
       simp only [List.getElem_map] at h3
       have := hord.2 h3
       omega
     ·rw [if_neg hlt, wrap_id (by omega) (by omega), show (i : Int) + 1 = ((i + 1 : Nat) : Int) by omega]
      refine ih (i + 1) k (by omega) (by omega) hs2 ?_
      have hL := hord.1 (by omega)
      rw [List.take_add_one, hx, List.map_append]
      refine List.pairwise_append.2 ⟨hp, by simp, fun a ha b hb => ?_⟩
      simp at hb
      subst hb
      obtain ⟨j, hj, rfl⟩ := List.mem_iff_getElem.1 ha
      simp only [List.length_map, List.length_take] at hj
      simp only [List.getElem_map, List.getElem_take]
      rcases Nat.lt_or_eq_of_le (show j ≤ i - 1 by omega) with h | h
      ·have h3 := List.pairwise_iff_getElem.1 hp j (i - 1) (by simp; omega) (by simp; omega) h
       simp only [List.getElem_map, List.getElem_take] at h3
       exact less_trans h3 hL
      ·subst h
       exact hL
theorem right_f (l : List Sp) (hl : l.length ≤ 1000) (h2 : ∀ s ∈ l, s.f2.length ≤ 1000) (k : Nat) (hk : l.length < k) : ∃ b, root_Right.f k l = some b ∧ (b = true ↔ Tab l) :=
 right_l0 l hl h2 l.length 0 k (by omega) hk (fun j s hj => absurd hj (by omega)) (by simp)
end Go.Proofs.Ytnjnjajgpkmfhaa.PX

namespace Go.Proofs.Ytnjnjajgpkmfhaa.PX
open Go.RowKit Go.Proofs.YtnjnjajgpkmfhaaW.PrintWords Go.Proofs.YtnjnjajgpkmfhaaW.PrintLast Go.Proofs.YtnjnjajgpkmfhaaW.PrintMore
attribute [local go_sem] max2_int min2_int max_two min_two max_three min_three max_four min_four   -- for this text's walks alone
set_option linter.unusedVariables false
set_option linter.unusedSimpArgs false

/-! ### deadboltlaw09_RootSpots: function 3 -/
mutual
def deadboltlaw09_RootSpots.l0 : Nat → List (S33) → Int → Int → Option (Bool)
 | 0, _, _, _ => none
 | k + 1, x0, x5, x33 => if x33 < 251 then ((root_Under.f k x0 x33).bind fun bt157 => (if bt157.2 = 0 then (deadboltlaw09_RootSpots.l1 k x0 x5 x33 x33 bt157.1 (bt157.1.length : Int) 0) else (some false))) else ((deadboltlaw09_alive.f).bind fun t156 => (if t156 = true then (some (x5 == (x0.length : Int))) else (some false)))
def deadboltlaw09_RootSpots.l1 : Nat → List (S33) → Int → Int → Int → List Int → Int → Int → Option (Bool)
 | 0, _, _, _, _, _, _, _ => none
 | k + 1, x0, x5, x6, x33, x44, x45, x46 => if x46 < x45 then (if 0 ≤ x46 then (if x46 < (x44.length : Int) then ((root_Root.f (rd x44 x46)).bind fun bt162 => (if bt162.2 = 0 then (if bt162.1 = x6 then (if x5 ≥ (x0.length : Int) then (some false) else (if 0 ≤ x5 then (if x5 < (x0.length : Int) then (if ((rd_T33 x0 x5).f0) = (rd x44 x46) then (deadboltlaw09_RootSpots.l1 k x0 (wrap64 (x5 + 1)) x6 x33 x44 x45 (wrap64 (x46 + 1))) else (some false)) else (none)) else (none))) else (some false)) else (some false))) else (none)) else (none)) else (deadboltlaw09_RootSpots.l0 k x0 x5 (wrap64 (x33 + 1)))
end
def deadboltlaw09_RootSpots.f (k : Nat) (l0 : List (S33)) : Option (Bool) := (deadboltlaw09_few.f k l0).bind fun t147 => ((root_Right.f k t147).bind fun t150 => (if t150 = true then (deadboltlaw09_RootSpots.l0 k t147 0 0) else ((root_Under.f k t147 0).bind fun bt151 => ((deadboltlaw09_alive.f).bind fun t155 => (if t155 = true then (if bt151.2 = 1 then (some ((bt151.1.length : Int) == 0)) else (some false)) else (some false))))))
end Go.Proofs.Ytnjnjajgpkmfhaa.PX

/-
 The addresses under a root; all roots together have all spots, each once, rising.
-/
namespace Go.Proofs.Ytnjnjajgpkmfhaa.PX
open Go.RowKit Go.Proofs.YtnjnjajgpkmfhaaW.PrintWords Go.Proofs.YtnjnjajgpkmfhaaW.PrintLast Go.Proofs.YtnjnjajgpkmfhaaW.PrintMore
/-- What has root n. -/
def isAt (n : Int) (s : Sp) : Bool := decide (rootI s.f0 = n)
theorem at_up {l : List Sp} (h : Tab l) (n : Int) : ((l.filter (isAt n)).map (·.f0)).Pairwise (· < ·) := by
 rw [List.pairwise_map]
 have h1 := List.pairwise_map.1 h.up
 have h2 : (l.filter (isAt n)).Pairwise (fun a b => LessP a.f0 b.f0) := h1.sublist List.filter_sublist
 refine h2.imp_of_mem fun {a b} ha hb hl => ?_
 have ea := (List.mem_filter.1 ha).2
 have eb := (List.mem_filter.1 hb).2
 simp only [isAt, decide_eq_true_eq] at ea eb
 unfold LessP at hl
 omega
theorem map_nd (ns : List Treap.Nd) : (ns.map ofNd).map toNd = ns := by
 rw [List.map_map]
 conv => rhs; rw [← List.map_id ns]
 exact List.map_congr_left fun _ _ => rfl
theorem under_f {l : List Sp} (h : Tab l) {n : Int} (h0 : 0 ≤ n) (h1 : n < 251) (h2 : ∀ s ∈ l, s.f2.length ≤ 1000) {k : Nat} (hk : 100 ≤ k) : root_Under.f k l n = some ((l.filter (isAt n)).map (·.f0), 0) := by
 have hf := h.few
 obtain ⟨b, e1, e2⟩ := right_f l (by omega) h2 k (by omega)
 obtain rfl := e2.2 h
 obtain ⟨k, rfl⟩ : ∃ q, k = q + 1 := ⟨k - 1, by omega⟩
 unfold root_Under.f
 rw [e1]
 simp only [Option.bind_some]
 rw [if_pos trivial, if_neg (by omega), root_Under.j0, if_neg (by simp; omega)]
 unfold root_tree.f
 rw [if_pos (by omega)]
 simp only [Option.bind_some]
 have hlen : ((l.filter (isAt n)).map (·.f0)).length ≤ 64 := by
  have := List.length_filter_le (isAt n) l
  rw [List.length_map]
  omega
 obtain ⟨g1, t, hg, ht⟩ := treeOf_good ((l.filter (isAt n)).map (·.f0)) hlen (fun a ha => by
  obtain ⟨s, hs, rfl⟩ := List.mem_map.1 ha
  have := (h.spot s (List.mem_filter.1 hs).1).1.1
  simpa [Treap.isKey] using this) (at_up h n)
 have hE : (fun s : Sp => decide (rootI s.f0 = n)) = isAt n := rfl
 rw [hE]
 generalize treeOf ((l.filter (isAt n)).map (·.f0)) = T at g1 hg ht ⊢
 unfold treap_Keys.f Treap.keysF
 rw [map_nd, if_pos (by rw [List.length_map]; omega), if_pos (hg.right (by omega))]
 simp only [Option.bind_some]
 rw [hg.keysL, ht]
def uptoR (n : Int) (s : Sp) : Bool := decide (rootI s.f0 < n)
theorem root_ok {a : Int} (h : 0 ≤ a ∧ a ≤ 4294967295) : root_Root.f a = some (rootI a, 0) := by
 unfold root_Root.f root_isAddr.f rootI
 simp [h.1, h.2]
theorem alive_ok : deadboltlaw09_alive.f = some true := by decide +kernel
end Go.Proofs.Ytnjnjajgpkmfhaa.PX

namespace Go.Proofs.Ytnjnjajgpkmfhaa.PX
open Go.RowKit Go.Proofs.YtnjnjajgpkmfhaaW.PrintWords Go.Proofs.YtnjnjajgpkmfhaaW.PrintLast Go.Proofs.YtnjnjajgpkmfhaaW.PrintMore
attribute [local go_sem] max2_int min2_int max_two min_two max_three min_three max_four min_four   -- for this text's walks alone
set_option linter.unusedVariables false
set_option linter.unusedSimpArgs false

/-! ### deadboltref09_Get: function 22 -/
def deadboltref09_Get.l0 : Nat → Int → List (S33) → Int → Int → Option (Int × Int × List Int)
 | 0, _, _, _, _ => none
 | k + 1, x1, x7, x8, x9 => if x9 < x8 then (if 0 ≤ x9 then (if x9 < (x7.length : Int) then (if ((rd_T33 x7 x9).f0) = x1 then (some ((rd_T33 x7 x9).f0, (rd_T33 x7 x9).f1, (rd_T33 x7 x9).f2)) else (deadboltref09_Get.l0 k x1 x7 x8 (wrap64 (x9 + 1)))) else (none)) else (none)) else (some (x1, 0, ([] : List Int)))
def deadboltref09_Get.f (k : Nat) (l0 : List (S33)) (a1 : Int) : Option (Int × Int × List Int) := deadboltref09_Get.l0 k a1 l0 (l0.length : Int) 0
end Go.Proofs.Ytnjnjajgpkmfhaa.PX

namespace Go.Proofs.Ytnjnjajgpkmfhaa.PX
open Go.RowKit Go.Proofs.YtnjnjajgpkmfhaaW.PrintWords Go.Proofs.YtnjnjajgpkmfhaaW.PrintLast Go.Proofs.YtnjnjajgpkmfhaaW.PrintMore
attribute [local go_sem] max2_int min2_int max_two min_two max_three min_three max_four min_four   -- for this text's walks alone
set_option linter.unusedVariables false
set_option linter.unusedSimpArgs false

/-! ### deadboltref09_Root: function 20 -/
def deadboltref09_Root.f (a0 : Int) : Option (Int) := some (Int.tmod (wrap64 (Int.tdiv a0 8)) 251)
end Go.Proofs.Ytnjnjajgpkmfhaa.PX

namespace Go.Proofs.Ytnjnjajgpkmfhaa.PX
open Go.RowKit Go.Proofs.YtnjnjajgpkmfhaaW.PrintWords Go.Proofs.YtnjnjajgpkmfhaaW.PrintLast Go.Proofs.YtnjnjajgpkmfhaaW.PrintMore
attribute [local go_sem] max2_int min2_int max_two min_two max_three min_three max_four min_four   -- for this text's walks alone
set_option linter.unusedVariables false
set_option linter.unusedSimpArgs false

/-! ### deadboltref09_Under: function 24 -/
def deadboltref09_Under.l0 : Nat → Int → List Int → List (S33) → Int → Int → Option (List Int)
 | 0, _, _, _, _, _ => none
 | k + 1, x1, x5, x9, x10, x11 => if x11 < x10 then (if 0 ≤ x11 then (if x11 < (x9.length : Int) then ((deadboltref09_Root.f ((rd_T33 x9 x11).f0)).bind fun t196 => (if t196 = x1 then (if x5.length < 17592186044416 then (deadboltref09_Under.l0 k x1 (x5 ++ [(rd_T33 x9 x11).f0]) x9 x10 (wrap64 (x11 + 1))) else (none)) else (deadboltref09_Under.l0 k x1 x5 x9 x10 (wrap64 (x11 + 1))))) else (none)) else (none)) else (some x5)
def deadboltref09_Under.f (k : Nat) (l0 : List (S33)) (a1 : Int) : Option (List Int) := deadboltref09_Under.l0 k a1 (([] : List Int)) l0 (l0.length : Int) 0
end Go.Proofs.Ytnjnjajgpkmfhaa.PX

namespace Go.Proofs.Ytnjnjajgpkmfhaa.PX
open Go.RowKit Go.Proofs.YtnjnjajgpkmfhaaW.PrintWords Go.Proofs.YtnjnjajgpkmfhaaW.PrintLast Go.Proofs.YtnjnjajgpkmfhaaW.PrintMore
attribute [local go_sem] max2_int min2_int max_two min_two max_three min_three max_four min_four   -- for this text's walks alone
set_option linter.unusedVariables false
set_option linter.unusedSimpArgs false

/-! ### deadboltref09_Empty: function 29 -/
def deadboltref09_Empty.f (a0_0 : Int) (a0_1 : Int) (l0_2 : List Int) : Option (Bool) := if a0_1 = 0 then (some ((l0_2.length : Int) == 0)) else (some false)
set_option maxHeartbeats 8000000 in
set_option maxRecDepth 100000 in
theorem deadboltref09_Empty.calls (a0_0 : Int) (a0_1 : Int) (A0_2 : Option Addr) (c0_2 : Nat) (l0_2 : List Int) (r : Bool) (w : World) (hr0_2 : Kd.C (Kd.int .i64) w A0_2 l0_2.length l0_2) (hc0_2 : l0_2.length ≤ c0_2) (h : deadboltref09_Empty.f a0_0 a0_1 l0_2 = some r) :
  Calls Try.prog 29 #[.agg #[.int .i64 a0_0, .int .i64 a0_1, .slice A0_2 l0_2.length c0_2]] w fun e w' => e = .returned (.bool r) ∧ Below w.heap.size w w' := by
 have hu33 := Try.underlying33
 have HR0_2 := Aside0.mk hr0_2
 have HC0_2 := Aside0.mk hc0_2
 clear hr0_2 hc0_2
 have HB := Aside0.mk (Below.refl w.heap.size w)
 have H : (if a0_1 = 0 then (some ((l0_2.length : Int) == 0)) else (some false)) = some r := h
 clear h
 by_cases c2 : a0_1 = 0
 ·rw [if_pos c2] at H
  have c2b0 : (a0_1 == 0) = true := beq_iff_eq.mpr c2
  have c2b1 : (a0_1 != 0) = false := bne_eq_false_iff_eq.mpr c2
  clear c2
  obtain rfl := Option.some.inj H
  go_enter Try.func29, Try.ntmps29
  go_wp2_with (first | ((with_reducible refine gate_dst (N := 1) rfl ?_); (try (refine gate_guard (by rfl) ?_; dsimp only)); refine box_event ?hg (N := 1) ?hd (cs := #[.int .i64 a0_0, .int .i64 a0_1, .slice A0_2 l0_2.length c0_2]) (t := 33) ?hr ?_; (case hd => rfl); (case hg => rfl); (case hr => first | (go_simp; done) | (go_simp; rfl)); intro gb172 hg w3 hbox hb; have n0_ := Aside0.mk (below_step (zB HB) hb); have n1_ := Aside0.mk (hbox); have n2_ := Aside0.mk ((by rw [hg]; exact (below_size (zB HB)) : w.heap.size ≤ gb172)); have n3_ := Aside0.mk ((by rw [hg]; exact (below_size (zB HB)) : w.heap.size ≤ gb172)); clear HB; have HB := n0_; have BK172 := n1_; have GW172 := n2_; have GE172 := n3_; clear n0_ n1_ n2_ n3_; clear hb hbox hg; have hcz4_0 : w3.cell? ⟨gb172, 0, none⟩ = some (.int .i64 a0_0) := (blk_cell BK172.out 0).trans rfl; have hcz4_1 : w3.cell? ⟨gb172, 1, none⟩ = some (.int .i64 a0_1) := (blk_cell BK172.out 1).trans rfl; have hcz4_2 : w3.cell? ⟨gb172, 2, none⟩ = some (.slice A0_2 l0_2.length c0_2) := (blk_cell BK172.out 2).trans rfl; have hfz4_0 := blk_frozen BK172.out 0; have hfz4_1 := blk_frozen BK172.out 1; have hfz4_2 := blk_frozen BK172.out 2))
  go_ret
  exact ⟨by first | rfl | (simp [errW_none, errW_some] <;> rfl) | (simp [*, errW_none, errW_some] <;> rfl), zB1 HB GE172⟩
 ·rw [if_neg c2] at H
  have c2b0 : (a0_1 == 0) = false := beq_eq_false_iff_ne.mpr c2
  have c2b1 : (a0_1 != 0) = true := bne_iff_ne.mpr c2
  obtain rfl := Option.some.inj H
  go_enter Try.func29, Try.ntmps29
  go_wp2_with (first | ((with_reducible refine gate_dst (N := 1) rfl ?_); (try (refine gate_guard (by rfl) ?_; dsimp only)); refine box_event ?hg (N := 1) ?hd (cs := #[.int .i64 a0_0, .int .i64 a0_1, .slice A0_2 l0_2.length c0_2]) (t := 33) ?hr ?_; (case hd => rfl); (case hg => rfl); (case hr => first | (go_simp; done) | (go_simp; rfl)); intro gb172 hg w5 hbox hb; have n0_ := Aside0.mk (below_step (zB HB) hb); have n1_ := Aside0.mk (hbox); have n2_ := Aside0.mk ((by rw [hg]; exact (below_size (zB HB)) : w.heap.size ≤ gb172)); have n3_ := Aside0.mk ((by rw [hg]; exact (below_size (zB HB)) : w.heap.size ≤ gb172)); clear HB; have HB := n0_; have BK172 := n1_; have GW172 := n2_; have GE172 := n3_; clear n0_ n1_ n2_ n3_; clear hb hbox hg; have hcz6_0 : w5.cell? ⟨gb172, 0, none⟩ = some (.int .i64 a0_0) := (blk_cell BK172.out 0).trans rfl; have hcz6_1 : w5.cell? ⟨gb172, 1, none⟩ = some (.int .i64 a0_1) := (blk_cell BK172.out 1).trans rfl; have hcz6_2 : w5.cell? ⟨gb172, 2, none⟩ = some (.slice A0_2 l0_2.length c0_2) := (blk_cell BK172.out 2).trans rfl; have hfz6_0 := blk_frozen BK172.out 0; have hfz6_1 := blk_frozen BK172.out 1; have hfz6_2 := blk_frozen BK172.out 2))
  go_ret
  exact ⟨by first | rfl | (simp [errW_none, errW_some] <;> rfl) | (simp [*, errW_none, errW_some] <;> rfl), zB1 HB GE172⟩

end Go.Proofs.Ytnjnjajgpkmfhaa.PX

namespace Go.Proofs.Ytnjnjajgpkmfhaa.PX
open Go.RowKit Go.Proofs.YtnjnjajgpkmfhaaW.PrintWords Go.Proofs.YtnjnjajgpkmfhaaW.PrintLast Go.Proofs.YtnjnjajgpkmfhaaW.PrintMore
attribute [local go_sem] max2_int min2_int max_two min_two max_three min_three max_four min_four   -- for this text's walks alone
set_option linter.unusedVariables false
set_option linter.unusedSimpArgs false

/-! ### deadboltref09_less: function 54 -/
def deadboltref09_less.f (a0 : Int) (a1 : Int) : Option (Bool) := (deadboltref09_Root.f a0).bind fun t173 => ((deadboltref09_Root.f a1).bind fun t174 => (if t173 < t174 then (some true) else ((deadboltref09_Root.f a0).bind fun t175 => ((deadboltref09_Root.f a1).bind fun t176 => (if t175 = t176 then (some (decide (a0 < a1))) else (some false))))))
end Go.Proofs.Ytnjnjajgpkmfhaa.PX

namespace Go.Proofs.Ytnjnjajgpkmfhaa.PX
open Go.RowKit Go.Proofs.YtnjnjajgpkmfhaaW.PrintWords Go.Proofs.YtnjnjajgpkmfhaaW.PrintLast Go.Proofs.YtnjnjajgpkmfhaaW.PrintMore
attribute [local go_sem] max2_int min2_int max_two min_two max_three min_three max_four min_four   -- for this text's walks alone
set_option linter.unusedVariables false
set_option linter.unusedSimpArgs false

/-! ### deadboltref09_Set: function 26 -/
def deadboltref09_Set.l0 : Nat → List (S33) → Bool → List (S33) → Int → Int → Int → Int → List Int → Option ((List (S33)))
 | 0, _, _, _, _, _, _, _, _ => none
 | k + 1, x5, x6, x12, x13, x14, x201000, x201001, x201002 => if x14 < x13 then (if 0 ≤ x14 then (if x14 < (x12.length : Int) then (if ((rd_T33 x12 x14).f0) = x201000 then (deadboltref09_Set.l0 k x5 x6 x12 x13 (wrap64 (x14 + 1)) x201000 x201001 x201002) else (if x6 = true then (if x5.length < 3518437208883 then (deadboltref09_Set.l0 k (x5 ++ [(⟨(rd_T33 x12 x14).f0, (rd_T33 x12 x14).f1, (rd_T33 x12 x14).f2⟩ : S33)]) x6 x12 x13 (wrap64 (x14 + 1)) x201000 x201001 x201002) else (none)) else ((deadboltref09_less.f x201000 ((rd_T33 x12 x14).f0)).bind fun t213 => (if t213 = true then (if x5.length < 3518437208883 then ((some (x5 ++ [(⟨x201000, x201001, x201002⟩ : S33)] : List (S33))).bind fun y214 => (if y214.length < 3518437208883 then (deadboltref09_Set.l0 k (y214 ++ [(⟨(rd_T33 x12 x14).f0, (rd_T33 x12 x14).f1, (rd_T33 x12 x14).f2⟩ : S33)]) true x12 x13 (wrap64 (x14 + 1)) x201000 x201001 x201002) else (none))) else (none)) else (if x5.length < 3518437208883 then (deadboltref09_Set.l0 k (x5 ++ [(⟨(rd_T33 x12 x14).f0, (rd_T33 x12 x14).f1, (rd_T33 x12 x14).f2⟩ : S33)]) x6 x12 x13 (wrap64 (x14 + 1)) x201000 x201001 x201002) else (none)))))) else (none)) else (none)) else (if x6 = true then (some x5) else (if x5.length < 3518437208883 then (some (x5 ++ [(⟨x201000, x201001, x201002⟩ : S33)])) else (none)))
def deadboltref09_Set.f (k : Nat) (l0 : List (S33)) (a1_0 : Int) (a1_1 : Int) (l1_2 : List Int) : Option ((List (S33))) := (deadboltref09_Empty.f a1_0 a1_1 l1_2).bind fun t204 => (deadboltref09_Set.l0 k (([] : List (S33))) t204 l0 (l0.length : Int) 0 a1_0 a1_1 l1_2)
end Go.Proofs.Ytnjnjajgpkmfhaa.PX

namespace Go.Proofs.Ytnjnjajgpkmfhaa.PX
open Go.RowKit Go.Proofs.YtnjnjajgpkmfhaaW.PrintWords Go.Proofs.YtnjnjajgpkmfhaaW.PrintLast Go.Proofs.YtnjnjajgpkmfhaaW.PrintMore
attribute [local go_sem] max2_int min2_int max_two min_two max_three min_three max_four min_four   -- for this text's walks alone
set_option linter.unusedVariables false
set_option linter.unusedSimpArgs false

/-! ### deadboltref07_Same: function 23 -/
def deadboltref07_Same.l0 : Nat → List Int → List Int → Int → Int → Option (Bool)
 | 0, _, _, _, _ => none
 | k + 1, x0, x1, x12, x13 => if x13 < x12 then (if 0 ≤ x13 then (if x13 < (x0.length : Int) then (if x13 < (x1.length : Int) then (if (rd x0 x13) = (rd x1 x13) then (deadboltref07_Same.l0 k x0 x1 x12 (wrap64 (x13 + 1))) else (some false)) else (none)) else (none)) else (none)) else (some true)
def deadboltref07_Same.f (k : Nat) (l0 : List Int) (l1 : List Int) : Option (Bool) := if (l0.length : Int) = (l1.length : Int) then (deadboltref07_Same.l0 k l0 l1 (l0.length : Int) 0) else (some false)
set_option maxHeartbeats 8000000 in
set_option maxRecDepth 100000 in
theorem deadboltref07_Same.calls (k : Nat) (A0 : Option Addr) (c0 : Nat) (l0 : List Int) (A1 : Option Addr) (c1 : Nat) (l1 : List Int) (r : Bool) (w : World) (hr0 : Kd.C (Kd.int .i64) w A0 l0.length l0) (hc0 : l0.length ≤ c0) (hr1 : Kd.C (Kd.int .i64) w A1 l1.length l1) (hc1 : l1.length ≤ c1) (h : deadboltref07_Same.f k l0 l1 = some r) :
  Calls Try.prog 23 #[.slice A0 l0.length c0, .slice A1 l1.length c1] w fun e w' => e = .returned (.bool r) ∧ Drawn0 w w' := by
 have HR0 := Aside0.mk hr0
 have HC0 := Aside0.mk hc0
 clear hr0 hc0
 have HR1 := Aside0.mk hr1
 have HC1 := Aside0.mk hc1
 clear hr1 hc1
 have H : (if (l0.length : Int) = (l1.length : Int) then (deadboltref07_Same.l0 k l0 l1 (l0.length : Int) 0) else (some false)) = some r := h
 clear h
 by_cases c3 : (l0.length : Int) = (l1.length : Int)
 ·rw [if_pos c3] at H
  have c3b0 : ((l0.length : Int) == (l1.length : Int)) = true := beq_iff_eq.mpr c3
  have c3b1 : ((l0.length : Int) != (l1.length : Int)) = false := bne_eq_false_iff_eq.mpr c3
  have c3b2 : (l0.length == l1.length) = true := by first | simpa using c3 | (simp at c3 ⊢; omega)
  clear c3
  have H' := Aside0.mk H
  clear H
  go_enter Try.func23, Try.ntmps23
  go_wp2
  repeat (go_quiet (fail); try go_wp2)
  go_loopg [13] k (fun kq v13 w' => ∃ (x13_1 : Int), v13 = .int .i64 x13_1 ∧ Aside0 (deadboltref07_Same.l0 kq l0 l1 (l0.length : Int) x13_1 = some r) ∧ Aside0 (kq ≤ k) ∧ Drawn0 w w')
  case atStart => exact ⟨(0), (by first | rfl | (simp; done) | (simp [*]; done)), H', ⟨Nat.le_refl _⟩, by repeat (first | exact Drawn0.refl _ | apply Drawn0.step)⟩
  case round =>
   clear H'
   try clear c1
   try clear c2
   try clear p2
   try clear c3
   try clear c3b0
   try clear c3b1
   try clear c3b2
   obtain ⟨x13_1, rfl, HA, HK1, ⟨m1, rfl⟩⟩ := hrel
   cases gk with
   | zero => exact absurd HA.out (by simp [deadboltref07_Same.l0])
   | succ k1 =>
    have H := HA.out
    clear HA
    simp only [deadboltref07_Same.l0] at H
    by_cases c4 : x13_1 < (l0.length : Int)
    ·rw [if_pos c4] at H
     have c4b0 : decide (x13_1 < (l0.length : Int)) = true := decide_eq_true c4
     clear c4
     by_cases c5 : 0 ≤ x13_1
     ·rw [if_pos c5] at H
      have c5b0 : decide (0 ≤ x13_1) = true := decide_eq_true c5
      clear c5
      by_cases c6 : x13_1 < (l0.length : Int)
      ·rw [if_pos c6] at H
       have c6b0 : decide (x13_1 < (l0.length : Int)) = true := decide_eq_true c6
       clear c6
       by_cases c7 : x13_1 < (l1.length : Int)
       ·rw [if_pos c7] at H
        have c7b0 : decide (x13_1 < (l1.length : Int)) = true := decide_eq_true c7
        clear c7
        by_cases c8 : (rd l0 x13_1) = (rd l1 x13_1)
        ·rw [if_pos c8] at H
         have c8b0 : ((rd l0 x13_1) == (rd l1 x13_1)) = true := beq_iff_eq.mpr c8
         have c8b1 : ((rd l0 x13_1) != (rd l1 x13_1)) = false := bne_eq_false_iff_eq.mpr c8
         clear c8
         have H' := Aside0.mk H
         clear H
         have p183 : 0 ≤ (x13_1 : Int) := of_decide_eq_true (by first | (with_reducible assumption) | assumption)
         have q183 : x13_1 < (l0.length : Int) := of_decide_eq_true (by first | (with_reducible assumption) | assumption)
         obtain ⟨ad183, e183, hx183_0⟩ := Kd.at_int HR0.out x13_1 p183 q183
         cases e183
         replace p183 := eq_true p183
         replace q183 := eq_true q183
         have p184 : 0 ≤ (x13_1 : Int) := of_decide_eq_true (by first | (with_reducible assumption) | assumption)
         have q184 : x13_1 < (l1.length : Int) := of_decide_eq_true (by first | (with_reducible assumption) | assumption)
         obtain ⟨ad184, e184, hx184_0⟩ := Kd.at_int HR1.out x13_1 p184 q184
         cases e184
         replace p184 := eq_true p184
         replace q184 := eq_true q184
         go_wp2
         repeat (go_quiet (fail); try go_wp2)
         go_roundg k1
         case measure => have := HK1.out; omega
         case rel => exact ⟨(wrap64 (x13_1 + 1)), (by first | rfl | (simp; done) | (simp [*]; done)), H', ⟨by have := HK1.out; omega⟩, by repeat (first | exact Drawn0.refl _ | apply Drawn0.step)⟩
        ·rw [if_neg c8] at H
         have c8b0 : ((rd l0 x13_1) == (rd l1 x13_1)) = false := beq_eq_false_iff_ne.mpr c8
         have c8b1 : ((rd l0 x13_1) != (rd l1 x13_1)) = true := bne_iff_ne.mpr c8
         obtain rfl := Option.some.inj H
         have p183 : 0 ≤ (x13_1 : Int) := of_decide_eq_true (by first | (with_reducible assumption) | assumption)
         have q183 : x13_1 < (l0.length : Int) := of_decide_eq_true (by first | (with_reducible assumption) | assumption)
         obtain ⟨ad183, e183, hx183_0⟩ := Kd.at_int HR0.out x13_1 p183 q183
         cases e183
         replace p183 := eq_true p183
         replace q183 := eq_true q183
         have p184 : 0 ≤ (x13_1 : Int) := of_decide_eq_true (by first | (with_reducible assumption) | assumption)
         have q184 : x13_1 < (l1.length : Int) := of_decide_eq_true (by first | (with_reducible assumption) | assumption)
         obtain ⟨ad184, e184, hx184_0⟩ := Kd.at_int HR1.out x13_1 p184 q184
         cases e184
         replace p184 := eq_true p184
         replace q184 := eq_true q184
         go_wp2
         repeat (go_quiet (fail); try go_wp2)
         go_ret
         exact ⟨by first | rfl | (simp; done) | (simp [*]; done), by repeat (first | exact Drawn0.refl _ | apply Drawn0.step)⟩
       ·rw [if_neg c7] at H
        exact absurd H (by simp)
      ·rw [if_neg c6] at H
       exact absurd H (by simp)
     ·rw [if_neg c5] at H
      exact absurd H (by simp)
    ·rw [if_neg c4] at H
     have c4b0 : decide (x13_1 < (l0.length : Int)) = false := decide_eq_false c4
     clear c4
     obtain rfl := Option.some.inj H
     go_wp2
     repeat (go_quiet (fail); try go_wp2)
     go_ret
     exact ⟨by first | rfl | (simp; done) | (simp [*]; done), by repeat (first | exact Drawn0.refl _ | apply Drawn0.step)⟩
 ·rw [if_neg c3] at H
  have c3b0 : ((l0.length : Int) == (l1.length : Int)) = false := beq_eq_false_iff_ne.mpr c3
  have c3b1 : ((l0.length : Int) != (l1.length : Int)) = true := bne_iff_ne.mpr c3
  have c3b2 : (l0.length == l1.length) = false := by first | simpa using c3 | (simp at c3 ⊢; omega)
  obtain rfl := Option.some.inj H
  go_enter Try.func23, Try.ntmps23
  go_wp2
  repeat (go_quiet (fail); try go_wp2)
  go_ret
  exact ⟨by first | rfl | (simp; done) | (simp [*]; done), by repeat (first | exact Drawn0.refl _ | apply Drawn0.step)⟩

end Go.Proofs.Ytnjnjajgpkmfhaa.PX

namespace Go.Proofs.Ytnjnjajgpkmfhaa.PX
open Go.RowKit Go.Proofs.YtnjnjajgpkmfhaaW.PrintWords Go.Proofs.YtnjnjajgpkmfhaaW.PrintLast Go.Proofs.YtnjnjajgpkmfhaaW.PrintMore
attribute [local go_sem] max2_int min2_int max_two min_two max_three min_three max_four min_four   -- for this text's walks alone
set_option linter.unusedVariables false
set_option linter.unusedSimpArgs false

/-! ### deadboltref09_Spots: function 21 -/
def deadboltref09_Spots.f (k : Nat) (a0_0 : Int) (a0_1 : Int) (l0_2 : List Int) (a1_0 : Int) (a1_1 : Int) (l1_2 : List Int) : Option (Bool) := if a0_0 = a1_0 then (if a0_1 = a1_1 then ((deadboltref07_Same.f k l0_2 l1_2).bind fun t187 => (some t187)) else (some false)) else (some false)
set_option maxHeartbeats 8000000 in
set_option maxRecDepth 100000 in
theorem deadboltref09_Spots.calls (k : Nat) (a0_0 : Int) (a0_1 : Int) (A0_2 : Option Addr) (c0_2 : Nat) (l0_2 : List Int) (a1_0 : Int) (a1_1 : Int) (A1_2 : Option Addr) (c1_2 : Nat) (l1_2 : List Int) (r : Bool) (w : World) (hr0_2 : Kd.C (Kd.int .i64) w A0_2 l0_2.length l0_2) (hc0_2 : l0_2.length ≤ c0_2) (hr1_2 : Kd.C (Kd.int .i64) w A1_2 l1_2.length l1_2) (hc1_2 : l1_2.length ≤ c1_2) (h : deadboltref09_Spots.f k a0_0 a0_1 l0_2 a1_0 a1_1 l1_2 = some r) :
  Calls Try.prog 21 #[.agg #[.int .i64 a0_0, .int .i64 a0_1, .slice A0_2 l0_2.length c0_2], .agg #[.int .i64 a1_0, .int .i64 a1_1, .slice A1_2 l1_2.length c1_2]] w fun e w' => e = .returned (.bool r) ∧ Below w.heap.size w w' := by
 have hu33 := Try.underlying33
 have HR0_2 := Aside0.mk hr0_2
 have HC0_2 := Aside0.mk hc0_2
 clear hr0_2 hc0_2
 have HR1_2 := Aside0.mk hr1_2
 have HC1_2 := Aside0.mk hc1_2
 clear hr1_2 hc1_2
 have HB := Aside0.mk (Below.refl w.heap.size w)
 have H : (if a0_0 = a1_0 then (if a0_1 = a1_1 then ((deadboltref07_Same.f k l0_2 l1_2).bind fun t187 => (some t187)) else (some false)) else (some false)) = some r := h
 clear h
 by_cases c3 : a0_0 = a1_0
 ·rw [if_pos c3] at H
  have c3b0 : (a0_0 == a1_0) = true := beq_iff_eq.mpr c3
  have c3b1 : (a0_0 != a1_0) = false := bne_eq_false_iff_eq.mpr c3
  clear c3
  by_cases c4 : a0_1 = a1_1
  ·rw [if_pos c4] at H
   have c4b0 : (a0_1 == a1_1) = true := beq_iff_eq.mpr c4
   have c4b1 : (a0_1 != a1_1) = false := bne_eq_false_iff_eq.mpr c4
   clear c4
   replace H := Option.bind_eq_some_iff.mp H
   obtain ⟨t187, A50, H⟩ := H
   replace H : (some t187) = some r := H
   have A5 := Aside0.mk A50
   clear A50
   obtain rfl := Option.some.inj H
   go_enter Try.func21, Try.ntmps21
   go_wp2_with (first | ((with_reducible refine gate_dst (N := 2) rfl ?_); refine box_event ?hg (N := 2) ?hd (cs := #[.int .i64 a0_0, .int .i64 a0_1, .slice A0_2 l0_2.length c0_2]) (t := 33) ?hr ?_; (case hd => rfl); (case hg => rfl); (case hr => first | (go_simp; done) | (go_simp; rfl)); intro gb185 hg w6 hbox hb; have n0_ := Aside0.mk (below_step (zB HB) hb); have n1_ := Aside0.mk (hbox); have n2_ := Aside0.mk ((by rw [hg]; exact (below_size (zB HB)) : w.heap.size ≤ gb185)); have n3_ := Aside0.mk ((by rw [hg]; exact (below_size (zB HB)) : w.heap.size ≤ gb185)); clear HB; have HB := n0_; have BK185 := n1_; have GW185 := n2_; have GE185 := n3_; clear n0_ n1_ n2_ n3_; clear hb hbox hg) | ((with_reducible refine gate_dst (N := 3) rfl ?_); refine box_event ?hg (N := 3) ?hd (cs := #[.int .i64 a1_0, .int .i64 a1_1, .slice A1_2 l1_2.length c1_2]) (t := 33) ?hr ?_; (case hd => rfl); (case hg => rfl); (case hr => first | (go_simp; done) | (go_simp; rfl)); intro gb186 hg w7 hbox hb; have n0_ := Aside0.mk (blk_below (g := gb185) (o := .cells #[.int .i64 a0_0, .int .i64 a0_1, .slice A0_2 l0_2.length c0_2] 33 (0, 0)) (zK BK185) hb); have n1_ := Aside0.mk (below_step (zB1 HB GE185) hb); have n2_ := Aside0.mk (hbox); have n3_ := Aside0.mk ((by rw [hg]; exact (below_size (zB1 HB GE185)) : w.heap.size ≤ gb186)); have n4_ := Aside0.mk ((by rw [hg]; exact (below_size (zB1 HB GE185)) : w.heap.size ≤ gb186)); have n5_ := Aside0.mk ((by rw [hg]; exact Nat.ne_of_lt (blk_lt (g := gb185) (o := .cells #[.int .i64 a0_0, .int .i64 a0_1, .slice A0_2 l0_2.length c0_2] 33 (0, 0)) (zK BK185)) : gb185 ≠ gb186)); have n6_ := Aside0.mk ((by rw [hg]; exact Nat.ne_of_gt (blk_lt (g := gb185) (o := .cells #[.int .i64 a0_0, .int .i64 a0_1, .slice A0_2 l0_2.length c0_2] 33 (0, 0)) (zK BK185)) : gb186 ≠ gb185)); clear BK185; clear HB; have BK185 := n0_; have HB := n1_; have BK186 := n2_; have GW186 := n3_; have GE186 := n4_; have NB185_186 := n5_; have NB186_185 := n6_; clear n0_ n1_ n2_ n3_ n4_ n5_ n6_; clear hb hbox hg; have hnb8 := NB185_186.out; have hnc8 := NB186_185.out; have hcz9_0 : w7.cell? ⟨gb185, 0, none⟩ = some (.int .i64 a0_0) := (blk_cell BK185.out 0).trans rfl; have hcz9_1 : w7.cell? ⟨gb185, 1, none⟩ = some (.int .i64 a0_1) := (blk_cell BK185.out 1).trans rfl; have hcz9_2 : w7.cell? ⟨gb185, 2, none⟩ = some (.slice A0_2 l0_2.length c0_2) := (blk_cell BK185.out 2).trans rfl; have hfz9_0 := blk_frozen BK185.out 0; have hfz9_1 := blk_frozen BK185.out 1; have hfz9_2 := blk_frozen BK185.out 2; have hcz10_0 : w7.cell? ⟨gb186, 0, none⟩ = some (.int .i64 a1_0) := (blk_cell BK186.out 0).trans rfl; have hcz10_1 : w7.cell? ⟨gb186, 1, none⟩ = some (.int .i64 a1_1) := (blk_cell BK186.out 1).trans rfl; have hcz10_2 : w7.cell? ⟨gb186, 2, none⟩ = some (.slice A1_2 l1_2.length c1_2) := (blk_cell BK186.out 2).trans rfl; have hfz10_0 := blk_frozen BK186.out 0; have hfz10_1 := blk_frozen BK186.out 1; have hfz10_2 := blk_frozen BK186.out 2) | (go_at_call 23; (with_reducible refine (deadboltref07_Same.calls k _ _ l0_2 _ _ l1_2 t187 _ ?side1 ?side2 ?side3 ?side4 A5.out).mono ?_); (case side1 => repeat (first | exact (Kd.C_below HR0_2.out HB.out) | (with_reducible refine Kd.C_alloc ?_ _) | (with_reducible refine Kd.C_drewN ?_ _) | (with_reducible refine Kd.C_drew ?_))); (case side2 => exact HC0_2.out); (case side3 => repeat (first | exact (Kd.C_below HR1_2.out HB.out) | (with_reducible refine Kd.C_alloc ?_ _) | (with_reducible refine Kd.C_drewN ?_ _) | (with_reducible refine Kd.C_drew ?_))); (case side4 => exact HC1_2.out); rintro e w' ⟨rfl, ⟨nd, rfl⟩⟩))
   go_ret
   exact ⟨by first | rfl | (simp [errW_none, errW_some] <;> rfl) | (simp [*, errW_none, errW_some] <;> rfl), zB2 HB GE185 GE186⟩
  ·rw [if_neg c4] at H
   have c4b0 : (a0_1 == a1_1) = false := beq_eq_false_iff_ne.mpr c4
   have c4b1 : (a0_1 != a1_1) = true := bne_iff_ne.mpr c4
   obtain rfl := Option.some.inj H
   go_enter Try.func21, Try.ntmps21
   go_wp2_with (first | ((with_reducible refine gate_dst (N := 2) rfl ?_); refine box_event ?hg (N := 2) ?hd (cs := #[.int .i64 a0_0, .int .i64 a0_1, .slice A0_2 l0_2.length c0_2]) (t := 33) ?hr ?_; (case hd => rfl); (case hg => rfl); (case hr => first | (go_simp; done) | (go_simp; rfl)); intro gb185 hg w11 hbox hb; have n0_ := Aside0.mk (below_step (zB HB) hb); have n1_ := Aside0.mk (hbox); have n2_ := Aside0.mk ((by rw [hg]; exact (below_size (zB HB)) : w.heap.size ≤ gb185)); have n3_ := Aside0.mk ((by rw [hg]; exact (below_size (zB HB)) : w.heap.size ≤ gb185)); clear HB; have HB := n0_; have BK185 := n1_; have GW185 := n2_; have GE185 := n3_; clear n0_ n1_ n2_ n3_; clear hb hbox hg) | ((with_reducible refine gate_dst (N := 3) rfl ?_); refine box_event ?hg (N := 3) ?hd (cs := #[.int .i64 a1_0, .int .i64 a1_1, .slice A1_2 l1_2.length c1_2]) (t := 33) ?hr ?_; (case hd => rfl); (case hg => rfl); (case hr => first | (go_simp; done) | (go_simp; rfl)); intro gb186 hg w12 hbox hb; have n0_ := Aside0.mk (blk_below (g := gb185) (o := .cells #[.int .i64 a0_0, .int .i64 a0_1, .slice A0_2 l0_2.length c0_2] 33 (0, 0)) (zK BK185) hb); have n1_ := Aside0.mk (below_step (zB1 HB GE185) hb); have n2_ := Aside0.mk (hbox); have n3_ := Aside0.mk ((by rw [hg]; exact (below_size (zB1 HB GE185)) : w.heap.size ≤ gb186)); have n4_ := Aside0.mk ((by rw [hg]; exact (below_size (zB1 HB GE185)) : w.heap.size ≤ gb186)); have n5_ := Aside0.mk ((by rw [hg]; exact Nat.ne_of_lt (blk_lt (g := gb185) (o := .cells #[.int .i64 a0_0, .int .i64 a0_1, .slice A0_2 l0_2.length c0_2] 33 (0, 0)) (zK BK185)) : gb185 ≠ gb186)); have n6_ := Aside0.mk ((by rw [hg]; exact Nat.ne_of_gt (blk_lt (g := gb185) (o := .cells #[.int .i64 a0_0, .int .i64 a0_1, .slice A0_2 l0_2.length c0_2] 33 (0, 0)) (zK BK185)) : gb186 ≠ gb185)); clear BK185; clear HB; have BK185 := n0_; have HB := n1_; have BK186 := n2_; have GW186 := n3_; have GE186 := n4_; have NB185_186 := n5_; have NB186_185 := n6_; clear n0_ n1_ n2_ n3_ n4_ n5_ n6_; clear hb hbox hg; have hnb13 := NB185_186.out; have hnc13 := NB186_185.out; have hcz14_0 : w12.cell? ⟨gb185, 0, none⟩ = some (.int .i64 a0_0) := (blk_cell BK185.out 0).trans rfl; have hcz14_1 : w12.cell? ⟨gb185, 1, none⟩ = some (.int .i64 a0_1) := (blk_cell BK185.out 1).trans rfl; have hcz14_2 : w12.cell? ⟨gb185, 2, none⟩ = some (.slice A0_2 l0_2.length c0_2) := (blk_cell BK185.out 2).trans rfl; have hfz14_0 := blk_frozen BK185.out 0; have hfz14_1 := blk_frozen BK185.out 1; have hfz14_2 := blk_frozen BK185.out 2; have hcz15_0 : w12.cell? ⟨gb186, 0, none⟩ = some (.int .i64 a1_0) := (blk_cell BK186.out 0).trans rfl; have hcz15_1 : w12.cell? ⟨gb186, 1, none⟩ = some (.int .i64 a1_1) := (blk_cell BK186.out 1).trans rfl; have hcz15_2 : w12.cell? ⟨gb186, 2, none⟩ = some (.slice A1_2 l1_2.length c1_2) := (blk_cell BK186.out 2).trans rfl; have hfz15_0 := blk_frozen BK186.out 0; have hfz15_1 := blk_frozen BK186.out 1; have hfz15_2 := blk_frozen BK186.out 2))
   go_ret
   exact ⟨by first | rfl | (simp [errW_none, errW_some] <;> rfl) | (simp [*, errW_none, errW_some] <;> rfl), zB2 HB GE185 GE186⟩
 ·rw [if_neg c3] at H
  have c3b0 : (a0_0 == a1_0) = false := beq_eq_false_iff_ne.mpr c3
  have c3b1 : (a0_0 != a1_0) = true := bne_iff_ne.mpr c3
  obtain rfl := Option.some.inj H
  go_enter Try.func21, Try.ntmps21
  go_wp2_with (first | ((with_reducible refine gate_dst (N := 2) rfl ?_); refine box_event ?hg (N := 2) ?hd (cs := #[.int .i64 a0_0, .int .i64 a0_1, .slice A0_2 l0_2.length c0_2]) (t := 33) ?hr ?_; (case hd => rfl); (case hg => rfl); (case hr => first | (go_simp; done) | (go_simp; rfl)); intro gb185 hg w16 hbox hb; have n0_ := Aside0.mk (below_step (zB HB) hb); have n1_ := Aside0.mk (hbox); have n2_ := Aside0.mk ((by rw [hg]; exact (below_size (zB HB)) : w.heap.size ≤ gb185)); have n3_ := Aside0.mk ((by rw [hg]; exact (below_size (zB HB)) : w.heap.size ≤ gb185)); clear HB; have HB := n0_; have BK185 := n1_; have GW185 := n2_; have GE185 := n3_; clear n0_ n1_ n2_ n3_; clear hb hbox hg) | ((with_reducible refine gate_dst (N := 3) rfl ?_); refine box_event ?hg (N := 3) ?hd (cs := #[.int .i64 a1_0, .int .i64 a1_1, .slice A1_2 l1_2.length c1_2]) (t := 33) ?hr ?_; (case hd => rfl); (case hg => rfl); (case hr => first | (go_simp; done) | (go_simp; rfl)); intro gb186 hg w17 hbox hb; have n0_ := Aside0.mk (blk_below (g := gb185) (o := .cells #[.int .i64 a0_0, .int .i64 a0_1, .slice A0_2 l0_2.length c0_2] 33 (0, 0)) (zK BK185) hb); have n1_ := Aside0.mk (below_step (zB1 HB GE185) hb); have n2_ := Aside0.mk (hbox); have n3_ := Aside0.mk ((by rw [hg]; exact (below_size (zB1 HB GE185)) : w.heap.size ≤ gb186)); have n4_ := Aside0.mk ((by rw [hg]; exact (below_size (zB1 HB GE185)) : w.heap.size ≤ gb186)); have n5_ := Aside0.mk ((by rw [hg]; exact Nat.ne_of_lt (blk_lt (g := gb185) (o := .cells #[.int .i64 a0_0, .int .i64 a0_1, .slice A0_2 l0_2.length c0_2] 33 (0, 0)) (zK BK185)) : gb185 ≠ gb186)); have n6_ := Aside0.mk ((by rw [hg]; exact Nat.ne_of_gt (blk_lt (g := gb185) (o := .cells #[.int .i64 a0_0, .int .i64 a0_1, .slice A0_2 l0_2.length c0_2] 33 (0, 0)) (zK BK185)) : gb186 ≠ gb185)); clear BK185; clear HB; have BK185 := n0_; have HB := n1_; have BK186 := n2_; have GW186 := n3_; have GE186 := n4_; have NB185_186 := n5_; have NB186_185 := n6_; clear n0_ n1_ n2_ n3_ n4_ n5_ n6_; clear hb hbox hg; have hnb18 := NB185_186.out; have hnc18 := NB186_185.out; have hcz19_0 : w17.cell? ⟨gb185, 0, none⟩ = some (.int .i64 a0_0) := (blk_cell BK185.out 0).trans rfl; have hcz19_1 : w17.cell? ⟨gb185, 1, none⟩ = some (.int .i64 a0_1) := (blk_cell BK185.out 1).trans rfl; have hcz19_2 : w17.cell? ⟨gb185, 2, none⟩ = some (.slice A0_2 l0_2.length c0_2) := (blk_cell BK185.out 2).trans rfl; have hfz19_0 := blk_frozen BK185.out 0; have hfz19_1 := blk_frozen BK185.out 1; have hfz19_2 := blk_frozen BK185.out 2; have hcz20_0 : w17.cell? ⟨gb186, 0, none⟩ = some (.int .i64 a1_0) := (blk_cell BK186.out 0).trans rfl; have hcz20_1 : w17.cell? ⟨gb186, 1, none⟩ = some (.int .i64 a1_1) := (blk_cell BK186.out 1).trans rfl; have hcz20_2 : w17.cell? ⟨gb186, 2, none⟩ = some (.slice A1_2 l1_2.length c1_2) := (blk_cell BK186.out 2).trans rfl; have hfz20_0 := blk_frozen BK186.out 0; have hfz20_1 := blk_frozen BK186.out 1; have hfz20_2 := blk_frozen BK186.out 2))
  go_ret
  exact ⟨by first | rfl | (simp [errW_none, errW_some] <;> rfl) | (simp [*, errW_none, errW_some] <;> rfl), zB2 HB GE185 GE186⟩

end Go.Proofs.Ytnjnjajgpkmfhaa.PX

namespace Go.Proofs.Ytnjnjajgpkmfhaa.PX
open Go.RowKit Go.Proofs.YtnjnjajgpkmfhaaW.PrintWords Go.Proofs.YtnjnjajgpkmfhaaW.PrintLast Go.Proofs.YtnjnjajgpkmfhaaW.PrintMore
attribute [local go_sem] max2_int min2_int max_two min_two max_three min_three max_four min_four   -- for this text's walks alone
set_option linter.unusedVariables false
set_option linter.unusedSimpArgs false

/-! ### deadboltref09_Same: function 27 -/
def deadboltref09_Same.l0 : Nat → List (S33) → List (S33) → Int → Int → Option (Bool)
 | 0, _, _, _, _ => none
 | k + 1, x0, x1, x12, x13 => if x13 < x12 then (if 0 ≤ x13 then (if x13 < (x0.length : Int) then (if x13 < (x1.length : Int) then ((deadboltref09_Spots.f k ((rd_T33 x0 x13).f0) ((rd_T33 x0 x13).f1) ((rd_T33 x0 x13).f2) ((rd_T33 x1 x13).f0) ((rd_T33 x1 x13).f1) ((rd_T33 x1 x13).f2)).bind fun t225 => (if t225 = true then (deadboltref09_Same.l0 k x0 x1 x12 (wrap64 (x13 + 1))) else (some false))) else (none)) else (none)) else (none)) else (some true)
def deadboltref09_Same.f (k : Nat) (l0 : List (S33)) (l1 : List (S33)) : Option (Bool) := if (l0.length : Int) = (l1.length : Int) then (deadboltref09_Same.l0 k l0 l1 (l0.length : Int) 0) else (some false)
def deadboltref09_Same.T6 : Bool × List (List Nat × List Nat) := (true, [([], []), ([], []), ([0, 1], [0, 1]), ([2], [2]), ([], []), ([], []), ([4, 5], [4, 5]), ([6], [6]), ([3, 7], [3, 7]), ([8], [8])])
def deadboltref09_Same.B6 : List Nat := [0, 0, 3, 7, 0, 0, 48, 112, 255, 511]
theorem deadboltref09_Same.tab6 : rtab .any (opsOf Try.f27 6) = deadboltref09_Same.T6 := by kernel_rfl
theorem deadboltref09_Same.bits6 : waitsOk deadboltref09_Same.T6.2 deadboltref09_Same.B6 = true := by kernel_rfl
set_option maxHeartbeats 8000000 in
set_option maxRecDepth 100000 in
theorem deadboltref09_Same.calls (k : Nat) (A0 : Option Addr) (c0 : Nat) (l0 : List (S33)) (A1 : Option Addr) (c1 : Nat) (l1 : List (S33)) (r : Bool) (w : World) (hr0 : Kd.C k33 w A0 l0.length l0) (hc0 : l0.length ≤ c0) (hr1 : Kd.C k33 w A1 l1.length l1) (hc1 : l1.length ≤ c1) (h : deadboltref09_Same.f k l0 l1 = some r) :
  Calls Try.prog 27 #[.slice A0 l0.length c0, .slice A1 l1.length c1] w fun e w' => e = .returned (.bool r) ∧ Below w.heap.size w w' := by
 have hu33 := Try.underlying33
 have HR0 := Aside0.mk hr0
 have HC0 := Aside0.mk hc0
 clear hr0 hc0
 have HR1 := Aside0.mk hr1
 have HC1 := Aside0.mk hc1
 clear hr1 hc1
 have HB := Aside0.mk (Below.refl w.heap.size w)
 have H : (if (l0.length : Int) = (l1.length : Int) then (deadboltref09_Same.l0 k l0 l1 (l0.length : Int) 0) else (some false)) = some r := h
 clear h
 by_cases c3 : (l0.length : Int) = (l1.length : Int)
 ·rw [if_pos c3] at H
  have c3b0 : ((l0.length : Int) == (l1.length : Int)) = true := beq_iff_eq.mpr c3
  have c3b1 : ((l0.length : Int) != (l1.length : Int)) = false := bne_eq_false_iff_eq.mpr c3
  have c3b2 : (l0.length == l1.length) = true := by first | simpa using c3 | (simp at c3 ⊢; omega)
  clear c3
  have H' := Aside0.mk H
  clear H
  go_enter Try.func27, Try.ntmps27
  go_wp2
  go_loopg [13] k (fun kq v13 w' => ∃ (x13_1 : Int), v13 = .int .i64 x13_1 ∧ Aside0 (deadboltref09_Same.l0 kq l0 l1 (l0.length : Int) x13_1 = some r) ∧ Aside0 (kq ≤ k) ∧ Aside0 (Below w.heap.size w w'))
  case atStart => exact ⟨(0), (by first | rfl | (simp; done) | (simp [*]; done)), H', ⟨Nat.le_refl _⟩, ⟨zB HB⟩⟩
  case round =>
   clear H'
   try clear c1
   try clear c2
   try clear p2
   try clear c3
   try clear c3b0
   try clear c3b1
   try clear c3b2
   obtain ⟨x13_1, rfl, HA, HK1, HB⟩ := hrel
   cases gk with
   | zero => exact absurd HA.out (by simp [deadboltref09_Same.l0])
   | succ k1 =>
    have H := HA.out
    clear HA
    simp only [deadboltref09_Same.l0] at H
    by_cases c4 : x13_1 < (l0.length : Int)
    ·rw [if_pos c4] at H
     have c4b0 : decide (x13_1 < (l0.length : Int)) = true := decide_eq_true c4
     clear c4
     by_cases c5 : 0 ≤ x13_1
     ·rw [if_pos c5] at H
      have c5b0 : decide (0 ≤ x13_1) = true := decide_eq_true c5
      clear c5
      by_cases c6 : x13_1 < (l0.length : Int)
      ·rw [if_pos c6] at H
       have c6b0 : decide (x13_1 < (l0.length : Int)) = true := decide_eq_true c6
       clear c6
       by_cases c7 : x13_1 < (l1.length : Int)
       ·rw [if_pos c7] at H
        have c7b0 : decide (x13_1 < (l1.length : Int)) = true := decide_eq_true c7
        clear c7
        replace H := Option.bind_eq_some_iff.mp H
        obtain ⟨t225, A80, H⟩ := H
        replace H : (if t225 = true then (deadboltref09_Same.l0 k1 l0 l1 (l0.length : Int) (wrap64 (x13_1 + 1))) else (some false)) = some r := H
        have A8 := Aside0.mk A80
        clear A80
        by_cases c9 : t225 = true
        ·subst c9
         have H1 : (deadboltref09_Same.l0 k1 l0 l1 (l0.length : Int) (wrap64 (x13_1 + 1))) = some r := by rw [if_pos rfl] at H; exact H
         clear H
         have H := H1
         clear H1
         have H' := Aside0.mk H
         clear H
         try go_wp2
         have n0_ := Aside0.mk (below_drew1 HB.out)
         clear HB
         have HB := n0_
         clear n0_
         have p223 : 0 ≤ (x13_1 : Int) := of_decide_eq_true (by first | (with_reducible assumption) | assumption)
         have q223 : x13_1 < (l0.length : Int) := of_decide_eq_true (by first | (with_reducible assumption) | assumption)
         obtain ⟨ad223, A223_2, c223_2, e223, hx223_0, hx223_1, hx223_2, hl223_2, hi223_2⟩ := at_T33 HR0.out x13_1 p223 q223
         have hw223_2 := hx223_2
         have hw223_1 := hx223_1
         have hw223_0 := hx223_0
         cases e223
         replace hx223_0 := (HB.out.cell (World.block_lt_of_cell? w _ hx223_0)).trans hx223_0
         replace hx223_1 := (HB.out.cell (World.block_lt_of_cell? w _ hx223_1)).trans hx223_1
         replace hx223_2 := (HB.out.cell (World.block_lt_of_cell? w _ hx223_2)).trans hx223_2
         have HR223_2 := Aside0.mk hi223_2
         have HC223_2 := Aside0.mk hl223_2
         clear hi223_2 hl223_2
         replace p223 := eq_true p223
         replace q223 := eq_true q223
         have p224 : 0 ≤ (x13_1 : Int) := of_decide_eq_true (by first | (with_reducible assumption) | assumption)
         have q224 : x13_1 < (l1.length : Int) := of_decide_eq_true (by first | (with_reducible assumption) | assumption)
         obtain ⟨ad224, A224_2, c224_2, e224, hx224_0, hx224_1, hx224_2, hl224_2, hi224_2⟩ := at_T33 HR1.out x13_1 p224 q224
         have hw224_2 := hx224_2
         have hw224_1 := hx224_1
         have hw224_0 := hx224_0
         cases e224
         replace hx224_0 := (HB.out.cell (World.block_lt_of_cell? w _ hx224_0)).trans hx224_0
         replace hx224_1 := (HB.out.cell (World.block_lt_of_cell? w _ hx224_1)).trans hx224_1
         replace hx224_2 := (HB.out.cell (World.block_lt_of_cell? w _ hx224_2)).trans hx224_2
         have HR224_2 := Aside0.mk hi224_2
         have HC224_2 := Aside0.mk hl224_2
         clear hi224_2 hl224_2
         replace p224 := eq_true p224
         replace q224 := eq_true q224
         refine start_ (n := 10) (S := fun w' => w'.cell? (ad223.add ((x13_1).toNat * 3)) = some (.int .i64 ((rd_T33 l0 x13_1).f0)) ∧ w'.cell? ⟨(ad223.add ((x13_1).toNat * 3)).block, (ad223.add ((x13_1).toNat * 3)).off + 1, none⟩ = some (.int .i64 ((rd_T33 l0 x13_1).f1)) ∧ w'.cell? ⟨(ad223.add ((x13_1).toNat * 3)).block, (ad223.add ((x13_1).toNat * 3)).off + 2, none⟩ = some (.slice A223_2 ((rd_T33 l0 x13_1).f2).length c223_2) ∧ w'.cell? (ad224.add ((x13_1).toNat * 3)) = some (.int .i64 ((rd_T33 l1 x13_1).f0)) ∧ w'.cell? ⟨(ad224.add ((x13_1).toNat * 3)).block, (ad224.add ((x13_1).toNat * 3)).off + 1, none⟩ = some (.int .i64 ((rd_T33 l1 x13_1).f1)) ∧ w'.cell? ⟨(ad224.add ((x13_1).toNat * 3)).block, (ad224.add ((x13_1).toNat * 3)).off + 2, none⟩ = some (.slice A224_2 ((rd_T33 l1 x13_1).f2).length c224_2)) (ds := []) #[false, false, false, false, false, false, false, false, false, false] (by kernel_rfl) rfl rfl ⟨((HB.out.cell (World.block_lt_of_cell? w _ hw223_0)).trans hw223_0), ((HB.out.cell (World.block_lt_of_cell? w _ hw223_1)).trans hw223_1), ((HB.out.cell (World.block_lt_of_cell? w _ hw223_2)).trans hw223_2), ((HB.out.cell (World.block_lt_of_cell? w _ hw224_0)).trans hw224_0), ((HB.out.cell (World.block_lt_of_cell? w _ hw224_1)).trans hw224_1), ((HB.out.cell (World.block_lt_of_cell? w _ hw224_2)).trans hw224_2)⟩ (fun hHeld => ?_); refine with_tabW deadboltref09_Same.tab6 deadboltref09_Same.bits6 (fun HT_ HW_ => ?_)
         generalize wr.drew = w10 at HB HR223_2 HR224_2 hx223_0 hx223_1 hx223_2 hx224_0 hx224_1 hx224_2 hHeld ⊢
         refine pure_ (i := 0) (N := some 16) (v := ?_) (a' := ?_) #[true, false, false, false, false, false, false, false, false, false] rfl rfl (any_of HT_.out (by kernel_rfl)) (fun _ _ _ h => h) (Or.inl ⟨by rfl, ?_⟩) ?_ ?_
         rotate_left
         ·intro w'
          go_simp
          with_reducible rfl
         rotate_left
         ·simp only [Act.put, List.setIfInBounds_toArray, List.set_cons_zero, List.set_cons_succ, i64_w, i32_w]
          rfl
         refine pure_ (i := 1) (N := some 17) (v := ?_) (a' := ?_) #[true, true, false, false, false, false, false, false, false, false] rfl rfl (any_of HT_.out (by kernel_rfl)) (fun _ _ _ h => h) (Or.inl ⟨by rfl, ?_⟩) ?_ ?_
         rotate_left
         ·intro w'
          go_simp
          with_reducible rfl
         rotate_left
         ·simp only [Act.put, List.setIfInBounds_toArray, List.set_cons_zero, List.set_cons_succ, i64_w, i32_w]
          rfl
         refine pure_ (i := 2) (N := some 18) (v := ?_) (a' := ?_) #[true, true, true, false, false, false, false, false, false, false] rfl rfl (any_of HT_.out (by kernel_rfl)) (fun _ _ _ h => h) (Or.inl ⟨by rfl, ?_⟩) ?_ ?_
         rotate_left
         ·intro w'
          go_simp
          with_reducible rfl
         rotate_left
         ·simp only [Act.put, List.setIfInBounds_toArray, List.set_cons_zero, List.set_cons_succ, i64_w, i32_w]
          rfl
         refine pure_ (i := 4) (N := some 20) (v := ?_) (a' := ?_) #[true, true, true, false, true, false, false, false, false, false] rfl rfl (any_of HT_.out (by kernel_rfl)) (fun _ _ _ h => h) (Or.inl ⟨by rfl, ?_⟩) ?_ ?_
         rotate_left
         ·intro w'
          go_simp
          with_reducible rfl
         rotate_left
         ·simp only [Act.put, List.setIfInBounds_toArray, List.set_cons_zero, List.set_cons_succ, i64_w, i32_w]
          rfl
         refine pure_ (i := 5) (N := some 21) (v := ?_) (a' := ?_) #[true, true, true, false, true, true, false, false, false, false] rfl rfl (any_of HT_.out (by kernel_rfl)) (fun _ _ _ h => h) (Or.inl ⟨by rfl, ?_⟩) ?_ ?_
         rotate_left
         ·intro w'
          go_simp
          with_reducible rfl
         rotate_left
         ·simp only [Act.put, List.setIfInBounds_toArray, List.set_cons_zero, List.set_cons_succ, i64_w, i32_w]
          rfl
         refine pure_ (i := 6) (N := some 22) (v := ?_) (a' := ?_) #[true, true, true, false, true, true, true, false, false, false] rfl rfl (any_of HT_.out (by kernel_rfl)) (fun _ _ _ h => h) (Or.inl ⟨by rfl, ?_⟩) ?_ ?_
         rotate_left
         ·intro w'
          go_simp
          with_reducible rfl
         rotate_left
         ·simp only [Act.put, List.setIfInBounds_toArray, List.set_cons_zero, List.set_cons_succ, i64_w, i32_w]
          rfl
         refine take_ (i := 3) (N := some 19) (v := ?_) (a' := ?_) #[true, true, true, true, true, true, true, false, false, false] rfl rfl (take_ofW HT_.out HW_.out (by kernel_rfl)) (fun _ _ _ h => h) (Or.inl ⟨by rfl, ?_⟩) hHeld ?_ ?_
         rotate_left
         ·rintro w' ⟨s0, s1, s2, s3, s4, s5⟩
          go_simp
          with_reducible rfl
         rotate_left
         ·simp only [Act.put, List.setIfInBounds_toArray, List.set_cons_zero, List.set_cons_succ, i64_w, i32_w]
          rfl
         refine take_ (i := 7) (N := some 23) (v := ?_) (a' := ?_) #[true, true, true, true, true, true, true, true, false, false] rfl rfl (take_ofW HT_.out HW_.out (by kernel_rfl)) (fun _ _ _ h => h) (Or.inl ⟨by rfl, ?_⟩) hHeld ?_ ?_
         rotate_left
         ·rintro w' ⟨s0, s1, s2, s3, s4, s5⟩
          go_simp
          with_reducible rfl
         rotate_left
         ·simp only [Act.put, List.setIfInBounds_toArray, List.set_cons_zero, List.set_cons_succ, i64_w, i32_w]
          rfl
         refine one_ (i := 8) (N := some 24) #[true, true, true, true, true, true, true, true, true, false] rfl rfl (one_of HT_.out (by kernel_rfl)) (by decide) (fun K hK => ?_)
         refine goes_ Try.func21 (by kernel_rfl) rfl #[.agg #[.int .i64 ((rd_T33 l0 x13_1).f0), .int .i64 ((rd_T33 l0 x13_1).f1), .slice A223_2 ((rd_T33 l0 x13_1).f2).length c223_2], .agg #[.int .i64 ((rd_T33 l1 x13_1).f0), .int .i64 ((rd_T33 l1 x13_1).f1), .slice A224_2 ((rd_T33 l1 x13_1).f2).length c224_2]] (by rfl) rfl rfl zP ?_
         with_reducible refine (deadboltref09_Spots.calls k1 ((rd_T33 l0 x13_1).f0) ((rd_T33 l0 x13_1).f1) _ _ ((rd_T33 l0 x13_1).f2) ((rd_T33 l1 x13_1).f0) ((rd_T33 l1 x13_1).f1) _ _ ((rd_T33 l1 x13_1).f2) true _ ?side1 ?side2 ?side3 ?side4 A8.out).mono ?_
         (case side1 => repeat (first | exact (Kd.C_below HR223_2.out HB.out) | (with_reducible refine Kd.C_alloc ?_ _) | (with_reducible refine Kd.C_drewN ?_ _) | (with_reducible refine Kd.C_drew ?_)))
         (case side2 => exact HC223_2.out)
         (case side3 => repeat (first | exact (Kd.C_below HR224_2.out HB.out) | (with_reducible refine Kd.C_alloc ?_ _) | (with_reducible refine Kd.C_drewN ?_ _) | (with_reducible refine Kd.C_drew ?_)))
         (case side4 => exact HC224_2.out)
         rintro e w11 ⟨rfl, hb⟩
         refine ⟨_, rfl, ?_⟩
         have n0_ := Aside0.mk (below_step (zB HB) hb)
         clear HB
         have HB := n0_
         clear n0_
         (try clear hb)
         (try clear hb2)
         (try clear hk)
         (try clear hi)
         refine hK.out _ _ ⟨((HB.out.cell (World.block_lt_of_cell? w _ hw223_0)).trans hw223_0), ((HB.out.cell (World.block_lt_of_cell? w _ hw223_1)).trans hw223_1), ((HB.out.cell (World.block_lt_of_cell? w _ hw223_2)).trans hw223_2), ((HB.out.cell (World.block_lt_of_cell? w _ hw224_0)).trans hw224_0), ((HB.out.cell (World.block_lt_of_cell? w _ hw224_1)).trans hw224_1), ((HB.out.cell (World.block_lt_of_cell? w _ hw224_2)).trans hw224_2)⟩ (fun hHeld => ?_)
         clear hK K
         refine norm_ (a' := ?_) ?_ ?_
         rotate_left
         ·show Act.put _ (some 24) _ = _
          simp only [Act.put, List.setIfInBounds_toArray, List.set_cons_zero, List.set_cons_succ, i64_w, i32_w]
          rfl
         refine pure_ (i := 9) (N := some 25) (v := ?_) (a' := ?_) #[true, true, true, true, true, true, true, true, true, true] rfl rfl (any_of HT_.out (by kernel_rfl)) (fun _ _ _ h => h) (Or.inl ⟨by rfl, ?_⟩) ?_ ?_
         rotate_left
         ·intro w'
          go_simp
          with_reducible rfl
         rotate_left
         ·simp only [Act.put, List.setIfInBounds_toArray, List.set_cons_zero, List.set_cons_succ, i64_w, i32_w]
          rfl
         refine done_ (done_of HT_.out (by kernel_rfl)) ?_
         try go_wp2
         go_roundg k1
         case measure => have := HK1.out; omega
         case rel => exact ⟨(wrap64 (x13_1 + 1)), (by first | rfl | (simp; done) | (simp [*]; done)), H', ⟨by have := HK1.out; omega⟩, ⟨zB HB⟩⟩
        ·replace c9 := Bool.eq_false_iff.mpr c9
         subst c9
         have H1 : (some false) = some r := by rw [if_neg (show ¬ (false = true) by decide)] at H; exact H
         clear H
         have H := H1
         clear H1
         obtain rfl := Option.some.inj H
         try go_wp2
         have n0_ := Aside0.mk (below_drew1 HB.out)
         clear HB
         have HB := n0_
         clear n0_
         have p223 : 0 ≤ (x13_1 : Int) := of_decide_eq_true (by first | (with_reducible assumption) | assumption)
         have q223 : x13_1 < (l0.length : Int) := of_decide_eq_true (by first | (with_reducible assumption) | assumption)
         obtain ⟨ad223, A223_2, c223_2, e223, hx223_0, hx223_1, hx223_2, hl223_2, hi223_2⟩ := at_T33 HR0.out x13_1 p223 q223
         have hw223_2 := hx223_2
         have hw223_1 := hx223_1
         have hw223_0 := hx223_0
         cases e223
         replace hx223_0 := (HB.out.cell (World.block_lt_of_cell? w _ hx223_0)).trans hx223_0
         replace hx223_1 := (HB.out.cell (World.block_lt_of_cell? w _ hx223_1)).trans hx223_1
         replace hx223_2 := (HB.out.cell (World.block_lt_of_cell? w _ hx223_2)).trans hx223_2
         have HR223_2 := Aside0.mk hi223_2
         have HC223_2 := Aside0.mk hl223_2
         clear hi223_2 hl223_2
         replace p223 := eq_true p223
         replace q223 := eq_true q223
         have p224 : 0 ≤ (x13_1 : Int) := of_decide_eq_true (by first | (with_reducible assumption) | assumption)
         have q224 : x13_1 < (l1.length : Int) := of_decide_eq_true (by first | (with_reducible assumption) | assumption)
         obtain ⟨ad224, A224_2, c224_2, e224, hx224_0, hx224_1, hx224_2, hl224_2, hi224_2⟩ := at_T33 HR1.out x13_1 p224 q224
         have hw224_2 := hx224_2
         have hw224_1 := hx224_1
         have hw224_0 := hx224_0
         cases e224
         replace hx224_0 := (HB.out.cell (World.block_lt_of_cell? w _ hx224_0)).trans hx224_0
         replace hx224_1 := (HB.out.cell (World.block_lt_of_cell? w _ hx224_1)).trans hx224_1
         replace hx224_2 := (HB.out.cell (World.block_lt_of_cell? w _ hx224_2)).trans hx224_2
         have HR224_2 := Aside0.mk hi224_2
         have HC224_2 := Aside0.mk hl224_2
         clear hi224_2 hl224_2
         replace p224 := eq_true p224
         replace q224 := eq_true q224
         refine start_ (n := 10) (S := fun w' => w'.cell? (ad223.add ((x13_1).toNat * 3)) = some (.int .i64 ((rd_T33 l0 x13_1).f0)) ∧ w'.cell? ⟨(ad223.add ((x13_1).toNat * 3)).block, (ad223.add ((x13_1).toNat * 3)).off + 1, none⟩ = some (.int .i64 ((rd_T33 l0 x13_1).f1)) ∧ w'.cell? ⟨(ad223.add ((x13_1).toNat * 3)).block, (ad223.add ((x13_1).toNat * 3)).off + 2, none⟩ = some (.slice A223_2 ((rd_T33 l0 x13_1).f2).length c223_2) ∧ w'.cell? (ad224.add ((x13_1).toNat * 3)) = some (.int .i64 ((rd_T33 l1 x13_1).f0)) ∧ w'.cell? ⟨(ad224.add ((x13_1).toNat * 3)).block, (ad224.add ((x13_1).toNat * 3)).off + 1, none⟩ = some (.int .i64 ((rd_T33 l1 x13_1).f1)) ∧ w'.cell? ⟨(ad224.add ((x13_1).toNat * 3)).block, (ad224.add ((x13_1).toNat * 3)).off + 2, none⟩ = some (.slice A224_2 ((rd_T33 l1 x13_1).f2).length c224_2)) (ds := []) #[false, false, false, false, false, false, false, false, false, false] (by kernel_rfl) rfl rfl ⟨((HB.out.cell (World.block_lt_of_cell? w _ hw223_0)).trans hw223_0), ((HB.out.cell (World.block_lt_of_cell? w _ hw223_1)).trans hw223_1), ((HB.out.cell (World.block_lt_of_cell? w _ hw223_2)).trans hw223_2), ((HB.out.cell (World.block_lt_of_cell? w _ hw224_0)).trans hw224_0), ((HB.out.cell (World.block_lt_of_cell? w _ hw224_1)).trans hw224_1), ((HB.out.cell (World.block_lt_of_cell? w _ hw224_2)).trans hw224_2)⟩ (fun hHeld => ?_); refine with_tabW deadboltref09_Same.tab6 deadboltref09_Same.bits6 (fun HT_ HW_ => ?_)
         generalize wr.drew = w12 at HB HR223_2 HR224_2 hx223_0 hx223_1 hx223_2 hx224_0 hx224_1 hx224_2 hHeld ⊢
         refine pure_ (i := 0) (N := some 16) (v := ?_) (a' := ?_) #[true, false, false, false, false, false, false, false, false, false] rfl rfl (any_of HT_.out (by kernel_rfl)) (fun _ _ _ h => h) (Or.inl ⟨by rfl, ?_⟩) ?_ ?_
         rotate_left
         ·intro w'
          go_simp
          with_reducible rfl
         rotate_left
         ·simp only [Act.put, List.setIfInBounds_toArray, List.set_cons_zero, List.set_cons_succ, i64_w, i32_w]
          rfl
         refine pure_ (i := 1) (N := some 17) (v := ?_) (a' := ?_) #[true, true, false, false, false, false, false, false, false, false] rfl rfl (any_of HT_.out (by kernel_rfl)) (fun _ _ _ h => h) (Or.inl ⟨by rfl, ?_⟩) ?_ ?_
         rotate_left
         ·intro w'
          go_simp
          with_reducible rfl
         rotate_left
         ·simp only [Act.put, List.setIfInBounds_toArray, List.set_cons_zero, List.set_cons_succ, i64_w, i32_w]
          rfl
         refine pure_ (i := 2) (N := some 18) (v := ?_) (a' := ?_) #[true, true, true, false, false, false, false, false, false, false] rfl rfl (any_of HT_.out (by kernel_rfl)) (fun _ _ _ h => h) (Or.inl ⟨by rfl, ?_⟩) ?_ ?_
         rotate_left
         ·intro w'
          go_simp
          with_reducible rfl
         rotate_left
         ·simp only [Act.put, List.setIfInBounds_toArray, List.set_cons_zero, List.set_cons_succ, i64_w, i32_w]
          rfl
         refine pure_ (i := 4) (N := some 20) (v := ?_) (a' := ?_) #[true, true, true, false, true, false, false, false, false, false] rfl rfl (any_of HT_.out (by kernel_rfl)) (fun _ _ _ h => h) (Or.inl ⟨by rfl, ?_⟩) ?_ ?_
         rotate_left
         ·intro w'
          go_simp
          with_reducible rfl
         rotate_left
         ·simp only [Act.put, List.setIfInBounds_toArray, List.set_cons_zero, List.set_cons_succ, i64_w, i32_w]
          rfl
         refine pure_ (i := 5) (N := some 21) (v := ?_) (a' := ?_) #[true, true, true, false, true, true, false, false, false, false] rfl rfl (any_of HT_.out (by kernel_rfl)) (fun _ _ _ h => h) (Or.inl ⟨by rfl, ?_⟩) ?_ ?_
         rotate_left
         ·intro w'
          go_simp
          with_reducible rfl
         rotate_left
         ·simp only [Act.put, List.setIfInBounds_toArray, List.set_cons_zero, List.set_cons_succ, i64_w, i32_w]
          rfl
         refine pure_ (i := 6) (N := some 22) (v := ?_) (a' := ?_) #[true, true, true, false, true, true, true, false, false, false] rfl rfl (any_of HT_.out (by kernel_rfl)) (fun _ _ _ h => h) (Or.inl ⟨by rfl, ?_⟩) ?_ ?_
         rotate_left
         ·intro w'
          go_simp
          with_reducible rfl
         rotate_left
         ·simp only [Act.put, List.setIfInBounds_toArray, List.set_cons_zero, List.set_cons_succ, i64_w, i32_w]
          rfl
         refine take_ (i := 3) (N := some 19) (v := ?_) (a' := ?_) #[true, true, true, true, true, true, true, false, false, false] rfl rfl (take_ofW HT_.out HW_.out (by kernel_rfl)) (fun _ _ _ h => h) (Or.inl ⟨by rfl, ?_⟩) hHeld ?_ ?_
         rotate_left
         ·rintro w' ⟨s0, s1, s2, s3, s4, s5⟩
          go_simp
          with_reducible rfl
         rotate_left
         ·simp only [Act.put, List.setIfInBounds_toArray, List.set_cons_zero, List.set_cons_succ, i64_w, i32_w]
          rfl
         refine take_ (i := 7) (N := some 23) (v := ?_) (a' := ?_) #[true, true, true, true, true, true, true, true, false, false] rfl rfl (take_ofW HT_.out HW_.out (by kernel_rfl)) (fun _ _ _ h => h) (Or.inl ⟨by rfl, ?_⟩) hHeld ?_ ?_
         rotate_left
         ·rintro w' ⟨s0, s1, s2, s3, s4, s5⟩
          go_simp
          with_reducible rfl
         rotate_left
         ·simp only [Act.put, List.setIfInBounds_toArray, List.set_cons_zero, List.set_cons_succ, i64_w, i32_w]
          rfl
         refine one_ (i := 8) (N := some 24) #[true, true, true, true, true, true, true, true, true, false] rfl rfl (one_of HT_.out (by kernel_rfl)) (by decide) (fun K hK => ?_)
         refine goes_ Try.func21 (by kernel_rfl) rfl #[.agg #[.int .i64 ((rd_T33 l0 x13_1).f0), .int .i64 ((rd_T33 l0 x13_1).f1), .slice A223_2 ((rd_T33 l0 x13_1).f2).length c223_2], .agg #[.int .i64 ((rd_T33 l1 x13_1).f0), .int .i64 ((rd_T33 l1 x13_1).f1), .slice A224_2 ((rd_T33 l1 x13_1).f2).length c224_2]] (by rfl) rfl rfl zP ?_
         with_reducible refine (deadboltref09_Spots.calls k1 ((rd_T33 l0 x13_1).f0) ((rd_T33 l0 x13_1).f1) _ _ ((rd_T33 l0 x13_1).f2) ((rd_T33 l1 x13_1).f0) ((rd_T33 l1 x13_1).f1) _ _ ((rd_T33 l1 x13_1).f2) false _ ?side1 ?side2 ?side3 ?side4 A8.out).mono ?_
         (case side1 => repeat (first | exact (Kd.C_below HR223_2.out HB.out) | (with_reducible refine Kd.C_alloc ?_ _) | (with_reducible refine Kd.C_drewN ?_ _) | (with_reducible refine Kd.C_drew ?_)))
         (case side2 => exact HC223_2.out)
         (case side3 => repeat (first | exact (Kd.C_below HR224_2.out HB.out) | (with_reducible refine Kd.C_alloc ?_ _) | (with_reducible refine Kd.C_drewN ?_ _) | (with_reducible refine Kd.C_drew ?_)))
         (case side4 => exact HC224_2.out)
         rintro e w13 ⟨rfl, hb⟩
         refine ⟨_, rfl, ?_⟩
         have n0_ := Aside0.mk (below_step (zB HB) hb)
         clear HB
         have HB := n0_
         clear n0_
         (try clear hb)
         (try clear hb2)
         (try clear hk)
         (try clear hi)
         refine hK.out _ _ ⟨((HB.out.cell (World.block_lt_of_cell? w _ hw223_0)).trans hw223_0), ((HB.out.cell (World.block_lt_of_cell? w _ hw223_1)).trans hw223_1), ((HB.out.cell (World.block_lt_of_cell? w _ hw223_2)).trans hw223_2), ((HB.out.cell (World.block_lt_of_cell? w _ hw224_0)).trans hw224_0), ((HB.out.cell (World.block_lt_of_cell? w _ hw224_1)).trans hw224_1), ((HB.out.cell (World.block_lt_of_cell? w _ hw224_2)).trans hw224_2)⟩ (fun hHeld => ?_)
         clear hK K
         refine norm_ (a' := ?_) ?_ ?_
         rotate_left
         ·show Act.put _ (some 24) _ = _
          simp only [Act.put, List.setIfInBounds_toArray, List.set_cons_zero, List.set_cons_succ, i64_w, i32_w]
          rfl
         refine pure_ (i := 9) (N := some 25) (v := ?_) (a' := ?_) #[true, true, true, true, true, true, true, true, true, true] rfl rfl (any_of HT_.out (by kernel_rfl)) (fun _ _ _ h => h) (Or.inl ⟨by rfl, ?_⟩) ?_ ?_
         rotate_left
         ·intro w'
          go_simp
          with_reducible rfl
         rotate_left
         ·simp only [Act.put, List.setIfInBounds_toArray, List.set_cons_zero, List.set_cons_succ, i64_w, i32_w]
          rfl
         refine done_ (done_of HT_.out (by kernel_rfl)) ?_
         try go_wp2
         go_ret
         exact ⟨by first | rfl | (simp [errW_none, errW_some] <;> rfl) | (simp [*, errW_none, errW_some] <;> rfl), zB HB⟩
       ·rw [if_neg c7] at H
        exact absurd H (by simp)
      ·rw [if_neg c6] at H
       exact absurd H (by simp)
     ·rw [if_neg c5] at H
      exact absurd H (by simp)
    ·rw [if_neg c4] at H
     have c4b0 : decide (x13_1 < (l0.length : Int)) = false := decide_eq_false c4
     clear c4
     obtain rfl := Option.some.inj H
     go_wp2
     go_ret
     exact ⟨by first | rfl | (simp [errW_none, errW_some] <;> rfl) | (simp [*, errW_none, errW_some] <;> rfl), zB HB⟩
 ·rw [if_neg c3] at H
  have c3b0 : ((l0.length : Int) == (l1.length : Int)) = false := beq_eq_false_iff_ne.mpr c3
  have c3b1 : ((l0.length : Int) != (l1.length : Int)) = true := bne_iff_ne.mpr c3
  have c3b2 : (l0.length == l1.length) = false := by first | simpa using c3 | (simp at c3 ⊢; omega)
  obtain rfl := Option.some.inj H
  go_enter Try.func27, Try.ntmps27
  go_wp2
  go_ret
  exact ⟨by first | rfl | (simp [errW_none, errW_some] <;> rfl) | (simp [*, errW_none, errW_some] <;> rfl), zB HB⟩

end Go.Proofs.Ytnjnjajgpkmfhaa.PX

namespace Go.Proofs.Ytnjnjajgpkmfhaa.PX
open Go.RowKit Go.Proofs.YtnjnjajgpkmfhaaW.PrintWords Go.Proofs.YtnjnjajgpkmfhaaW.PrintLast Go.Proofs.YtnjnjajgpkmfhaaW.PrintMore
attribute [local go_sem] max2_int min2_int max_two min_two max_three min_three max_four min_four   -- for this text's walks alone
set_option linter.unusedVariables false
set_option linter.unusedSimpArgs false

/-! ### deadboltref08_Key: function 19 -/
def deadboltref08_Key.f (a0 : Int) : Option (Bool) := if a0 ≥ 0 then (some (decide (a0 ≤ 4294967295))) else (some false)
end Go.Proofs.Ytnjnjajgpkmfhaa.PX

namespace Go.Proofs.Ytnjnjajgpkmfhaa.PX
open Go.RowKit Go.Proofs.YtnjnjajgpkmfhaaW.PrintWords Go.Proofs.YtnjnjajgpkmfhaaW.PrintLast Go.Proofs.YtnjnjajgpkmfhaaW.PrintMore
attribute [local go_sem] max2_int min2_int max_two min_two max_three min_three max_four min_four   -- for this text's walks alone
set_option linter.unusedVariables false
set_option linter.unusedSimpArgs false

/-! ### deadboltref07_Place: function 28 -/
def deadboltref07_Place.l0 : Nat → Int → List Int → Int → Int → Option (Int)
 | 0, _, _, _, _ => none
 | k + 1, x1, x7, x8, x9 => if x9 < x8 then (if 0 ≤ x9 then (if x9 < (x7.length : Int) then (if (rd x7 x9) = x1 then (some x9) else (deadboltref07_Place.l0 k x1 x7 x8 (wrap64 (x9 + 1)))) else (none)) else (none)) else (some (-1))
def deadboltref07_Place.f (k : Nat) (l0 : List Int) (a1 : Int) : Option (Int) := deadboltref07_Place.l0 k a1 l0 (l0.length : Int) 0
set_option maxHeartbeats 8000000 in
set_option maxRecDepth 100000 in
theorem deadboltref07_Place.calls (k : Nat) (A0 : Option Addr) (c0 : Nat) (l0 : List Int) (a1 : Int) (r : Int) (w : World) (hr0 : Kd.C (Kd.int .i64) w A0 l0.length l0) (hc0 : l0.length ≤ c0) (h : deadboltref07_Place.f k l0 a1 = some r) :
  Calls Try.prog 28 #[.slice A0 l0.length c0, .int .i64 a1] w fun e w' => e = .returned (.int .i64 r) ∧ Drawn0 w w' := by
 have HR0 := Aside0.mk hr0
 have HC0 := Aside0.mk hc0
 clear hr0 hc0
 have H : (deadboltref07_Place.l0 k a1 l0 (l0.length : Int) 0) = some r := h
 clear h
 have H' := Aside0.mk H
 clear H
 go_enter Try.func28, Try.ntmps28
 go_wp2
 go_loopg [9] k (fun kq v9 w' => ∃ (x9_1 : Int), v9 = .int .i64 x9_1 ∧ Aside0 (deadboltref07_Place.l0 kq a1 l0 (l0.length : Int) x9_1 = some r) ∧ Aside0 (kq ≤ k) ∧ Drawn0 w w')
 case atStart => exact ⟨(0), (by first | rfl | (simp; done) | (simp [*]; done)), H', ⟨Nat.le_refl _⟩, by repeat (first | exact Drawn0.refl _ | apply Drawn0.step)⟩
 case round =>
  clear H'
  try clear c2
  try clear p2
  obtain ⟨x9_1, rfl, HA, HK1, ⟨m1, rfl⟩⟩ := hrel
  cases gk with
  | zero => exact absurd HA.out (by simp [deadboltref07_Place.l0])
  | succ k1 =>
   have H := HA.out
   clear HA
   simp only [deadboltref07_Place.l0] at H
   by_cases c3 : x9_1 < (l0.length : Int)
   ·rw [if_pos c3] at H
    have c3b0 : decide (x9_1 < (l0.length : Int)) = true := decide_eq_true c3
    clear c3
    by_cases c4 : 0 ≤ x9_1
    ·rw [if_pos c4] at H
     have c4b0 : decide (0 ≤ x9_1) = true := decide_eq_true c4
     clear c4
     by_cases c5 : x9_1 < (l0.length : Int)
     ·rw [if_pos c5] at H
      have c5b0 : decide (x9_1 < (l0.length : Int)) = true := decide_eq_true c5
      clear c5
      by_cases c6 : (rd l0 x9_1) = a1
      ·rw [if_pos c6] at H
       have c6b0 : ((rd l0 x9_1) == a1) = true := beq_iff_eq.mpr c6
       have c6b1 : ((rd l0 x9_1) != a1) = false := bne_eq_false_iff_eq.mpr c6
       clear c6
       obtain rfl := Option.some.inj H
       have p165 : 0 ≤ (x9_1 : Int) := of_decide_eq_true (by first | (with_reducible assumption) | assumption)
       have q165 : x9_1 < (l0.length : Int) := of_decide_eq_true (by first | (with_reducible assumption) | assumption)
       obtain ⟨ad165, e165, hx165_0⟩ := Kd.at_int HR0.out x9_1 p165 q165
       cases e165
       replace p165 := eq_true p165
       replace q165 := eq_true q165
       go_wp2
       go_ret
       exact ⟨by first | rfl | (simp; done) | (simp [*]; done), by repeat (first | exact Drawn0.refl _ | apply Drawn0.step)⟩
      ·rw [if_neg c6] at H
       have c6b0 : ((rd l0 x9_1) == a1) = false := beq_eq_false_iff_ne.mpr c6
       have c6b1 : ((rd l0 x9_1) != a1) = true := bne_iff_ne.mpr c6
       have H' := Aside0.mk H
       clear H
       have p165 : 0 ≤ (x9_1 : Int) := of_decide_eq_true (by first | (with_reducible assumption) | assumption)
       have q165 : x9_1 < (l0.length : Int) := of_decide_eq_true (by first | (with_reducible assumption) | assumption)
       obtain ⟨ad165, e165, hx165_0⟩ := Kd.at_int HR0.out x9_1 p165 q165
       cases e165
       replace p165 := eq_true p165
       replace q165 := eq_true q165
       go_wp2
       go_roundg k1
       case measure => have := HK1.out; omega
       case rel => exact ⟨(wrap64 (x9_1 + 1)), (by first | rfl | (simp; done) | (simp [*]; done)), H', ⟨by have := HK1.out; omega⟩, by repeat (first | exact Drawn0.refl _ | apply Drawn0.step)⟩
     ·rw [if_neg c5] at H
      exact absurd H (by simp)
    ·rw [if_neg c4] at H
     exact absurd H (by simp)
   ·rw [if_neg c3] at H
    have c3b0 : decide (x9_1 < (l0.length : Int)) = false := decide_eq_false c3
    clear c3
    obtain rfl := Option.some.inj H
    go_wp2
    go_ret
    exact ⟨by first | rfl | (simp; done) | (simp [*]; done), by repeat (first | exact Drawn0.refl _ | apply Drawn0.step)⟩

end Go.Proofs.Ytnjnjajgpkmfhaa.PX

namespace Go.Proofs.Ytnjnjajgpkmfhaa.PX
open Go.RowKit Go.Proofs.YtnjnjajgpkmfhaaW.PrintWords Go.Proofs.YtnjnjajgpkmfhaaW.PrintLast Go.Proofs.YtnjnjajgpkmfhaaW.PrintMore
attribute [local go_sem] max2_int min2_int max_two min_two max_three min_three max_four min_four   -- for this text's walks alone
set_option linter.unusedVariables false
set_option linter.unusedSimpArgs false

/-! ### deadboltref07_Right: function 55 -/
def deadboltref07_Right.l0 : Nat → List Int → List Int → Int → Int → Option (Bool)
 | 0, _, _, _, _ => none
 | k + 1, x0, x5, x6, x7 => if x7 < x6 then (if 0 ≤ x7 then (if x7 < (x5.length : Int) then (if (rd x5 x7) < 0 then (some false) else (if x7 ≤ (x0.length : Int) then ((deadboltref07_Place.f k (x0.take (x7 : Int).toNat) (rd x5 x7)).bind fun t168 => (if t168 ≥ 0 then (some false) else (deadboltref07_Right.l0 k x0 x5 x6 (wrap64 (x7 + 1))))) else (none))) else (none)) else (none)) else (some (decide ((x0.length : Int) ≤ 64)))
def deadboltref07_Right.f (k : Nat) (l0 : List Int) : Option (Bool) := deadboltref07_Right.l0 k l0 l0 (l0.length : Int) 0
end Go.Proofs.Ytnjnjajgpkmfhaa.PX

namespace Go.Proofs.Ytnjnjajgpkmfhaa.PX
open Go.RowKit Go.Proofs.YtnjnjajgpkmfhaaW.PrintWords Go.Proofs.YtnjnjajgpkmfhaaW.PrintLast Go.Proofs.YtnjnjajgpkmfhaaW.PrintMore
attribute [local go_sem] max2_int min2_int max_two min_two max_three min_three max_four min_four   -- for this text's walks alone
set_option linter.unusedVariables false
set_option linter.unusedSimpArgs false

/-! ### deadboltref09_Spot: function 25 -/
def deadboltref09_Spot.f (k : Nat) (a0_0 : Int) (a0_1 : Int) (l0_2 : List Int) : Option (Bool) := (deadboltref08_Key.f a0_0).bind fun t170 => (if t170 = true then (if a0_1 ≥ 0 then (if a0_1 ≤ 2147483647 then ((deadboltref07_Right.f k l0_2).bind fun t171 => (if t171 = true then (if a0_1 = 0 then (some true) else (some ((l0_2.length : Int) == 0))) else (some false))) else (some false)) else (some false)) else (some false))
end Go.Proofs.Ytnjnjajgpkmfhaa.PX

namespace Go.Proofs.Ytnjnjajgpkmfhaa.PX
open Go.RowKit Go.Proofs.YtnjnjajgpkmfhaaW.PrintWords Go.Proofs.YtnjnjajgpkmfhaaW.PrintLast Go.Proofs.YtnjnjajgpkmfhaaW.PrintMore
attribute [local go_sem] max2_int min2_int max_two min_two max_three min_three max_four min_four   -- for this text's walks alone
set_option linter.unusedVariables false
set_option linter.unusedSimpArgs false

/-! ### deadboltref09_Right: function 18 -/
def deadboltref09_Right.l0 : Nat → List (S33) → List (S33) → Int → Int → Option (Bool)
 | 0, _, _, _, _ => none
 | k + 1, x0, x5, x6, x7 => if x7 < x6 then (if 0 ≤ x7 then (if x7 < (x5.length : Int) then ((deadboltref09_Spot.f k ((rd_T33 x5 x7).f0) ((rd_T33 x5 x7).f1) ((rd_T33 x5 x7).f2)).bind fun t179 => (if t179 = true then ((deadboltref09_Empty.f ((rd_T33 x5 x7).f0) ((rd_T33 x5 x7).f1) ((rd_T33 x5 x7).f2)).bind fun t180 => (if t180 = true then (some false) else (if x7 > 0 then (if 0 ≤ (wrap64 (x7 - 1)) then (if (wrap64 (x7 - 1)) < (x0.length : Int) then ((deadboltref09_less.f ((rd_T33 x0 (wrap64 (x7 - 1))).f0) ((rd_T33 x5 x7).f0)).bind fun t182 => (if t182 = true then (deadboltref09_Right.l0 k x0 x5 x6 (wrap64 (x7 + 1))) else (some false))) else (none)) else (none)) else (deadboltref09_Right.l0 k x0 x5 x6 (wrap64 (x7 + 1)))))) else (some false))) else (none)) else (none)) else (some (decide ((x0.length : Int) ≤ 64)))
def deadboltref09_Right.f (k : Nat) (l0 : List (S33)) : Option (Bool) := deadboltref09_Right.l0 k l0 l0 (l0.length : Int) 0
def deadboltref09_Right.T4 : Bool × List (List Nat × List Nat) := (true, [([], []), ([0], [0]), ([1], [1]), ([2, 1], [2]), ([3], [3]), ([4, 3, 3], [3, 4]), ([3, 5], [3, 5]), ([6, 5], [6]), ([7], [7]), ([8, 7], [7, 8]), ([9, 7, 7], [7, 9]), ([10], [10]), ([10], [10]), ([12, 10], [10, 12]), ([11, 13, 10], [10, 11, 13]), ([14, 10], [10, 14]), ([15, 10], [10, 15]), ([10], [10]), ([17, 10], [10, 17]), ([16, 18, 10, 10], [10, 16, 18]), ([19, 10], [10, 19]), ([10, 20, 7], [7, 10, 20]), ([7, 21], [7, 21])])
def deadboltref09_Right.B4 : List Nat := [0, 1, 3, 7, 15, 31, 63, 127, 255, 511, 1023, 2047, 2047, 6143, 16383, 32767, 65535, 2047, 133119, 524287, 1048575, 2097151, 4194303]
end Go.Proofs.Ytnjnjajgpkmfhaa.PX

/-
 The document's tables, told of the printed functions.
-/
namespace Go.Proofs.Ytnjnjajgpkmfhaa.PX
open Go.RowKit Go.Proofs.YtnjnjajgpkmfhaaW.PrintWords Go.Proofs.YtnjnjajgpkmfhaaW.PrintLast Go.Proofs.YtnjnjajgpkmfhaaW.PrintMore
theorem rd_at {l : List Int} {i : Nat} {x : Int} (h : l[i]? = some x) : rd l (i : Int) = x := by
 unfold rd
 rw [Int.toNat_natCast, List.getD_eq_getElem?_getD, h]
 rfl
theorem next_i {i : Nat} (h : i ≤ 100000) : wrap64 ((i : Int) + 1) = ((i + 1 : Nat) : Int) := by rw [wrap_id (by omega) (by omega)]; omega
/-- The first place of a number, or -1. -/
def placeI (l : List Int) (a : Int) : Int := if a ∈ l then (l.idxOf a : Int) else -1
theorem placeI_mem (l : List Int) (a : Int) : placeI l a ≥ 0 ↔ a ∈ l := by
 unfold placeI
 split
 ·rename_i h; simp [h]
 ·rename_i h; simp [h]
theorem place_l0 (l : List Int) (a : Int) (hl : l.length ≤ 1000) : ∀ (d i k : Nat), i + d = l.length → d < k → (∀ j, j < i → l[j]? ≠ some a) → deadboltref07_Place.l0 k a l (l.length : Int) (i : Int) = some (placeI l a) := by
 intro d
 induction d with
 | zero =>
  intro i k h1 hk h
  obtain ⟨k, rfl⟩ : ∃ q, k = q + 1 := ⟨k - 1, by omega⟩
  rw [deadboltref07_Place.l0, if_neg (by omega), placeI, if_neg]
  intro hm
  obtain ⟨j, hj, rfl⟩ := List.mem_iff_getElem.1 hm
  exact h j (by omega) (List.getElem?_eq_getElem hj)
 | succ d ih =>
  intro i k h1 hk h
  obtain ⟨k, rfl⟩ : ∃ q, k = q + 1 := ⟨k - 1, by omega⟩
  have hx : l[i]? = some l[i] := List.getElem?_eq_getElem (by omega)
  rw [deadboltref07_Place.l0, if_pos (by omega), if_pos (by omega), if_pos (by omega), rd_at hx]
  by_cases he : l[i] = a
  ·rw [if_pos he, placeI, if_pos (by rw [← he]; exact List.getElem_mem _)]
   have h2 : l.idxOf a = i := by
    have hi : i < l.length := by omega
    refine Nat.le_antisymm (Nat.le_of_not_lt fun hlt => ?_) (Nat.le_of_not_lt fun hlt => ?_)
    ·have := List.not_of_lt_findIdx (p := (· == a)) (xs := l) (i := i) hlt
     simp [he] at this
    ·have hlt' : l.idxOf a < l.length := by omega
     have := List.getElem_idxOf hlt'
     exact h _ hlt (by rw [List.getElem?_eq_getElem hlt', this])
   rw [h2]
  ·rw [if_neg he, next_i (by omega)]
   refine ih (i + 1) k (by omega) (by omega) fun j hj => ?_
   rcases Nat.lt_or_eq_of_le (Nat.le_of_lt_succ hj) with h' | h'
   ·exact h j h'
   ·rw [h', hx]
    exact fun e => he (Option.some.inj e)
theorem place_f {l : List Int} (a : Int) (hl : l.length ≤ 1000) {k : Nat} (hk : l.length < k) : deadboltref07_Place.f k l a = some (placeI l a) := place_l0 l a hl l.length 0 k (by omega) hk (fun j hj => absurd hj (by omega))
theorem same07_l0 (l m : List Int) (hl : l.length ≤ 1000) (hm : l.length = m.length) : ∀ (d i k : Nat), i + d = l.length → d < k → l.take i = m.take i → deadboltref07_Same.l0 k l m (l.length : Int) (i : Int) = some (decide (l = m)) := by
 intro d
 induction d with
 | zero =>
  intro i k h1 hk h
  obtain ⟨k, rfl⟩ : ∃ q, k = q + 1 := ⟨k - 1, by omega⟩
  rw [List.take_of_length_le (by omega), List.take_of_length_le (by omega)] at h
  rw [deadboltref07_Same.l0, if_neg (by omega), decide_eq_true h]
 | succ d ih =>
  intro i k h1 hk h
  obtain ⟨k, rfl⟩ : ∃ q, k = q + 1 := ⟨k - 1, by omega⟩
  have hx : l[i]? = some l[i] := List.getElem?_eq_getElem (by omega)
  have hy : m[i]? = some m[i] := List.getElem?_eq_getElem (by omega)
  rw [deadboltref07_Same.l0, if_pos (by omega), if_pos (by omega), if_pos (by omega), if_pos (by omega), rd_at hx, rd_at hy]
  by_cases he : l[i] = m[i]
  ·rw [if_pos he, next_i (by omega)]
   exact ih (i + 1) k (by omega) (by omega) (by rw [List.take_add_one, List.take_add_one, hx, hy, h, he])
  ·rw [if_neg he]
   refine congrArg some (decide_eq_false fun e => he ?_).symm
   have := hx.symm.trans ((congrArg (·[i]?) e).trans hy)
   exact Option.some.inj this
theorem same07_f (l m : List Int) (hl : l.length ≤ 1000) {k : Nat} (hk : l.length < k) : deadboltref07_Same.f k l m = some (decide (l = m)) := by
 unfold deadboltref07_Same.f
 by_cases h : l.length = m.length
 ·rw [if_pos (by omega)]
  exact same07_l0 l m hl h l.length 0 k (by omega) hk (by simp)
 ·rw [if_neg (by omega)]
  exact congrArg some (decide_eq_false fun e => h (by rw [e])).symm
theorem refempty_f (s : Sp) : ∃ b, deadboltref09_Empty.f s.f0 s.f1 s.f2 = some b ∧ (b = true ↔ EmptyP s) := empty_f s
/-- A table's spot of an address. -/
def getT (l : List Sp) (a : Int) : Sp := (l.find? (fun s => s.f0 == a)).getD ⟨a, 0, []⟩
theorem putS_nil (s : Sp) : putS [] s = [s] := rfl
theorem putS_cons (x : Sp) (l : List Sp) (s : Sp) : putS (x :: l) s = if orderI x.f0 s.f0 > 0 then s :: x :: l else x :: putS l s := by
 unfold putS
 rw [List.findIdx_cons]
 by_cases h : orderI x.f0 s.f0 > 0
 ·simp [h]
 ·simp [h]
/-- What setting a spot makes of a table. -/
noncomputable def setT (l : List Sp) (s : Sp) : List Sp := open Classical in if EmptyP s then offS l s.f0 else putS (offS l s.f0) s
theorem refspots_f (s t : Sp) (hs : s.f2.length ≤ 1000) {k : Nat} (hk : s.f2.length < k) : ∃ b, deadboltref09_Spots.f k s.f0 s.f1 s.f2 t.f0 t.f1 t.f2 = some b ∧ (b = true ↔ s = t) := by
 unfold deadboltref09_Spots.f
 have hst : s = t ↔ s.f0 = t.f0 ∧ s.f1 = t.f1 ∧ s.f2 = t.f2 := by
  constructor
  ·rintro rfl; exact ⟨rfl, rfl, rfl⟩
  ·cases s; cases t; rintro ⟨h1, h2, h3⟩; simp only at h1 h2 h3; rw [h1, h2, h3]
 rw [hst]
 by_cases h0 : s.f0 = t.f0
 ·rw [if_pos h0]
  by_cases h1 : s.f1 = t.f1
  ·rw [if_pos h1, same07_f _ _ hs hk]
   exact ⟨_, rfl, by simp [h0, h1]⟩
  ·rw [if_neg h1]
   exact ⟨false, rfl, by simp [h1]⟩
 ·rw [if_neg h0]
  exact ⟨false, rfl, by simp [h0]⟩
theorem refsame_l0 (l m : List Sp) (hl : l.length ≤ 1000) (h2 : ∀ s ∈ l, s.f2.length ≤ 1000) (hm : l.length = m.length) : ∀ (d i k : Nat), i + d = l.length → d + 1001 < k → l.take i = m.take i → ∃ b, deadboltref09_Same.l0 k l m (l.length : Int) (i : Int) = some b ∧ (b = true ↔ l = m) := by
 intro d
 induction d with
 | zero =>
  intro i k h1 hk h
  obtain ⟨k, rfl⟩ : ∃ q, k = q + 1 := ⟨k - 1, by omega⟩
  rw [List.take_of_length_le (by omega), List.take_of_length_le (by omega)] at h
  rw [deadboltref09_Same.l0, if_neg (by omega)]
  exact ⟨true, rfl, by simp [h]⟩
 | succ d ih =>
  intro i k h1 hk h
  obtain ⟨k, rfl⟩ : ∃ q, k = q + 1 := ⟨k - 1, by omega⟩
  have hx : l[i]? = some l[i] := List.getElem?_eq_getElem (by omega)
  have hy : m[i]? = some m[i] := List.getElem?_eq_getElem (by omega)
  have hlen := h2 l[i] (List.getElem_mem (by omega))
  obtain ⟨b, e1, e2⟩ := refspots_f l[i] m[i] hlen (k := k) (by omega)
  rw [deadboltref09_Same.l0, if_pos (by omega), if_pos (by omega), if_pos (by omega), if_pos (by omega), rd_sp hx, rd_sp hy, e1]
  simp only [Option.bind_some]
  cases b with
  | true =>
   rw [if_pos rfl, next_i (by omega)]
   exact ih (i + 1) k (by omega) (by omega) (by rw [List.take_add_one, List.take_add_one, hx, hy, h, e2.1 rfl])
  | false =>
   rw [if_neg (by simp)]
   refine ⟨false, rfl, ⟨fun h => by (cases h), fun e => ?_⟩⟩
   have := hx.symm.trans ((congrArg (·[i]?) e).trans hy)
   exact e2.2 (Option.some.inj this)
theorem refsame_f (l m : List Sp) (hl : l.length ≤ 1000) (h2 : ∀ s ∈ l, s.f2.length ≤ 1000) {k : Nat} (hk : 2100 ≤ k) : ∃ b, deadboltref09_Same.f k l m = some b ∧ (b = true ↔ l = m) := by
 unfold deadboltref09_Same.f
 by_cases h : l.length = m.length
 ·rw [if_pos (by omega)]
  exact refsame_l0 l m hl h2 h l.length 0 k (by omega) (by omega) (by simp)
 ·rw [if_neg (by omega)]
  exact ⟨false, rfl, by simp; exact fun e => h (by rw [e])⟩
end Go.Proofs.Ytnjnjajgpkmfhaa.PX

/-
 What the program gets of a table, and what setting a spot makes of it.
-/
namespace Go.Proofs.Ytnjnjajgpkmfhaa.PX
open Go.RowKit Go.Proofs.YtnjnjajgpkmfhaaW.PrintWords Go.Proofs.YtnjnjajgpkmfhaaW.PrintLast Go.Proofs.YtnjnjajgpkmfhaaW.PrintMore
theorem Tab.lens {l : List Sp} (h : Tab l) : ∀ s ∈ l, s.f2.length ≤ 1000 := fun s hs => by
 have := ((lineB_iff _).1 (h.spot s hs).1.2.2.1).2.2
 omega
theorem Tab.addr {l : List Sp} (h : Tab l) : ∀ s ∈ l, 0 ≤ s.f0 ∧ s.f0 ≤ 4294967295 := fun s hs => (h.spot s hs).1.1
theorem addr_iff (a : Int) : isAddrB a = true ↔ 0 ≤ a ∧ a ≤ 4294967295 := by simp [isAddrB]
theorem right_yes {l : List Sp} (h : Tab l) {k : Nat} (hk : 100 ≤ k) : root_Right.f k l = some true := by
 have hf := h.few
 obtain ⟨b, e1, e2⟩ := right_f l (by omega) h.lens k (by omega)
 rw [e1, e2.2 h]
theorem right_no {l : List Sp} (h : ¬ Tab l) (hl : l.length ≤ 80) (h2 : ∀ s ∈ l, s.f2.length ≤ 1000) {k : Nat} (hk : 100 ≤ k) : root_Right.f k l = some false := by
 obtain ⟨b, e1, e2⟩ := right_f l (by omega) h2 k (by omega)
 rw [e1]
 cases b with
 | true => exact absurd (e2.1 rfl) h
 | false => rfl
theorem getT_in {l : List Sp} {a : Int} (h : a ∈ l.map (·.f0)) : l.find? (fun s => s.f0 == a) = some (getT l a) ∧ (getT l a).f0 = a ∧ getT l a ∈ l := by
 obtain ⟨s, hs, rfl⟩ := List.mem_map.1 h
 cases hf : l.find? (fun t => t.f0 == s.f0) with
 | none =>
  have := List.find?_eq_none.1 hf s hs
  simp at this
 | some t =>
  have h1 := List.find?_some hf
  have h2 := List.mem_of_find?_eq_some hf
  have e : getT l s.f0 = t := by rw [getT, hf]; rfl
  rw [e]
  exact ⟨rfl, by simpa using h1, h2⟩
theorem getT_out {l : List Sp} {a : Int} (h : a ∉ l.map (·.f0)) : getT l a = ⟨a, 0, []⟩ := by
 unfold getT
 rw [List.find?_eq_none.2 fun s hs he => h (List.mem_map.2 ⟨s, hs, by simpa using he⟩)]
 rfl
theorem get_f {l : List Sp} (h : Tab l) {a : Int} (ha : 0 ≤ a ∧ a ≤ 4294967295) : root_Get.f l a = some ((getT l a).f0, (getT l a).f1, (getT l a).f2, 0) := by
 have hf := h.few
 unfold root_Get.f
 rw [if_pos (by omega), right_yes h (by omega)]
 simp only [Option.bind_some]
 rw [if_neg (by simp [(addr_iff a).2 ha])]
 unfold root_tree.f
 rw [if_pos (by omega)]
 simp only [Option.bind_some]
 have hlen : ((l.filter (isAt (rootI a))).map (·.f0)).length ≤ 64 := by
  have := List.length_filter_le (isAt (rootI a)) l
  rw [List.length_map]
  omega
 obtain ⟨g1, t, hg, ht⟩ := treeOf_good ((l.filter (isAt (rootI a))).map (·.f0)) hlen (fun x hx => by
  obtain ⟨s, hs, rfl⟩ := List.mem_map.1 hx
  have := h.addr s (List.mem_filter.1 hs).1
  simpa [Treap.isKey] using this) (at_up h _)
 have hE : (fun s : Sp => decide (rootI s.f0 = rootI a)) = isAt (rootI a) := rfl
 rw [hE]
 have hin : a ∈ (l.filter (isAt (rootI a))).map (·.f0) ↔ a ∈ l.map (·.f0) := by
  constructor
  ·intro hx
   obtain ⟨s, hs, e⟩ := List.mem_map.1 hx
   exact List.mem_map.2 ⟨s, (List.mem_filter.1 hs).1, e⟩
  ·intro hx
   obtain ⟨s, hs, e⟩ := List.mem_map.1 hx
   exact List.mem_map.2 ⟨s, List.mem_filter.2 ⟨hs, by simp only [isAt, decide_eq_true_eq]; rw [e]⟩, e⟩
 generalize (l.filter (isAt (rootI a))).map (·.f0) = ks at *
 generalize treeOf ks = T at g1 hg ht ⊢
 have hkey : Treap.isKey a = true := by simpa [Treap.isKey] using ha
 have hfd := Treap.find_good (key := a) hg (by omega) hkey
 unfold treap_Find.f
 rw [map_nd, if_pos (by rw [List.length_map]; omega)]
 rw [ht] at hfd
 rw [hfd]
 by_cases hm : a ∈ ks
 ·rw [if_pos hm]
  have := getT_in (hin.1 hm)
  rw [Option.bind_some, if_pos rfl, getR, this.1]
 ·rw [if_neg hm]
  have := getT_out (fun hx => hm (hin.2 hx))
  rw [this]
  simp
theorem get_bad {l : List Sp} {a : Int} (hl : l.length ≤ 80) (h2 : ∀ s ∈ l, s.f2.length ≤ 1000) (h : ¬ Tab l ∨ isAddrB a = false) : root_Get.f l a = some (0, 0, [], 1) := by
 unfold root_Get.f
 rw [if_pos (by omega)]
 by_cases hT : Tab l
 ·rw [right_yes hT (by omega)]
  simp only [Option.bind_some]
  rw [if_pos (Or.inr (h.resolve_left (fun hn => hn hT)))]
 ·rw [right_no hT hl h2 (by omega)]
  simp only [Option.bind_some]
  rw [if_pos (Or.inl trivial)]
theorem offS_len (l : List Sp) (a : Int) : (offS l a).length ≤ l.length := List.length_filter_le _ _
theorem putS_len (l : List Sp) (s : Sp) : (putS l s).length = l.length + 1 := by
 unfold putS
 rw [List.length_append, List.length_cons, List.length_take, List.length_drop]
 omega
theorem set_f {l : List Sp} (h : Tab l) {s : Sp} (hs : SpotP s) : root_Set.f l s.f0 s.f1 s.f2 = some (if (setT l s).length > 64 then ([], 5) else (setT l s, 0)) := by
 have hf := h.few
 have hsl := ((lineB_iff _).1 hs.2.2.1).2.2
 obtain ⟨sb, e1, e2⟩ := spot_f s (by omega)
 obtain ⟨eb, e3, e4⟩ := empty_f s
 obtain rfl := e2.2 hs
 unfold root_Set.f
 rw [if_pos (by omega), right_yes h (by omega), e1, e3]
 simp only [Option.bind_some]
 rw [if_neg (by simp), if_neg (by simp)]
 have ho := offS_len l s.f0
 unfold setT
 cases eb with
 | true =>
  rw [if_pos rfl, if_pos (e4.1 rfl), if_neg (by omega)]
 | false =>
  rw [if_neg (by simp), if_neg (show ¬ EmptyP s from fun hh => by have := e4.2 hh; cases this), putS_len]
  by_cases hq : (offS l s.f0).length = 64
  ·rw [if_pos hq, if_pos (by omega)]
  ·rw [if_neg hq, if_neg (by omega)]
theorem set_bad {l : List Sp} {s : Sp} (hl : l.length ≤ 80) (h2 : ∀ s ∈ l, s.f2.length ≤ 1000) (hsl : s.f2.length ≤ 1000) (h : ¬ Tab l ∨ ¬ SpotP s) : root_Set.f l s.f0 s.f1 s.f2 = some ([], 1) := by
 unfold root_Set.f
 rw [if_pos (by omega)]
 by_cases hT : Tab l
 ·obtain ⟨sb, e1, e2⟩ := spot_f s hsl
  rw [right_yes hT (by omega), e1]
  simp only [Option.bind_some]
  cases sb with
  | true => exact absurd (e2.1 rfl) (h.resolve_left (fun hn => hn hT))
  | false => rw [if_neg (by simp), if_pos rfl]
 ·rw [right_no hT hl h2 (by omega)]
  simp only [Option.bind_some]
  rw [if_pos trivial]
theorem few_len (l : List Sp) : (fewF l).length ≤ 70 := by
 unfold fewF
 rw [List.length_map, List.length_take]
 omega
theorem few_lens (l : List Sp) : ∀ s ∈ fewF l, s.f2.length ≤ 1000 := fun s hs => by
 obtain ⟨x, _, rfl⟩ := List.mem_map.1 hs
 show (x.f2.take 70).length ≤ 1000
 rw [List.length_take]
 omega
end Go.Proofs.Ytnjnjajgpkmfhaa.PX

/-
 Tables as what they tell of each address.
-/
namespace Go.Proofs.Ytnjnjajgpkmfhaa.PX
open Go.RowKit Go.Proofs.YtnjnjajgpkmfhaaW.PrintWords Go.Proofs.YtnjnjajgpkmfhaaW.PrintLast Go.Proofs.YtnjnjajgpkmfhaaW.PrintMore
def UpL (l : List Sp) : Prop := l.Pairwise (fun a b => LessP a.f0 b.f0)
theorem Tab.upl {l : List Sp} (h : Tab l) : UpL l := List.pairwise_map.1 h.up
theorem less_irrefl (a : Int) : ¬ LessP a a := by unfold LessP; omega
theorem less_total {a b : Int} (h : a ≠ b) : LessP a b ∨ LessP b a := by unfold LessP; omega
theorem same_at {l : List Sp} (h : UpL l) {x y : Sp} (hx : x ∈ l) (hy : y ∈ l) (he : x.f0 = y.f0) : x = y := by
 induction l with
 | nil => cases hx
 | cons z l ih =>
  obtain ⟨h1, h2⟩ := List.pairwise_cons.1 h
  rcases List.mem_cons.1 hx with rfl | hx'
  ·rcases List.mem_cons.1 hy with rfl | hy'
   ·rfl
   ·have := h1 y hy'
    rw [he] at this
    exact absurd this (less_irrefl _)
  ·rcases List.mem_cons.1 hy with rfl | hy'
   ·have := h1 x hx'
    rw [he] at this
    exact absurd this (less_irrefl _)
   ·exact ih h2 hx' hy'
theorem getT_mem {l : List Sp} (h : UpL l) {x : Sp} (hx : x ∈ l) : getT l x.f0 = x := by
 obtain ⟨_, h2, h3⟩ := getT_in (List.mem_map.2 ⟨x, hx, rfl⟩)
 exact same_at h h3 hx h2
theorem mem_offS {l : List Sp} {a : Int} {x : Sp} : x ∈ offS l a ↔ x ∈ l ∧ x.f0 ≠ a := by
 unfold offS
 rw [List.mem_filter]
 simp
theorem mem_putS {l : List Sp} {s x : Sp} : x ∈ putS l s ↔ x = s ∨ x ∈ l := by
 induction l with
 | nil => simp [putS_nil]
 | cons y l ih =>
  rw [putS_cons]
  split
  ·simp
  ·rw [List.mem_cons, ih, List.mem_cons]
   constructor
   ·rintro (h | h | h)
    ·exact .inr (.inl h)
    ·exact .inl h
    ·exact .inr (.inr h)
   ·rintro (h | h | h)
    ·exact .inr (.inl h)
    ·exact .inl h
    ·exact .inr (.inr h)
theorem up_putS {l : List Sp} {s : Sp} (h : UpL l) (hs : 0 ≤ s.f0 ∧ s.f0 ≤ 4294967295) (hl : ∀ x ∈ l, (0 ≤ x.f0 ∧ x.f0 ≤ 4294967295) ∧ x.f0 ≠ s.f0) : UpL (putS l s) := by
 induction l with
 | nil => simp [putS_nil, UpL]
 | cons y l ih =>
  obtain ⟨h1, h2⟩ := List.pairwise_cons.1 h
  obtain ⟨hy, hne⟩ := hl y (by simp)
  have ho := (order_less hy hs).2
  rw [putS_cons]
  by_cases hc : orderI y.f0 s.f0 > 0
  ·rw [if_pos hc]
   have hlt := ho.1 hc
   refine List.pairwise_cons.2 ⟨fun x hx => ?_, h⟩
   rcases List.mem_cons.1 hx with rfl | hx'
   ·exact hlt
   ·exact less_trans hlt (h1 x hx')
  ·rw [if_neg hc]
   have hlt : LessP y.f0 s.f0 := (less_total hne).resolve_right (fun hh => hc (ho.2 hh))
   refine List.pairwise_cons.2 ⟨fun x hx => ?_, ih h2 (fun x hx => hl x (by simp [hx]))⟩
   rcases mem_putS.1 hx with rfl | hx'
   ·exact hlt
   ·exact h1 x hx'
theorem empty_is {s : Sp} (h : EmptyP s) : s = ⟨s.f0, 0, []⟩ := by
 cases s
 obtain ⟨h1, h2⟩ := h
 simp only at h1 h2
 rw [h1, h2]
theorem mem_setT {l : List Sp} {s x : Sp} : x ∈ setT l s ↔ (x = s ∧ ¬ EmptyP s) ∨ (x ∈ l ∧ x.f0 ≠ s.f0) := by
 unfold setT
 split
 ·rename_i h
  rw [mem_offS]
  simp [h]
 ·rename_i h
  rw [mem_putS, mem_offS]
  simp [h]
theorem up_setT {l : List Sp} (h : Tab l) {s : Sp} (hs : SpotP s) : UpL (setT l s) := by
 have h1 : UpL (offS l s.f0) := h.upl.sublist List.filter_sublist
 unfold setT
 split
 ·exact h1
 ·exact up_putS h1 hs.1 fun x hx => ⟨h.addr x (mem_offS.1 hx).1, (mem_offS.1 hx).2⟩
theorem tab_set {l : List Sp} (h : Tab l) {s : Sp} (hs : SpotP s) (hn : (setT l s).length ≤ 64) : Tab (setT l s) := by
 refine ⟨fun x hx => ?_, List.pairwise_map.2 (up_setT h hs), hn⟩
 rcases mem_setT.1 hx with ⟨rfl, he⟩ | ⟨h1, _⟩
 ·exact ⟨hs, he⟩
 ·exact h.spot x h1
theorem getT_set {l : List Sp} (h : Tab l) {s : Sp} (hs : SpotP s) (b : Int) : getT (setT l s) b = if b = s.f0 then s else getT l b := by
 have hu := up_setT h hs
 by_cases hb : b = s.f0
 ·rw [if_pos hb, hb]
  by_cases he : EmptyP s
  ·have hn : s.f0 ∉ (setT l s).map (·.f0) := by
    intro hm
    obtain ⟨x, hx, e⟩ := List.mem_map.1 hm
    rcases mem_setT.1 hx with ⟨_, h2⟩ | ⟨_, h2⟩
    ·exact h2 he
    ·exact h2 e
   rw [getT_out hn, ← empty_is he]
  ·exact getT_mem hu (mem_setT.2 (.inl ⟨rfl, he⟩))
 ·rw [if_neg hb]
  by_cases hm : b ∈ l.map (·.f0)
  ·obtain ⟨_, h2, h3⟩ := getT_in hm
   have := getT_mem hu (mem_setT.2 (.inr ⟨h3, by rw [h2]; exact hb⟩))
   rw [h2] at this
   exact this
  ·have hn : b ∉ (setT l s).map (·.f0) := by
    intro hm2
    obtain ⟨x, hx, e⟩ := List.mem_map.1 hm2
    rcases mem_setT.1 hx with ⟨h2, _⟩ | ⟨h2, _⟩
    ·exact hb (by rw [← e, h2])
    ·exact hm (List.mem_map.2 ⟨x, h2, e⟩)
   rw [getT_out hn, getT_out hm]
theorem ext_mem : ∀ {l m : List Sp}, UpL l → UpL m → (∀ x, x ∈ l ↔ x ∈ m) → l = m
 | [], [], _, _, _ => rfl
 | [], y :: m, _, _, h => by have := (h y).2 (by simp); cases this
 | x :: l, [], _, _, h => by have := (h x).1 (by simp); cases this
 | x :: l, y :: m, h1, h2, h => by
  obtain ⟨p1, p2⟩ := List.pairwise_cons.1 h1
  obtain ⟨q1, q2⟩ := List.pairwise_cons.1 h2
  have hxy : x = y := by
   rcases List.mem_cons.1 ((h x).1 (by simp)) with e | hx
   ·exact e
   ·rcases List.mem_cons.1 ((h y).2 (by simp)) with e | hy
    ·exact e.symm
    ·exact absurd (less_trans (q1 x hx) (p1 y hy)) (less_irrefl _)
  subst hxy
  congr 1
  refine ext_mem p2 q2 fun z => ⟨fun hz => ?_, fun hz => ?_⟩
  ·rcases List.mem_cons.1 ((h z).1 (List.mem_cons_of_mem _ hz)) with rfl | h3
   ·exact absurd (p1 z hz) (less_irrefl _)
   ·exact h3
  ·rcases List.mem_cons.1 ((h z).2 (List.mem_cons_of_mem _ hz)) with rfl | h3
   ·exact absurd (q1 z hz) (less_irrefl _)
   ·exact h3
theorem mem_iff {l : List Sp} (h : UpL l) (he : ∀ x ∈ l, ¬ EmptyP x) {x : Sp} : x ∈ l ↔ getT l x.f0 = x ∧ ¬ EmptyP x := by
 constructor
 ·intro hx
  exact ⟨getT_mem h hx, he x hx⟩
 ·rintro ⟨h1, h2⟩
  by_cases hm : x.f0 ∈ l.map (·.f0)
  ·rw [← h1]
   exact (getT_in hm).2.2
  ·rw [getT_out hm] at h1
   rw [← h1] at h2
   exact absurd ⟨rfl, rfl⟩ h2
theorem ext_get {l m : List Sp} (h1 : UpL l) (h2 : UpL m) (e1 : ∀ x ∈ l, ¬ EmptyP x) (e2 : ∀ x ∈ m, ¬ EmptyP x) (h : ∀ a, getT l a = getT m a) : l = m :=
 ext_mem h1 h2 fun x => by rw [mem_iff h1 e1, mem_iff h2 e2, h]
theorem full_setT {l : List Sp} (h : Tab l) {s : Sp} : ∀ x ∈ setT l s, ¬ EmptyP x := fun x hx => by
 rcases mem_setT.1 hx with ⟨rfl, he⟩ | ⟨h1, _⟩
 ·exact he
 ·exact (h.spot x h1).2
end Go.Proofs.Ytnjnjajgpkmfhaa.PX
