/-
  Texts of this claim, one behind the other: PRootRef, PRootGet, PSet, PXx27, PXx28, PXx29, PXx30, PXx31, PXx32, PXx33, PXx34, PSema, PXx35, PXx43, PSemaOrder, CQueued. All are cut down to the theorems that the claim leans on; those named W.. and PXx.. were written by the kit's print.
-/
import Derived.Test.YtnjnjajgpkmfhaaBSemaTells4
/-
 The document's tables, told of the printed functions.
-/
namespace Go.Proofs.Ytnjnjajgpkmfhaa.PX
open Go.RowKit Go.Proofs.YtnjnjajgpkmfhaaW.PrintWords Go.Proofs.YtnjnjajgpkmfhaaW.PrintLast Go.Proofs.YtnjnjajgpkmfhaaW.PrintMore
theorem rd_at {l : List Int} {i : Nat} {x : Int} (h : l[i]? = some x) : rd l (i : Int) = x := by
 unfold rd
 rw [Int.toNat_natCast, List.getD_eq_getElem?_getD, h]
 rfl
theorem next_i {i : Nat} (h : i ≤ 100000) : wrap64 ((i : Int) + 1) = ((i + 1 : Nat) : Int) := by rw [wrap_id (by omega) (by omega)]; omega
/-- The first place of a number, or -1. -/
def placeI (l : List Int) (a : Int) : Int := if a ∈ l then (l.idxOf a : Int) else -1
theorem placeI_mem (l : List Int) (a : Int) : placeI l a ≥ 0 ↔ a ∈ l := by
 unfold placeI
 split
 ·rename_i h; simp [h]
 ·rename_i h; simp [h]
theorem place_l0 (l : List Int) (a : Int) (hl : l.length ≤ 1000) : ∀ (d i k : Nat), i + d = l.length → d < k → (∀ j, j < i → l[j]? ≠ some a) → deadboltref07_Place.l0 k a l (l.length : Int) (i : Int) = some (placeI l a) := by
 intro d
 induction d with
 | zero =>
  intro i k h1 hk h
  obtain ⟨k, rfl⟩ : ∃ q, k = q + 1 := ⟨k - 1, by omega⟩
  rw [deadboltref07_Place.l0, if_neg (by omega), placeI, if_neg]
  intro hm
  obtain ⟨j, hj, rfl⟩ := List.mem_iff_getElem.1 hm
  exact h j (by omega) (List.getElem?_eq_getElem hj)
 | succ d ih =>
  intro i k h1 hk h
  obtain ⟨k, rfl⟩ : ∃ q, k = q + 1 := ⟨k - 1, by omega⟩
  have hx : l[i]? = some l[i] := List.getElem?_eq_getElem (by omega)
  rw [deadboltref07_Place.l0, if_pos (by omega), if_pos (by omega), if_pos (by omega), rd_at hx]
  by_cases he : l[i] = a
  ·rw [if_pos he, placeI, if_pos (by rw [← he]; exact List.getElem_mem _)]
   have h2 : l.idxOf a = i := by
    have hi : i < l.length := by omega
    refine Nat.le_antisymm (Nat.le_of_not_lt fun hlt => ?_) (Nat.le_of_not_lt fun hlt => ?_)
    ·have := List.not_of_lt_findIdx (p := (· == a)) (xs := l) (i := i) hlt
     simp [he] at this
    ·have hlt' : l.idxOf a < l.length := by omega
     have := List.getElem_idxOf hlt'
     exact h _ hlt (by rw [List.getElem?_eq_getElem hlt', this])
   rw [h2]
  ·rw [if_neg he, next_i (by omega)]
   refine ih (i + 1) k (by omega) (by omega) fun j hj => ?_
   rcases Nat.lt_or_eq_of_le (Nat.le_of_lt_succ hj) with h' | h'
   ·exact h j h'
   ·rw [h', hx]
    exact fun e => he (Option.some.inj e)
theorem place_f {l : List Int} (a : Int) (hl : l.length ≤ 1000) {k : Nat} (hk : l.length < k) : deadboltref07_Place.f k l a = some (placeI l a) := place_l0 l a hl l.length 0 k (by omega) hk (fun j hj => absurd hj (by omega))
theorem right07_l0 (l : List Int) (hl : l.length ≤ 1000) : ∀ (d i k : Nat), i + d = l.length → i + d + d < k → (l.take i).Nodup → (∀ x ∈ l.take i, 0 ≤ x) → deadboltref07_Right.l0 k l l (l.length : Int) (i : Int) = some (lineB l) := by
 intro d
 induction d with
 | zero =>
  intro i k h1 hk h2 h3
  obtain ⟨k, rfl⟩ : ∃ q, k = q + 1 := ⟨k - 1, by omega⟩
  rw [List.take_of_length_le (by omega)] at h2 h3
  rw [deadboltref07_Right.l0, if_neg (by omega)]
  refine congrArg some (Bool.eq_iff_iff.2 ?_)
  rw [lineB_iff, decide_eq_true_eq]
  exact ⟨fun h => ⟨h2, h3, by omega⟩, fun h => by have := h.2.2; omega⟩
 | succ d ih =>
  intro i k h1 hk h2 h3
  obtain ⟨k, rfl⟩ : ∃ q, k = q + 1 := ⟨k - 1, by omega⟩
  have hx : l[i]? = some l[i] := List.getElem?_eq_getElem (by omega)
  have hm : l[i] ∈ l := List.getElem_mem (by omega)
  rw [deadboltref07_Right.l0, if_pos (by omega), if_pos (by omega), if_pos (by omega), rd_at hx]
  by_cases h0 : l[i] < 0
  ·rw [if_pos h0]
   refine congrArg some (Bool.eq_iff_iff.2 ⟨fun h => (by cases h), fun h => ?_⟩)
   have := ((lineB_iff l).1 h).2.1 _ hm
   omega
  ·rw [if_neg h0, if_pos (by omega), Int.toNat_natCast, place_f _ (by rw [List.length_take]; omega) (by rw [List.length_take]; omega)]
   simp only [Option.bind_some]
   by_cases hp : l[i] ∈ l.take i
   ·rw [if_pos ((placeI_mem _ _).2 hp)]
    refine congrArg some (Bool.eq_iff_iff.2 ⟨fun h => (by cases h), fun h => ?_⟩)
    have hn := ((lineB_iff l).1 h).1
    rw [← List.take_append_drop i l, List.drop_eq_getElem_cons (by omega)] at hn
    exact absurd rfl ((List.nodup_append.1 hn).2.2 _ hp _ List.mem_cons_self)
   ·rw [if_neg (fun h => hp ((placeI_mem _ _).1 h)), next_i (by omega)]
    refine ih (i + 1) k (by omega) (by omega) ?_ ?_
    ·rw [List.take_add_one, hx]
     refine List.nodup_append.2 ⟨h2, by simp, fun a ha b hb => ?_⟩
     simp at hb
     subst hb
     exact fun e => hp (e ▸ ha)
    ·rw [List.take_add_one, hx]
     intro x hxm
     rcases List.mem_append.1 hxm with h | h
     ·exact h3 x h
     ·simp at h; omega
theorem right07_f {l : List Int} (hl : l.length ≤ 1000) {k : Nat} (hk : 2 * l.length < k) : deadboltref07_Right.f k l = some (lineB l) := right07_l0 l hl l.length 0 k (by omega) (by omega) (by simp) (by simp)
theorem same07_l0 (l m : List Int) (hl : l.length ≤ 1000) (hm : l.length = m.length) : ∀ (d i k : Nat), i + d = l.length → d < k → l.take i = m.take i → deadboltref07_Same.l0 k l m (l.length : Int) (i : Int) = some (decide (l = m)) := by
 intro d
 induction d with
 | zero =>
  intro i k h1 hk h
  obtain ⟨k, rfl⟩ : ∃ q, k = q + 1 := ⟨k - 1, by omega⟩
  rw [List.take_of_length_le (by omega), List.take_of_length_le (by omega)] at h
  rw [deadboltref07_Same.l0, if_neg (by omega), decide_eq_true h]
 | succ d ih =>
  intro i k h1 hk h
  obtain ⟨k, rfl⟩ : ∃ q, k = q + 1 := ⟨k - 1, by omega⟩
  have hx : l[i]? = some l[i] := List.getElem?_eq_getElem (by omega)
  have hy : m[i]? = some m[i] := List.getElem?_eq_getElem (by omega)
  rw [deadboltref07_Same.l0, if_pos (by omega), if_pos (by omega), if_pos (by omega), if_pos (by omega), rd_at hx, rd_at hy]
  by_cases he : l[i] = m[i]
  ·rw [if_pos he, next_i (by omega)]
   exact ih (i + 1) k (by omega) (by omega) (by rw [List.take_add_one, List.take_add_one, hx, hy, h, he])
  ·rw [if_neg he]
   refine congrArg some (decide_eq_false fun e => he ?_).symm
   have := hx.symm.trans ((congrArg (·[i]?) e).trans hy)
   exact Option.some.inj this
theorem same07_f (l m : List Int) (hl : l.length ≤ 1000) {k : Nat} (hk : l.length < k) : deadboltref07_Same.f k l m = some (decide (l = m)) := by
 unfold deadboltref07_Same.f
 by_cases h : l.length = m.length
 ·rw [if_pos (by omega)]
  exact same07_l0 l m hl h l.length 0 k (by omega) hk (by simp)
 ·rw [if_neg (by omega)]
  exact congrArg some (decide_eq_false fun e => h (by rw [e])).symm
theorem key_f (a : Int) : deadboltref08_Key.f a = some (isAddrB a) := by
 unfold deadboltref08_Key.f isAddrB
 by_cases h : a ≥ 0
 ·rw [if_pos h]
  refine congrArg some (Bool.eq_iff_iff.2 ?_)
  rw [decide_eq_true_eq, decide_eq_true_eq]
  omega
 ·rw [if_neg h]
  exact congrArg some (decide_eq_false (by omega)).symm
theorem refspot_f (s : Sp) (hl : s.f2.length ≤ 1000) {k : Nat} (hk : 2 * s.f2.length < k) : ∃ b, deadboltref09_Spot.f k s.f0 s.f1 s.f2 = some b ∧ (b = true ↔ SpotP s) := by
 have e : deadboltref09_Spot.f k s.f0 s.f1 s.f2 = root_isSpot.f s.f0 s.f1 s.f2 := by
  unfold deadboltref09_Spot.f root_isSpot.f
  rw [key_f, isAddr_f, right07_f hl hk]
  unfold line_Right.f
  rw [if_pos hl]
 rw [e]
 exact spot_f s hl
theorem refempty_f (s : Sp) : ∃ b, deadboltref09_Empty.f s.f0 s.f1 s.f2 = some b ∧ (b = true ↔ EmptyP s) := empty_f s
theorem refroot_f {a : Int} (h : 0 ≤ a ∧ a ≤ 4294967295) : deadboltref09_Root.f a = some (rootI a) := by
 unfold deadboltref09_Root.f rootI
 rw [if_pos h, Int.tdiv_eq_ediv_of_nonneg h.1, wrap_id (by omega) (by omega)]
theorem less_f {a b : Int} (ha : 0 ≤ a ∧ a ≤ 4294967295) (hb : 0 ≤ b ∧ b ≤ 4294967295) : ∃ r, deadboltref09_less.f a b = some r ∧ (r = true ↔ LessP a b) := by
 unfold deadboltref09_less.f LessP
 rw [refroot_f ha, refroot_f hb]
 simp only [Option.bind_some]
 by_cases h : rootI a < rootI b
 ·rw [if_pos h]
  exact ⟨true, rfl, by simp [h]⟩
 ·rw [if_neg h]
  by_cases h2 : rootI a = rootI b
  ·rw [if_pos h2]
   exact ⟨_, rfl, by simp [h2]⟩
  ·rw [if_neg h2]
   exact ⟨false, rfl, by simp [h, h2]⟩
theorem refright_l0 (l : List Sp) (hl : l.length ≤ 1000) (h2 : ∀ s ∈ l, s.f2.length ≤ 1000) : ∀ (d i : Nat) (k : Nat), i + d = l.length → d + 2001 < k → (∀ j s, j < i → l[j]? = some s → SpotP s ∧ ¬ EmptyP s) → ((l.take i).map (·.f0)).Pairwise LessP →
  ∃ b, deadboltref09_Right.l0 k l l (l.length : Int) (i : Int) = some b ∧ (b = true ↔ Tab l) := by
 intro d
 induction d with
 | zero =>
  intro i k h1 hk hs hp
  obtain ⟨k, rfl⟩ : ∃ q, k = q + 1 := ⟨k - 1, by omega⟩
  rw [deadboltref09_Right.l0, if_neg (by omega)]
  refine ⟨_, rfl, ?_⟩
  rw [List.take_of_length_le (by omega)] at hp
  have hs' : ∀ s ∈ l, SpotP s ∧ ¬ EmptyP s := fun s h => by
   obtain ⟨j, hj, rfl⟩ := List.mem_iff_getElem.1 h
   exact hs j _ (by omega) (List.getElem?_eq_getElem hj)
  constructor
  ·intro h
   exact ⟨hs', hp, by have := of_decide_eq_true h; omega⟩
  ·intro h
   exact decide_eq_true (by have := h.few; omega)
 | succ d ih =>
  intro i k h1 hk hs hp
  obtain ⟨k, rfl⟩ : ∃ q, k = q + 1 := ⟨k - 1, by omega⟩
  have hx : l[i]? = some l[i] := List.getElem?_eq_getElem (by omega)
  have hmem : l[i] ∈ l := List.getElem_mem (by omega)
  have hlen := h2 _ hmem
  obtain ⟨sb, e1, e2⟩ := refspot_f l[i] (h2 _ hmem) (k := k) (by omega)
  obtain ⟨eb, e3, e4⟩ := refempty_f l[i]
  rw [deadboltref09_Right.l0, if_pos (by omega), if_pos (by omega), if_pos (by omega), rd_sp hx, e1]
  simp only [Option.bind_some]
  cases sb with
  | false =>
   refine ⟨false, by simp, ?_⟩
   constructor
   ·intro h; cases h
   ·intro h
    have := e2.2 (h.spot _ hmem).1
    cases this
  | true =>
   rw [if_pos rfl, e3]
   simp only [Option.bind_some]
   cases eb with
   | true =>
    refine ⟨false, by simp, ?_⟩
    constructor
    ·intro h; cases h
    ·intro h
     exact absurd (e4.1 rfl) (h.spot _ hmem).2
   | false =>
    rw [if_neg (by simp)]
    have hS := e2.1 rfl
    have hE : ¬ EmptyP l[i] := fun h => by have := e4.2 h; cases this
    have hs2 : ∀ j s, j < i + 1 → l[j]? = some s → SpotP s ∧ ¬ EmptyP s := fun j s hj hjs => by
     rcases Nat.lt_or_eq_of_le (Nat.le_of_lt_succ hj) with h | h
     ·exact hs j s h hjs
     ·rw [h, hx] at hjs
      obtain rfl := Option.some.inj hjs
      exact ⟨hS, hE⟩
    rcases Nat.eq_zero_or_pos i with h0 | h0
    ·subst h0
     rw [if_neg (by simp), next_i (by omega)]
     refine ih (0 + 1) k (by omega) (by omega) hs2 ?_
     rw [List.take_add_one, hx]
     simp
    ·have hy : l[i - 1]? = some l[i - 1] := List.getElem?_eq_getElem (by omega)
     have hyS := (hs (i - 1) _ (by omega) hy).1
     obtain ⟨lb, e5, e6⟩ := less_f hyS.1 hS.1
     rw [if_pos (by omega), wrap_id (x := (i : Int) - 1) (by omega) (by omega), show (i : Int) - 1 = ((i - 1 : Nat) : Int) by omega, if_pos (by omega), if_pos (by omega), rd_sp hy, e5]
     simp only [Option.bind_some]
     cases lb with
     | false =>
      refine ⟨false, by simp, ?_⟩
      constructor
      ·intro h; cases h
      ·intro h
       have h3 := List.pairwise_iff_getElem.1 h.up (i - 1) i (by simp; omega) (by simp; omega) (by omega)
       simp only [List.getElem_map] at h3
       exact e6.2 h3
     | true =>
      rw [if_pos rfl, next_i (by omega)]
      refine ih (i + 1) k (by omega) (by omega) hs2 ?_
      have hL := e6.1 rfl
      rw [List.take_add_one, hx, List.map_append]
      refine List.pairwise_append.2 ⟨hp, by simp, fun a ha b hb => ?_⟩
      simp at hb
      subst hb
      obtain ⟨j, hj, rfl⟩ := List.mem_iff_getElem.1 ha
      simp only [List.length_map, List.length_take] at hj
      simp only [List.getElem_map, List.getElem_take]
      rcases Nat.lt_or_eq_of_le (show j ≤ i - 1 by omega) with h | h
      ·have h3 := List.pairwise_iff_getElem.1 hp j (i - 1) (by simp; omega) (by simp; omega) h
       simp only [List.getElem_map, List.getElem_take] at h3
       exact less_trans h3 hL
      ·subst h
       exact hL
theorem refright_f (l : List Sp) (hl : l.length ≤ 1000) (h2 : ∀ s ∈ l, s.f2.length ≤ 1000) {k : Nat} (hk : 3100 ≤ k) : ∃ b, deadboltref09_Right.f k l = some b ∧ (b = true ↔ Tab l) :=
 refright_l0 l hl h2 l.length 0 k (by omega) (by omega) (fun j s hj => absurd hj (by omega)) (by simp)
/-- A table's spot of an address. -/
def getT (l : List Sp) (a : Int) : Sp := (l.find? (fun s => s.f0 == a)).getD ⟨a, 0, []⟩
theorem refget_l0 (l : List Sp) (a : Int) (hl : l.length ≤ 1000) : ∀ (d i k : Nat), i + d = l.length → d < k → deadboltref09_Get.l0 k a l (l.length : Int) (i : Int) = some ((getT (l.drop i) a).f0, (getT (l.drop i) a).f1, (getT (l.drop i) a).f2) := by
 intro d
 induction d with
 | zero =>
  intro i k h1 hk
  obtain ⟨k, rfl⟩ : ∃ q, k = q + 1 := ⟨k - 1, by omega⟩
  rw [deadboltref09_Get.l0, if_neg (by omega), List.drop_eq_nil_of_le (by omega)]
  rfl
 | succ d ih =>
  intro i k h1 hk
  obtain ⟨k, rfl⟩ : ∃ q, k = q + 1 := ⟨k - 1, by omega⟩
  have hx : l[i]? = some l[i] := List.getElem?_eq_getElem (by omega)
  rw [deadboltref09_Get.l0, if_pos (by omega), if_pos (by omega), if_pos (by omega), rd_sp hx, List.drop_eq_getElem_cons (show i < l.length by omega)]
  by_cases h : l[i].f0 = a
  ·rw [if_pos h, getT, List.find?_cons_of_pos (by simpa using h)]
   rfl
  ·rw [if_neg h, getT, List.find?_cons_of_neg (by simpa using h), next_i (by omega)]
   exact ih (i + 1) k (by omega) (by omega)
theorem refget_f (l : List Sp) (a : Int) (hl : l.length ≤ 1000) {k : Nat} (hk : l.length < k) : deadboltref09_Get.f k l a = some ((getT l a).f0, (getT l a).f1, (getT l a).f2) := refget_l0 l a hl l.length 0 k (by omega) hk
theorem putS_nil (s : Sp) : putS [] s = [s] := rfl
theorem putS_cons (x : Sp) (l : List Sp) (s : Sp) : putS (x :: l) s = if orderI x.f0 s.f0 > 0 then s :: x :: l else x :: putS l s := by
 unfold putS
 rw [List.findIdx_cons]
 by_cases h : orderI x.f0 s.f0 > 0
 ·simp [h]
 ·simp [h]
/-- What setting a spot makes of a table. -/
noncomputable def setT (l : List Sp) (s : Sp) : List Sp := open Classical in if EmptyP s then offS l s.f0 else putS (offS l s.f0) s
theorem offS_cons (x : Sp) (l : List Sp) (a : Int) : offS (x :: l) a = if x.f0 = a then offS l a else x :: offS l a := by
 unfold offS
 by_cases h : x.f0 = a
 ·rw [if_pos h, List.filter_cons_of_neg (by simp [h])]
 ·rw [if_neg h, List.filter_cons_of_pos (by simp [h])]
theorem refset_l0 {l : List Sp} (s : Sp) (hs : 0 ≤ s.f0 ∧ s.f0 ≤ 4294967295) (hl : l.length ≤ 1000) (hk0 : ∀ s ∈ l, 0 ≤ s.f0 ∧ s.f0 ≤ 4294967295) : ∀ (d i k : Nat) (out : List Sp) (b : Bool), i + d = l.length → d < k → out.length + (bif b then 0 else 1) ≤ i + 1 →
  deadboltref09_Set.l0 k out b l (l.length : Int) (i : Int) s.f0 s.f1 s.f2 = some (out ++ if b then offS (l.drop i) s.f0 else putS (offS (l.drop i) s.f0) s) := by
 intro d
 induction d with
 | zero =>
  intro i k out b h1 hk ho
  obtain ⟨k, rfl⟩ : ∃ q, k = q + 1 := ⟨k - 1, by omega⟩
  rw [deadboltref09_Set.l0, if_neg (by omega), List.drop_eq_nil_of_le (by omega)]
  cases b with
  | true =>
   simp only [cond_true] at ho
   rw [if_pos rfl, if_pos rfl]
   simp [offS]
  | false =>
   simp only [cond_false] at ho
   rw [if_neg Bool.false_ne_true, if_neg Bool.false_ne_true, if_pos (by omega)]
   rfl
 | succ d ih =>
  intro i k out b h1 hk ho
  obtain ⟨k, rfl⟩ : ∃ q, k = q + 1 := ⟨k - 1, by omega⟩
  have hx : l[i]? = some l[i] := List.getElem?_eq_getElem (by omega)
  have hm : l[i] ∈ l := List.getElem_mem (by omega)
  rw [deadboltref09_Set.l0, if_pos (by omega), if_pos (by omega), if_pos (by omega), rd_sp hx, List.drop_eq_getElem_cons (show i < l.length by omega), offS_cons, next_i (by omega)]
  by_cases h : l[i].f0 = s.f0
  ·rw [if_pos h, if_pos h]
   exact ih (i + 1) k out b (by omega) (by omega) (by omega)
  ·rw [if_neg h, if_neg h]
   cases b with
   | true =>
    simp only [cond_true] at ho
    rw [if_pos rfl, if_pos (by omega), ih (i + 1) k _ true (by omega) (by omega) (by simp; omega), if_pos rfl, if_pos rfl]
    simp
   | false =>
    simp only [cond_false] at ho
    obtain ⟨lb, e5, e6⟩ := less_f hs (hk0 _ hm)
    have ho2 := (order_less (hk0 _ hm) hs).2
    rw [if_neg Bool.false_ne_true, e5, if_neg Bool.false_ne_true, putS_cons]
    simp only [Option.bind_some]
    cases lb with
    | true =>
     rw [if_pos (rfl : true = true), if_pos (show out.length < 3518437208883 by omega), if_pos (show (out ++ [(⟨s.f0, s.f1, s.f2⟩ : Sp)]).length < 3518437208883 by simp; omega), if_pos (ho2.2 (e6.1 rfl)), ih (i + 1) k _ true (by omega) (by omega) (by simp; omega), if_pos (rfl : true = true)]
     simp
    | false =>
     rw [if_neg Bool.false_ne_true, if_pos (show out.length < 3518437208883 by omega), if_neg (show ¬ orderI l[i].f0 s.f0 > 0 from fun hh => by have := e6.2 (ho2.1 hh); cases this), ih (i + 1) k _ false (by omega) (by omega) (by simp; omega), if_neg Bool.false_ne_true]
     simp
theorem refset_f {l : List Sp} (h : Tab l) {s : Sp} (hs : 0 ≤ s.f0 ∧ s.f0 ≤ 4294967295) {k : Nat} (hk : 100 ≤ k) : deadboltref09_Set.f k l s.f0 s.f1 s.f2 = some (setT l s) := by
 have hf := h.few
 obtain ⟨b, e1, e2⟩ := refempty_f s
 unfold deadboltref09_Set.f
 rw [e1]
 simp only [Option.bind_some]
 have := refset_l0 s hs (l := l) (by omega) (fun s hs => (h.spot s hs).1.1) l.length 0 k [] b (by omega) (by omega) (by cases b <;> simp)
 refine this.trans ?_
 unfold setT
 cases b with
 | true => rw [if_pos (e2.1 rfl)]; simp
 | false => rw [if_neg (show ¬ EmptyP s from fun hh => by have := e2.2 hh; cases this)]; simp
theorem refspots_f (s t : Sp) (hs : s.f2.length ≤ 1000) {k : Nat} (hk : s.f2.length < k) : ∃ b, deadboltref09_Spots.f k s.f0 s.f1 s.f2 t.f0 t.f1 t.f2 = some b ∧ (b = true ↔ s = t) := by
 unfold deadboltref09_Spots.f
 have hst : s = t ↔ s.f0 = t.f0 ∧ s.f1 = t.f1 ∧ s.f2 = t.f2 := by
  constructor
  ·rintro rfl; exact ⟨rfl, rfl, rfl⟩
  ·cases s; cases t; rintro ⟨h1, h2, h3⟩; simp only at h1 h2 h3; rw [h1, h2, h3]
 rw [hst]
 by_cases h0 : s.f0 = t.f0
 ·rw [if_pos h0]
  by_cases h1 : s.f1 = t.f1
  ·rw [if_pos h1, same07_f _ _ hs hk]
   exact ⟨_, rfl, by simp [h0, h1]⟩
  ·rw [if_neg h1]
   exact ⟨false, rfl, by simp [h1]⟩
 ·rw [if_neg h0]
  exact ⟨false, rfl, by simp [h0]⟩
theorem refsame_l0 (l m : List Sp) (hl : l.length ≤ 1000) (h2 : ∀ s ∈ l, s.f2.length ≤ 1000) (hm : l.length = m.length) : ∀ (d i k : Nat), i + d = l.length → d + 1001 < k → l.take i = m.take i → ∃ b, deadboltref09_Same.l0 k l m (l.length : Int) (i : Int) = some b ∧ (b = true ↔ l = m) := by
 intro d
 induction d with
 | zero =>
  intro i k h1 hk h
  obtain ⟨k, rfl⟩ : ∃ q, k = q + 1 := ⟨k - 1, by omega⟩
  rw [List.take_of_length_le (by omega), List.take_of_length_le (by omega)] at h
  rw [deadboltref09_Same.l0, if_neg (by omega)]
  exact ⟨true, rfl, by simp [h]⟩
 | succ d ih =>
  intro i k h1 hk h
  obtain ⟨k, rfl⟩ : ∃ q, k = q + 1 := ⟨k - 1, by omega⟩
  have hx : l[i]? = some l[i] := List.getElem?_eq_getElem (by omega)
  have hy : m[i]? = some m[i] := List.getElem?_eq_getElem (by omega)
  have hlen := h2 l[i] (List.getElem_mem (by omega))
  obtain ⟨b, e1, e2⟩ := refspots_f l[i] m[i] hlen (k := k) (by omega)
  rw [deadboltref09_Same.l0, if_pos (by omega), if_pos (by omega), if_pos (by omega), if_pos (by omega), rd_sp hx, rd_sp hy, e1]
  simp only [Option.bind_some]
  cases b with
  | true =>
   rw [if_pos rfl, next_i (by omega)]
   exact ih (i + 1) k (by omega) (by omega) (by rw [List.take_add_one, List.take_add_one, hx, hy, h, e2.1 rfl])
  | false =>
   rw [if_neg (by simp)]
   refine ⟨false, rfl, ⟨fun h => by (cases h), fun e => ?_⟩⟩
   have := hx.symm.trans ((congrArg (·[i]?) e).trans hy)
   exact e2.2 (Option.some.inj this)
theorem refsame_f (l m : List Sp) (hl : l.length ≤ 1000) (h2 : ∀ s ∈ l, s.f2.length ≤ 1000) {k : Nat} (hk : 2100 ≤ k) : ∃ b, deadboltref09_Same.f k l m = some b ∧ (b = true ↔ l = m) := by
 unfold deadboltref09_Same.f
 by_cases h : l.length = m.length
 ·rw [if_pos (by omega)]
  exact refsame_l0 l m hl h2 h l.length 0 k (by omega) (by omega) (by simp)
 ·rw [if_neg (by omega)]
  exact ⟨false, rfl, by simp; exact fun e => h (by rw [e])⟩
end Go.Proofs.Ytnjnjajgpkmfhaa.PX

/-
 What the program gets of a table, and what setting a spot makes of it.
-/
namespace Go.Proofs.Ytnjnjajgpkmfhaa.PX
open Go.RowKit Go.Proofs.YtnjnjajgpkmfhaaW.PrintWords Go.Proofs.YtnjnjajgpkmfhaaW.PrintLast Go.Proofs.YtnjnjajgpkmfhaaW.PrintMore
theorem Tab.lens {l : List Sp} (h : Tab l) : ∀ s ∈ l, s.f2.length ≤ 1000 := fun s hs => by
 have := ((lineB_iff _).1 (h.spot s hs).1.2.2.1).2.2
 omega
theorem Tab.addr {l : List Sp} (h : Tab l) : ∀ s ∈ l, 0 ≤ s.f0 ∧ s.f0 ≤ 4294967295 := fun s hs => (h.spot s hs).1.1
theorem addr_iff (a : Int) : isAddrB a = true ↔ 0 ≤ a ∧ a ≤ 4294967295 := by simp [isAddrB]
theorem right_yes {l : List Sp} (h : Tab l) {k : Nat} (hk : 100 ≤ k) : root_Right.f k l = some true := by
 have hf := h.few
 obtain ⟨b, e1, e2⟩ := right_f l (by omega) h.lens k (by omega)
 rw [e1, e2.2 h]
theorem right_no {l : List Sp} (h : ¬ Tab l) (hl : l.length ≤ 80) (h2 : ∀ s ∈ l, s.f2.length ≤ 1000) {k : Nat} (hk : 100 ≤ k) : root_Right.f k l = some false := by
 obtain ⟨b, e1, e2⟩ := right_f l (by omega) h2 k (by omega)
 rw [e1]
 cases b with
 | true => exact absurd (e2.1 rfl) h
 | false => rfl
theorem getT_in {l : List Sp} {a : Int} (h : a ∈ l.map (·.f0)) : l.find? (fun s => s.f0 == a) = some (getT l a) ∧ (getT l a).f0 = a ∧ getT l a ∈ l := by
 obtain ⟨s, hs, rfl⟩ := List.mem_map.1 h
 cases hf : l.find? (fun t => t.f0 == s.f0) with
 | none =>
  have := List.find?_eq_none.1 hf s hs
  simp at this
 | some t =>
  have h1 := List.find?_some hf
  have h2 := List.mem_of_find?_eq_some hf
  have e : getT l s.f0 = t := by rw [getT, hf]; rfl
  rw [e]
  exact ⟨rfl, by simpa using h1, h2⟩
theorem getT_out {l : List Sp} {a : Int} (h : a ∉ l.map (·.f0)) : getT l a = ⟨a, 0, []⟩ := by
 unfold getT
 rw [List.find?_eq_none.2 fun s hs he => h (List.mem_map.2 ⟨s, hs, by simpa using he⟩)]
 rfl
theorem get_f {l : List Sp} (h : Tab l) {a : Int} (ha : 0 ≤ a ∧ a ≤ 4294967295) : root_Get.f l a = some ((getT l a).f0, (getT l a).f1, (getT l a).f2, 0) := by
 have hf := h.few
 unfold root_Get.f
 rw [if_pos (by omega), right_yes h (by omega)]
 simp only [Option.bind_some]
 rw [if_neg (by simp [(addr_iff a).2 ha])]
 unfold root_tree.f
 rw [if_pos (by omega)]
 simp only [Option.bind_some]
 have hlen : ((l.filter (isAt (rootI a))).map (·.f0)).length ≤ 64 := by
  have := List.length_filter_le (isAt (rootI a)) l
  rw [List.length_map]
  omega
 obtain ⟨g1, t, hg, ht⟩ := treeOf_good ((l.filter (isAt (rootI a))).map (·.f0)) hlen (fun x hx => by
  obtain ⟨s, hs, rfl⟩ := List.mem_map.1 hx
  have := h.addr s (List.mem_filter.1 hs).1
  simpa [Treap.isKey] using this) (at_up h _)
 have hE : (fun s : Sp => decide (rootI s.f0 = rootI a)) = isAt (rootI a) := rfl
 rw [hE]
 have hin : a ∈ (l.filter (isAt (rootI a))).map (·.f0) ↔ a ∈ l.map (·.f0) := by
  constructor
  ·intro hx
   obtain ⟨s, hs, e⟩ := List.mem_map.1 hx
   exact List.mem_map.2 ⟨s, (List.mem_filter.1 hs).1, e⟩
  ·intro hx
   obtain ⟨s, hs, e⟩ := List.mem_map.1 hx
   exact List.mem_map.2 ⟨s, List.mem_filter.2 ⟨hs, by simp only [isAt, decide_eq_true_eq]; rw [e]⟩, e⟩
 generalize (l.filter (isAt (rootI a))).map (·.f0) = ks at *
 generalize treeOf ks = T at g1 hg ht ⊢
 have hkey : Treap.isKey a = true := by simpa [Treap.isKey] using ha
 have hfd := Treap.find_good (key := a) hg (by omega) hkey
 unfold treap_Find.f
 rw [map_nd, if_pos (by rw [List.length_map]; omega)]
 rw [ht] at hfd
 rw [hfd]
 by_cases hm : a ∈ ks
 ·rw [if_pos hm]
  have := getT_in (hin.1 hm)
  rw [Option.bind_some, if_pos rfl, getR, this.1]
 ·rw [if_neg hm]
  have := getT_out (fun hx => hm (hin.2 hx))
  rw [this]
  simp
theorem get_bad {l : List Sp} {a : Int} (hl : l.length ≤ 80) (h2 : ∀ s ∈ l, s.f2.length ≤ 1000) (h : ¬ Tab l ∨ isAddrB a = false) : root_Get.f l a = some (0, 0, [], 1) := by
 unfold root_Get.f
 rw [if_pos (by omega)]
 by_cases hT : Tab l
 ·rw [right_yes hT (by omega)]
  simp only [Option.bind_some]
  rw [if_pos (Or.inr (h.resolve_left (fun hn => hn hT)))]
 ·rw [right_no hT hl h2 (by omega)]
  simp only [Option.bind_some]
  rw [if_pos (Or.inl trivial)]
theorem offS_len (l : List Sp) (a : Int) : (offS l a).length ≤ l.length := List.length_filter_le _ _
theorem putS_len (l : List Sp) (s : Sp) : (putS l s).length = l.length + 1 := by
 unfold putS
 rw [List.length_append, List.length_cons, List.length_take, List.length_drop]
 omega
theorem set_f {l : List Sp} (h : Tab l) {s : Sp} (hs : SpotP s) : root_Set.f l s.f0 s.f1 s.f2 = some (if (setT l s).length > 64 then ([], 5) else (setT l s, 0)) := by
 have hf := h.few
 have hsl := ((lineB_iff _).1 hs.2.2.1).2.2
 obtain ⟨sb, e1, e2⟩ := spot_f s (by omega)
 obtain ⟨eb, e3, e4⟩ := empty_f s
 obtain rfl := e2.2 hs
 unfold root_Set.f
 rw [if_pos (by omega), right_yes h (by omega), e1, e3]
 simp only [Option.bind_some]
 rw [if_neg (by simp), if_neg (by simp)]
 have ho := offS_len l s.f0
 unfold setT
 cases eb with
 | true =>
  rw [if_pos rfl, if_pos (e4.1 rfl), if_neg (by omega)]
 | false =>
  rw [if_neg (by simp), if_neg (show ¬ EmptyP s from fun hh => by have := e4.2 hh; cases this), putS_len]
  by_cases hq : (offS l s.f0).length = 64
  ·rw [if_pos hq, if_pos (by omega)]
  ·rw [if_neg hq, if_neg (by omega)]
theorem few_len (l : List Sp) : (fewF l).length ≤ 70 := by
 unfold fewF
 rw [List.length_map, List.length_take]
 omega
theorem few_lens (l : List Sp) : ∀ s ∈ fewF l, s.f2.length ≤ 1000 := fun s hs => by
 obtain ⟨x, _, rfl⟩ := List.mem_map.1 hs
 show (x.f2.take 70).length ≤ 1000
 rw [List.length_take]
 omega
end Go.Proofs.Ytnjnjajgpkmfhaa.PX

/-
 Tables as what they tell of each address.
-/
namespace Go.Proofs.Ytnjnjajgpkmfhaa.PX
open Go.RowKit Go.Proofs.YtnjnjajgpkmfhaaW.PrintWords Go.Proofs.YtnjnjajgpkmfhaaW.PrintLast Go.Proofs.YtnjnjajgpkmfhaaW.PrintMore
def UpL (l : List Sp) : Prop := l.Pairwise (fun a b => LessP a.f0 b.f0)
theorem mem_offS {l : List Sp} {a : Int} {x : Sp} : x ∈ offS l a ↔ x ∈ l ∧ x.f0 ≠ a := by
 unfold offS
 rw [List.mem_filter]
 simp
theorem mem_putS {l : List Sp} {s x : Sp} : x ∈ putS l s ↔ x = s ∨ x ∈ l := by
 induction l with
 | nil => simp [putS_nil]
 | cons y l ih =>
  rw [putS_cons]
  split
  ·simp
  ·rw [List.mem_cons, ih, List.mem_cons]
   constructor
   ·rintro (h | h | h)
    ·exact .inr (.inl h)
    ·exact .inl h
    ·exact .inr (.inr h)
   ·rintro (h | h | h)
    ·exact .inr (.inl h)
    ·exact .inl h
    ·exact .inr (.inr h)
theorem mem_setT {l : List Sp} {s x : Sp} : x ∈ setT l s ↔ (x = s ∧ ¬ EmptyP s) ∨ (x ∈ l ∧ x.f0 ≠ s.f0) := by
 unfold setT
 split
 ·rename_i h
  rw [mem_offS]
  simp [h]
 ·rename_i h
  rw [mem_putS, mem_offS]
  simp [h]
theorem get_spot {l : List Sp} (h : Tab l) {a : Int} (ha : 0 ≤ a ∧ a ≤ 4294967295) : SpotP (getT l a) ∧ (getT l a).f0 = a := by
 by_cases hm : a ∈ l.map (·.f0)
 ·obtain ⟨_, h2, h3⟩ := getT_in hm
  exact ⟨(h.spot _ h3).1, h2⟩
 ·rw [getT_out hm]
  exact ⟨⟨ha, by simp, by simp [lineB], .inl rfl⟩, rfl⟩
theorem setT_len {l : List Sp} {s : Sp} : (setT l s).length ≤ l.length + 1 := by
 unfold setT
 have := offS_len l s.f0
 split
 ·omega
 ·rw [putS_len]; omega
theorem offS_less {l : List Sp} {a : Int} (h : a ∈ l.map (·.f0)) : (offS l a).length < l.length := by
 obtain ⟨s, hs, rfl⟩ := List.mem_map.1 h
 have := List.length_filter_lt_length_iff_exists (p := fun x : Sp => !(x.f0 == s.f0)) (l := l)
 exact this.2 ⟨s, hs, by simp⟩
/-- Where there was a spot, there is room. -/
theorem set_room {l : List Sp} (h : Tab l) {s : Sp} (hm : ¬ EmptyP (getT l s.f0)) : (setT l s).length ≤ 64 := by
 have hf := h.few
 have hm' : s.f0 ∈ l.map (·.f0) := Classical.byContradiction fun hn => hm (by rw [getT_out hn]; exact ⟨rfl, rfl⟩)
 have := offS_less hm'
 unfold setT
 split
 ·omega
 ·rw [putS_len]; omega
end Go.Proofs.Ytnjnjajgpkmfhaa.PX

namespace Go.Proofs.Ytnjnjajgpkmfhaa.PX
open Go.RowKit Go.Proofs.YtnjnjajgpkmfhaaW.PrintWords Go.Proofs.YtnjnjajgpkmfhaaW.PrintLast Go.Proofs.YtnjnjajgpkmfhaaW.PrintMore
attribute [local go_sem] max2_int min2_int max_two min_two max_three min_three max_four min_four   -- for this text's walks alone
set_option linter.unusedVariables false
set_option linter.unusedSimpArgs false

/-! ### slices_Index_int_int: function 73 -/
def slices_Index_int_int.l0 : Nat → List Int → Int → Int → Int → Option (Int)
 | 0, _, _, _, _ => none
 | k + 1, x0, x1, x7, x8 => if x8 < x7 then (if 0 ≤ x8 then (if x8 < (x0.length : Int) then (if x1 = (rd x0 x8) then (some x8) else (slices_Index_int_int.l0 k x0 x1 x7 (wrap64 (x8 + 1)))) else (none)) else (none)) else (some (-1))
def slices_Index_int_int.f (k : Nat) (l0 : List Int) (a1 : Int) : Option (Int) := slices_Index_int_int.l0 k l0 a1 (l0.length : Int) 0
theorem slices_Index_int_int.mono_l : ∀ k, (∀ y0 y1 y2 y3, LeO (slices_Index_int_int.l0 k y0 y1 y2 y3) (slices_Index_int_int.l0 (k + 1) y0 y1 y2 y3))
 | 0 => fun _ _ _ _ r h => by simp [slices_Index_int_int.l0] at h
 | k + 1 => by
  have ih0 := slices_Index_int_int.mono_l k
  ·intro y0 y1 y2 y3
   unfold slices_Index_int_int.l0
   repeat' first
   | (with_reducible exact ih0 _ _ _ _)
   | (with_reducible exact LeO.refl _)
   | (with_reducible exact LeO.none _)
   | (with_reducible refine LeO.ite ?_ ?_)
   | (with_reducible refine LeO.bind ?_ (fun _ => ?_))
   | exact ih0 _ _ _ _
   | exact LeO.none _
   | refine LeO.ite ?_ ?_
   | refine LeO.bind ?_ (fun _ => ?_)
theorem slices_Index_int_int.mono : ∀ a0 a1 k, LeO (slices_Index_int_int.f k a0 a1) (slices_Index_int_int.f (k + 1) a0 a1) := by
 intro a0 a1 k
 have ih0 := slices_Index_int_int.mono_l k
 unfold slices_Index_int_int.f
 repeat' first
   | (with_reducible exact ih0 _ _ _ _)
   | (with_reducible exact LeO.refl _)
   | (with_reducible exact LeO.none _)
   | (with_reducible refine LeO.ite ?_ ?_)
   | (with_reducible refine LeO.bind ?_ (fun _ => ?_))
   | exact ih0 _ _ _ _
   | exact LeO.none _
   | refine LeO.ite ?_ ?_
   | refine LeO.bind ?_ (fun _ => ?_)
set_option maxHeartbeats 8000000 in
set_option maxRecDepth 100000 in
theorem slices_Index_int_int.calls (k : Nat) (A0 : Option Addr) (c0 : Nat) (l0 : List Int) (a1 : Int) (r : Int) (w : World) (hr0 : Kd.C (Kd.int .i64) w A0 l0.length l0) (hc0 : l0.length ≤ c0) (h : slices_Index_int_int.f k l0 a1 = some r) :
  Calls Try.prog 73 #[.slice A0 l0.length c0, .int .i64 a1] w fun e w' => e = .returned (.int .i64 r) ∧ Drawn0 w w' := by
 have HR0 := Aside0.mk hr0
 have HC0 := Aside0.mk hc0
 clear hr0 hc0
 have H : (slices_Index_int_int.l0 k l0 a1 (l0.length : Int) 0) = some r := h
 clear h
 have H' := Aside0.mk H
 clear H
 go_enter Try.func73, Try.ntmps73
 go_wp2
 go_loopg [8] k (fun kq v8 w' => ∃ (x8_1 : Int), v8 = .int .i64 x8_1 ∧ Aside0 (slices_Index_int_int.l0 kq l0 a1 (l0.length : Int) x8_1 = some r) ∧ Aside0 (kq ≤ k) ∧ Drawn0 w w')
 case atStart => exact ⟨(0), (by first | rfl | (simp; done) | (simp [*]; done)), H', ⟨Nat.le_refl _⟩, by repeat (first | exact Drawn0.refl _ | apply Drawn0.step)⟩
 case round =>
  clear H'
  try clear p2
  obtain ⟨x8_1, rfl, HA, HK1, ⟨m1, rfl⟩⟩ := hrel
  cases gk with
  | zero => exact absurd HA.out (by simp [slices_Index_int_int.l0])
  | succ k1 =>
   have H := HA.out
   clear HA
   simp only [slices_Index_int_int.l0] at H
   by_cases c3 : x8_1 < (l0.length : Int)
   ·rw [if_pos c3] at H
    have c3b0 : decide (x8_1 < (l0.length : Int)) = true := decide_eq_true c3
    clear c3
    by_cases c4 : 0 ≤ x8_1
    ·rw [if_pos c4] at H
     have c4b0 : decide (0 ≤ x8_1) = true := decide_eq_true c4
     clear c4
     by_cases c5 : x8_1 < (l0.length : Int)
     ·rw [if_pos c5] at H
      have c5b0 : decide (x8_1 < (l0.length : Int)) = true := decide_eq_true c5
      clear c5
      by_cases c6 : a1 = (rd l0 x8_1)
      ·rw [if_pos c6] at H
       have c6b0 : (a1 == (rd l0 x8_1)) = true := beq_iff_eq.mpr c6
       have c6b1 : (a1 != (rd l0 x8_1)) = false := bne_eq_false_iff_eq.mpr c6
       clear c6
       obtain rfl := Option.some.inj H
       have p341 : 0 ≤ (x8_1 : Int) := of_decide_eq_true (by first | (with_reducible assumption) | assumption)
       have q341 : x8_1 < (l0.length : Int) := of_decide_eq_true (by first | (with_reducible assumption) | assumption)
       obtain ⟨ad341, e341, hx341_0⟩ := Kd.at_int HR0.out x8_1 p341 q341
       cases e341
       replace p341 := eq_true p341
       replace q341 := eq_true q341
       go_wp2
       go_ret
       exact ⟨by first | rfl | (simp; done) | (simp [*]; done), by repeat (first | exact Drawn0.refl _ | apply Drawn0.step)⟩
      ·rw [if_neg c6] at H
       have c6b0 : (a1 == (rd l0 x8_1)) = false := beq_eq_false_iff_ne.mpr c6
       have c6b1 : (a1 != (rd l0 x8_1)) = true := bne_iff_ne.mpr c6
       have H' := Aside0.mk H
       clear H
       have p341 : 0 ≤ (x8_1 : Int) := of_decide_eq_true (by first | (with_reducible assumption) | assumption)
       have q341 : x8_1 < (l0.length : Int) := of_decide_eq_true (by first | (with_reducible assumption) | assumption)
       obtain ⟨ad341, e341, hx341_0⟩ := Kd.at_int HR0.out x8_1 p341 q341
       cases e341
       replace p341 := eq_true p341
       replace q341 := eq_true q341
       go_wp2
       go_roundg k1
       case measure => have := HK1.out; omega
       case rel => exact ⟨(wrap64 (x8_1 + 1)), (by first | rfl | (simp; done) | (simp [*]; done)), H', ⟨by have := HK1.out; omega⟩, by repeat (first | exact Drawn0.refl _ | apply Drawn0.step)⟩
     ·rw [if_neg c5] at H
      exact absurd H (by simp)
    ·rw [if_neg c4] at H
     exact absurd H (by simp)
   ·rw [if_neg c3] at H
    have c3b0 : decide (x8_1 < (l0.length : Int)) = false := decide_eq_false c3
    clear c3
    obtain rfl := Option.some.inj H
    go_wp2
    go_ret
    exact ⟨by first | rfl | (simp; done) | (simp [*]; done), by repeat (first | exact Drawn0.refl _ | apply Drawn0.step)⟩

end Go.Proofs.Ytnjnjajgpkmfhaa.PX

namespace Go.Proofs.Ytnjnjajgpkmfhaa.PX
open Go.RowKit Go.Proofs.YtnjnjajgpkmfhaaW.PrintWords Go.Proofs.YtnjnjajgpkmfhaaW.PrintLast Go.Proofs.YtnjnjajgpkmfhaaW.PrintMore
attribute [local go_sem] max2_int min2_int max_two min_two max_three min_three max_four min_four   -- for this text's walks alone
set_option linter.unusedVariables false
set_option linter.unusedSimpArgs false

/-! ### slices_Contains_int_int: function 56 -/
def slices_Contains_int_int.f (k : Nat) (l0 : List Int) (a1 : Int) : Option (Bool) := (slices_Index_int_int.f k l0 a1).bind fun t342 => (some (decide (t342 ≥ 0)))
theorem slices_Contains_int_int.mono : ∀ a0 a1 k, LeO (slices_Contains_int_int.f k a0 a1) (slices_Contains_int_int.f (k + 1) a0 a1) := by
 intro a0 a1 k
 unfold slices_Contains_int_int.f
 repeat' first
   | (with_reducible exact slices_Index_int_int.mono _ _ _)
   | (with_reducible exact LeO.refl _)
   | (with_reducible exact LeO.none _)
   | (with_reducible refine LeO.ite ?_ ?_)
   | (with_reducible refine LeO.bind ?_ (fun _ => ?_))
   | exact slices_Index_int_int.mono _ _ _
   | exact LeO.none _
   | refine LeO.ite ?_ ?_
   | refine LeO.bind ?_ (fun _ => ?_)
set_option maxHeartbeats 8000000 in
set_option maxRecDepth 100000 in
theorem slices_Contains_int_int.calls (k : Nat) (A0 : Option Addr) (c0 : Nat) (l0 : List Int) (a1 : Int) (r : Bool) (w : World) (hr0 : Kd.C (Kd.int .i64) w A0 l0.length l0) (hc0 : l0.length ≤ c0) (h : slices_Contains_int_int.f k l0 a1 = some r) :
  Calls Try.prog 56 #[.slice A0 l0.length c0, .int .i64 a1] w fun e w' => e = .returned (.bool r) ∧ Drawn0 w w' := by
 have HR0 := Aside0.mk hr0
 have HC0 := Aside0.mk hc0
 clear hr0 hc0
 have H : ((slices_Index_int_int.f k l0 a1).bind fun t342 => (some (decide (t342 ≥ 0)))) = some r := h
 clear h
 replace H := Option.bind_eq_some_iff.mp H
 obtain ⟨t342, A30, H⟩ := H
 replace H : (some (decide (t342 ≥ 0))) = some r := H
 have A3 := Aside0.mk A30
 clear A30
 obtain rfl := Option.some.inj H
 go_enter Try.func56, Try.ntmps56
 go_wp2_with (first | ((with_reducible refine gate_callee (f := 73) rfl ?_); refine goesL_ (some 7) rfl rfl Try.func73 (by kernel_rfl) rfl #[.slice A0 l0.length c0, .int .i64 a1] rfl zP ?_; (with_reducible refine (slices_Index_int_int.calls k _ _ l0 a1 t342 _ ?side1 ?side2 A3.out).mono ?_); (case side1 => repeat (first | exact HR0.out | (with_reducible refine Kd.C_alloc ?_ _) | (with_reducible refine Kd.C_drewN ?_ _) | (with_reducible refine Kd.C_drew ?_))); (case side2 => exact HC0.out); rintro e w' ⟨rfl, ⟨nd, rfl⟩⟩; refine ⟨_, rfl, ?_⟩))
 go_ret
 exact ⟨by first | rfl | (simp; done) | (simp [*]; done), by repeat (first | exact Drawn0.refl _ | apply Drawn0.step)⟩

end Go.Proofs.Ytnjnjajgpkmfhaa.PX

namespace Go.Proofs.Ytnjnjajgpkmfhaa.PX
open Go.RowKit Go.Proofs.YtnjnjajgpkmfhaaW.PrintWords Go.Proofs.YtnjnjajgpkmfhaaW.PrintLast Go.Proofs.YtnjnjajgpkmfhaaW.PrintMore
attribute [local go_sem] max2_int min2_int max_two min_two max_three min_three max_four min_four   -- for this text's walks alone
set_option linter.unusedVariables false
set_option linter.unusedSimpArgs false

/-! ### line_joined: function 74 -/
def line_joined.l0 : Nat → List Int → List (List Int) → Int → Int → Option (List Int)
 | 0, _, _, _, _ => none
 | k + 1, x3, x6, x7, x8 => if x8 < x7 then (if 0 ≤ x8 then (if x8 < (x6.length : Int) then (if x3.length + (rd_L1 x6 x8).length < 17592186044416 then (line_joined.l0 k (x3 ++ (rd_L1 x6 x8)) x6 x7 (wrap64 (x8 + 1))) else (none)) else (none)) else (none)) else (some x3)
def line_joined.f (k : Nat) (l0 : List (List Int)) : Option (List Int) := line_joined.l0 k ([] : List Int) l0 (l0.length : Int) 0
theorem line_joined.mono_l : ∀ k, (∀ y0 y1 y2 y3, LeO (line_joined.l0 k y0 y1 y2 y3) (line_joined.l0 (k + 1) y0 y1 y2 y3))
 | 0 => fun _ _ _ _ r h => by simp [line_joined.l0] at h
 | k + 1 => by
  have ih0 := line_joined.mono_l k
  ·intro y0 y1 y2 y3
   unfold line_joined.l0
   repeat' first
   | (with_reducible exact ih0 _ _ _ _)
   | (with_reducible exact LeO.refl _)
   | (with_reducible exact LeO.none _)
   | (with_reducible refine LeO.ite ?_ ?_)
   | (with_reducible refine LeO.bind ?_ (fun _ => ?_))
   | exact ih0 _ _ _ _
   | exact LeO.none _
   | refine LeO.ite ?_ ?_
   | refine LeO.bind ?_ (fun _ => ?_)
theorem line_joined.mono : ∀ a0 k, LeO (line_joined.f k a0) (line_joined.f (k + 1) a0) := by
 intro a0 k
 have ih0 := line_joined.mono_l k
 unfold line_joined.f
 repeat' first
   | (with_reducible exact ih0 _ _ _ _)
   | (with_reducible exact LeO.refl _)
   | (with_reducible exact LeO.none _)
   | (with_reducible refine LeO.ite ?_ ?_)
   | (with_reducible refine LeO.bind ?_ (fun _ => ?_))
   | exact ih0 _ _ _ _
   | exact LeO.none _
   | refine LeO.ite ?_ ?_
   | refine LeO.bind ?_ (fun _ => ?_)
set_option maxHeartbeats 8000000 in
set_option maxRecDepth 100000 in
theorem line_joined.calls (k : Nat) (A0 : Option Addr) (c0 : Nat) (l0 : List (List Int)) (r : List Int) (w : World) (hr0 : Kd.C (Kd.slice 3 (Kd.int .i64)) w A0 l0.length l0) (hc0 : l0.length ≤ c0) (h : line_joined.f k l0 = some r) :
  Calls Try.prog 74 #[.slice A0 l0.length c0] w fun e w' => ∃ v0_ : Value, e = .returned (v0_) ∧ Kd.R (Kd.int .i64) 3 w' w.heap.size (fun _ => True) v0_ r ∧ Below w.heap.size w w' := by
 have HR0 := Aside0.mk hr0
 have HC0 := Aside0.mk hc0
 clear hr0 hc0
 have HB := Aside0.mk (Below.refl w.heap.size w)
 have H : (line_joined.l0 k ([] : List Int) l0 (l0.length : Int) 0) = some r := h
 clear h
 have H' := Aside0.mk H
 clear H
 go_enter Try.func74, Try.ntmps74
 go_wp2
 go_loopg [3, 8] k (fun kq v3 v8 w' => ∃ (x3_1 : List Int) (x8_1 : Int), v8 = .int .i64 x8_1 ∧ Aside0 (line_joined.l0 kq x3_1 l0 (l0.length : Int) x8_1 = some r) ∧ Aside0 (kq ≤ k) ∧ Aside0 (Kd.R (Kd.int .i64) 3 w' w.heap.size (fun _ => True) v3 x3_1) ∧ Aside0 (Below w.heap.size w w'))
 case atStart => exact ⟨(([] : List Int)), (0), (by first | rfl | (simp; done) | (simp [*]; done)), H', ⟨Nat.le_refl _⟩, ⟨by first | exact Kd.R_nil _ _ _ _ _ | exact Kd.N_nil _ _ _ _ _ | exact Kd.V_nil _ _ _ _ _ | exact Kd.Q_nil _ _ _ _ _ | exact Kd.S_nil _ _ _ _ _⟩, ⟨zB HB⟩⟩
 case round =>
  clear H'
  obtain ⟨x3_1, x8_1, rfl, HA, HK1, HO_3, HB⟩ := hrel
  cases gk with
  | zero => exact absurd HA.out (by simp [line_joined.l0])
  | succ k1 =>
   have H := HA.out
   clear HA
   simp only [line_joined.l0] at H
   by_cases c2 : x8_1 < (l0.length : Int)
   ·rw [if_pos c2] at H
    have c2b0 : decide (x8_1 < (l0.length : Int)) = true := decide_eq_true c2
    clear c2
    by_cases c3 : 0 ≤ x8_1
    ·rw [if_pos c3] at H
     have c3b0 : decide (0 ≤ x8_1) = true := decide_eq_true c3
     clear c3
     by_cases c4 : x8_1 < (l0.length : Int)
     ·rw [if_pos c4] at H
      have c4b0 : decide (x8_1 < (l0.length : Int)) = true := decide_eq_true c4
      clear c4
      by_cases c5 : x3_1.length + (rd_L1 l0 x8_1).length < 17592186044416
      ·rw [if_pos c5] at H
       have LMc5 := Aside0.mk c5
       clear c5
       obtain ⟨y344, hy344⟩ : ∃ y_ : List Int, y_ = (x3_1 ++ (rd_L1 l0 x8_1)) := ⟨_, rfl⟩
       replace H : (line_joined.l0 k1 y344 l0 (l0.length : Int) (wrap64 (x8_1 + 1))) = some r := by first | (rw [hy344]; with_reducible exact H) | (have H2_ := (Option.bind_some _ _).symm.trans H; rw [hy344]; with_reducible exact H2_) | (have H2_ := (Option.bind_some _ _).symm.trans H; with_reducible exact H2_) | with_reducible exact H | (rw [hy344]; exact H) | exact H
       have Ny344 := Aside0.mk hy344
       clear hy344
       have H' := Aside0.mk H
       clear H
       have p343 : 0 ≤ (x8_1 : Int) := of_decide_eq_true (by first | (with_reducible assumption) | assumption)
       have q343 : x8_1 < (l0.length : Int) := of_decide_eq_true (by first | (with_reducible assumption) | assumption)
       obtain ⟨ad343, A343_0, c343_0, e343, hx343_0, hl343_0, hi343_0⟩ := at_L1 HR0.out x8_1 p343 q343
       cases e343
       replace hx343_0 := (HB.out.cell (World.block_lt_of_cell? w _ hx343_0)).trans hx343_0
       have HR343_0 := Aside0.mk hi343_0
       have HC343_0 := Aside0.mk hl343_0
       clear hi343_0 hl343_0
       replace p343 := eq_true p343
       replace q343 := eq_true q343
       go_wp2_with (first | ((with_reducible refine gate_builtin (b := .append) (xs := #[.tmp 12, .tmp 13]) rfl ?_); at_builtin; refine Kd.R_append_rows (Kd.int .i64) (w0 := w) w.heap.size rfl (.tmp 12) (.tmp 13) 25 3 (.int .i64 0) 8 rfl Try.underlying25 info3 rfl (by decide) (by omega) u3 x3_1 (rd_L1 l0 x8_1) _ _ _ (fun _ => True) (fun _ => False) rfl rfl ?aO ?aR (fun _ _ h => h) (fun _ h => h.elim) ?aF ?aB ?aS ?aL ?_; (case aR => repeat (first | exact (Kd.C_below HR343_0.out HB.out) | (with_reducible refine Kd.C_alloc ?_ _) | (with_reducible refine Kd.C_drewN ?_ _) | (with_reducible refine Kd.C_drew ?_))); (case aB => exact (zB HB)); (case aF => exact (fun _ _ => trivial)); (case aO => exact (zR HO_3)); (case aS => exact (below_size (zB HB))); (case aL => have := LMc5.out; omega); intro v345 w6 ho hb hg hat; rw [← Ny344.out] at ho; have n0_ := Aside0.mk (hb); have n1_ := Aside0.mk (ho); clear HB; clear HO_3; have HB := n0_; have HO346 := n1_; clear n0_ n1_; clear ho hb hg hat))
       go_roundg k1
       case measure => have := HK1.out; omega
       case rel => exact ⟨(y344), (wrap64 (x8_1 + 1)), (by first | rfl | (simp; done) | (simp [*]; done)), H', ⟨by have := HK1.out; omega⟩, ⟨by (with_reducible repeat (first | apply Kd.R_alloc | apply Kd.R_drewN | apply Kd.R_drew)); exact HO346.out⟩, ⟨zB HB⟩⟩
      ·rw [if_neg c5] at H
       exact absurd H (by simp)
     ·rw [if_neg c4] at H
      exact absurd H (by simp)
    ·rw [if_neg c3] at H
     exact absurd H (by simp)
   ·rw [if_neg c2] at H
    have c2b0 : decide (x8_1 < (l0.length : Int)) = false := decide_eq_false c2
    clear c2
    obtain rfl := Option.some.inj H
    go_wp2
    go_ret
    exact ⟨_, by first | rfl | (simp [errW_none, errW_some] <;> rfl) | (simp [*, errW_none, errW_some] <;> rfl), by (with_reducible repeat (first | apply Kd.R_alloc | apply Kd.R_drewN | apply Kd.R_drew)); exact HO_3.out, zB HB⟩

end Go.Proofs.Ytnjnjajgpkmfhaa.PX

namespace Go.Proofs.Ytnjnjajgpkmfhaa.PX
open Go.RowKit Go.Proofs.YtnjnjajgpkmfhaaW.PrintWords Go.Proofs.YtnjnjajgpkmfhaaW.PrintLast Go.Proofs.YtnjnjajgpkmfhaaW.PrintMore
attribute [local go_sem] max2_int min2_int max_two min_two max_three min_three max_four min_four   -- for this text's walks alone
set_option linter.unusedVariables false
set_option linter.unusedSimpArgs false

/-! ### line_Push: function 57 -/
def line_Push.j0 : Nat → List Int → Int → Bool → Bool → Option (List Int × Int)
 | 0, _, _, _, _ => none
 | k + 1, x0, x1, x2, x8 => if x8 = true then (some (([] : List Int), 1)) else ((slices_Contains_int_int.f k x0 x1).bind fun t348 => (if t348 = true then (some (([] : List Int), 7)) else (if (x0.length : Int) = 64 then (some (([] : List Int), 5)) else (if x2 = true then ((line_joined.f k (([(([x1] : List Int)), x0] : List (List Int)))).bind fun t355 => (some (t355, 0))) else ((line_joined.f k (([x0, (([x1] : List Int))] : List (List Int)))).bind fun t364 => (some (t364, 0)))))))
def line_Push.f (k : Nat) (l0 : List Int) (a1 : Int) (a2 : Bool) : Option (List Int × Int) := (line_Right.f l0).bind fun t347 => (if t347 = true then (line_Push.j0 k l0 a1 a2 (decide (a1 < 0))) else (line_Push.j0 k l0 a1 a2 true))
theorem line_Push.mono_l : ∀ k, (∀ y0 y1 y2 y3, LeO (line_Push.j0 k y0 y1 y2 y3) (line_Push.j0 (k + 1) y0 y1 y2 y3))
 | 0 => fun _ _ _ _ r h => by simp [line_Push.j0] at h
 | k + 1 => by
  have ih0 := line_Push.mono_l k
  ·intro y0 y1 y2 y3
   unfold line_Push.j0
   repeat' first
   | (with_reducible exact ih0 _ _ _ _)
   | (with_reducible exact line_joined.mono _ _)
   | (with_reducible exact slices_Contains_int_int.mono _ _ _)
   | (with_reducible exact LeO.refl _)
   | (with_reducible exact LeO.none _)
   | (with_reducible refine LeO.ite ?_ ?_)
   | (with_reducible refine LeO.bind ?_ (fun _ => ?_))
   | exact ih0 _ _ _ _
   | exact line_joined.mono _ _
   | exact slices_Contains_int_int.mono _ _ _
   | exact LeO.none _
   | refine LeO.ite ?_ ?_
   | refine LeO.bind ?_ (fun _ => ?_)
theorem line_Push.mono : ∀ a0 a1 a2 k, LeO (line_Push.f k a0 a1 a2) (line_Push.f (k + 1) a0 a1 a2) := by
 intro a0 a1 a2 k
 have ih0 := line_Push.mono_l k
 unfold line_Push.f
 repeat' first
   | (with_reducible exact ih0 _ _ _ _)
   | (with_reducible exact line_joined.mono _ _)
   | (with_reducible exact slices_Contains_int_int.mono _ _ _)
   | (with_reducible exact LeO.refl _)
   | (with_reducible exact LeO.none _)
   | (with_reducible refine LeO.ite ?_ ?_)
   | (with_reducible refine LeO.bind ?_ (fun _ => ?_))
   | exact ih0 _ _ _ _
   | exact line_joined.mono _ _
   | exact slices_Contains_int_int.mono _ _ _
   | exact LeO.none _
   | refine LeO.ite ?_ ?_
   | refine LeO.bind ?_ (fun _ => ?_)
set_option maxHeartbeats 8000000 in
set_option maxRecDepth 100000 in
theorem line_Push.calls (k : Nat) (P0_ : Nat → Prop) (A0 : Option Addr) (c0 : Nat) (l0 : List Int) (a1 : Int) (a2 : Bool) (r1 : List Int) (r2 : Int) (w : World) (hs0 : Kd.V (Kd.int .i64) 3 w w.heap.size (fun k_ => P0_ k_) (.slice A0 l0.length c0) l0) (h : line_Push.f k l0 a1 a2 = some (r1, r2)) :
  Calls Try.prog 57 #[.slice A0 l0.length c0, .int .i64 a1, .bool a2] w fun e w' => ∃ v0_ : Value, e = .returned (.tuple #[v0_, .int .i64 r2]) ∧ Kd.R (Kd.int .i64) 3 w' w.heap.size (fun k_ => (w.heap.size ≤ k_)) v0_ r1 ∧ Below w.heap.size w w' := by
 have HO0 := Aside0.mk (show Kd.V (Kd.int .i64) 3 w w.heap.size (fun k_ => (P0_ k_ ∨ w.heap.size ≤ k_)) (.slice A0 l0.length c0) l0 from Kd.V_mono hs0 (fun k_ hk => .inl hk))
 have HB := Aside0.mk (Below.refl w.heap.size w)
 have H : ((line_Right.f l0).bind fun t347 => (if t347 = true then (line_Push.j0 k l0 a1 a2 (decide (a1 < 0))) else (line_Push.j0 k l0 a1 a2 true))) = some (r1, r2) := h
 clear h
 have HC4 := Aside0.mk H
 clear H
 go_enter Try.func57, Try.ntmps57
 go_upto_region 1 with (fail)
 go_cut [8] (fun v8 wc => ∃ (kq : Nat) (x8_3 : Bool), v8 = .bool x8_3 ∧ Aside0 (line_Push.j0 kq l0 a1 a2 x8_3 = some (r1, r2)) ∧ Aside0 (kq ≤ k) ∧ Aside0 (Kd.V (Kd.int .i64) 3 wc w.heap.size (fun k_ => (P0_ k_ ∨ w.heap.size ≤ k_)) (.slice A0 l0.length c0) l0) ∧ Aside0 (Below w.heap.size w wc))
 case first =>
  have H := HC4.out
  clear HC4
  replace H := Option.bind_eq_some_iff.mp H
  obtain ⟨t347, A50, H⟩ := H
  replace H : (if t347 = true then (line_Push.j0 k l0 a1 a2 (decide (a1 < 0))) else (line_Push.j0 k l0 a1 a2 true)) = some (r1, r2) := H
  have A5 := Aside0.mk A50
  clear A50
  by_cases c6 : t347 = true
  ·subst c6
   have H1 : (line_Push.j0 k l0 a1 a2 (decide (a1 < 0))) = some (r1, r2) := by rw [if_pos rfl] at H; exact H
   clear H
   have H := H1
   clear H1
   have H' := Aside0.mk H
   clear H
   go_wp2_with (first | ((with_reducible refine gate_callee (f := 61) rfl ?_); refine goesL_ (some 10) rfl rfl Try.func61 (by kernel_rfl) rfl #[.slice A0 l0.length c0] rfl zP ?_; (with_reducible refine (line_Right.calls _ _ l0 true _ ?side1 ?side2 A5.out).mono ?_); (case side1 => repeat (first | exact (Kd.V_reads' HO0.out).2.2 | (with_reducible refine Kd.C_alloc ?_ _) | (with_reducible refine Kd.C_drewN ?_ _) | (with_reducible refine Kd.C_drew ?_))); (case side2 => exact (Kd.V_reads' HO0.out).2.1); rintro e w7 ⟨rfl, hb⟩; refine ⟨_, rfl, ?_⟩; have n0_ := Aside0.mk (Kd.V_below (zV HO0) hb); have n1_ := Aside0.mk (below_step (zB HB) hb); clear HO0; clear HB; have HO0 := n0_; have HB := n1_; clear n0_ n1_; (try clear hb); (try clear hb2); (try clear hk); (try clear hi)))
   go_meet
   case rel => exact ⟨_, (decide (a1 < 0)), (by first | rfl | (simp; done) | (simp [*]; done)), H', ⟨by first | omega | exact Nat.le_refl _⟩, ⟨by (with_reducible repeat (first | apply Kd.V_alloc | apply Kd.V_drewN | apply Kd.V_drew)); exact HO0.out⟩, ⟨zB HB⟩⟩
  ·replace c6 := Bool.eq_false_iff.mpr c6
   subst c6
   have H1 : (line_Push.j0 k l0 a1 a2 true) = some (r1, r2) := by rw [if_neg (show ¬ (false = true) by decide)] at H; exact H
   clear H
   have H := H1
   clear H1
   have H' := Aside0.mk H
   clear H
   go_wp2_with (first | ((with_reducible refine gate_callee (f := 61) rfl ?_); refine goesL_ (some 10) rfl rfl Try.func61 (by kernel_rfl) rfl #[.slice A0 l0.length c0] rfl zP ?_; (with_reducible refine (line_Right.calls _ _ l0 false _ ?side1 ?side2 A5.out).mono ?_); (case side1 => repeat (first | exact (Kd.V_reads' HO0.out).2.2 | (with_reducible refine Kd.C_alloc ?_ _) | (with_reducible refine Kd.C_drewN ?_ _) | (with_reducible refine Kd.C_drew ?_))); (case side2 => exact (Kd.V_reads' HO0.out).2.1); rintro e w8 ⟨rfl, hb⟩; refine ⟨_, rfl, ?_⟩; have n0_ := Aside0.mk (Kd.V_below (zV HO0) hb); have n1_ := Aside0.mk (below_step (zB HB) hb); clear HO0; clear HB; have HO0 := n0_; have HB := n1_; clear n0_ n1_; (try clear hb); (try clear hb2); (try clear hk); (try clear hi)))
   go_meet
   case rel => exact ⟨_, (true), (by first | rfl | (simp; done) | (simp [*]; done)), H', ⟨by first | omega | exact Nat.le_refl _⟩, ⟨by (with_reducible repeat (first | apply Kd.V_alloc | apply Kd.V_drewN | apply Kd.V_drew)); exact HO0.out⟩, ⟨zB HB⟩⟩
 case rest =>
  clear HC4
  try clear p2
  try clear c5
  try clear c6
  obtain ⟨kq, x8_3, rfl, HA, HJ3, HO_0, HB⟩ := hcut
  cases kq with
  | zero => exact absurd HA.out (by simp [line_Push.j0])
  | succ kj3 =>
   have H := HA.out
   clear HA
   simp only [line_Push.j0] at H
   by_cases c9 : x8_3 = true
   ·subst c9
    have H1 : (some (([] : List Int), 1)) = some (r1, r2) := by rw [if_pos rfl] at H; exact H
    clear H
    have H := H1
    clear H1
    simp only [Option.some.injEq, Prod.mk.injEq] at H
    obtain ⟨rfl, rfl⟩ := H
    go_wp2
    go_ret2
    exact ⟨_, by first | rfl | (simp [errW_none, errW_some] <;> rfl) | (simp [*, errW_none, errW_some] <;> rfl), by first | exact Kd.R_nil _ _ _ _ _ | exact Kd.N_nil _ _ _ _ _ | exact Kd.V_nil _ _ _ _ _ | exact Kd.Q_nil _ _ _ _ _ | exact Kd.S_nil _ _ _ _ _, zB HB⟩
   ·replace c9 := Bool.eq_false_iff.mpr c9
    subst c9
    have H1 : ((slices_Contains_int_int.f kj3 l0 a1).bind fun t348 => (if t348 = true then (some (([] : List Int), 7)) else (if (l0.length : Int) = 64 then (some (([] : List Int), 5)) else (if a2 = true then ((line_joined.f kj3 (([(([a1] : List Int)), l0] : List (List Int)))).bind fun t355 => (some (t355, 0))) else ((line_joined.f kj3 (([l0, (([a1] : List Int))] : List (List Int)))).bind fun t364 => (some (t364, 0))))))) = some (r1, r2) := by rw [if_neg (show ¬ (false = true) by decide)] at H; exact H
    clear H
    have H := H1
    clear H1
    replace H := Option.bind_eq_some_iff.mp H
    obtain ⟨t348, A100, H⟩ := H
    replace H : (if t348 = true then (some (([] : List Int), 7)) else (if (l0.length : Int) = 64 then (some (([] : List Int), 5)) else (if a2 = true then ((line_joined.f kj3 (([(([a1] : List Int)), l0] : List (List Int)))).bind fun t355 => (some (t355, 0))) else ((line_joined.f kj3 (([l0, (([a1] : List Int))] : List (List Int)))).bind fun t364 => (some (t364, 0)))))) = some (r1, r2) := H
    have A10 := Aside0.mk A100
    clear A100
    by_cases c11 : t348 = true
    ·subst c11
     have H1 : (some (([] : List Int), 7)) = some (r1, r2) := by rw [if_pos rfl] at H; exact H
     clear H
     have H := H1
     clear H1
     simp only [Option.some.injEq, Prod.mk.injEq] at H
     obtain ⟨rfl, rfl⟩ := H
     go_wp2_with (first | ((with_reducible refine gate_callee (f := 56) rfl ?_); refine goesL_ (some 19) rfl rfl Try.func56 (by kernel_rfl) rfl #[.slice A0 l0.length c0, .int .i64 a1] rfl zP ?_; (with_reducible refine (slices_Contains_int_int.calls kj3 _ _ l0 a1 true _ ?side1 ?side2 A10.out).mono ?_); (case side1 => repeat (first | exact (Kd.V_reads' HO_0.out).2.2 | (with_reducible refine Kd.C_alloc ?_ _) | (with_reducible refine Kd.C_drewN ?_ _) | (with_reducible refine Kd.C_drew ?_))); (case side2 => exact (Kd.V_reads' HO_0.out).2.1); rintro e w' ⟨rfl, ⟨nd, rfl⟩⟩; refine ⟨_, rfl, ?_⟩))
     go_ret2
     exact ⟨_, by first | rfl | (simp [errW_none, errW_some] <;> rfl) | (simp [*, errW_none, errW_some] <;> rfl), by first | exact Kd.R_nil _ _ _ _ _ | exact Kd.N_nil _ _ _ _ _ | exact Kd.V_nil _ _ _ _ _ | exact Kd.Q_nil _ _ _ _ _ | exact Kd.S_nil _ _ _ _ _, zB HB⟩
    ·replace c11 := Bool.eq_false_iff.mpr c11
     subst c11
     have H1 : (if (l0.length : Int) = 64 then (some (([] : List Int), 5)) else (if a2 = true then ((line_joined.f kj3 (([(([a1] : List Int)), l0] : List (List Int)))).bind fun t355 => (some (t355, 0))) else ((line_joined.f kj3 (([l0, (([a1] : List Int))] : List (List Int)))).bind fun t364 => (some (t364, 0))))) = some (r1, r2) := by rw [if_neg (show ¬ (false = true) by decide)] at H; exact H
     clear H
     have H := H1
     clear H1
     by_cases c12 : (l0.length : Int) = 64
     ·rw [if_pos c12] at H
      have c12b0 : ((l0.length : Int) == 64) = true := beq_iff_eq.mpr c12
      have c12b1 : ((l0.length : Int) != 64) = false := bne_eq_false_iff_eq.mpr c12
      clear c12
      simp only [Option.some.injEq, Prod.mk.injEq] at H
      obtain ⟨rfl, rfl⟩ := H
      go_wp2_with (first | ((with_reducible refine gate_callee (f := 56) rfl ?_); refine goesL_ (some 19) rfl rfl Try.func56 (by kernel_rfl) rfl #[.slice A0 l0.length c0, .int .i64 a1] rfl zP ?_; (with_reducible refine (slices_Contains_int_int.calls kj3 _ _ l0 a1 false _ ?side1 ?side2 A10.out).mono ?_); (case side1 => repeat (first | exact (Kd.V_reads' HO_0.out).2.2 | (with_reducible refine Kd.C_alloc ?_ _) | (with_reducible refine Kd.C_drewN ?_ _) | (with_reducible refine Kd.C_drew ?_))); (case side2 => exact (Kd.V_reads' HO_0.out).2.1); rintro e w' ⟨rfl, ⟨nd, rfl⟩⟩; refine ⟨_, rfl, ?_⟩))
      go_ret2
      exact ⟨_, by first | rfl | (simp [errW_none, errW_some] <;> rfl) | (simp [*, errW_none, errW_some] <;> rfl), by first | exact Kd.R_nil _ _ _ _ _ | exact Kd.N_nil _ _ _ _ _ | exact Kd.V_nil _ _ _ _ _ | exact Kd.Q_nil _ _ _ _ _ | exact Kd.S_nil _ _ _ _ _, zB HB⟩
     ·rw [if_neg c12] at H
      have c12b0 : ((l0.length : Int) == 64) = false := beq_eq_false_iff_ne.mpr c12
      have c12b1 : ((l0.length : Int) != 64) = true := bne_iff_ne.mpr c12
      by_cases c13 : a2 = true
      ·subst c13
       have H1 : ((line_joined.f kj3 (([(([a1] : List Int)), l0] : List (List Int)))).bind fun t355 => (some (t355, 0))) = some (r1, r2) := by rw [if_pos rfl] at H; exact H
       clear H
       have H := H1
       clear H1
       obtain ⟨y349, hy349⟩ : ∃ y_ : List Int, y_ = (([a1] : List Int)) := ⟨_, rfl⟩
       replace H : ((line_joined.f kj3 (([y349, l0] : List (List Int)))).bind fun t355 => (some (t355, 0))) = some (r1, r2) := by first | (rw [hy349]; with_reducible exact H) | (have H2_ := (Option.bind_some _ _).symm.trans H; rw [hy349]; with_reducible exact H2_) | (have H2_ := (Option.bind_some _ _).symm.trans H; with_reducible exact H2_) | with_reducible exact H | (rw [hy349]; exact H) | exact H
       have Ny349 := Aside0.mk hy349
       clear hy349
       obtain ⟨y352, hy352⟩ : ∃ y_ : List (List Int), y_ = (([y349, l0] : List (List Int))) := ⟨_, rfl⟩
       replace H : ((line_joined.f kj3 y352).bind fun t355 => (some (t355, 0))) = some (r1, r2) := by first | (rw [hy352]; with_reducible exact H) | (have H2_ := (Option.bind_some _ _).symm.trans H; rw [hy352]; with_reducible exact H2_) | (have H2_ := (Option.bind_some _ _).symm.trans H; with_reducible exact H2_) | with_reducible exact H | (rw [hy352]; exact H) | exact H
       have Ny352 := Aside0.mk hy352
       clear hy352
       replace H := Option.bind_eq_some_iff.mp H
       obtain ⟨t355, A140, H⟩ := H
       replace H : (some (t355, 0)) = some (r1, r2) := H
       have A14 := Aside0.mk A140
       clear A140
       simp only [Option.some.injEq, Prod.mk.injEq] at H
       obtain ⟨rfl, rfl⟩ := H
       go_wp2_with (first | ((with_reducible refine gate_callee (f := 56) rfl ?_); refine goesL_ (some 19) rfl rfl Try.func56 (by kernel_rfl) rfl #[.slice A0 l0.length c0, .int .i64 a1] rfl zP ?_; (with_reducible refine (slices_Contains_int_int.calls kj3 _ _ l0 a1 false _ ?side1 ?side2 A10.out).mono ?_); (case side1 => repeat (first | exact (Kd.V_reads' HO_0.out).2.2 | (with_reducible refine Kd.C_alloc ?_ _) | (with_reducible refine Kd.C_drewN ?_ _) | (with_reducible refine Kd.C_drew ?_))); (case side2 => exact (Kd.V_reads' HO_0.out).2.1); rintro e w' ⟨rfl, ⟨nd, rfl⟩⟩; refine ⟨_, rfl, ?_⟩) | ((with_reducible refine gate_dst (N := 27) rfl ?_); refine Kd.R_lit (Kd.int .i64) _ 3 ?hg (N := 27) ?hd (xs := ([a1] : List Int)) (inner := [.int .i64 a1]) (ok := fun _ => True) (okp := fun _ => True) ?hr ?hp (fun _ hk => hk) trivial (Below.refl _ _) (Nat.le_refl _) (by simp) ?_; (case hd => rfl); (case hg => rfl); (case hr => first | (go_simp; done) | (go_simp; rfl)); (case hp => exact (Reps.one (show Kd.M (Kd.int .i64) _ _ _ a1 [.int .i64 a1] from rfl) (Reps.none _ _))); intro v350 w15 ho16 hb hg_ hnew_; clear hg_ hnew_; (first | rw [← Ny349.out] at ho16 | (simp only [Int.reduceToNat] at ho16; rw [← Ny349.out] at ho16)); have n0_ := Aside0.mk (Kd.V_elder' (zV HO_0) (Kd.R_base ho16) hb); have n1_ := Aside0.mk (Kd.R_lower (Kd.R_newM (M := fun k_ => (w.heap.size ≤ k_)) ho16 (below_size (zB HB)) (fun k_ h_ => h_)) (below_size (zB HB))); have n2_ := Aside0.mk (below_step (zB HB) hb); clear HO_0; clear HB; have HO_0 := n0_; have HO351 := n1_; have HB := n2_; clear n0_ n1_ n2_; clear hb ho16; obtain ⟨Ao17, co17, eo17⟩ := Kd.R_slice HO351.out; subst eo17) | ((with_reducible refine gate_dst (N := 29) rfl ?_); refine Kd.N_lit (Kd.slice 3 (Kd.int .i64)) _ 25 ?hg (N' := 29) ?hd (xs := ([y349, l0] : List (List Int))) (inner := [.slice Ao17 y349.length co17, .slice A0 l0.length c0]) (ok := (fun k_ => (P0_ k_ ∨ w.heap.size ≤ k_))) (okp := (fun k_ => (P0_ k_ ∨ w.heap.size ≤ k_))) ?hr ?hp (fun _ hk => hk) ((show ∀ k_, w15.heap.size ≤ k_ → (fun k_ => (P0_ k_ ∨ w.heap.size ≤ k_)) k_ from fun k_ hk => (.inr (Nat.le_trans (below_size (zB HB)) hk))) _ (Nat.le_refl _)) (Below.refl _ _) (Nat.le_refl _) (by simp) ?_; (case hd => rfl); (case hg => rfl); (case hr => first | (go_simp; done) | (go_simp; rfl)); (case hp => exact (Reps.one (show Kd.FK (Kd.slice 3 (Kd.int .i64)) _ _ y349 [.slice Ao17 y349.length co17] from (Kd.FK_slice_mk (Kd.R_reads' (Kd.R_mono (ok' := (fun k_ => (P0_ k_ ∨ w.heap.size ≤ k_))) (HO351.out) (fun k_ hk => (.inr (hk.1))))).2.1 (Kd.R_F (Kd.R_mono (ok' := (fun k_ => (P0_ k_ ∨ w.heap.size ≤ k_))) (HO351.out) (fun k_ hk => (.inr (hk.1))))))) (Reps.one (show Kd.FK (Kd.slice 3 (Kd.int .i64)) _ _ l0 [.slice A0 l0.length c0] from (Kd.FK_slice_mk (Kd.V_reads' (Kd.V_mono (ok' := (fun k_ => (P0_ k_ ∨ w.heap.size ≤ k_))) (HO_0.out) (fun k_ hk => hk.1))).2.1 (Kd.V_F (Kd.V_mono (ok' := (fun k_ => (P0_ k_ ∨ w.heap.size ≤ k_))) (HO_0.out) (fun k_ hk => hk.1))))) (Reps.none _ _)))); intro v353 w18 ho19 hb hg_ hnew_; clear hg_ hnew_; (first | rw [← Ny352.out] at ho19 | (simp only [Int.reduceToNat] at ho19; rw [← Ny352.out] at ho19)); have n0_ := Aside0.mk (Kd.V_elder' (zV HO_0) (Kd.N_base ho19) hb); have n1_ := Aside0.mk (Kd.N_lower ho19 (below_size (zB HB))); have n2_ := Aside0.mk (below_step (zB HB) hb); clear HO_0; clear HB; clear HO351; have HO_0 := n0_; have HO354 := n1_; have HB := n2_; clear n0_ n1_ n2_; clear hb ho19; obtain ⟨Ao20, co20, eo20⟩ := Kd.N_slice HO354.out; subst eo20) | ((with_reducible refine gate_callee (f := 74) rfl ?_); refine goesL_ (some 30) rfl rfl Try.func74 (by kernel_rfl) rfl #[.slice Ao20 y352.length co20] rfl zP ?_; (with_reducible refine (line_joined.calls kj3 _ _ y352 t355 _ ?side1 ?side2 A14.out).mono ?_); (case side1 => repeat (first | exact (Kd.N_reads' HO354.out).2.2 | (with_reducible refine Kd.C_alloc ?_ _) | (with_reducible refine Kd.C_drewN ?_ _) | (with_reducible refine Kd.C_drew ?_))); (case side2 => exact (Kd.N_reads' HO354.out).2.1); rintro e w21 ⟨v356, rfl, ho0, hb⟩; refine ⟨_, rfl, ?_⟩; have n0_ := Aside0.mk (Kd.V_elder' (zV HO_0) (Kd.R_base ho0) hb); have n1_ := Aside0.mk (Kd.N_elder' (zN HO354) (Kd.R_base ho0) hb); have n2_ := Aside0.mk (Kd.R_lower (Kd.R_newM (M := fun k_ => (w.heap.size ≤ k_)) ho0 (below_size (zB HB)) (fun k_ h_ => h_)) (below_size (zB HB))); have n3_ := Aside0.mk (below_step (zB HB) hb); clear HO_0; clear HO354; clear HB; have HO_0 := n0_; have HO354 := n1_; have HO357 := n2_; have HB := n3_; clear n0_ n1_ n2_ n3_; (try clear hb); (try clear hb2); (try clear hk); (try clear hi); (try clear ho0)))
       go_ret2
       exact ⟨_, by first | rfl | (simp [errW_none, errW_some] <;> rfl) | (simp [*, errW_none, errW_some] <;> rfl), by (with_reducible repeat (first | apply Kd.R_alloc | apply Kd.R_drewN | apply Kd.R_drew)); exact Kd.R_mono HO357.out (fun _ hk => hk.1), zB HB⟩
      ·replace c13 := Bool.eq_false_iff.mpr c13
       subst c13
       have H1 : ((line_joined.f kj3 (([l0, (([a1] : List Int))] : List (List Int)))).bind fun t364 => (some (t364, 0))) = some (r1, r2) := by rw [if_neg (show ¬ (false = true) by decide)] at H; exact H
       clear H
       have H := H1
       clear H1
       obtain ⟨y358, hy358⟩ : ∃ y_ : List Int, y_ = (([a1] : List Int)) := ⟨_, rfl⟩
       replace H : ((line_joined.f kj3 (([l0, y358] : List (List Int)))).bind fun t364 => (some (t364, 0))) = some (r1, r2) := by first | (rw [hy358]; with_reducible exact H) | (have H2_ := (Option.bind_some _ _).symm.trans H; rw [hy358]; with_reducible exact H2_) | (have H2_ := (Option.bind_some _ _).symm.trans H; with_reducible exact H2_) | with_reducible exact H | (rw [hy358]; exact H) | exact H
       have Ny358 := Aside0.mk hy358
       clear hy358
       obtain ⟨y361, hy361⟩ : ∃ y_ : List (List Int), y_ = (([l0, y358] : List (List Int))) := ⟨_, rfl⟩
       replace H : ((line_joined.f kj3 y361).bind fun t364 => (some (t364, 0))) = some (r1, r2) := by first | (rw [hy361]; with_reducible exact H) | (have H2_ := (Option.bind_some _ _).symm.trans H; rw [hy361]; with_reducible exact H2_) | (have H2_ := (Option.bind_some _ _).symm.trans H; with_reducible exact H2_) | with_reducible exact H | (rw [hy361]; exact H) | exact H
       have Ny361 := Aside0.mk hy361
       clear hy361
       replace H := Option.bind_eq_some_iff.mp H
       obtain ⟨t364, A220, H⟩ := H
       replace H : (some (t364, 0)) = some (r1, r2) := H
       have A22 := Aside0.mk A220
       clear A220
       simp only [Option.some.injEq, Prod.mk.injEq] at H
       obtain ⟨rfl, rfl⟩ := H
       go_wp2_with (first | ((with_reducible refine gate_callee (f := 56) rfl ?_); refine goesL_ (some 19) rfl rfl Try.func56 (by kernel_rfl) rfl #[.slice A0 l0.length c0, .int .i64 a1] rfl zP ?_; (with_reducible refine (slices_Contains_int_int.calls kj3 _ _ l0 a1 false _ ?side1 ?side2 A10.out).mono ?_); (case side1 => repeat (first | exact (Kd.V_reads' HO_0.out).2.2 | (with_reducible refine Kd.C_alloc ?_ _) | (with_reducible refine Kd.C_drewN ?_ _) | (with_reducible refine Kd.C_drew ?_))); (case side2 => exact (Kd.V_reads' HO_0.out).2.1); rintro e w' ⟨rfl, ⟨nd, rfl⟩⟩; refine ⟨_, rfl, ?_⟩) | ((with_reducible refine gate_dst (N := 33) rfl ?_); refine Kd.R_lit (Kd.int .i64) _ 3 ?hg (N := 33) ?hd (xs := ([a1] : List Int)) (inner := [.int .i64 a1]) (ok := fun _ => True) (okp := fun _ => True) ?hr ?hp (fun _ hk => hk) trivial (Below.refl _ _) (Nat.le_refl _) (by simp) ?_; (case hd => rfl); (case hg => rfl); (case hr => first | (go_simp; done) | (go_simp; rfl)); (case hp => exact (Reps.one (show Kd.M (Kd.int .i64) _ _ _ a1 [.int .i64 a1] from rfl) (Reps.none _ _))); intro v359 w23 ho24 hb hg_ hnew_; clear hg_ hnew_; (first | rw [← Ny358.out] at ho24 | (simp only [Int.reduceToNat] at ho24; rw [← Ny358.out] at ho24)); have n0_ := Aside0.mk (Kd.V_elder' (zV HO_0) (Kd.R_base ho24) hb); have n1_ := Aside0.mk (Kd.R_lower (Kd.R_newM (M := fun k_ => (w.heap.size ≤ k_)) ho24 (below_size (zB HB)) (fun k_ h_ => h_)) (below_size (zB HB))); have n2_ := Aside0.mk (below_step (zB HB) hb); clear HO_0; clear HB; have HO_0 := n0_; have HO360 := n1_; have HB := n2_; clear n0_ n1_ n2_; clear hb ho24; obtain ⟨Ao25, co25, eo25⟩ := Kd.R_slice HO360.out; subst eo25) | ((with_reducible refine gate_dst (N := 34) rfl ?_); refine Kd.N_lit (Kd.slice 3 (Kd.int .i64)) _ 25 ?hg (N' := 34) ?hd (xs := ([l0, y358] : List (List Int))) (inner := [.slice A0 l0.length c0, .slice Ao25 y358.length co25]) (ok := (fun k_ => (P0_ k_ ∨ w.heap.size ≤ k_))) (okp := (fun k_ => (P0_ k_ ∨ w.heap.size ≤ k_))) ?hr ?hp (fun _ hk => hk) ((show ∀ k_, w23.heap.size ≤ k_ → (fun k_ => (P0_ k_ ∨ w.heap.size ≤ k_)) k_ from fun k_ hk => (.inr (Nat.le_trans (below_size (zB HB)) hk))) _ (Nat.le_refl _)) (Below.refl _ _) (Nat.le_refl _) (by simp) ?_; (case hd => rfl); (case hg => rfl); (case hr => first | (go_simp; done) | (go_simp; rfl)); (case hp => exact (Reps.one (show Kd.FK (Kd.slice 3 (Kd.int .i64)) _ _ l0 [.slice A0 l0.length c0] from (Kd.FK_slice_mk (Kd.V_reads' (Kd.V_mono (ok' := (fun k_ => (P0_ k_ ∨ w.heap.size ≤ k_))) (HO_0.out) (fun k_ hk => hk.1))).2.1 (Kd.V_F (Kd.V_mono (ok' := (fun k_ => (P0_ k_ ∨ w.heap.size ≤ k_))) (HO_0.out) (fun k_ hk => hk.1))))) (Reps.one (show Kd.FK (Kd.slice 3 (Kd.int .i64)) _ _ y358 [.slice Ao25 y358.length co25] from (Kd.FK_slice_mk (Kd.R_reads' (Kd.R_mono (ok' := (fun k_ => (P0_ k_ ∨ w.heap.size ≤ k_))) (HO360.out) (fun k_ hk => (.inr (hk.1))))).2.1 (Kd.R_F (Kd.R_mono (ok' := (fun k_ => (P0_ k_ ∨ w.heap.size ≤ k_))) (HO360.out) (fun k_ hk => (.inr (hk.1))))))) (Reps.none _ _)))); intro v362 w26 ho27 hb hg_ hnew_; clear hg_ hnew_; (first | rw [← Ny361.out] at ho27 | (simp only [Int.reduceToNat] at ho27; rw [← Ny361.out] at ho27)); have n0_ := Aside0.mk (Kd.V_elder' (zV HO_0) (Kd.N_base ho27) hb); have n1_ := Aside0.mk (Kd.N_lower ho27 (below_size (zB HB))); have n2_ := Aside0.mk (below_step (zB HB) hb); clear HO_0; clear HB; clear HO360; have HO_0 := n0_; have HO363 := n1_; have HB := n2_; clear n0_ n1_ n2_; clear hb ho27; obtain ⟨Ao28, co28, eo28⟩ := Kd.N_slice HO363.out; subst eo28) | ((with_reducible refine gate_callee (f := 74) rfl ?_); refine goesL_ (some 35) rfl rfl Try.func74 (by kernel_rfl) rfl #[.slice Ao28 y361.length co28] rfl zP ?_; (with_reducible refine (line_joined.calls kj3 _ _ y361 t364 _ ?side1 ?side2 A22.out).mono ?_); (case side1 => repeat (first | exact (Kd.N_reads' HO363.out).2.2 | (with_reducible refine Kd.C_alloc ?_ _) | (with_reducible refine Kd.C_drewN ?_ _) | (with_reducible refine Kd.C_drew ?_))); (case side2 => exact (Kd.N_reads' HO363.out).2.1); rintro e w29 ⟨v365, rfl, ho0, hb⟩; refine ⟨_, rfl, ?_⟩; have n0_ := Aside0.mk (Kd.V_elder' (zV HO_0) (Kd.R_base ho0) hb); have n1_ := Aside0.mk (Kd.N_elder' (zN HO363) (Kd.R_base ho0) hb); have n2_ := Aside0.mk (Kd.R_lower (Kd.R_newM (M := fun k_ => (w.heap.size ≤ k_)) ho0 (below_size (zB HB)) (fun k_ h_ => h_)) (below_size (zB HB))); have n3_ := Aside0.mk (below_step (zB HB) hb); clear HO_0; clear HO363; clear HB; have HO_0 := n0_; have HO363 := n1_; have HO366 := n2_; have HB := n3_; clear n0_ n1_ n2_ n3_; (try clear hb); (try clear hb2); (try clear hk); (try clear hi); (try clear ho0)))
       go_ret2
       exact ⟨_, by first | rfl | (simp [errW_none, errW_some] <;> rfl) | (simp [*, errW_none, errW_some] <;> rfl), by (with_reducible repeat (first | apply Kd.R_alloc | apply Kd.R_drewN | apply Kd.R_drew)); exact Kd.R_mono HO366.out (fun _ hk => hk.1), zB HB⟩

end Go.Proofs.Ytnjnjajgpkmfhaa.PX

namespace Go.Proofs.Ytnjnjajgpkmfhaa.PX
open Go.RowKit Go.Proofs.YtnjnjajgpkmfhaaW.PrintWords Go.Proofs.YtnjnjajgpkmfhaaW.PrintLast Go.Proofs.YtnjnjajgpkmfhaaW.PrintMore
attribute [local go_sem] max2_int min2_int max_two min_two max_three min_three max_four min_four   -- for this text's walks alone
set_option linter.unusedVariables false
set_option linter.unusedSimpArgs false

/-! ### sema_Acquire: function 30 -/
def sema_Acquire.j0 : Nat → List (S33) → Int → Bool → Bool → Int → Int → List Int → Option ((List (S33)) × Bool × Int)
 | 0, _, _, _, _, _, _, _ => none
 | k + 1, x0, x2, x3, x25, x374000, x374001, x374002 => if x25 = true then (some (([] : List (S33)), false, 1)) else ((slices_Contains_int_int.f k x374002 x2).bind fun t374 => (if t374 = true then (some (([] : List (S33)), false, 7)) else (if x374001 > 0 then ((root_Set.f x0 x374000 (wrap64 (x374001 - 1)) x374002).bind fun bt375 => (if bt375.2 = 0 then (some (bt375.1, decide (x374001 > 0), 0)) else (some (([] : List (S33)), false, bt375.2)))) else ((line_Push.f k x374002 x2 x3).bind fun bt379 => (if bt379.2 = 0 then ((root_Set.f x0 x374000 x374001 bt379.1).bind fun bt383 => (if bt383.2 = 0 then (some (bt383.1, decide (x374001 > 0), 0)) else (some (([] : List (S33)), false, bt383.2)))) else (some (([] : List (S33)), false, bt379.2)))))))
def sema_Acquire.f (k : Nat) (l0 : List (S33)) (a1 : Int) (a2 : Int) (a3 : Bool) : Option ((List (S33)) × Bool × Int) := (root_Get.f l0 a1).bind fun bt367 => (if bt367.2.2.2 = 0 then (sema_Acquire.j0 k l0 a2 a3 (decide (a2 < 0)) bt367.1 bt367.2.1 bt367.2.2.1) else (sema_Acquire.j0 k l0 a2 a3 true bt367.1 bt367.2.1 bt367.2.2.1))
theorem sema_Acquire.mono_l : ∀ k, (∀ y0 y1 y2 y3 y4 y5 y6, LeO (sema_Acquire.j0 k y0 y1 y2 y3 y4 y5 y6) (sema_Acquire.j0 (k + 1) y0 y1 y2 y3 y4 y5 y6))
 | 0 => fun _ _ _ _ _ _ _ r h => by simp [sema_Acquire.j0] at h
 | k + 1 => by
  have ih0 := sema_Acquire.mono_l k
  ·intro y0 y1 y2 y3 y4 y5 y6
   unfold sema_Acquire.j0
   repeat' first
   | (with_reducible exact ih0 _ _ _ _ _ _ _)
   | (with_reducible exact line_Push.mono _ _ _ _)
   | (with_reducible exact slices_Contains_int_int.mono _ _ _)
   | (with_reducible exact LeO.refl _)
   | (with_reducible exact LeO.none _)
   | (with_reducible refine LeO.ite ?_ ?_)
   | (with_reducible refine LeO.bind ?_ (fun _ => ?_))
   | exact ih0 _ _ _ _ _ _ _
   | exact line_Push.mono _ _ _ _
   | exact slices_Contains_int_int.mono _ _ _
   | exact LeO.none _
   | refine LeO.ite ?_ ?_
   | refine LeO.bind ?_ (fun _ => ?_)
theorem sema_Acquire.mono : ∀ a0 a1 a2 a3 k, LeO (sema_Acquire.f k a0 a1 a2 a3) (sema_Acquire.f (k + 1) a0 a1 a2 a3) := by
 intro a0 a1 a2 a3 k
 have ih0 := sema_Acquire.mono_l k
 unfold sema_Acquire.f
 repeat' first
   | (with_reducible exact ih0 _ _ _ _ _ _ _)
   | (with_reducible exact line_Push.mono _ _ _ _)
   | (with_reducible exact slices_Contains_int_int.mono _ _ _)
   | (with_reducible exact LeO.refl _)
   | (with_reducible exact LeO.none _)
   | (with_reducible refine LeO.ite ?_ ?_)
   | (with_reducible refine LeO.bind ?_ (fun _ => ?_))
   | exact ih0 _ _ _ _ _ _ _
   | exact line_Push.mono _ _ _ _
   | exact slices_Contains_int_int.mono _ _ _
   | exact LeO.none _
   | refine LeO.ite ?_ ?_
   | refine LeO.bind ?_ (fun _ => ?_)
set_option maxHeartbeats 8000000 in
set_option maxRecDepth 100000 in
theorem sema_Acquire.calls (k : Nat) (P0_ : Nat → Prop) (A0 : Option Addr) (c0 : Nat) (l0 : List (S33)) (a1 : Int) (a2 : Int) (a3 : Bool) (r1 : List (S33)) (r2 : Bool) (r3 : Int) (w : World) (hs0 : Kd.V k33 33 w w.heap.size (fun k_ => P0_ k_) (.slice A0 l0.length c0) l0) (h : sema_Acquire.f k l0 a1 a2 a3 = some (r1, r2, r3)) :
  Calls Try.prog 30 #[.slice A0 l0.length c0, .int .i64 a1, .int .i64 a2, .bool a3] w fun e w' => ∃ v0_ : Value, e = .returned (.tuple #[v0_, .bool r2, .int .i64 r3]) ∧ Kd.V k33 33 w' w.heap.size (fun k_ => (P0_ k_ ∨ w.heap.size ≤ k_)) v0_ r1 ∧ Below w.heap.size w w' := by
 have hu33 := Try.underlying33
 have HO0 := Aside0.mk (show Kd.V k33 33 w w.heap.size (fun k_ => (P0_ k_ ∨ w.heap.size ≤ k_)) (.slice A0 l0.length c0) l0 from Kd.V_mono hs0 (fun k_ hk => .inl hk))
 have HB := Aside0.mk (Below.refl w.heap.size w)
 have H : ((root_Get.f l0 a1).bind fun bt367 => (if bt367.2.2.2 = 0 then (sema_Acquire.j0 k l0 a2 a3 (decide (a2 < 0)) bt367.1 bt367.2.1 bt367.2.2.1) else (sema_Acquire.j0 k l0 a2 a3 true bt367.1 bt367.2.1 bt367.2.2.1))) = some (r1, r2, r3) := h
 clear h
 replace H := Option.bind_eq_some_iff.mp H
 obtain ⟨⟨t367, t368, t369, t372⟩, A50, H⟩ := H
 replace H : (if t372 = 0 then (sema_Acquire.j0 k l0 a2 a3 (decide (a2 < 0)) t367 t368 t369) else (sema_Acquire.j0 k l0 a2 a3 true t367 t368 t369)) = some (r1, r2, r3) := H
 have A5 := Aside0.mk A50
 clear A50
 have HC6 := Aside0.mk H
 clear H
 go_enter Try.func30, Try.ntmps30
 go_upto_region 2 with (first | ((with_reducible refine gate_callee (f := 16) rfl ?_); refine goesL_ (some 17) rfl rfl Try.func16 (by kernel_rfl) rfl #[.slice A0 l0.length c0, .int .i64 a1] rfl zP ?_; (with_reducible refine (root_Get.calls (fun k_ => (P0_ k_ ∨ w.heap.size ≤ k_)) _ _ l0 a1 t367 t368 t369 t372 _ ?side1 A5.out).mono ?_); (case side1 => exact HO0.out); rintro e w7 ⟨v370, rfl, ho0, hb⟩; refine ⟨_, rfl, ?_⟩; have n0_ := Aside0.mk (Kd.V_below (zV HO0) hb); have n1_ := Aside0.mk (Kd.V_lower (Kd.V_mono (ok' := fun k_ => (P0_ k_ ∨ w.heap.size ≤ k_)) ho0 (fun k_ hk_ => Or.elim hk_ (fun hs_ => hs_) (fun hn_ => (.inr (Nat.le_trans (below_size (zB HB)) hn_))))) (below_size (zB HB))); have n2_ := Aside0.mk (below_step (zB HB) hb); clear HO0; clear HB; have HO0 := n0_; have HO371 := n1_; have HB := n2_; clear n0_ n1_ n2_; (try clear hb); (try clear hb2); (try clear hk); (try clear hi); (try clear ho0)) | ((with_reducible refine gate_dst (N := 11) rfl ?_); refine box_event ?hg (N := 11) ?hd (cs := #[.int .i64 0, .int .i64 0, .slice none 0 0]) (t := 33) ?hr ?_; (case hd => rfl); (case hg => rfl); (case hr => first | (go_simp; done) | (go_simp; rfl)); intro gb373 hg w8 hbox hb; have n0_ := Aside0.mk (Kd.V_below (Kd.V_elderB (zV HO0) gb373 (Nat.le_of_eq hg.symm)) hb); have n1_ := Aside0.mk (Kd.V_below (Kd.V_elderB (zV HO371) gb373 (Nat.le_of_eq hg.symm)) hb); have n2_ := Aside0.mk (below_step (zB HB) hb); have n3_ := Aside0.mk (hbox); have n4_ := Aside0.mk ((by rw [hg]; exact (below_size (zB HB)) : w.heap.size ≤ gb373)); have n5_ := Aside0.mk ((by rw [hg]; exact (below_size (zB HB)) : w.heap.size ≤ gb373)); clear HO0; clear HO371; clear HB; have HO0 := n0_; have HO371 := n1_; have HB := n2_; have BK373 := n3_; have GW373 := n4_; have GE373 := n5_; clear n0_ n1_ n2_ n3_ n4_ n5_; clear hb hbox hg; have hcz9_0 : w8.cell? ⟨gb373, 0, none⟩ = some (.int .i64 0) := (blk_cell BK373.out 0).trans rfl; have hcz9_1 : w8.cell? ⟨gb373, 1, none⟩ = some (.int .i64 0) := (blk_cell BK373.out 1).trans rfl; have hcz9_2 : w8.cell? ⟨gb373, 2, none⟩ = some (.slice none 0 0) := (blk_cell BK373.out 2).trans rfl; have hfz9_0 := blk_frozen BK373.out 0; have hfz9_1 := blk_frozen BK373.out 1; have hfz9_2 := blk_frozen BK373.out 2; obtain ⟨Ao10, co10, eo10⟩ := Kd.V_slice HO371.out; subst eo10))
 (try simp only [Act.put, List.setIfInBounds_toArray, List.set_cons_zero, List.set_cons_succ])
 go_cut [25] (fun v25 wc => ∃ (kq : Nat) (x25_5 : Bool), v25 = .bool x25_5 ∧ Aside0 (sema_Acquire.j0 kq l0 a2 a3 x25_5 t367 t368 t369 = some (r1, r2, r3)) ∧ Aside0 (kq ≤ k) ∧ Aside0 (Kd.V k33 33 wc w.heap.size (fun k_ => (P0_ k_ ∨ w.heap.size ≤ k_) ∧ k_ ≠ gb373) (.slice A0 l0.length c0) l0) ∧ Aside0 (Kd.V (Kd.int .i64) 3 wc w.heap.size (fun k_ => (P0_ k_ ∨ w.heap.size ≤ k_) ∧ k_ ≠ gb373) (.slice Ao10 t369.length co10) t369) ∧ Aside0 (wc.heap[gb373]? = some (.cells #[.int .i64 t367, .int .i64 t368, (.slice Ao10 t369.length co10)] 33 (0, 0))) ∧ Aside0 (Below w.heap.size w wc))
 case first =>
  have H := HC6.out
  clear HC6
  by_cases c11 : t372 = 0
  ·rw [if_pos c11] at H
   have c11b0 : (t372 == 0) = true := beq_iff_eq.mpr c11
   have c11b1 : (t372 != 0) = false := bne_eq_false_iff_eq.mpr c11
   clear c11
   (first | rw [c11b0] | (simp only [i64_w, i32_w]; rw [c11b0]) | skip)
   have H' := Aside0.mk H
   clear H
   go_wp2
   go_meet
   case rel => exact ⟨_, (decide (a2 < 0)), (by first | rfl | (simp; done) | (simp [*]; done)), H', ⟨by first | omega | exact Nat.le_refl _⟩, ⟨by (with_reducible repeat (first | apply Kd.V_alloc | apply Kd.V_drewN | apply Kd.V_drew)); exact Kd.V_mono (Kd.V_far (p := ⟨gb373, 2, none⟩) (Kd.V_far (p := ⟨gb373, 1, none⟩) (Kd.V_far (p := ⟨gb373, 0, none⟩) (Kd.V_mono HO0.out (fun k_ hk => (⟨hk, hk.2⟩ : _ ∧ k_ ≠ gb373))) (fun _ hk => hk.2) (.int .i64 t367)) (fun _ hk => hk.2) (.int .i64 t368)) (fun _ hk => hk.2) (.slice Ao10 t369.length co10)) (fun _ hk => ⟨hk.1.1, hk.1.2⟩)⟩, ⟨by (with_reducible repeat (first | apply Kd.V_alloc | apply Kd.V_drewN | apply Kd.V_drew)); exact Kd.V_mono (Kd.V_far (p := ⟨gb373, 2, none⟩) (Kd.V_far (p := ⟨gb373, 1, none⟩) (Kd.V_far (p := ⟨gb373, 0, none⟩) (Kd.V_mono HO371.out (fun k_ hk => (⟨hk, hk.2⟩ : _ ∧ k_ ≠ gb373))) (fun _ hk => hk.2) (.int .i64 t367)) (fun _ hk => hk.2) (.int .i64 t368)) (fun _ hk => hk.2) (.slice Ao10 t369.length co10)) (fun _ hk => ⟨hk.1.1, hk.1.2⟩)⟩, ⟨by (with_reducible repeat (first | refine blk_drewN ?_ _ | refine blk_drew ?_ | refine blk_alloc ?_ _)); refine blk_put (cs := #[.int .i64 t367, .int .i64 t368, .slice none 0 0]) ?_ 2 _ rfl; (with_reducible repeat (first | refine blk_drewN ?_ _ | refine blk_drew ?_ | refine blk_alloc ?_ _)); refine blk_put (cs := #[.int .i64 t367, .int .i64 0, .slice none 0 0]) ?_ 1 _ rfl; (with_reducible repeat (first | refine blk_drewN ?_ _ | refine blk_drew ?_ | refine blk_alloc ?_ _)); refine blk_put (cs := #[.int .i64 0, .int .i64 0, .slice none 0 0]) ?_ 0 _ rfl; (with_reducible repeat (first | refine blk_drewN ?_ _ | refine blk_drew ?_ | refine blk_alloc ?_ _)); exact BK373.out⟩, ⟨zB1 HB GE373⟩⟩
  ·rw [if_neg c11] at H
   have c11b0 : (t372 == 0) = false := beq_eq_false_iff_ne.mpr c11
   have c11b1 : (t372 != 0) = true := bne_iff_ne.mpr c11
   (first | rw [c11b0] | (simp only [i64_w, i32_w]; rw [c11b0]) | skip)
   have H' := Aside0.mk H
   clear H
   go_wp2
   go_meet
   case rel => exact ⟨_, (true), (by first | rfl | (simp; done) | (simp [*]; done)), H', ⟨by first | omega | exact Nat.le_refl _⟩, ⟨by (with_reducible repeat (first | apply Kd.V_alloc | apply Kd.V_drewN | apply Kd.V_drew)); exact Kd.V_mono (Kd.V_far (p := ⟨gb373, 2, none⟩) (Kd.V_far (p := ⟨gb373, 1, none⟩) (Kd.V_far (p := ⟨gb373, 0, none⟩) (Kd.V_mono HO0.out (fun k_ hk => (⟨hk, hk.2⟩ : _ ∧ k_ ≠ gb373))) (fun _ hk => hk.2) (.int .i64 t367)) (fun _ hk => hk.2) (.int .i64 t368)) (fun _ hk => hk.2) (.slice Ao10 t369.length co10)) (fun _ hk => ⟨hk.1.1, hk.1.2⟩)⟩, ⟨by (with_reducible repeat (first | apply Kd.V_alloc | apply Kd.V_drewN | apply Kd.V_drew)); exact Kd.V_mono (Kd.V_far (p := ⟨gb373, 2, none⟩) (Kd.V_far (p := ⟨gb373, 1, none⟩) (Kd.V_far (p := ⟨gb373, 0, none⟩) (Kd.V_mono HO371.out (fun k_ hk => (⟨hk, hk.2⟩ : _ ∧ k_ ≠ gb373))) (fun _ hk => hk.2) (.int .i64 t367)) (fun _ hk => hk.2) (.int .i64 t368)) (fun _ hk => hk.2) (.slice Ao10 t369.length co10)) (fun _ hk => ⟨hk.1.1, hk.1.2⟩)⟩, ⟨by (with_reducible repeat (first | refine blk_drewN ?_ _ | refine blk_drew ?_ | refine blk_alloc ?_ _)); refine blk_put (cs := #[.int .i64 t367, .int .i64 t368, .slice none 0 0]) ?_ 2 _ rfl; (with_reducible repeat (first | refine blk_drewN ?_ _ | refine blk_drew ?_ | refine blk_alloc ?_ _)); refine blk_put (cs := #[.int .i64 t367, .int .i64 0, .slice none 0 0]) ?_ 1 _ rfl; (with_reducible repeat (first | refine blk_drewN ?_ _ | refine blk_drew ?_ | refine blk_alloc ?_ _)); refine blk_put (cs := #[.int .i64 0, .int .i64 0, .slice none 0 0]) ?_ 0 _ rfl; (with_reducible repeat (first | refine blk_drewN ?_ _ | refine blk_drew ?_ | refine blk_alloc ?_ _)); exact BK373.out⟩, ⟨zB1 HB GE373⟩⟩
 case rest =>
  clear HC6
  try clear c1
  try clear p2
  try clear c3
  try clear c11
  try clear c11b0
  try clear c11b1
  try clear hcz9_0
  try clear hcz9_1
  try clear hcz9_2
  try clear hfz9_0
  try clear hfz9_1
  try clear hfz9_2
  obtain ⟨kq, x25_5, rfl, HA, HJ5, HO_0, HO_374002, BK373, HB⟩ := hcut
  cases kq with
  | zero => exact absurd HA.out (by simp [sema_Acquire.j0])
  | succ kj5 =>
   have H := HA.out
   clear HA
   simp only [sema_Acquire.j0] at H
   by_cases c12 : x25_5 = true
   ·subst c12
    have H1 : (some (([] : List (S33)), false, 1)) = some (r1, r2, r3) := by rw [if_pos rfl] at H; exact H
    clear H
    have H := H1
    clear H1
    simp only [Option.some.injEq, Prod.mk.injEq] at H
    obtain ⟨rfl, rfl, rfl⟩ := H
    go_wp2
    go_ret3
    exact ⟨_, by first | rfl | (simp [errW_none, errW_some] <;> rfl) | (simp [*, errW_none, errW_some] <;> rfl), Kd.V_mono (Kd.S_V (by first | exact Kd.S_nil _ _ _ 0 (fun k_ => w.heap.size ≤ k_) | exact Kd.S_nil _ _ _ _ _ | exact Kd.N_nil _ _ _ _ _ | exact Kd.V_nil _ _ _ _ _ | exact Kd.Q_nil _ _ _ _ _ | exact Kd.R_nil _ _ _ _ _)) (fun k_ hk => by first | exact ⟨(.inr (hk.1)), hk.2⟩ | exact (.inr (hk))), zB1 HB GE373⟩
   ·replace c12 := Bool.eq_false_iff.mpr c12
    subst c12
    have H1 : ((slices_Contains_int_int.f kj5 t369 a2).bind fun t374 => (if t374 = true then (some (([] : List (S33)), false, 7)) else (if t368 > 0 then ((root_Set.f l0 t367 (wrap64 (t368 - 1)) t369).bind fun bt375 => (if bt375.2 = 0 then (some (bt375.1, decide (t368 > 0), 0)) else (some (([] : List (S33)), false, bt375.2)))) else ((line_Push.f kj5 t369 a2 a3).bind fun bt379 => (if bt379.2 = 0 then ((root_Set.f l0 t367 t368 bt379.1).bind fun bt383 => (if bt383.2 = 0 then (some (bt383.1, decide (t368 > 0), 0)) else (some (([] : List (S33)), false, bt383.2)))) else (some (([] : List (S33)), false, bt379.2))))))) = some (r1, r2, r3) := by rw [if_neg (show ¬ (false = true) by decide)] at H; exact H
    clear H
    have H := H1
    clear H1
    replace H := Option.bind_eq_some_iff.mp H
    obtain ⟨t374, A130, H⟩ := H
    replace H : (if t374 = true then (some (([] : List (S33)), false, 7)) else (if t368 > 0 then ((root_Set.f l0 t367 (wrap64 (t368 - 1)) t369).bind fun bt375 => (if bt375.2 = 0 then (some (bt375.1, decide (t368 > 0), 0)) else (some (([] : List (S33)), false, bt375.2)))) else ((line_Push.f kj5 t369 a2 a3).bind fun bt379 => (if bt379.2 = 0 then ((root_Set.f l0 t367 t368 bt379.1).bind fun bt383 => (if bt383.2 = 0 then (some (bt383.1, decide (t368 > 0), 0)) else (some (([] : List (S33)), false, bt383.2)))) else (some (([] : List (S33)), false, bt379.2)))))) = some (r1, r2, r3) := H
    have A13 := Aside0.mk A130
    clear A130
    by_cases c14 : t374 = true
    ·subst c14
     have H1 : (some (([] : List (S33)), false, 7)) = some (r1, r2, r3) := by rw [if_pos rfl] at H; exact H
     clear H
     have H := H1
     clear H1
     simp only [Option.some.injEq, Prod.mk.injEq] at H
     obtain ⟨rfl, rfl, rfl⟩ := H
     have hcz15_0 : wc.cell? ⟨gb373, 0, none⟩ = some (.int .i64 t367) := (blk_cell BK373.out 0).trans rfl
     have hcz15_1 : wc.cell? ⟨gb373, 1, none⟩ = some (.int .i64 t368) := (blk_cell BK373.out 1).trans rfl
     have hcz15_2 : wc.cell? ⟨gb373, 2, none⟩ = some (.slice Ao10 t369.length co10) := (blk_cell BK373.out 2).trans rfl
     have hfz15_0 := blk_frozen BK373.out 0
     have hfz15_1 := blk_frozen BK373.out 1
     have hfz15_2 := blk_frozen BK373.out 2
     go_wp2_with (first | ((with_reducible refine gate_callee (f := 56) rfl ?_); refine goesL_ (some 29) rfl rfl Try.func56 (by kernel_rfl) rfl #[.slice Ao10 t369.length co10, .int .i64 a2] rfl zP ?_; (with_reducible refine (slices_Contains_int_int.calls kj5 _ _ t369 a2 true _ ?side1 ?side2 A13.out).mono ?_); (case side1 => repeat (first | exact (Kd.V_reads' HO_374002.out).2.2 | (with_reducible refine Kd.C_alloc ?_ _) | (with_reducible refine Kd.C_drewN ?_ _) | (with_reducible refine Kd.C_drew ?_))); (case side2 => exact (Kd.V_reads' HO_374002.out).2.1); rintro e w' ⟨rfl, ⟨nd, rfl⟩⟩; refine ⟨_, rfl, ?_⟩))
     go_ret3
     exact ⟨_, by first | rfl | (simp [errW_none, errW_some] <;> rfl) | (simp [*, errW_none, errW_some] <;> rfl), Kd.V_mono (Kd.S_V (by first | exact Kd.S_nil _ _ _ 0 (fun k_ => w.heap.size ≤ k_) | exact Kd.S_nil _ _ _ _ _ | exact Kd.N_nil _ _ _ _ _ | exact Kd.V_nil _ _ _ _ _ | exact Kd.Q_nil _ _ _ _ _ | exact Kd.R_nil _ _ _ _ _)) (fun k_ hk => by first | exact ⟨(.inr (hk.1)), hk.2⟩ | exact (.inr (hk))), zB1 HB GE373⟩
    ·replace c14 := Bool.eq_false_iff.mpr c14
     subst c14
     have H1 : (if t368 > 0 then ((root_Set.f l0 t367 (wrap64 (t368 - 1)) t369).bind fun bt375 => (if bt375.2 = 0 then (some (bt375.1, decide (t368 > 0), 0)) else (some (([] : List (S33)), false, bt375.2)))) else ((line_Push.f kj5 t369 a2 a3).bind fun bt379 => (if bt379.2 = 0 then ((root_Set.f l0 t367 t368 bt379.1).bind fun bt383 => (if bt383.2 = 0 then (some (bt383.1, decide (t368 > 0), 0)) else (some (([] : List (S33)), false, bt383.2)))) else (some (([] : List (S33)), false, bt379.2))))) = some (r1, r2, r3) := by rw [if_neg (show ¬ (false = true) by decide)] at H; exact H
     clear H
     have H := H1
     clear H1
     by_cases c16 : t368 > 0
     ·rw [if_pos c16] at H
      have c16b0 : decide (0 < t368) = true := decide_eq_true c16
      clear c16
      replace H := Option.bind_eq_some_iff.mp H
      obtain ⟨⟨t375, t378⟩, A170, H⟩ := H
      replace H : (if t378 = 0 then (some (t375, decide (t368 > 0), 0)) else (some (([] : List (S33)), false, t378))) = some (r1, r2, r3) := H
      have A17 := Aside0.mk A170
      clear A170
      by_cases c18 : t378 = 0
      ·rw [if_pos c18] at H
       have c18b0 : (t378 == 0) = true := beq_iff_eq.mpr c18
       have c18b1 : (t378 != 0) = false := bne_eq_false_iff_eq.mpr c18
       clear c18
       simp only [Option.some.injEq, Prod.mk.injEq] at H
       obtain ⟨rfl, rfl, rfl⟩ := H
       have hcz19_0 : wc.cell? ⟨gb373, 0, none⟩ = some (.int .i64 t367) := (blk_cell BK373.out 0).trans rfl
       have hcz19_1 : wc.cell? ⟨gb373, 1, none⟩ = some (.int .i64 t368) := (blk_cell BK373.out 1).trans rfl
       have hcz19_2 : wc.cell? ⟨gb373, 2, none⟩ = some (.slice Ao10 t369.length co10) := (blk_cell BK373.out 2).trans rfl
       have hfz19_0 := blk_frozen BK373.out 0
       have hfz19_1 := blk_frozen BK373.out 1
       have hfz19_2 := blk_frozen BK373.out 2
       go_wp2_with (first | ((with_reducible refine gate_callee (f := 56) rfl ?_); refine goesL_ (some 29) rfl rfl Try.func56 (by kernel_rfl) rfl #[.slice Ao10 t369.length co10, .int .i64 a2] rfl zP ?_; (with_reducible refine (slices_Contains_int_int.calls kj5 _ _ t369 a2 false _ ?side1 ?side2 A13.out).mono ?_); (case side1 => repeat (first | exact (Kd.V_reads' HO_374002.out).2.2 | (with_reducible refine Kd.C_alloc ?_ _) | (with_reducible refine Kd.C_drewN ?_ _) | (with_reducible refine Kd.C_drew ?_))); (case side2 => exact (Kd.V_reads' HO_374002.out).2.1); rintro e w' ⟨rfl, ⟨nd, rfl⟩⟩; refine ⟨_, rfl, ?_⟩; (try (rw [drewN_self wc]; generalize hq_ : World.drewN wc _ = wc; have n0_ : Aside0 (Kd.V k33 33 wc w.heap.size (fun k_ => (P0_ k_ ∨ w.heap.size ≤ k_) ∧ k_ ≠ gb373) (.slice A0 l0.length c0) l0) := ⟨by rw [← hq_]; exact (zV HO_0)⟩; have n1_ : Aside0 (Kd.V (Kd.int .i64) 3 wc w.heap.size (fun k_ => (P0_ k_ ∨ w.heap.size ≤ k_) ∧ k_ ≠ gb373) (.slice Ao10 t369.length co10) t369) := ⟨by rw [← hq_]; exact (zV HO_374002)⟩; have n2_ : Aside0 (wc.heap[gb373]? = some (.cells #[.int .i64 t367, .int .i64 t368, .slice Ao10 t369.length co10] 33 (0, 0))) := ⟨by rw [← hq_]; exact (zK BK373)⟩; have n3_ : Aside0 (Below w.heap.size w wc) := ⟨by rw [← hq_]; exact (zB1 HB GE373)⟩; clear HO_0 HO_374002 BK373 HB hq_; have HO_0 := n0_; have HO_374002 := n1_; have BK373 := n2_; have HB := n3_; clear n0_ n1_ n2_ n3_; have hcz19_0 : wc.cell? ⟨gb373, 0, none⟩ = some (.int .i64 t367) := (blk_cell BK373.out 0).trans rfl; have hcz19_1 : wc.cell? ⟨gb373, 1, none⟩ = some (.int .i64 t368) := (blk_cell BK373.out 1).trans rfl; have hcz19_2 : wc.cell? ⟨gb373, 2, none⟩ = some (.slice Ao10 t369.length co10) := (blk_cell BK373.out 2).trans rfl; have hfz19_0 := blk_frozen BK373.out 0; have hfz19_1 := blk_frozen BK373.out 1; have hfz19_2 := blk_frozen BK373.out 2))) | ((with_reducible refine gate_store (t := 3) (p := 37) rfl ?_); refine store_event (t := 3) (p := 37) (v := ?vo_w20) (w1 := (wc.setCell ⟨gb373, 1, none⟩ (.int .i64 (wrap64 (t368 - 1))))) ?hg ?ho ?hn ?hr ?_; (case ho => rfl); (case hg => rfl); (case hn => rfl); (case hr => first | (go_simp; done) | (go_simp; rfl)); intro w20 hw; have n0_ : Aside0 (Kd.V k33 33 w20 w.heap.size (fun k_ => (P0_ k_ ∨ w.heap.size ≤ k_) ∧ k_ ≠ gb373) (.slice A0 l0.length c0) l0) := ⟨(by rw [hw]; exact (by (with_reducible repeat (first | apply Kd.V_alloc | apply Kd.V_drewN | apply Kd.V_drew)); exact Kd.V_mono (Kd.V_far (p := ⟨gb373, 1, none⟩) (Kd.V_mono HO_0.out (fun k_ hk => (⟨hk, hk.2⟩ : _ ∧ k_ ≠ gb373))) (fun _ hk => hk.2) (.int .i64 (wrap64 (t368 - 1)))) (fun _ hk => ⟨hk.1.1, hk.1.2⟩)))⟩; have n1_ : Aside0 (Kd.V (Kd.int .i64) 3 w20 w.heap.size (fun k_ => (P0_ k_ ∨ w.heap.size ≤ k_) ∧ k_ ≠ gb373) (.slice Ao10 t369.length co10) t369) := ⟨(by rw [hw]; exact (by (with_reducible repeat (first | apply Kd.V_alloc | apply Kd.V_drewN | apply Kd.V_drew)); exact Kd.V_mono (Kd.V_far (p := ⟨gb373, 1, none⟩) (Kd.V_mono HO_374002.out (fun k_ hk => (⟨hk, hk.2⟩ : _ ∧ k_ ≠ gb373))) (fun _ hk => hk.2) (.int .i64 (wrap64 (t368 - 1)))) (fun _ hk => ⟨hk.1.1, hk.1.2⟩)))⟩; have n2_ : Aside0 (w20.heap[gb373]? = some (.cells #[.int .i64 t367, .int .i64 (wrap64 (t368 - 1)), .slice Ao10 t369.length co10] 33 (0, 0))) := ⟨(by rw [hw]; exact (by (with_reducible repeat (first | refine blk_drewN ?_ _ | refine blk_drew ?_ | refine blk_alloc ?_ _)); refine blk_put (cs := #[.int .i64 t367, .int .i64 t368, .slice Ao10 t369.length co10]) ?_ 1 _ rfl; (with_reducible repeat (first | refine blk_drewN ?_ _ | refine blk_drew ?_ | refine blk_alloc ?_ _)); exact BK373.out))⟩; have n3_ : Aside0 (Below w.heap.size w w20) := ⟨(by rw [hw]; exact (zB1 HB GE373))⟩; clear hw; clear HO_0; clear HO_374002; clear BK373; clear HB; have HO_0 := n0_; have HO_374002 := n1_; have BK373 := n2_; have HB := n3_; clear n0_ n1_ n2_ n3_; have hcz21_0 : w20.cell? ⟨gb373, 0, none⟩ = some (.int .i64 t367) := (blk_cell BK373.out 0).trans rfl; have hcz21_1 : w20.cell? ⟨gb373, 1, none⟩ = some (.int .i64 (wrap64 (t368 - 1))) := (blk_cell BK373.out 1).trans rfl; have hcz21_2 : w20.cell? ⟨gb373, 2, none⟩ = some (.slice Ao10 t369.length co10) := (blk_cell BK373.out 2).trans rfl; have hfz21_0 := blk_frozen BK373.out 0; have hfz21_1 := blk_frozen BK373.out 1; have hfz21_2 := blk_frozen BK373.out 2) | ((with_reducible refine gate_callee (f := 17) rfl ?_); refine goesL_ (some 53) rfl rfl Try.func17 (by kernel_rfl) rfl #[.slice A0 l0.length c0, .agg #[.int .i64 t367, .int .i64 (wrap64 (t368 - 1)), .slice Ao10 t369.length co10]] rfl zP ?_; (with_reducible refine (root_Set.calls (fun k_ => ((P0_ k_ ∨ w.heap.size ≤ k_) ∧ k_ ≠ gb373)) _ _ l0 t367 (wrap64 (t368 - 1)) (fun k_ => ((P0_ k_ ∨ w.heap.size ≤ k_) ∧ k_ ≠ gb373)) _ _ t369 t375 t378 _ ?side1 ?side2 A17.out).mono ?_); (case side1 => exact HO_0.out); (case side2 => exact HO_374002.out); rintro e w22 ⟨v376, rfl, ho0, hb⟩; refine ⟨_, rfl, ?_⟩; have n0_ := Aside0.mk (Kd.V_below (zV HO_0) hb); have n1_ := Aside0.mk (Kd.V_below (zV HO_374002) hb); have n2_ := Aside0.mk (Kd.V_lower (Kd.V_mono (ok' := fun k_ => (P0_ k_ ∨ w.heap.size ≤ k_) ∧ k_ ≠ gb373) ho0 (fun k_ hk_ => ⟨Or.elim hk_ (fun hs_ => Or.elim hs_ (fun hs_ => hs_.1) (fun hs_ => hs_.1)) (fun hn_ => (.inr (Nat.le_trans (below_size (zB1 HB GE373)) hn_))), Or.elim hk_ (fun hs_ => Or.elim hs_ (fun hs_ => hs_.2) (fun hs_ => hs_.2)) (fun hn_ => (Kd.freshB (g := gb373) (o := .cells #[.int .i64 t367, .int .i64 (wrap64 (t368 - 1)), .slice Ao10 t369.length co10] 33 (0, 0)) (zK BK373) k_ hn_))⟩)) (below_size (zB1 HB GE373))); have n3_ := Aside0.mk (blk_below (g := gb373) (o := .cells #[.int .i64 t367, .int .i64 (wrap64 (t368 - 1)), .slice Ao10 t369.length co10] 33 (0, 0)) (zK BK373) hb); have n4_ := Aside0.mk (below_step (zB1 HB GE373) hb); clear HO_0; clear HO_374002; clear BK373; clear HB; have HO_0 := n0_; have HO_374002 := n1_; have HO377 := n2_; have BK373 := n3_; have HB := n4_; clear n0_ n1_ n2_ n3_ n4_; (try clear hb); (try clear hb2); (try clear hk); (try clear hi); (try clear ho0)))
       go_ret3
       exact ⟨_, by first | rfl | (simp [errW_none, errW_some] <;> rfl) | (simp [*, errW_none, errW_some] <;> rfl), by (with_reducible repeat (first | apply Kd.V_alloc | apply Kd.V_drewN | apply Kd.V_drew)); exact Kd.V_mono HO377.out (fun _ hk => hk.1), zB1 HB GE373⟩
      ·rw [if_neg c18] at H
       have c18b0 : (t378 == 0) = false := beq_eq_false_iff_ne.mpr c18
       have c18b1 : (t378 != 0) = true := bne_iff_ne.mpr c18
       simp only [Option.some.injEq, Prod.mk.injEq] at H
       obtain ⟨rfl, rfl, rfl⟩ := H
       have hcz23_0 : wc.cell? ⟨gb373, 0, none⟩ = some (.int .i64 t367) := (blk_cell BK373.out 0).trans rfl
       have hcz23_1 : wc.cell? ⟨gb373, 1, none⟩ = some (.int .i64 t368) := (blk_cell BK373.out 1).trans rfl
       have hcz23_2 : wc.cell? ⟨gb373, 2, none⟩ = some (.slice Ao10 t369.length co10) := (blk_cell BK373.out 2).trans rfl
       have hfz23_0 := blk_frozen BK373.out 0
       have hfz23_1 := blk_frozen BK373.out 1
       have hfz23_2 := blk_frozen BK373.out 2
       go_wp2_with (first | ((with_reducible refine gate_callee (f := 56) rfl ?_); refine goesL_ (some 29) rfl rfl Try.func56 (by kernel_rfl) rfl #[.slice Ao10 t369.length co10, .int .i64 a2] rfl zP ?_; (with_reducible refine (slices_Contains_int_int.calls kj5 _ _ t369 a2 false _ ?side1 ?side2 A13.out).mono ?_); (case side1 => repeat (first | exact (Kd.V_reads' HO_374002.out).2.2 | (with_reducible refine Kd.C_alloc ?_ _) | (with_reducible refine Kd.C_drewN ?_ _) | (with_reducible refine Kd.C_drew ?_))); (case side2 => exact (Kd.V_reads' HO_374002.out).2.1); rintro e w' ⟨rfl, ⟨nd, rfl⟩⟩; refine ⟨_, rfl, ?_⟩; (try (rw [drewN_self wc]; generalize hq_ : World.drewN wc _ = wc; have n0_ : Aside0 (Kd.V k33 33 wc w.heap.size (fun k_ => (P0_ k_ ∨ w.heap.size ≤ k_) ∧ k_ ≠ gb373) (.slice A0 l0.length c0) l0) := ⟨by rw [← hq_]; exact (zV HO_0)⟩; have n1_ : Aside0 (Kd.V (Kd.int .i64) 3 wc w.heap.size (fun k_ => (P0_ k_ ∨ w.heap.size ≤ k_) ∧ k_ ≠ gb373) (.slice Ao10 t369.length co10) t369) := ⟨by rw [← hq_]; exact (zV HO_374002)⟩; have n2_ : Aside0 (wc.heap[gb373]? = some (.cells #[.int .i64 t367, .int .i64 t368, .slice Ao10 t369.length co10] 33 (0, 0))) := ⟨by rw [← hq_]; exact (zK BK373)⟩; have n3_ : Aside0 (Below w.heap.size w wc) := ⟨by rw [← hq_]; exact (zB1 HB GE373)⟩; clear HO_0 HO_374002 BK373 HB hq_; have HO_0 := n0_; have HO_374002 := n1_; have BK373 := n2_; have HB := n3_; clear n0_ n1_ n2_ n3_; have hcz23_0 : wc.cell? ⟨gb373, 0, none⟩ = some (.int .i64 t367) := (blk_cell BK373.out 0).trans rfl; have hcz23_1 : wc.cell? ⟨gb373, 1, none⟩ = some (.int .i64 t368) := (blk_cell BK373.out 1).trans rfl; have hcz23_2 : wc.cell? ⟨gb373, 2, none⟩ = some (.slice Ao10 t369.length co10) := (blk_cell BK373.out 2).trans rfl; have hfz23_0 := blk_frozen BK373.out 0; have hfz23_1 := blk_frozen BK373.out 1; have hfz23_2 := blk_frozen BK373.out 2))) | ((with_reducible refine gate_store (t := 3) (p := 37) rfl ?_); refine store_event (t := 3) (p := 37) (v := ?vo_w24) (w1 := (wc.setCell ⟨gb373, 1, none⟩ (.int .i64 (wrap64 (t368 - 1))))) ?hg ?ho ?hn ?hr ?_; (case ho => rfl); (case hg => rfl); (case hn => rfl); (case hr => first | (go_simp; done) | (go_simp; rfl)); intro w24 hw; have n0_ : Aside0 (Kd.V k33 33 w24 w.heap.size (fun k_ => (P0_ k_ ∨ w.heap.size ≤ k_) ∧ k_ ≠ gb373) (.slice A0 l0.length c0) l0) := ⟨(by rw [hw]; exact (by (with_reducible repeat (first | apply Kd.V_alloc | apply Kd.V_drewN | apply Kd.V_drew)); exact Kd.V_mono (Kd.V_far (p := ⟨gb373, 1, none⟩) (Kd.V_mono HO_0.out (fun k_ hk => (⟨hk, hk.2⟩ : _ ∧ k_ ≠ gb373))) (fun _ hk => hk.2) (.int .i64 (wrap64 (t368 - 1)))) (fun _ hk => ⟨hk.1.1, hk.1.2⟩)))⟩; have n1_ : Aside0 (Kd.V (Kd.int .i64) 3 w24 w.heap.size (fun k_ => (P0_ k_ ∨ w.heap.size ≤ k_) ∧ k_ ≠ gb373) (.slice Ao10 t369.length co10) t369) := ⟨(by rw [hw]; exact (by (with_reducible repeat (first | apply Kd.V_alloc | apply Kd.V_drewN | apply Kd.V_drew)); exact Kd.V_mono (Kd.V_far (p := ⟨gb373, 1, none⟩) (Kd.V_mono HO_374002.out (fun k_ hk => (⟨hk, hk.2⟩ : _ ∧ k_ ≠ gb373))) (fun _ hk => hk.2) (.int .i64 (wrap64 (t368 - 1)))) (fun _ hk => ⟨hk.1.1, hk.1.2⟩)))⟩; have n2_ : Aside0 (w24.heap[gb373]? = some (.cells #[.int .i64 t367, .int .i64 (wrap64 (t368 - 1)), .slice Ao10 t369.length co10] 33 (0, 0))) := ⟨(by rw [hw]; exact (by (with_reducible repeat (first | refine blk_drewN ?_ _ | refine blk_drew ?_ | refine blk_alloc ?_ _)); refine blk_put (cs := #[.int .i64 t367, .int .i64 t368, .slice Ao10 t369.length co10]) ?_ 1 _ rfl; (with_reducible repeat (first | refine blk_drewN ?_ _ | refine blk_drew ?_ | refine blk_alloc ?_ _)); exact BK373.out))⟩; have n3_ : Aside0 (Below w.heap.size w w24) := ⟨(by rw [hw]; exact (zB1 HB GE373))⟩; clear hw; clear HO_0; clear HO_374002; clear BK373; clear HB; have HO_0 := n0_; have HO_374002 := n1_; have BK373 := n2_; have HB := n3_; clear n0_ n1_ n2_ n3_; have hcz25_0 : w24.cell? ⟨gb373, 0, none⟩ = some (.int .i64 t367) := (blk_cell BK373.out 0).trans rfl; have hcz25_1 : w24.cell? ⟨gb373, 1, none⟩ = some (.int .i64 (wrap64 (t368 - 1))) := (blk_cell BK373.out 1).trans rfl; have hcz25_2 : w24.cell? ⟨gb373, 2, none⟩ = some (.slice Ao10 t369.length co10) := (blk_cell BK373.out 2).trans rfl; have hfz25_0 := blk_frozen BK373.out 0; have hfz25_1 := blk_frozen BK373.out 1; have hfz25_2 := blk_frozen BK373.out 2) | ((with_reducible refine gate_callee (f := 17) rfl ?_); refine goesL_ (some 53) rfl rfl Try.func17 (by kernel_rfl) rfl #[.slice A0 l0.length c0, .agg #[.int .i64 t367, .int .i64 (wrap64 (t368 - 1)), .slice Ao10 t369.length co10]] rfl zP ?_; (with_reducible refine (root_Set.calls (fun k_ => ((P0_ k_ ∨ w.heap.size ≤ k_) ∧ k_ ≠ gb373)) _ _ l0 t367 (wrap64 (t368 - 1)) (fun k_ => ((P0_ k_ ∨ w.heap.size ≤ k_) ∧ k_ ≠ gb373)) _ _ t369 t375 t378 _ ?side1 ?side2 A17.out).mono ?_); (case side1 => exact HO_0.out); (case side2 => exact HO_374002.out); rintro e w26 ⟨v376, rfl, ho0, hb⟩; refine ⟨_, rfl, ?_⟩; have n0_ := Aside0.mk (Kd.V_below (zV HO_0) hb); have n1_ := Aside0.mk (Kd.V_below (zV HO_374002) hb); have n2_ := Aside0.mk (Kd.V_lower (Kd.V_mono (ok' := fun k_ => (P0_ k_ ∨ w.heap.size ≤ k_) ∧ k_ ≠ gb373) ho0 (fun k_ hk_ => ⟨Or.elim hk_ (fun hs_ => Or.elim hs_ (fun hs_ => hs_.1) (fun hs_ => hs_.1)) (fun hn_ => (.inr (Nat.le_trans (below_size (zB1 HB GE373)) hn_))), Or.elim hk_ (fun hs_ => Or.elim hs_ (fun hs_ => hs_.2) (fun hs_ => hs_.2)) (fun hn_ => (Kd.freshB (g := gb373) (o := .cells #[.int .i64 t367, .int .i64 (wrap64 (t368 - 1)), .slice Ao10 t369.length co10] 33 (0, 0)) (zK BK373) k_ hn_))⟩)) (below_size (zB1 HB GE373))); have n3_ := Aside0.mk (blk_below (g := gb373) (o := .cells #[.int .i64 t367, .int .i64 (wrap64 (t368 - 1)), .slice Ao10 t369.length co10] 33 (0, 0)) (zK BK373) hb); have n4_ := Aside0.mk (below_step (zB1 HB GE373) hb); clear HO_0; clear HO_374002; clear BK373; clear HB; have HO_0 := n0_; have HO_374002 := n1_; have HO377 := n2_; have BK373 := n3_; have HB := n4_; clear n0_ n1_ n2_ n3_ n4_; (try clear hb); (try clear hb2); (try clear hk); (try clear hi); (try clear ho0)))
       go_ret3
       exact ⟨_, by first | rfl | (simp [errW_none, errW_some] <;> rfl) | (simp [*, errW_none, errW_some] <;> rfl), Kd.V_mono (Kd.S_V (by first | exact Kd.S_nil _ _ _ 0 (fun k_ => w.heap.size ≤ k_) | exact Kd.S_nil _ _ _ _ _ | exact Kd.N_nil _ _ _ _ _ | exact Kd.V_nil _ _ _ _ _ | exact Kd.Q_nil _ _ _ _ _ | exact Kd.R_nil _ _ _ _ _)) (fun k_ hk => by first | exact ⟨(.inr (hk.1)), hk.2⟩ | exact (.inr (hk))), zB1 HB GE373⟩
     ·rw [if_neg c16] at H
      have c16b0 : decide (0 < t368) = false := decide_eq_false c16
      clear c16
      replace H := Option.bind_eq_some_iff.mp H
      obtain ⟨⟨t379, t382⟩, A270, H⟩ := H
      replace H : (if t382 = 0 then ((root_Set.f l0 t367 t368 t379).bind fun bt383 => (if bt383.2 = 0 then (some (bt383.1, decide (t368 > 0), 0)) else (some (([] : List (S33)), false, bt383.2)))) else (some (([] : List (S33)), false, t382))) = some (r1, r2, r3) := H
      have A27 := Aside0.mk A270
      clear A270
      by_cases c28 : t382 = 0
      ·rw [if_pos c28] at H
       have c28b0 : (t382 == 0) = true := beq_iff_eq.mpr c28
       have c28b1 : (t382 != 0) = false := bne_eq_false_iff_eq.mpr c28
       clear c28
       replace H := Option.bind_eq_some_iff.mp H
       obtain ⟨⟨t383, t386⟩, A290, H⟩ := H
       replace H : (if t386 = 0 then (some (t383, decide (t368 > 0), 0)) else (some (([] : List (S33)), false, t386))) = some (r1, r2, r3) := H
       have A29 := Aside0.mk A290
       clear A290
       by_cases c30 : t386 = 0
       ·rw [if_pos c30] at H
        have c30b0 : (t386 == 0) = true := beq_iff_eq.mpr c30
        have c30b1 : (t386 != 0) = false := bne_eq_false_iff_eq.mpr c30
        clear c30
        simp only [Option.some.injEq, Prod.mk.injEq] at H
        obtain ⟨rfl, rfl, rfl⟩ := H
        have hcz31_0 : wc.cell? ⟨gb373, 0, none⟩ = some (.int .i64 t367) := (blk_cell BK373.out 0).trans rfl
        have hcz31_1 : wc.cell? ⟨gb373, 1, none⟩ = some (.int .i64 t368) := (blk_cell BK373.out 1).trans rfl
        have hcz31_2 : wc.cell? ⟨gb373, 2, none⟩ = some (.slice Ao10 t369.length co10) := (blk_cell BK373.out 2).trans rfl
        have hfz31_0 := blk_frozen BK373.out 0
        have hfz31_1 := blk_frozen BK373.out 1
        have hfz31_2 := blk_frozen BK373.out 2
        go_wp2_with (first | ((with_reducible refine gate_callee (f := 56) rfl ?_); refine goesL_ (some 29) rfl rfl Try.func56 (by kernel_rfl) rfl #[.slice Ao10 t369.length co10, .int .i64 a2] rfl zP ?_; (with_reducible refine (slices_Contains_int_int.calls kj5 _ _ t369 a2 false _ ?side1 ?side2 A13.out).mono ?_); (case side1 => repeat (first | exact (Kd.V_reads' HO_374002.out).2.2 | (with_reducible refine Kd.C_alloc ?_ _) | (with_reducible refine Kd.C_drewN ?_ _) | (with_reducible refine Kd.C_drew ?_))); (case side2 => exact (Kd.V_reads' HO_374002.out).2.1); rintro e w' ⟨rfl, ⟨nd, rfl⟩⟩; refine ⟨_, rfl, ?_⟩; (try (rw [drewN_self wc]; generalize hq_ : World.drewN wc _ = wc; have n0_ : Aside0 (Kd.V k33 33 wc w.heap.size (fun k_ => (P0_ k_ ∨ w.heap.size ≤ k_) ∧ k_ ≠ gb373) (.slice A0 l0.length c0) l0) := ⟨by rw [← hq_]; exact (zV HO_0)⟩; have n1_ : Aside0 (Kd.V (Kd.int .i64) 3 wc w.heap.size (fun k_ => (P0_ k_ ∨ w.heap.size ≤ k_) ∧ k_ ≠ gb373) (.slice Ao10 t369.length co10) t369) := ⟨by rw [← hq_]; exact (zV HO_374002)⟩; have n2_ : Aside0 (wc.heap[gb373]? = some (.cells #[.int .i64 t367, .int .i64 t368, .slice Ao10 t369.length co10] 33 (0, 0))) := ⟨by rw [← hq_]; exact (zK BK373)⟩; have n3_ : Aside0 (Below w.heap.size w wc) := ⟨by rw [← hq_]; exact (zB1 HB GE373)⟩; clear HO_0 HO_374002 BK373 HB hq_; have HO_0 := n0_; have HO_374002 := n1_; have BK373 := n2_; have HB := n3_; clear n0_ n1_ n2_ n3_; have hcz31_0 : wc.cell? ⟨gb373, 0, none⟩ = some (.int .i64 t367) := (blk_cell BK373.out 0).trans rfl; have hcz31_1 : wc.cell? ⟨gb373, 1, none⟩ = some (.int .i64 t368) := (blk_cell BK373.out 1).trans rfl; have hcz31_2 : wc.cell? ⟨gb373, 2, none⟩ = some (.slice Ao10 t369.length co10) := (blk_cell BK373.out 2).trans rfl; have hfz31_0 := blk_frozen BK373.out 0; have hfz31_1 := blk_frozen BK373.out 1; have hfz31_2 := blk_frozen BK373.out 2))) | ((with_reducible refine gate_callee (f := 57) rfl ?_); refine goesL_ (some 43) rfl rfl Try.func57 (by kernel_rfl) rfl #[.slice Ao10 t369.length co10, .int .i64 a2, .bool a3] rfl zP ?_; (with_reducible refine (line_Push.calls kj5 (fun k_ => ((P0_ k_ ∨ w.heap.size ≤ k_) ∧ k_ ≠ gb373)) _ _ t369 a2 a3 t379 t382 _ ?side1 A27.out).mono ?_); (case side1 => exact HO_374002.out); rintro e w32 ⟨v380, rfl, ho0, hb⟩; refine ⟨_, rfl, ?_⟩; have n0_ := Aside0.mk (Kd.V_elder' (zV HO_0) (Kd.R_base ho0) hb); have n1_ := Aside0.mk (Kd.V_elder' (zV HO_374002) (Kd.R_base ho0) hb); have n2_ := Aside0.mk (Kd.R_lower (Kd.R_newM (M := fun k_ => (w.heap.size ≤ k_)) (Kd.R_mono (ok' := fun k_ => True) ho0 (fun _ hk_ => trivial)) (below_size (zB1 HB GE373)) (fun k_ h_ => h_)) (below_size (zB1 HB GE373))); have n3_ := Aside0.mk (blk_below (g := gb373) (o := .cells #[.int .i64 t367, .int .i64 t368, .slice Ao10 t369.length co10] 33 (0, 0)) (zK BK373) hb); have n4_ := Aside0.mk (below_step (zB1 HB GE373) hb); clear HO_0; clear HO_374002; clear BK373; clear HB; have HO_0 := n0_; have HO_374002 := n1_; have HO381 := n2_; have BK373 := n3_; have HB := n4_; clear n0_ n1_ n2_ n3_ n4_; (try clear hb); (try clear hb2); (try clear hk); (try clear hi); (try clear ho0); obtain ⟨Ao33, co33, eo33⟩ := Kd.R_slice HO381.out; subst eo33; have hcz34_0 : w32.cell? ⟨gb373, 0, none⟩ = some (.int .i64 t367) := (blk_cell BK373.out 0).trans rfl; have hcz34_1 : w32.cell? ⟨gb373, 1, none⟩ = some (.int .i64 t368) := (blk_cell BK373.out 1).trans rfl; have hcz34_2 : w32.cell? ⟨gb373, 2, none⟩ = some (.slice Ao10 t369.length co10) := (blk_cell BK373.out 2).trans rfl; have hfz34_0 := blk_frozen BK373.out 0; have hfz34_1 := blk_frozen BK373.out 1; have hfz34_2 := blk_frozen BK373.out 2) | ((with_reducible refine gate_store (t := 25) (p := 46) rfl ?_); refine store_event (t := 25) (p := 46) (v := ?vo_w35) (w1 := (w32.setCell ⟨gb373, 2, none⟩ (.slice Ao33 t379.length co33))) ?hg ?ho ?hn ?hr ?_; (case ho => rfl); (case hg => rfl); (case hn => rfl); (case hr => first | (go_simp; done) | (go_simp; rfl)); intro w35 hw; have n0_ : Aside0 (Kd.V k33 33 w35 w.heap.size (fun k_ => (P0_ k_ ∨ w.heap.size ≤ k_) ∧ some k_ ≠ (.slice Ao33 t379.length co33 : Value).ownBlock ∧ k_ ≠ gb373) (.slice A0 l0.length c0) l0) := ⟨(by rw [hw]; exact (by (with_reducible repeat (first | apply Kd.V_alloc | apply Kd.V_drewN | apply Kd.V_drew)); exact Kd.V_mono (Kd.V_far (p := ⟨gb373, 2, none⟩) (Kd.V_mono HO_0.out (fun k_ hk => (⟨hk, hk.1.2⟩ : _ ∧ k_ ≠ gb373))) (fun _ hk => hk.2) (.slice Ao33 t379.length co33)) (fun _ hk => ⟨hk.1.1.1, ⟨hk.1.2, hk.1.1.2⟩⟩)))⟩; have n1_ : Aside0 (Kd.V (Kd.int .i64) 3 w35 w.heap.size (fun k_ => (P0_ k_ ∨ w.heap.size ≤ k_) ∧ some k_ ≠ (.slice Ao33 t379.length co33 : Value).ownBlock ∧ k_ ≠ gb373) (.slice Ao10 t369.length co10) t369) := ⟨(by rw [hw]; exact (by (with_reducible repeat (first | apply Kd.V_alloc | apply Kd.V_drewN | apply Kd.V_drew)); exact Kd.V_mono (Kd.V_far (p := ⟨gb373, 2, none⟩) (Kd.V_mono HO_374002.out (fun k_ hk => (⟨hk, hk.1.2⟩ : _ ∧ k_ ≠ gb373))) (fun _ hk => hk.2) (.slice Ao33 t379.length co33)) (fun _ hk => ⟨hk.1.1.1, ⟨hk.1.2, hk.1.1.2⟩⟩)))⟩; have n2_ : Aside0 (Kd.R (Kd.int .i64) 3 w35 w.heap.size (fun k_ => (w.heap.size ≤ k_)) (.slice Ao33 t379.length co33) t379) := ⟨(by rw [hw]; exact (by (with_reducible repeat (first | apply Kd.R_alloc | apply Kd.R_drewN | apply Kd.R_drew)); exact Kd.R_mono (Kd.R_far (p := ⟨gb373, 2, none⟩) (Kd.R_types HO381.out BK373.out (by decide)) (fun _ hk => hk.2) (.slice Ao33 t379.length co33)) (fun _ hk => hk.1.1)))⟩; have n3_ : Aside0 (w35.heap[gb373]? = some (.cells #[.int .i64 t367, .int .i64 t368, .slice Ao33 t379.length co33] 33 (0, 0))) := ⟨(by rw [hw]; exact (by (with_reducible repeat (first | refine blk_drewN ?_ _ | refine blk_drew ?_ | refine blk_alloc ?_ _)); refine blk_put (cs := #[.int .i64 t367, .int .i64 t368, .slice Ao10 t369.length co10]) ?_ 2 _ rfl; (with_reducible repeat (first | refine blk_drewN ?_ _ | refine blk_drew ?_ | refine blk_alloc ?_ _)); exact BK373.out))⟩; have n4_ : Aside0 (Below w.heap.size w w35) := ⟨(by rw [hw]; exact (zB1 HB GE373))⟩; clear hw; clear HO_0; clear HO_374002; clear HO381; clear BK373; clear HB; have HO_0 := n0_; have HO_374002 := n1_; have HO381 := n2_; have BK373 := n3_; have HB := n4_; clear n0_ n1_ n2_ n3_ n4_; have hcz36_0 : w35.cell? ⟨gb373, 0, none⟩ = some (.int .i64 t367) := (blk_cell BK373.out 0).trans rfl; have hcz36_1 : w35.cell? ⟨gb373, 1, none⟩ = some (.int .i64 t368) := (blk_cell BK373.out 1).trans rfl; have hcz36_2 : w35.cell? ⟨gb373, 2, none⟩ = some (.slice Ao33 t379.length co33) := (blk_cell BK373.out 2).trans rfl; have hfz36_0 := blk_frozen BK373.out 0; have hfz36_1 := blk_frozen BK373.out 1; have hfz36_2 := blk_frozen BK373.out 2) | ((with_reducible refine gate_callee (f := 17) rfl ?_); refine goesL_ (some 53) rfl rfl Try.func17 (by kernel_rfl) rfl #[.slice A0 l0.length c0, .agg #[.int .i64 t367, .int .i64 t368, .slice Ao33 t379.length co33]] rfl zP ?_; (with_reducible refine (root_Set.calls (fun k_ => ((P0_ k_ ∨ w.heap.size ≤ k_) ∧ (some k_ ≠ (.slice Ao33 t379.length co33 : Value).ownBlock ∧ k_ ≠ gb373))) _ _ l0 t367 t368 (fun k_ => some k_ = (.slice Ao33 t379.length co33 : Value).ownBlock) _ _ t379 t383 t386 _ ?side1 ?side2 A29.out).mono ?_); (case side1 => exact HO_0.out); (case side2 => exact Kd.R_V (Kd.R_tight rfl (Kd.R_types (HO381.out) BK373.out (by decide)))); rintro e w37 ⟨v384, rfl, ho0, hb⟩; refine ⟨_, rfl, ?_⟩; have n0_ := Aside0.mk (Kd.V_below (zV HO_0) hb); have n1_ := Aside0.mk (Kd.V_below (zV HO_374002) hb); have n2_ := Aside0.mk (Kd.R_below (zR HO381) hb); have n3_ := Aside0.mk (Kd.V_lower (Kd.V_mono (ok' := fun k_ => (P0_ k_ ∨ w.heap.size ≤ k_) ∧ k_ ≠ gb373) ho0 (fun k_ hk_ => ⟨Or.elim hk_ (fun hs_ => Or.elim hs_ (fun hs_ => hs_.1) (fun hs_ => (.inr (((Kd.R_types (HO381.out) BK373.out (by decide)).1 k_ hs_.symm).1)))) (fun hn_ => (.inr (Nat.le_trans (below_size (zB1 HB GE373)) hn_))), Or.elim hk_ (fun hs_ => Or.elim hs_ (fun hs_ => hs_.2.2) (fun hs_ => ((Kd.R_types (HO381.out) BK373.out (by decide)).1 k_ hs_.symm).2)) (fun hn_ => (Kd.freshB (g := gb373) (o := .cells #[.int .i64 t367, .int .i64 t368, .slice Ao33 t379.length co33] 33 (0, 0)) (zK BK373) k_ hn_))⟩)) (below_size (zB1 HB GE373))); have n4_ := Aside0.mk (blk_below (g := gb373) (o := .cells #[.int .i64 t367, .int .i64 t368, .slice Ao33 t379.length co33] 33 (0, 0)) (zK BK373) hb); have n5_ := Aside0.mk (below_step (zB1 HB GE373) hb); clear HO_0; clear HO_374002; clear HO381; clear BK373; clear HB; have HO_0 := n0_; have HO_374002 := n1_; have HO381 := n2_; have HO385 := n3_; have BK373 := n4_; have HB := n5_; clear n0_ n1_ n2_ n3_ n4_ n5_; (try clear hb); (try clear hb2); (try clear hk); (try clear hi); (try clear ho0)))
        go_ret3
        exact ⟨_, by first | rfl | (simp [errW_none, errW_some] <;> rfl) | (simp [*, errW_none, errW_some] <;> rfl), by (with_reducible repeat (first | apply Kd.V_alloc | apply Kd.V_drewN | apply Kd.V_drew)); exact Kd.V_mono HO385.out (fun _ hk => hk.1), zB1 HB GE373⟩
       ·rw [if_neg c30] at H
        have c30b0 : (t386 == 0) = false := beq_eq_false_iff_ne.mpr c30
        have c30b1 : (t386 != 0) = true := bne_iff_ne.mpr c30
        simp only [Option.some.injEq, Prod.mk.injEq] at H
        obtain ⟨rfl, rfl, rfl⟩ := H
        have hcz38_0 : wc.cell? ⟨gb373, 0, none⟩ = some (.int .i64 t367) := (blk_cell BK373.out 0).trans rfl
        have hcz38_1 : wc.cell? ⟨gb373, 1, none⟩ = some (.int .i64 t368) := (blk_cell BK373.out 1).trans rfl
        have hcz38_2 : wc.cell? ⟨gb373, 2, none⟩ = some (.slice Ao10 t369.length co10) := (blk_cell BK373.out 2).trans rfl
        have hfz38_0 := blk_frozen BK373.out 0
        have hfz38_1 := blk_frozen BK373.out 1
        have hfz38_2 := blk_frozen BK373.out 2
        go_wp2_with (first | ((with_reducible refine gate_callee (f := 56) rfl ?_); refine goesL_ (some 29) rfl rfl Try.func56 (by kernel_rfl) rfl #[.slice Ao10 t369.length co10, .int .i64 a2] rfl zP ?_; (with_reducible refine (slices_Contains_int_int.calls kj5 _ _ t369 a2 false _ ?side1 ?side2 A13.out).mono ?_); (case side1 => repeat (first | exact (Kd.V_reads' HO_374002.out).2.2 | (with_reducible refine Kd.C_alloc ?_ _) | (with_reducible refine Kd.C_drewN ?_ _) | (with_reducible refine Kd.C_drew ?_))); (case side2 => exact (Kd.V_reads' HO_374002.out).2.1); rintro e w' ⟨rfl, ⟨nd, rfl⟩⟩; refine ⟨_, rfl, ?_⟩; (try (rw [drewN_self wc]; generalize hq_ : World.drewN wc _ = wc; have n0_ : Aside0 (Kd.V k33 33 wc w.heap.size (fun k_ => (P0_ k_ ∨ w.heap.size ≤ k_) ∧ k_ ≠ gb373) (.slice A0 l0.length c0) l0) := ⟨by rw [← hq_]; exact (zV HO_0)⟩; have n1_ : Aside0 (Kd.V (Kd.int .i64) 3 wc w.heap.size (fun k_ => (P0_ k_ ∨ w.heap.size ≤ k_) ∧ k_ ≠ gb373) (.slice Ao10 t369.length co10) t369) := ⟨by rw [← hq_]; exact (zV HO_374002)⟩; have n2_ : Aside0 (wc.heap[gb373]? = some (.cells #[.int .i64 t367, .int .i64 t368, .slice Ao10 t369.length co10] 33 (0, 0))) := ⟨by rw [← hq_]; exact (zK BK373)⟩; have n3_ : Aside0 (Below w.heap.size w wc) := ⟨by rw [← hq_]; exact (zB1 HB GE373)⟩; clear HO_0 HO_374002 BK373 HB hq_; have HO_0 := n0_; have HO_374002 := n1_; have BK373 := n2_; have HB := n3_; clear n0_ n1_ n2_ n3_; have hcz38_0 : wc.cell? ⟨gb373, 0, none⟩ = some (.int .i64 t367) := (blk_cell BK373.out 0).trans rfl; have hcz38_1 : wc.cell? ⟨gb373, 1, none⟩ = some (.int .i64 t368) := (blk_cell BK373.out 1).trans rfl; have hcz38_2 : wc.cell? ⟨gb373, 2, none⟩ = some (.slice Ao10 t369.length co10) := (blk_cell BK373.out 2).trans rfl; have hfz38_0 := blk_frozen BK373.out 0; have hfz38_1 := blk_frozen BK373.out 1; have hfz38_2 := blk_frozen BK373.out 2))) | ((with_reducible refine gate_callee (f := 57) rfl ?_); refine goesL_ (some 43) rfl rfl Try.func57 (by kernel_rfl) rfl #[.slice Ao10 t369.length co10, .int .i64 a2, .bool a3] rfl zP ?_; (with_reducible refine (line_Push.calls kj5 (fun k_ => ((P0_ k_ ∨ w.heap.size ≤ k_) ∧ k_ ≠ gb373)) _ _ t369 a2 a3 t379 t382 _ ?side1 A27.out).mono ?_); (case side1 => exact HO_374002.out); rintro e w39 ⟨v380, rfl, ho0, hb⟩; refine ⟨_, rfl, ?_⟩; have n0_ := Aside0.mk (Kd.V_elder' (zV HO_0) (Kd.R_base ho0) hb); have n1_ := Aside0.mk (Kd.V_elder' (zV HO_374002) (Kd.R_base ho0) hb); have n2_ := Aside0.mk (Kd.R_lower (Kd.R_newM (M := fun k_ => (w.heap.size ≤ k_)) (Kd.R_mono (ok' := fun k_ => True) ho0 (fun _ hk_ => trivial)) (below_size (zB1 HB GE373)) (fun k_ h_ => h_)) (below_size (zB1 HB GE373))); have n3_ := Aside0.mk (blk_below (g := gb373) (o := .cells #[.int .i64 t367, .int .i64 t368, .slice Ao10 t369.length co10] 33 (0, 0)) (zK BK373) hb); have n4_ := Aside0.mk (below_step (zB1 HB GE373) hb); clear HO_0; clear HO_374002; clear BK373; clear HB; have HO_0 := n0_; have HO_374002 := n1_; have HO381 := n2_; have BK373 := n3_; have HB := n4_; clear n0_ n1_ n2_ n3_ n4_; (try clear hb); (try clear hb2); (try clear hk); (try clear hi); (try clear ho0); obtain ⟨Ao40, co40, eo40⟩ := Kd.R_slice HO381.out; subst eo40; have hcz41_0 : w39.cell? ⟨gb373, 0, none⟩ = some (.int .i64 t367) := (blk_cell BK373.out 0).trans rfl; have hcz41_1 : w39.cell? ⟨gb373, 1, none⟩ = some (.int .i64 t368) := (blk_cell BK373.out 1).trans rfl; have hcz41_2 : w39.cell? ⟨gb373, 2, none⟩ = some (.slice Ao10 t369.length co10) := (blk_cell BK373.out 2).trans rfl; have hfz41_0 := blk_frozen BK373.out 0; have hfz41_1 := blk_frozen BK373.out 1; have hfz41_2 := blk_frozen BK373.out 2) | ((with_reducible refine gate_store (t := 25) (p := 46) rfl ?_); refine store_event (t := 25) (p := 46) (v := ?vo_w42) (w1 := (w39.setCell ⟨gb373, 2, none⟩ (.slice Ao40 t379.length co40))) ?hg ?ho ?hn ?hr ?_; (case ho => rfl); (case hg => rfl); (case hn => rfl); (case hr => first | (go_simp; done) | (go_simp; rfl)); intro w42 hw; have n0_ : Aside0 (Kd.V k33 33 w42 w.heap.size (fun k_ => (P0_ k_ ∨ w.heap.size ≤ k_) ∧ some k_ ≠ (.slice Ao40 t379.length co40 : Value).ownBlock ∧ k_ ≠ gb373) (.slice A0 l0.length c0) l0) := ⟨(by rw [hw]; exact (by (with_reducible repeat (first | apply Kd.V_alloc | apply Kd.V_drewN | apply Kd.V_drew)); exact Kd.V_mono (Kd.V_far (p := ⟨gb373, 2, none⟩) (Kd.V_mono HO_0.out (fun k_ hk => (⟨hk, hk.1.2⟩ : _ ∧ k_ ≠ gb373))) (fun _ hk => hk.2) (.slice Ao40 t379.length co40)) (fun _ hk => ⟨hk.1.1.1, ⟨hk.1.2, hk.1.1.2⟩⟩)))⟩; have n1_ : Aside0 (Kd.V (Kd.int .i64) 3 w42 w.heap.size (fun k_ => (P0_ k_ ∨ w.heap.size ≤ k_) ∧ some k_ ≠ (.slice Ao40 t379.length co40 : Value).ownBlock ∧ k_ ≠ gb373) (.slice Ao10 t369.length co10) t369) := ⟨(by rw [hw]; exact (by (with_reducible repeat (first | apply Kd.V_alloc | apply Kd.V_drewN | apply Kd.V_drew)); exact Kd.V_mono (Kd.V_far (p := ⟨gb373, 2, none⟩) (Kd.V_mono HO_374002.out (fun k_ hk => (⟨hk, hk.1.2⟩ : _ ∧ k_ ≠ gb373))) (fun _ hk => hk.2) (.slice Ao40 t379.length co40)) (fun _ hk => ⟨hk.1.1.1, ⟨hk.1.2, hk.1.1.2⟩⟩)))⟩; have n2_ : Aside0 (Kd.R (Kd.int .i64) 3 w42 w.heap.size (fun k_ => (w.heap.size ≤ k_)) (.slice Ao40 t379.length co40) t379) := ⟨(by rw [hw]; exact (by (with_reducible repeat (first | apply Kd.R_alloc | apply Kd.R_drewN | apply Kd.R_drew)); exact Kd.R_mono (Kd.R_far (p := ⟨gb373, 2, none⟩) (Kd.R_types HO381.out BK373.out (by decide)) (fun _ hk => hk.2) (.slice Ao40 t379.length co40)) (fun _ hk => hk.1.1)))⟩; have n3_ : Aside0 (w42.heap[gb373]? = some (.cells #[.int .i64 t367, .int .i64 t368, .slice Ao40 t379.length co40] 33 (0, 0))) := ⟨(by rw [hw]; exact (by (with_reducible repeat (first | refine blk_drewN ?_ _ | refine blk_drew ?_ | refine blk_alloc ?_ _)); refine blk_put (cs := #[.int .i64 t367, .int .i64 t368, .slice Ao10 t369.length co10]) ?_ 2 _ rfl; (with_reducible repeat (first | refine blk_drewN ?_ _ | refine blk_drew ?_ | refine blk_alloc ?_ _)); exact BK373.out))⟩; have n4_ : Aside0 (Below w.heap.size w w42) := ⟨(by rw [hw]; exact (zB1 HB GE373))⟩; clear hw; clear HO_0; clear HO_374002; clear HO381; clear BK373; clear HB; have HO_0 := n0_; have HO_374002 := n1_; have HO381 := n2_; have BK373 := n3_; have HB := n4_; clear n0_ n1_ n2_ n3_ n4_; have hcz43_0 : w42.cell? ⟨gb373, 0, none⟩ = some (.int .i64 t367) := (blk_cell BK373.out 0).trans rfl; have hcz43_1 : w42.cell? ⟨gb373, 1, none⟩ = some (.int .i64 t368) := (blk_cell BK373.out 1).trans rfl; have hcz43_2 : w42.cell? ⟨gb373, 2, none⟩ = some (.slice Ao40 t379.length co40) := (blk_cell BK373.out 2).trans rfl; have hfz43_0 := blk_frozen BK373.out 0; have hfz43_1 := blk_frozen BK373.out 1; have hfz43_2 := blk_frozen BK373.out 2) | ((with_reducible refine gate_callee (f := 17) rfl ?_); refine goesL_ (some 53) rfl rfl Try.func17 (by kernel_rfl) rfl #[.slice A0 l0.length c0, .agg #[.int .i64 t367, .int .i64 t368, .slice Ao40 t379.length co40]] rfl zP ?_; (with_reducible refine (root_Set.calls (fun k_ => ((P0_ k_ ∨ w.heap.size ≤ k_) ∧ (some k_ ≠ (.slice Ao40 t379.length co40 : Value).ownBlock ∧ k_ ≠ gb373))) _ _ l0 t367 t368 (fun k_ => some k_ = (.slice Ao40 t379.length co40 : Value).ownBlock) _ _ t379 t383 t386 _ ?side1 ?side2 A29.out).mono ?_); (case side1 => exact HO_0.out); (case side2 => exact Kd.R_V (Kd.R_tight rfl (Kd.R_types (HO381.out) BK373.out (by decide)))); rintro e w44 ⟨v384, rfl, ho0, hb⟩; refine ⟨_, rfl, ?_⟩; have n0_ := Aside0.mk (Kd.V_below (zV HO_0) hb); have n1_ := Aside0.mk (Kd.V_below (zV HO_374002) hb); have n2_ := Aside0.mk (Kd.R_below (zR HO381) hb); have n3_ := Aside0.mk (Kd.V_lower (Kd.V_mono (ok' := fun k_ => (P0_ k_ ∨ w.heap.size ≤ k_) ∧ k_ ≠ gb373) ho0 (fun k_ hk_ => ⟨Or.elim hk_ (fun hs_ => Or.elim hs_ (fun hs_ => hs_.1) (fun hs_ => (.inr (((Kd.R_types (HO381.out) BK373.out (by decide)).1 k_ hs_.symm).1)))) (fun hn_ => (.inr (Nat.le_trans (below_size (zB1 HB GE373)) hn_))), Or.elim hk_ (fun hs_ => Or.elim hs_ (fun hs_ => hs_.2.2) (fun hs_ => ((Kd.R_types (HO381.out) BK373.out (by decide)).1 k_ hs_.symm).2)) (fun hn_ => (Kd.freshB (g := gb373) (o := .cells #[.int .i64 t367, .int .i64 t368, .slice Ao40 t379.length co40] 33 (0, 0)) (zK BK373) k_ hn_))⟩)) (below_size (zB1 HB GE373))); have n4_ := Aside0.mk (blk_below (g := gb373) (o := .cells #[.int .i64 t367, .int .i64 t368, .slice Ao40 t379.length co40] 33 (0, 0)) (zK BK373) hb); have n5_ := Aside0.mk (below_step (zB1 HB GE373) hb); clear HO_0; clear HO_374002; clear HO381; clear BK373; clear HB; have HO_0 := n0_; have HO_374002 := n1_; have HO381 := n2_; have HO385 := n3_; have BK373 := n4_; have HB := n5_; clear n0_ n1_ n2_ n3_ n4_ n5_; (try clear hb); (try clear hb2); (try clear hk); (try clear hi); (try clear ho0)))
        go_ret3
        exact ⟨_, by first | rfl | (simp [errW_none, errW_some] <;> rfl) | (simp [*, errW_none, errW_some] <;> rfl), Kd.V_mono (Kd.S_V (by first | exact Kd.S_nil _ _ _ 0 (fun k_ => w.heap.size ≤ k_) | exact Kd.S_nil _ _ _ _ _ | exact Kd.N_nil _ _ _ _ _ | exact Kd.V_nil _ _ _ _ _ | exact Kd.Q_nil _ _ _ _ _ | exact Kd.R_nil _ _ _ _ _)) (fun k_ hk => by first | exact ⟨(.inr (hk.1)), hk.2⟩ | exact (.inr (hk))), zB1 HB GE373⟩
      ·rw [if_neg c28] at H
       have c28b0 : (t382 == 0) = false := beq_eq_false_iff_ne.mpr c28
       have c28b1 : (t382 != 0) = true := bne_iff_ne.mpr c28
       simp only [Option.some.injEq, Prod.mk.injEq] at H
       obtain ⟨rfl, rfl, rfl⟩ := H
       have hcz45_0 : wc.cell? ⟨gb373, 0, none⟩ = some (.int .i64 t367) := (blk_cell BK373.out 0).trans rfl
       have hcz45_1 : wc.cell? ⟨gb373, 1, none⟩ = some (.int .i64 t368) := (blk_cell BK373.out 1).trans rfl
       have hcz45_2 : wc.cell? ⟨gb373, 2, none⟩ = some (.slice Ao10 t369.length co10) := (blk_cell BK373.out 2).trans rfl
       have hfz45_0 := blk_frozen BK373.out 0
       have hfz45_1 := blk_frozen BK373.out 1
       have hfz45_2 := blk_frozen BK373.out 2
       go_wp2_with (first | ((with_reducible refine gate_callee (f := 56) rfl ?_); refine goesL_ (some 29) rfl rfl Try.func56 (by kernel_rfl) rfl #[.slice Ao10 t369.length co10, .int .i64 a2] rfl zP ?_; (with_reducible refine (slices_Contains_int_int.calls kj5 _ _ t369 a2 false _ ?side1 ?side2 A13.out).mono ?_); (case side1 => repeat (first | exact (Kd.V_reads' HO_374002.out).2.2 | (with_reducible refine Kd.C_alloc ?_ _) | (with_reducible refine Kd.C_drewN ?_ _) | (with_reducible refine Kd.C_drew ?_))); (case side2 => exact (Kd.V_reads' HO_374002.out).2.1); rintro e w' ⟨rfl, ⟨nd, rfl⟩⟩; refine ⟨_, rfl, ?_⟩; (try (rw [drewN_self wc]; generalize hq_ : World.drewN wc _ = wc; have n0_ : Aside0 (Kd.V k33 33 wc w.heap.size (fun k_ => (P0_ k_ ∨ w.heap.size ≤ k_) ∧ k_ ≠ gb373) (.slice A0 l0.length c0) l0) := ⟨by rw [← hq_]; exact (zV HO_0)⟩; have n1_ : Aside0 (Kd.V (Kd.int .i64) 3 wc w.heap.size (fun k_ => (P0_ k_ ∨ w.heap.size ≤ k_) ∧ k_ ≠ gb373) (.slice Ao10 t369.length co10) t369) := ⟨by rw [← hq_]; exact (zV HO_374002)⟩; have n2_ : Aside0 (wc.heap[gb373]? = some (.cells #[.int .i64 t367, .int .i64 t368, .slice Ao10 t369.length co10] 33 (0, 0))) := ⟨by rw [← hq_]; exact (zK BK373)⟩; have n3_ : Aside0 (Below w.heap.size w wc) := ⟨by rw [← hq_]; exact (zB1 HB GE373)⟩; clear HO_0 HO_374002 BK373 HB hq_; have HO_0 := n0_; have HO_374002 := n1_; have BK373 := n2_; have HB := n3_; clear n0_ n1_ n2_ n3_; have hcz45_0 : wc.cell? ⟨gb373, 0, none⟩ = some (.int .i64 t367) := (blk_cell BK373.out 0).trans rfl; have hcz45_1 : wc.cell? ⟨gb373, 1, none⟩ = some (.int .i64 t368) := (blk_cell BK373.out 1).trans rfl; have hcz45_2 : wc.cell? ⟨gb373, 2, none⟩ = some (.slice Ao10 t369.length co10) := (blk_cell BK373.out 2).trans rfl; have hfz45_0 := blk_frozen BK373.out 0; have hfz45_1 := blk_frozen BK373.out 1; have hfz45_2 := blk_frozen BK373.out 2))) | ((with_reducible refine gate_callee (f := 57) rfl ?_); refine goesL_ (some 43) rfl rfl Try.func57 (by kernel_rfl) rfl #[.slice Ao10 t369.length co10, .int .i64 a2, .bool a3] rfl zP ?_; (with_reducible refine (line_Push.calls kj5 (fun k_ => ((P0_ k_ ∨ w.heap.size ≤ k_) ∧ k_ ≠ gb373)) _ _ t369 a2 a3 t379 t382 _ ?side1 A27.out).mono ?_); (case side1 => exact HO_374002.out); rintro e w46 ⟨v380, rfl, ho0, hb⟩; refine ⟨_, rfl, ?_⟩; have n0_ := Aside0.mk (Kd.V_elder' (zV HO_0) (Kd.R_base ho0) hb); have n1_ := Aside0.mk (Kd.V_elder' (zV HO_374002) (Kd.R_base ho0) hb); have n2_ := Aside0.mk (Kd.R_lower (Kd.R_newM (M := fun k_ => (w.heap.size ≤ k_)) (Kd.R_mono (ok' := fun k_ => True) ho0 (fun _ hk_ => trivial)) (below_size (zB1 HB GE373)) (fun k_ h_ => h_)) (below_size (zB1 HB GE373))); have n3_ := Aside0.mk (blk_below (g := gb373) (o := .cells #[.int .i64 t367, .int .i64 t368, .slice Ao10 t369.length co10] 33 (0, 0)) (zK BK373) hb); have n4_ := Aside0.mk (below_step (zB1 HB GE373) hb); clear HO_0; clear HO_374002; clear BK373; clear HB; have HO_0 := n0_; have HO_374002 := n1_; have HO381 := n2_; have BK373 := n3_; have HB := n4_; clear n0_ n1_ n2_ n3_ n4_; (try clear hb); (try clear hb2); (try clear hk); (try clear hi); (try clear ho0); obtain ⟨Ao47, co47, eo47⟩ := Kd.R_slice HO381.out; subst eo47; have hcz48_0 : w46.cell? ⟨gb373, 0, none⟩ = some (.int .i64 t367) := (blk_cell BK373.out 0).trans rfl; have hcz48_1 : w46.cell? ⟨gb373, 1, none⟩ = some (.int .i64 t368) := (blk_cell BK373.out 1).trans rfl; have hcz48_2 : w46.cell? ⟨gb373, 2, none⟩ = some (.slice Ao10 t369.length co10) := (blk_cell BK373.out 2).trans rfl; have hfz48_0 := blk_frozen BK373.out 0; have hfz48_1 := blk_frozen BK373.out 1; have hfz48_2 := blk_frozen BK373.out 2))
       go_ret3
       exact ⟨_, by first | rfl | (simp [errW_none, errW_some] <;> rfl) | (simp [*, errW_none, errW_some] <;> rfl), Kd.V_mono (Kd.S_V (by first | exact Kd.S_nil _ _ _ 0 (fun k_ => w.heap.size ≤ k_) | exact Kd.S_nil _ _ _ _ _ | exact Kd.N_nil _ _ _ _ _ | exact Kd.V_nil _ _ _ _ _ | exact Kd.Q_nil _ _ _ _ _ | exact Kd.R_nil _ _ _ _ _)) (fun k_ hk => by first | exact ⟨(.inr (hk.1)), hk.2⟩ | exact (.inr (hk))), zB1 HB GE373⟩

end Go.Proofs.Ytnjnjajgpkmfhaa.PX

namespace Go.Proofs.Ytnjnjajgpkmfhaa.PX
open Go.RowKit Go.Proofs.YtnjnjajgpkmfhaaW.PrintWords Go.Proofs.YtnjnjajgpkmfhaaW.PrintLast Go.Proofs.YtnjnjajgpkmfhaaW.PrintMore
attribute [local go_sem] max2_int min2_int max_two min_two max_three min_three max_four min_four   -- for this text's walks alone
set_option linter.unusedVariables false
set_option linter.unusedSimpArgs false

/-! ### sema_Release: function 32 -/
def sema_Release.f (l0 : List (S33)) (a1 : Int) : Option ((List (S33)) × Int × Int) := (root_Get.f l0 a1).bind fun bt387 => (if bt387.2.2.2 = 0 then ((line_Pop.f bt387.2.2.1).bind fun bt394 => (if bt394.2.2 = 0 then ((root_Set.f l0 bt387.1 bt387.2.1 bt394.1).bind fun bt399 => (if bt399.2 = 0 then (some (bt399.1, bt394.2.1, 0)) else (some (([] : List (S33)), 0, bt399.2)))) else (if bt387.2.1 = 2147483647 then (some (([] : List (S33)), 0, 10)) else ((root_Set.f l0 bt387.1 (wrap64 (bt387.2.1 + 1)) bt387.2.2.1).bind fun bt403 => (if bt403.2 = 0 then (some (bt403.1, (-1), 0)) else (some (([] : List (S33)), 0, bt403.2))))))) else (some (([] : List (S33)), 0, 1)))
set_option maxHeartbeats 8000000 in
set_option maxRecDepth 100000 in
theorem sema_Release.calls (P0_ : Nat → Prop) (A0 : Option Addr) (c0 : Nat) (l0 : List (S33)) (a1 : Int) (r1 : List (S33)) (r2 : Int) (r3 : Int) (w : World) (hs0 : Kd.V k33 33 w w.heap.size (fun k_ => P0_ k_) (.slice A0 l0.length c0) l0) (h : sema_Release.f l0 a1 = some (r1, r2, r3)) :
  Calls Try.prog 32 #[.slice A0 l0.length c0, .int .i64 a1] w fun e w' => ∃ v0_ : Value, e = .returned (.tuple #[v0_, .int .i64 r2, .int .i64 r3]) ∧ Kd.V k33 33 w' w.heap.size (fun k_ => (P0_ k_ ∨ w.heap.size ≤ k_)) v0_ r1 ∧ Below w.heap.size w w' := by
 have hu33 := Try.underlying33
 have HO0 := Aside0.mk (show Kd.V k33 33 w w.heap.size (fun k_ => (P0_ k_ ∨ w.heap.size ≤ k_)) (.slice A0 l0.length c0) l0 from Kd.V_mono hs0 (fun k_ hk => .inl hk))
 have HB := Aside0.mk (Below.refl w.heap.size w)
 have H : ((root_Get.f l0 a1).bind fun bt387 => (if bt387.2.2.2 = 0 then ((line_Pop.f bt387.2.2.1).bind fun bt394 => (if bt394.2.2 = 0 then ((root_Set.f l0 bt387.1 bt387.2.1 bt394.1).bind fun bt399 => (if bt399.2 = 0 then (some (bt399.1, bt394.2.1, 0)) else (some (([] : List (S33)), 0, bt399.2)))) else (if bt387.2.1 = 2147483647 then (some (([] : List (S33)), 0, 10)) else ((root_Set.f l0 bt387.1 (wrap64 (bt387.2.1 + 1)) bt387.2.2.1).bind fun bt403 => (if bt403.2 = 0 then (some (bt403.1, (-1), 0)) else (some (([] : List (S33)), 0, bt403.2))))))) else (some (([] : List (S33)), 0, 1)))) = some (r1, r2, r3) := h
 clear h
 replace H := Option.bind_eq_some_iff.mp H
 obtain ⟨⟨t387, t388, t389, t392⟩, A30, H⟩ := H
 replace H : (if t392 = 0 then ((line_Pop.f t389).bind fun bt394 => (if bt394.2.2 = 0 then ((root_Set.f l0 t387 t388 bt394.1).bind fun bt399 => (if bt399.2 = 0 then (some (bt399.1, bt394.2.1, 0)) else (some (([] : List (S33)), 0, bt399.2)))) else (if t388 = 2147483647 then (some (([] : List (S33)), 0, 10)) else ((root_Set.f l0 t387 (wrap64 (t388 + 1)) t389).bind fun bt403 => (if bt403.2 = 0 then (some (bt403.1, (-1), 0)) else (some (([] : List (S33)), 0, bt403.2))))))) else (some (([] : List (S33)), 0, 1))) = some (r1, r2, r3) := H
 have A3 := Aside0.mk A30
 clear A30
 by_cases c4 : t392 = 0
 ·rw [if_pos c4] at H
  have c4b0 : (t392 == 0) = true := beq_iff_eq.mpr c4
  have c4b1 : (t392 != 0) = false := bne_eq_false_iff_eq.mpr c4
  clear c4
  replace H := Option.bind_eq_some_iff.mp H
  obtain ⟨⟨t394, t397, t398⟩, A50, H⟩ := H
  replace H : (if t398 = 0 then ((root_Set.f l0 t387 t388 t394).bind fun bt399 => (if bt399.2 = 0 then (some (bt399.1, t397, 0)) else (some (([] : List (S33)), 0, bt399.2)))) else (if t388 = 2147483647 then (some (([] : List (S33)), 0, 10)) else ((root_Set.f l0 t387 (wrap64 (t388 + 1)) t389).bind fun bt403 => (if bt403.2 = 0 then (some (bt403.1, (-1), 0)) else (some (([] : List (S33)), 0, bt403.2)))))) = some (r1, r2, r3) := H
  have A5 := Aside0.mk A50
  clear A50
  by_cases c6 : t398 = 0
  ·rw [if_pos c6] at H
   have c6b0 : (t398 == 0) = true := beq_iff_eq.mpr c6
   have c6b1 : (t398 != 0) = false := bne_eq_false_iff_eq.mpr c6
   clear c6
   replace H := Option.bind_eq_some_iff.mp H
   obtain ⟨⟨t399, t402⟩, A70, H⟩ := H
   replace H : (if t402 = 0 then (some (t399, t397, 0)) else (some (([] : List (S33)), 0, t402))) = some (r1, r2, r3) := H
   have A7 := Aside0.mk A70
   clear A70
   by_cases c8 : t402 = 0
   ·rw [if_pos c8] at H
    have c8b0 : (t402 == 0) = true := beq_iff_eq.mpr c8
    have c8b1 : (t402 != 0) = false := bne_eq_false_iff_eq.mpr c8
    clear c8
    simp only [Option.some.injEq, Prod.mk.injEq] at H
    obtain ⟨rfl, rfl, rfl⟩ := H
    go_enter Try.func32, Try.ntmps32
    go_wp2_with (first | ((with_reducible refine gate_callee (f := 16) rfl ?_); refine goesL_ (some 16) rfl rfl Try.func16 (by kernel_rfl) rfl #[.slice A0 l0.length c0, .int .i64 a1] rfl zP ?_; (with_reducible refine (root_Get.calls (fun k_ => (P0_ k_ ∨ w.heap.size ≤ k_)) _ _ l0 a1 t387 t388 t389 t392 _ ?side1 A3.out).mono ?_); (case side1 => exact HO0.out); rintro e w9 ⟨v390, rfl, ho0, hb⟩; refine ⟨_, rfl, ?_⟩; have n0_ := Aside0.mk (Kd.V_below (zV HO0) hb); have n1_ := Aside0.mk (Kd.V_lower (Kd.V_mono (ok' := fun k_ => (P0_ k_ ∨ w.heap.size ≤ k_)) ho0 (fun k_ hk_ => Or.elim hk_ (fun hs_ => hs_) (fun hn_ => (.inr (Nat.le_trans (below_size (zB HB)) hn_))))) (below_size (zB HB))); have n2_ := Aside0.mk (below_step (zB HB) hb); clear HO0; clear HB; have HO0 := n0_; have HO391 := n1_; have HB := n2_; clear n0_ n1_ n2_; (try clear hb); (try clear hb2); (try clear hk); (try clear hi); (try clear ho0)) | ((with_reducible refine gate_dst (N := 7) rfl ?_); refine box_event ?hg (N := 7) ?hd (cs := #[.int .i64 0, .int .i64 0, .slice none 0 0]) (t := 33) ?hr ?_; (case hd => rfl); (case hg => rfl); (case hr => first | (go_simp; done) | (go_simp; rfl)); intro gb393 hg w10 hbox hb; have n0_ := Aside0.mk (Kd.V_below (Kd.V_elderB (zV HO0) gb393 (Nat.le_of_eq hg.symm)) hb); have n1_ := Aside0.mk (Kd.V_below (Kd.V_elderB (zV HO391) gb393 (Nat.le_of_eq hg.symm)) hb); have n2_ := Aside0.mk (below_step (zB HB) hb); have n3_ := Aside0.mk (hbox); have n4_ := Aside0.mk ((by rw [hg]; exact (below_size (zB HB)) : w.heap.size ≤ gb393)); have n5_ := Aside0.mk ((by rw [hg]; exact (below_size (zB HB)) : w.heap.size ≤ gb393)); clear HO0; clear HO391; clear HB; have HO0 := n0_; have HO391 := n1_; have HB := n2_; have BK393 := n3_; have GW393 := n4_; have GE393 := n5_; clear n0_ n1_ n2_ n3_ n4_ n5_; clear hb hbox hg; have hcz11_0 : w10.cell? ⟨gb393, 0, none⟩ = some (.int .i64 0) := (blk_cell BK393.out 0).trans rfl; have hcz11_1 : w10.cell? ⟨gb393, 1, none⟩ = some (.int .i64 0) := (blk_cell BK393.out 1).trans rfl; have hcz11_2 : w10.cell? ⟨gb393, 2, none⟩ = some (.slice none 0 0) := (blk_cell BK393.out 2).trans rfl; have hfz11_0 := blk_frozen BK393.out 0; have hfz11_1 := blk_frozen BK393.out 1; have hfz11_2 := blk_frozen BK393.out 2; obtain ⟨Ao12, co12, eo12⟩ := Kd.V_slice HO391.out; subst eo12) | ((with_reducible refine gate_store (t := 33) (p := 7) rfl ?_); refine store_event (t := 33) (p := 7) (v := ?vo_w13) (w1 := (((w10.setCell ⟨gb393, 0, none⟩ (.int .i64 t387)).setCell ⟨gb393, 1, none⟩ (.int .i64 t388)).setCell ⟨gb393, 2, none⟩ (.slice Ao12 t389.length co12))) ?hg ?ho ?hn ?hr ?_; (case ho => rfl); (case hg => rfl); (case hn => rfl); (case hr => first | (go_simp; done) | (go_simp; rfl)); intro w13 hw; have n0_ : Aside0 (Kd.V k33 33 w13 w.heap.size (fun k_ => (P0_ k_ ∨ w.heap.size ≤ k_) ∧ k_ ≠ gb393) (.slice A0 l0.length c0) l0) := ⟨(by rw [hw]; exact (by (with_reducible repeat (first | apply Kd.V_alloc | apply Kd.V_drewN | apply Kd.V_drew)); exact Kd.V_mono (Kd.V_far (p := ⟨gb393, 2, none⟩) (Kd.V_far (p := ⟨gb393, 1, none⟩) (Kd.V_far (p := ⟨gb393, 0, none⟩) (Kd.V_mono HO0.out (fun k_ hk => (⟨hk, hk.2⟩ : _ ∧ k_ ≠ gb393))) (fun _ hk => hk.2) (.int .i64 t387)) (fun _ hk => hk.2) (.int .i64 t388)) (fun _ hk => hk.2) (.slice Ao12 t389.length co12)) (fun _ hk => ⟨hk.1.1, hk.1.2⟩)))⟩; have n1_ : Aside0 (Kd.V (Kd.int .i64) 3 w13 w.heap.size (fun k_ => (P0_ k_ ∨ w.heap.size ≤ k_) ∧ k_ ≠ gb393) (.slice Ao12 t389.length co12) t389) := ⟨(by rw [hw]; exact (by (with_reducible repeat (first | apply Kd.V_alloc | apply Kd.V_drewN | apply Kd.V_drew)); exact Kd.V_mono (Kd.V_far (p := ⟨gb393, 2, none⟩) (Kd.V_far (p := ⟨gb393, 1, none⟩) (Kd.V_far (p := ⟨gb393, 0, none⟩) (Kd.V_mono HO391.out (fun k_ hk => (⟨hk, hk.2⟩ : _ ∧ k_ ≠ gb393))) (fun _ hk => hk.2) (.int .i64 t387)) (fun _ hk => hk.2) (.int .i64 t388)) (fun _ hk => hk.2) (.slice Ao12 t389.length co12)) (fun _ hk => ⟨hk.1.1, hk.1.2⟩)))⟩; have n2_ : Aside0 (w13.heap[gb393]? = some (.cells #[.int .i64 t387, .int .i64 t388, .slice Ao12 t389.length co12] 33 (0, 0))) := ⟨(by rw [hw]; exact (by (with_reducible repeat (first | refine blk_drewN ?_ _ | refine blk_drew ?_ | refine blk_alloc ?_ _)); refine blk_put (cs := #[.int .i64 t387, .int .i64 t388, .slice none 0 0]) ?_ 2 _ rfl; (with_reducible repeat (first | refine blk_drewN ?_ _ | refine blk_drew ?_ | refine blk_alloc ?_ _)); refine blk_put (cs := #[.int .i64 t387, .int .i64 0, .slice none 0 0]) ?_ 1 _ rfl; (with_reducible repeat (first | refine blk_drewN ?_ _ | refine blk_drew ?_ | refine blk_alloc ?_ _)); refine blk_put (cs := #[.int .i64 0, .int .i64 0, .slice none 0 0]) ?_ 0 _ rfl; (with_reducible repeat (first | refine blk_drewN ?_ _ | refine blk_drew ?_ | refine blk_alloc ?_ _)); exact BK393.out))⟩; have n3_ : Aside0 (Below w.heap.size w w13) := ⟨(by rw [hw]; exact (zB1 HB GE393))⟩; clear hw; clear HO0; clear HO391; clear BK393; clear HB; have HO0 := n0_; have HO391 := n1_; have BK393 := n2_; have HB := n3_; clear n0_ n1_ n2_ n3_; have hcz14_0 : w13.cell? ⟨gb393, 0, none⟩ = some (.int .i64 t387) := (blk_cell BK393.out 0).trans rfl; have hcz14_1 : w13.cell? ⟨gb393, 1, none⟩ = some (.int .i64 t388) := (blk_cell BK393.out 1).trans rfl; have hcz14_2 : w13.cell? ⟨gb393, 2, none⟩ = some (.slice Ao12 t389.length co12) := (blk_cell BK393.out 2).trans rfl; have hfz14_0 := blk_frozen BK393.out 0; have hfz14_1 := blk_frozen BK393.out 1; have hfz14_2 := blk_frozen BK393.out 2) | ((with_reducible refine gate_callee (f := 58) rfl ?_); refine goesL_ (some 24) rfl rfl Try.func58 (by kernel_rfl) rfl #[.slice Ao12 t389.length co12] rfl zP ?_; (with_reducible refine (line_Pop.calls (fun k_ => ((P0_ k_ ∨ w.heap.size ≤ k_) ∧ k_ ≠ gb393)) _ _ t389 t394 t397 t398 _ ?side1 A5.out).mono ?_); (case side1 => exact HO391.out); rintro e w15 ⟨v395, rfl, ho0, hb⟩; refine ⟨_, rfl, ?_⟩; have n0_ := Aside0.mk (Kd.V_below (zV HO0) hb); have n1_ := Aside0.mk (Kd.V_below (zV HO391) hb); have n2_ := Aside0.mk (Kd.V_lower (Kd.V_mono (ok' := fun k_ => (P0_ k_ ∨ w.heap.size ≤ k_) ∧ k_ ≠ gb393) ho0 (fun k_ hk_ => ⟨Or.elim hk_ (fun hs_ => hs_.1) (fun hn_ => (.inr (Nat.le_trans (below_size (zB1 HB GE393)) hn_))), Or.elim hk_ (fun hs_ => hs_.2) (fun hn_ => (Kd.freshB (g := gb393) (o := .cells #[.int .i64 t387, .int .i64 t388, .slice Ao12 t389.length co12] 33 (0, 0)) (zK BK393) k_ hn_))⟩)) (below_size (zB1 HB GE393))); have n3_ := Aside0.mk (blk_below (g := gb393) (o := .cells #[.int .i64 t387, .int .i64 t388, .slice Ao12 t389.length co12] 33 (0, 0)) (zK BK393) hb); have n4_ := Aside0.mk (below_step (zB1 HB GE393) hb); clear HO0; clear HO391; clear BK393; clear HB; have HO0 := n0_; have HO391 := n1_; have HO396 := n2_; have BK393 := n3_; have HB := n4_; clear n0_ n1_ n2_ n3_ n4_; (try clear hb); (try clear hb2); (try clear hk); (try clear hi); (try clear ho0); obtain ⟨Ao16, co16, eo16⟩ := Kd.V_slice HO396.out; subst eo16; have hcz17_0 : w15.cell? ⟨gb393, 0, none⟩ = some (.int .i64 t387) := (blk_cell BK393.out 0).trans rfl; have hcz17_1 : w15.cell? ⟨gb393, 1, none⟩ = some (.int .i64 t388) := (blk_cell BK393.out 1).trans rfl; have hcz17_2 : w15.cell? ⟨gb393, 2, none⟩ = some (.slice Ao12 t389.length co12) := (blk_cell BK393.out 2).trans rfl; have hfz17_0 := blk_frozen BK393.out 0; have hfz17_1 := blk_frozen BK393.out 1; have hfz17_2 := blk_frozen BK393.out 2) | ((with_reducible refine gate_store (t := 25) (p := 37) rfl ?_); refine store_event (t := 25) (p := 37) (v := ?vo_w18) (w1 := (w15.setCell ⟨gb393, 2, none⟩ (.slice Ao16 t394.length co16))) ?hg ?ho ?hn ?hr ?_; (case ho => rfl); (case hg => rfl); (case hn => rfl); (case hr => first | (go_simp; done) | (go_simp; rfl)); intro w18 hw; have n0_ : Aside0 (Kd.V k33 33 w18 w.heap.size (fun k_ => (P0_ k_ ∨ w.heap.size ≤ k_) ∧ k_ ≠ gb393) (.slice A0 l0.length c0) l0) := ⟨(by rw [hw]; exact (by (with_reducible repeat (first | apply Kd.V_alloc | apply Kd.V_drewN | apply Kd.V_drew)); exact Kd.V_mono (Kd.V_far (p := ⟨gb393, 2, none⟩) (Kd.V_mono HO0.out (fun k_ hk => (⟨hk, hk.2⟩ : _ ∧ k_ ≠ gb393))) (fun _ hk => hk.2) (.slice Ao16 t394.length co16)) (fun _ hk => ⟨hk.1.1, hk.1.2⟩)))⟩; have n1_ : Aside0 (Kd.V (Kd.int .i64) 3 w18 w.heap.size (fun k_ => (P0_ k_ ∨ w.heap.size ≤ k_) ∧ k_ ≠ gb393) (.slice Ao12 t389.length co12) t389) := ⟨(by rw [hw]; exact (by (with_reducible repeat (first | apply Kd.V_alloc | apply Kd.V_drewN | apply Kd.V_drew)); exact Kd.V_mono (Kd.V_far (p := ⟨gb393, 2, none⟩) (Kd.V_mono HO391.out (fun k_ hk => (⟨hk, hk.2⟩ : _ ∧ k_ ≠ gb393))) (fun _ hk => hk.2) (.slice Ao16 t394.length co16)) (fun _ hk => ⟨hk.1.1, hk.1.2⟩)))⟩; have n2_ : Aside0 (Kd.V (Kd.int .i64) 3 w18 w.heap.size (fun k_ => (P0_ k_ ∨ w.heap.size ≤ k_) ∧ k_ ≠ gb393) (.slice Ao16 t394.length co16) t394) := ⟨(by rw [hw]; exact (by (with_reducible repeat (first | apply Kd.V_alloc | apply Kd.V_drewN | apply Kd.V_drew)); exact Kd.V_mono (Kd.V_far (p := ⟨gb393, 2, none⟩) (Kd.V_mono HO396.out (fun k_ hk => (⟨hk, hk.2⟩ : _ ∧ k_ ≠ gb393))) (fun _ hk => hk.2) (.slice Ao16 t394.length co16)) (fun _ hk => ⟨hk.1.1, hk.1.2⟩)))⟩; have n3_ : Aside0 (w18.heap[gb393]? = some (.cells #[.int .i64 t387, .int .i64 t388, .slice Ao16 t394.length co16] 33 (0, 0))) := ⟨(by rw [hw]; exact (by (with_reducible repeat (first | refine blk_drewN ?_ _ | refine blk_drew ?_ | refine blk_alloc ?_ _)); refine blk_put (cs := #[.int .i64 t387, .int .i64 t388, .slice Ao12 t389.length co12]) ?_ 2 _ rfl; (with_reducible repeat (first | refine blk_drewN ?_ _ | refine blk_drew ?_ | refine blk_alloc ?_ _)); exact BK393.out))⟩; have n4_ : Aside0 (Below w.heap.size w w18) := ⟨(by rw [hw]; exact (zB1 HB GE393))⟩; clear hw; clear HO0; clear HO391; clear HO396; clear BK393; clear HB; have HO0 := n0_; have HO391 := n1_; have HO396 := n2_; have BK393 := n3_; have HB := n4_; clear n0_ n1_ n2_ n3_ n4_; have hcz19_0 : w18.cell? ⟨gb393, 0, none⟩ = some (.int .i64 t387) := (blk_cell BK393.out 0).trans rfl; have hcz19_1 : w18.cell? ⟨gb393, 1, none⟩ = some (.int .i64 t388) := (blk_cell BK393.out 1).trans rfl; have hcz19_2 : w18.cell? ⟨gb393, 2, none⟩ = some (.slice Ao16 t394.length co16) := (blk_cell BK393.out 2).trans rfl; have hfz19_0 := blk_frozen BK393.out 0; have hfz19_1 := blk_frozen BK393.out 1; have hfz19_2 := blk_frozen BK393.out 2) | ((with_reducible refine gate_callee (f := 17) rfl ?_); refine goesL_ (some 45) rfl rfl Try.func17 (by kernel_rfl) rfl #[.slice A0 l0.length c0, .agg #[.int .i64 t387, .int .i64 t388, .slice Ao16 t394.length co16]] rfl zP ?_; (with_reducible refine (root_Set.calls (fun k_ => ((P0_ k_ ∨ w.heap.size ≤ k_) ∧ k_ ≠ gb393)) _ _ l0 t387 t388 (fun k_ => ((P0_ k_ ∨ w.heap.size ≤ k_) ∧ k_ ≠ gb393)) _ _ t394 t399 t402 _ ?side1 ?side2 A7.out).mono ?_); (case side1 => exact HO0.out); (case side2 => exact HO396.out); rintro e w20 ⟨v400, rfl, ho0, hb⟩; refine ⟨_, rfl, ?_⟩; have n0_ := Aside0.mk (Kd.V_below (zV HO0) hb); have n1_ := Aside0.mk (Kd.V_below (zV HO391) hb); have n2_ := Aside0.mk (Kd.V_below (zV HO396) hb); have n3_ := Aside0.mk (Kd.V_lower (Kd.V_mono (ok' := fun k_ => (P0_ k_ ∨ w.heap.size ≤ k_) ∧ k_ ≠ gb393) ho0 (fun k_ hk_ => ⟨Or.elim hk_ (fun hs_ => Or.elim hs_ (fun hs_ => hs_.1) (fun hs_ => hs_.1)) (fun hn_ => (.inr (Nat.le_trans (below_size (zB1 HB GE393)) hn_))), Or.elim hk_ (fun hs_ => Or.elim hs_ (fun hs_ => hs_.2) (fun hs_ => hs_.2)) (fun hn_ => (Kd.freshB (g := gb393) (o := .cells #[.int .i64 t387, .int .i64 t388, .slice Ao16 t394.length co16] 33 (0, 0)) (zK BK393) k_ hn_))⟩)) (below_size (zB1 HB GE393))); have n4_ := Aside0.mk (blk_below (g := gb393) (o := .cells #[.int .i64 t387, .int .i64 t388, .slice Ao16 t394.length co16] 33 (0, 0)) (zK BK393) hb); have n5_ := Aside0.mk (below_step (zB1 HB GE393) hb); clear HO0; clear HO391; clear HO396; clear BK393; clear HB; have HO0 := n0_; have HO391 := n1_; have HO396 := n2_; have HO401 := n3_; have BK393 := n4_; have HB := n5_; clear n0_ n1_ n2_ n3_ n4_ n5_; (try clear hb); (try clear hb2); (try clear hk); (try clear hi); (try clear ho0)))
    go_ret3
    exact ⟨_, by first | rfl | (simp [errW_none, errW_some] <;> rfl) | (simp [*, errW_none, errW_some] <;> rfl), by (with_reducible repeat (first | apply Kd.V_alloc | apply Kd.V_drewN | apply Kd.V_drew)); exact Kd.V_mono HO401.out (fun _ hk => hk.1), zB1 HB GE393⟩
   ·rw [if_neg c8] at H
    have c8b0 : (t402 == 0) = false := beq_eq_false_iff_ne.mpr c8
    have c8b1 : (t402 != 0) = true := bne_iff_ne.mpr c8
    simp only [Option.some.injEq, Prod.mk.injEq] at H
    obtain ⟨rfl, rfl, rfl⟩ := H
    go_enter Try.func32, Try.ntmps32
    go_wp2_with (first | ((with_reducible refine gate_callee (f := 16) rfl ?_); refine goesL_ (some 16) rfl rfl Try.func16 (by kernel_rfl) rfl #[.slice A0 l0.length c0, .int .i64 a1] rfl zP ?_; (with_reducible refine (root_Get.calls (fun k_ => (P0_ k_ ∨ w.heap.size ≤ k_)) _ _ l0 a1 t387 t388 t389 t392 _ ?side1 A3.out).mono ?_); (case side1 => exact HO0.out); rintro e w21 ⟨v390, rfl, ho0, hb⟩; refine ⟨_, rfl, ?_⟩; have n0_ := Aside0.mk (Kd.V_below (zV HO0) hb); have n1_ := Aside0.mk (Kd.V_lower (Kd.V_mono (ok' := fun k_ => (P0_ k_ ∨ w.heap.size ≤ k_)) ho0 (fun k_ hk_ => Or.elim hk_ (fun hs_ => hs_) (fun hn_ => (.inr (Nat.le_trans (below_size (zB HB)) hn_))))) (below_size (zB HB))); have n2_ := Aside0.mk (below_step (zB HB) hb); clear HO0; clear HB; have HO0 := n0_; have HO391 := n1_; have HB := n2_; clear n0_ n1_ n2_; (try clear hb); (try clear hb2); (try clear hk); (try clear hi); (try clear ho0)) | ((with_reducible refine gate_dst (N := 7) rfl ?_); refine box_event ?hg (N := 7) ?hd (cs := #[.int .i64 0, .int .i64 0, .slice none 0 0]) (t := 33) ?hr ?_; (case hd => rfl); (case hg => rfl); (case hr => first | (go_simp; done) | (go_simp; rfl)); intro gb393 hg w22 hbox hb; have n0_ := Aside0.mk (Kd.V_below (Kd.V_elderB (zV HO0) gb393 (Nat.le_of_eq hg.symm)) hb); have n1_ := Aside0.mk (Kd.V_below (Kd.V_elderB (zV HO391) gb393 (Nat.le_of_eq hg.symm)) hb); have n2_ := Aside0.mk (below_step (zB HB) hb); have n3_ := Aside0.mk (hbox); have n4_ := Aside0.mk ((by rw [hg]; exact (below_size (zB HB)) : w.heap.size ≤ gb393)); have n5_ := Aside0.mk ((by rw [hg]; exact (below_size (zB HB)) : w.heap.size ≤ gb393)); clear HO0; clear HO391; clear HB; have HO0 := n0_; have HO391 := n1_; have HB := n2_; have BK393 := n3_; have GW393 := n4_; have GE393 := n5_; clear n0_ n1_ n2_ n3_ n4_ n5_; clear hb hbox hg; have hcz23_0 : w22.cell? ⟨gb393, 0, none⟩ = some (.int .i64 0) := (blk_cell BK393.out 0).trans rfl; have hcz23_1 : w22.cell? ⟨gb393, 1, none⟩ = some (.int .i64 0) := (blk_cell BK393.out 1).trans rfl; have hcz23_2 : w22.cell? ⟨gb393, 2, none⟩ = some (.slice none 0 0) := (blk_cell BK393.out 2).trans rfl; have hfz23_0 := blk_frozen BK393.out 0; have hfz23_1 := blk_frozen BK393.out 1; have hfz23_2 := blk_frozen BK393.out 2; obtain ⟨Ao24, co24, eo24⟩ := Kd.V_slice HO391.out; subst eo24) | ((with_reducible refine gate_store (t := 33) (p := 7) rfl ?_); refine store_event (t := 33) (p := 7) (v := ?vo_w25) (w1 := (((w22.setCell ⟨gb393, 0, none⟩ (.int .i64 t387)).setCell ⟨gb393, 1, none⟩ (.int .i64 t388)).setCell ⟨gb393, 2, none⟩ (.slice Ao24 t389.length co24))) ?hg ?ho ?hn ?hr ?_; (case ho => rfl); (case hg => rfl); (case hn => rfl); (case hr => first | (go_simp; done) | (go_simp; rfl)); intro w25 hw; have n0_ : Aside0 (Kd.V k33 33 w25 w.heap.size (fun k_ => (P0_ k_ ∨ w.heap.size ≤ k_) ∧ k_ ≠ gb393) (.slice A0 l0.length c0) l0) := ⟨(by rw [hw]; exact (by (with_reducible repeat (first | apply Kd.V_alloc | apply Kd.V_drewN | apply Kd.V_drew)); exact Kd.V_mono (Kd.V_far (p := ⟨gb393, 2, none⟩) (Kd.V_far (p := ⟨gb393, 1, none⟩) (Kd.V_far (p := ⟨gb393, 0, none⟩) (Kd.V_mono HO0.out (fun k_ hk => (⟨hk, hk.2⟩ : _ ∧ k_ ≠ gb393))) (fun _ hk => hk.2) (.int .i64 t387)) (fun _ hk => hk.2) (.int .i64 t388)) (fun _ hk => hk.2) (.slice Ao24 t389.length co24)) (fun _ hk => ⟨hk.1.1, hk.1.2⟩)))⟩; have n1_ : Aside0 (Kd.V (Kd.int .i64) 3 w25 w.heap.size (fun k_ => (P0_ k_ ∨ w.heap.size ≤ k_) ∧ k_ ≠ gb393) (.slice Ao24 t389.length co24) t389) := ⟨(by rw [hw]; exact (by (with_reducible repeat (first | apply Kd.V_alloc | apply Kd.V_drewN | apply Kd.V_drew)); exact Kd.V_mono (Kd.V_far (p := ⟨gb393, 2, none⟩) (Kd.V_far (p := ⟨gb393, 1, none⟩) (Kd.V_far (p := ⟨gb393, 0, none⟩) (Kd.V_mono HO391.out (fun k_ hk => (⟨hk, hk.2⟩ : _ ∧ k_ ≠ gb393))) (fun _ hk => hk.2) (.int .i64 t387)) (fun _ hk => hk.2) (.int .i64 t388)) (fun _ hk => hk.2) (.slice Ao24 t389.length co24)) (fun _ hk => ⟨hk.1.1, hk.1.2⟩)))⟩; have n2_ : Aside0 (w25.heap[gb393]? = some (.cells #[.int .i64 t387, .int .i64 t388, .slice Ao24 t389.length co24] 33 (0, 0))) := ⟨(by rw [hw]; exact (by (with_reducible repeat (first | refine blk_drewN ?_ _ | refine blk_drew ?_ | refine blk_alloc ?_ _)); refine blk_put (cs := #[.int .i64 t387, .int .i64 t388, .slice none 0 0]) ?_ 2 _ rfl; (with_reducible repeat (first | refine blk_drewN ?_ _ | refine blk_drew ?_ | refine blk_alloc ?_ _)); refine blk_put (cs := #[.int .i64 t387, .int .i64 0, .slice none 0 0]) ?_ 1 _ rfl; (with_reducible repeat (first | refine blk_drewN ?_ _ | refine blk_drew ?_ | refine blk_alloc ?_ _)); refine blk_put (cs := #[.int .i64 0, .int .i64 0, .slice none 0 0]) ?_ 0 _ rfl; (with_reducible repeat (first | refine blk_drewN ?_ _ | refine blk_drew ?_ | refine blk_alloc ?_ _)); exact BK393.out))⟩; have n3_ : Aside0 (Below w.heap.size w w25) := ⟨(by rw [hw]; exact (zB1 HB GE393))⟩; clear hw; clear HO0; clear HO391; clear BK393; clear HB; have HO0 := n0_; have HO391 := n1_; have BK393 := n2_; have HB := n3_; clear n0_ n1_ n2_ n3_; have hcz26_0 : w25.cell? ⟨gb393, 0, none⟩ = some (.int .i64 t387) := (blk_cell BK393.out 0).trans rfl; have hcz26_1 : w25.cell? ⟨gb393, 1, none⟩ = some (.int .i64 t388) := (blk_cell BK393.out 1).trans rfl; have hcz26_2 : w25.cell? ⟨gb393, 2, none⟩ = some (.slice Ao24 t389.length co24) := (blk_cell BK393.out 2).trans rfl; have hfz26_0 := blk_frozen BK393.out 0; have hfz26_1 := blk_frozen BK393.out 1; have hfz26_2 := blk_frozen BK393.out 2) | ((with_reducible refine gate_callee (f := 58) rfl ?_); refine goesL_ (some 24) rfl rfl Try.func58 (by kernel_rfl) rfl #[.slice Ao24 t389.length co24] rfl zP ?_; (with_reducible refine (line_Pop.calls (fun k_ => ((P0_ k_ ∨ w.heap.size ≤ k_) ∧ k_ ≠ gb393)) _ _ t389 t394 t397 t398 _ ?side1 A5.out).mono ?_); (case side1 => exact HO391.out); rintro e w27 ⟨v395, rfl, ho0, hb⟩; refine ⟨_, rfl, ?_⟩; have n0_ := Aside0.mk (Kd.V_below (zV HO0) hb); have n1_ := Aside0.mk (Kd.V_below (zV HO391) hb); have n2_ := Aside0.mk (Kd.V_lower (Kd.V_mono (ok' := fun k_ => (P0_ k_ ∨ w.heap.size ≤ k_) ∧ k_ ≠ gb393) ho0 (fun k_ hk_ => ⟨Or.elim hk_ (fun hs_ => hs_.1) (fun hn_ => (.inr (Nat.le_trans (below_size (zB1 HB GE393)) hn_))), Or.elim hk_ (fun hs_ => hs_.2) (fun hn_ => (Kd.freshB (g := gb393) (o := .cells #[.int .i64 t387, .int .i64 t388, .slice Ao24 t389.length co24] 33 (0, 0)) (zK BK393) k_ hn_))⟩)) (below_size (zB1 HB GE393))); have n3_ := Aside0.mk (blk_below (g := gb393) (o := .cells #[.int .i64 t387, .int .i64 t388, .slice Ao24 t389.length co24] 33 (0, 0)) (zK BK393) hb); have n4_ := Aside0.mk (below_step (zB1 HB GE393) hb); clear HO0; clear HO391; clear BK393; clear HB; have HO0 := n0_; have HO391 := n1_; have HO396 := n2_; have BK393 := n3_; have HB := n4_; clear n0_ n1_ n2_ n3_ n4_; (try clear hb); (try clear hb2); (try clear hk); (try clear hi); (try clear ho0); obtain ⟨Ao28, co28, eo28⟩ := Kd.V_slice HO396.out; subst eo28; have hcz29_0 : w27.cell? ⟨gb393, 0, none⟩ = some (.int .i64 t387) := (blk_cell BK393.out 0).trans rfl; have hcz29_1 : w27.cell? ⟨gb393, 1, none⟩ = some (.int .i64 t388) := (blk_cell BK393.out 1).trans rfl; have hcz29_2 : w27.cell? ⟨gb393, 2, none⟩ = some (.slice Ao24 t389.length co24) := (blk_cell BK393.out 2).trans rfl; have hfz29_0 := blk_frozen BK393.out 0; have hfz29_1 := blk_frozen BK393.out 1; have hfz29_2 := blk_frozen BK393.out 2) | ((with_reducible refine gate_store (t := 25) (p := 37) rfl ?_); refine store_event (t := 25) (p := 37) (v := ?vo_w30) (w1 := (w27.setCell ⟨gb393, 2, none⟩ (.slice Ao28 t394.length co28))) ?hg ?ho ?hn ?hr ?_; (case ho => rfl); (case hg => rfl); (case hn => rfl); (case hr => first | (go_simp; done) | (go_simp; rfl)); intro w30 hw; have n0_ : Aside0 (Kd.V k33 33 w30 w.heap.size (fun k_ => (P0_ k_ ∨ w.heap.size ≤ k_) ∧ k_ ≠ gb393) (.slice A0 l0.length c0) l0) := ⟨(by rw [hw]; exact (by (with_reducible repeat (first | apply Kd.V_alloc | apply Kd.V_drewN | apply Kd.V_drew)); exact Kd.V_mono (Kd.V_far (p := ⟨gb393, 2, none⟩) (Kd.V_mono HO0.out (fun k_ hk => (⟨hk, hk.2⟩ : _ ∧ k_ ≠ gb393))) (fun _ hk => hk.2) (.slice Ao28 t394.length co28)) (fun _ hk => ⟨hk.1.1, hk.1.2⟩)))⟩; have n1_ : Aside0 (Kd.V (Kd.int .i64) 3 w30 w.heap.size (fun k_ => (P0_ k_ ∨ w.heap.size ≤ k_) ∧ k_ ≠ gb393) (.slice Ao24 t389.length co24) t389) := ⟨(by rw [hw]; exact (by (with_reducible repeat (first | apply Kd.V_alloc | apply Kd.V_drewN | apply Kd.V_drew)); exact Kd.V_mono (Kd.V_far (p := ⟨gb393, 2, none⟩) (Kd.V_mono HO391.out (fun k_ hk => (⟨hk, hk.2⟩ : _ ∧ k_ ≠ gb393))) (fun _ hk => hk.2) (.slice Ao28 t394.length co28)) (fun _ hk => ⟨hk.1.1, hk.1.2⟩)))⟩; have n2_ : Aside0 (Kd.V (Kd.int .i64) 3 w30 w.heap.size (fun k_ => (P0_ k_ ∨ w.heap.size ≤ k_) ∧ k_ ≠ gb393) (.slice Ao28 t394.length co28) t394) := ⟨(by rw [hw]; exact (by (with_reducible repeat (first | apply Kd.V_alloc | apply Kd.V_drewN | apply Kd.V_drew)); exact Kd.V_mono (Kd.V_far (p := ⟨gb393, 2, none⟩) (Kd.V_mono HO396.out (fun k_ hk => (⟨hk, hk.2⟩ : _ ∧ k_ ≠ gb393))) (fun _ hk => hk.2) (.slice Ao28 t394.length co28)) (fun _ hk => ⟨hk.1.1, hk.1.2⟩)))⟩; have n3_ : Aside0 (w30.heap[gb393]? = some (.cells #[.int .i64 t387, .int .i64 t388, .slice Ao28 t394.length co28] 33 (0, 0))) := ⟨(by rw [hw]; exact (by (with_reducible repeat (first | refine blk_drewN ?_ _ | refine blk_drew ?_ | refine blk_alloc ?_ _)); refine blk_put (cs := #[.int .i64 t387, .int .i64 t388, .slice Ao24 t389.length co24]) ?_ 2 _ rfl; (with_reducible repeat (first | refine blk_drewN ?_ _ | refine blk_drew ?_ | refine blk_alloc ?_ _)); exact BK393.out))⟩; have n4_ : Aside0 (Below w.heap.size w w30) := ⟨(by rw [hw]; exact (zB1 HB GE393))⟩; clear hw; clear HO0; clear HO391; clear HO396; clear BK393; clear HB; have HO0 := n0_; have HO391 := n1_; have HO396 := n2_; have BK393 := n3_; have HB := n4_; clear n0_ n1_ n2_ n3_ n4_; have hcz31_0 : w30.cell? ⟨gb393, 0, none⟩ = some (.int .i64 t387) := (blk_cell BK393.out 0).trans rfl; have hcz31_1 : w30.cell? ⟨gb393, 1, none⟩ = some (.int .i64 t388) := (blk_cell BK393.out 1).trans rfl; have hcz31_2 : w30.cell? ⟨gb393, 2, none⟩ = some (.slice Ao28 t394.length co28) := (blk_cell BK393.out 2).trans rfl; have hfz31_0 := blk_frozen BK393.out 0; have hfz31_1 := blk_frozen BK393.out 1; have hfz31_2 := blk_frozen BK393.out 2) | ((with_reducible refine gate_callee (f := 17) rfl ?_); refine goesL_ (some 45) rfl rfl Try.func17 (by kernel_rfl) rfl #[.slice A0 l0.length c0, .agg #[.int .i64 t387, .int .i64 t388, .slice Ao28 t394.length co28]] rfl zP ?_; (with_reducible refine (root_Set.calls (fun k_ => ((P0_ k_ ∨ w.heap.size ≤ k_) ∧ k_ ≠ gb393)) _ _ l0 t387 t388 (fun k_ => ((P0_ k_ ∨ w.heap.size ≤ k_) ∧ k_ ≠ gb393)) _ _ t394 t399 t402 _ ?side1 ?side2 A7.out).mono ?_); (case side1 => exact HO0.out); (case side2 => exact HO396.out); rintro e w32 ⟨v400, rfl, ho0, hb⟩; refine ⟨_, rfl, ?_⟩; have n0_ := Aside0.mk (Kd.V_below (zV HO0) hb); have n1_ := Aside0.mk (Kd.V_below (zV HO391) hb); have n2_ := Aside0.mk (Kd.V_below (zV HO396) hb); have n3_ := Aside0.mk (Kd.V_lower (Kd.V_mono (ok' := fun k_ => (P0_ k_ ∨ w.heap.size ≤ k_) ∧ k_ ≠ gb393) ho0 (fun k_ hk_ => ⟨Or.elim hk_ (fun hs_ => Or.elim hs_ (fun hs_ => hs_.1) (fun hs_ => hs_.1)) (fun hn_ => (.inr (Nat.le_trans (below_size (zB1 HB GE393)) hn_))), Or.elim hk_ (fun hs_ => Or.elim hs_ (fun hs_ => hs_.2) (fun hs_ => hs_.2)) (fun hn_ => (Kd.freshB (g := gb393) (o := .cells #[.int .i64 t387, .int .i64 t388, .slice Ao28 t394.length co28] 33 (0, 0)) (zK BK393) k_ hn_))⟩)) (below_size (zB1 HB GE393))); have n4_ := Aside0.mk (blk_below (g := gb393) (o := .cells #[.int .i64 t387, .int .i64 t388, .slice Ao28 t394.length co28] 33 (0, 0)) (zK BK393) hb); have n5_ := Aside0.mk (below_step (zB1 HB GE393) hb); clear HO0; clear HO391; clear HO396; clear BK393; clear HB; have HO0 := n0_; have HO391 := n1_; have HO396 := n2_; have HO401 := n3_; have BK393 := n4_; have HB := n5_; clear n0_ n1_ n2_ n3_ n4_ n5_; (try clear hb); (try clear hb2); (try clear hk); (try clear hi); (try clear ho0)))
    go_ret3
    exact ⟨_, by first | rfl | (simp [errW_none, errW_some] <;> rfl) | (simp [*, errW_none, errW_some] <;> rfl), Kd.V_mono (Kd.S_V (by first | exact Kd.S_nil _ _ _ 0 (fun k_ => w.heap.size ≤ k_) | exact Kd.S_nil _ _ _ _ _ | exact Kd.N_nil _ _ _ _ _ | exact Kd.V_nil _ _ _ _ _ | exact Kd.Q_nil _ _ _ _ _ | exact Kd.R_nil _ _ _ _ _)) (fun k_ hk => by first | exact ⟨(.inr (hk.1)), hk.2⟩ | exact (.inr (hk))), zB1 HB GE393⟩
  ·rw [if_neg c6] at H
   have c6b0 : (t398 == 0) = false := beq_eq_false_iff_ne.mpr c6
   have c6b1 : (t398 != 0) = true := bne_iff_ne.mpr c6
   by_cases c33 : t388 = 2147483647
   ·rw [if_pos c33] at H
    have c33b0 : (t388 == 2147483647) = true := beq_iff_eq.mpr c33
    have c33b1 : (t388 != 2147483647) = false := bne_eq_false_iff_eq.mpr c33
    clear c33
    simp only [Option.some.injEq, Prod.mk.injEq] at H
    obtain ⟨rfl, rfl, rfl⟩ := H
    go_enter Try.func32, Try.ntmps32
    go_wp2_with (first | ((with_reducible refine gate_callee (f := 16) rfl ?_); refine goesL_ (some 16) rfl rfl Try.func16 (by kernel_rfl) rfl #[.slice A0 l0.length c0, .int .i64 a1] rfl zP ?_; (with_reducible refine (root_Get.calls (fun k_ => (P0_ k_ ∨ w.heap.size ≤ k_)) _ _ l0 a1 t387 t388 t389 t392 _ ?side1 A3.out).mono ?_); (case side1 => exact HO0.out); rintro e w34 ⟨v390, rfl, ho0, hb⟩; refine ⟨_, rfl, ?_⟩; have n0_ := Aside0.mk (Kd.V_below (zV HO0) hb); have n1_ := Aside0.mk (Kd.V_lower (Kd.V_mono (ok' := fun k_ => (P0_ k_ ∨ w.heap.size ≤ k_)) ho0 (fun k_ hk_ => Or.elim hk_ (fun hs_ => hs_) (fun hn_ => (.inr (Nat.le_trans (below_size (zB HB)) hn_))))) (below_size (zB HB))); have n2_ := Aside0.mk (below_step (zB HB) hb); clear HO0; clear HB; have HO0 := n0_; have HO391 := n1_; have HB := n2_; clear n0_ n1_ n2_; (try clear hb); (try clear hb2); (try clear hk); (try clear hi); (try clear ho0)) | ((with_reducible refine gate_dst (N := 7) rfl ?_); refine box_event ?hg (N := 7) ?hd (cs := #[.int .i64 0, .int .i64 0, .slice none 0 0]) (t := 33) ?hr ?_; (case hd => rfl); (case hg => rfl); (case hr => first | (go_simp; done) | (go_simp; rfl)); intro gb393 hg w35 hbox hb; have n0_ := Aside0.mk (Kd.V_below (Kd.V_elderB (zV HO0) gb393 (Nat.le_of_eq hg.symm)) hb); have n1_ := Aside0.mk (Kd.V_below (Kd.V_elderB (zV HO391) gb393 (Nat.le_of_eq hg.symm)) hb); have n2_ := Aside0.mk (below_step (zB HB) hb); have n3_ := Aside0.mk (hbox); have n4_ := Aside0.mk ((by rw [hg]; exact (below_size (zB HB)) : w.heap.size ≤ gb393)); have n5_ := Aside0.mk ((by rw [hg]; exact (below_size (zB HB)) : w.heap.size ≤ gb393)); clear HO0; clear HO391; clear HB; have HO0 := n0_; have HO391 := n1_; have HB := n2_; have BK393 := n3_; have GW393 := n4_; have GE393 := n5_; clear n0_ n1_ n2_ n3_ n4_ n5_; clear hb hbox hg; have hcz36_0 : w35.cell? ⟨gb393, 0, none⟩ = some (.int .i64 0) := (blk_cell BK393.out 0).trans rfl; have hcz36_1 : w35.cell? ⟨gb393, 1, none⟩ = some (.int .i64 0) := (blk_cell BK393.out 1).trans rfl; have hcz36_2 : w35.cell? ⟨gb393, 2, none⟩ = some (.slice none 0 0) := (blk_cell BK393.out 2).trans rfl; have hfz36_0 := blk_frozen BK393.out 0; have hfz36_1 := blk_frozen BK393.out 1; have hfz36_2 := blk_frozen BK393.out 2; obtain ⟨Ao37, co37, eo37⟩ := Kd.V_slice HO391.out; subst eo37) | ((with_reducible refine gate_store (t := 33) (p := 7) rfl ?_); refine store_event (t := 33) (p := 7) (v := ?vo_w38) (w1 := (((w35.setCell ⟨gb393, 0, none⟩ (.int .i64 t387)).setCell ⟨gb393, 1, none⟩ (.int .i64 t388)).setCell ⟨gb393, 2, none⟩ (.slice Ao37 t389.length co37))) ?hg ?ho ?hn ?hr ?_; (case ho => rfl); (case hg => rfl); (case hn => rfl); (case hr => first | (go_simp; done) | (go_simp; rfl)); intro w38 hw; have n0_ : Aside0 (Kd.V k33 33 w38 w.heap.size (fun k_ => (P0_ k_ ∨ w.heap.size ≤ k_) ∧ k_ ≠ gb393) (.slice A0 l0.length c0) l0) := ⟨(by rw [hw]; exact (by (with_reducible repeat (first | apply Kd.V_alloc | apply Kd.V_drewN | apply Kd.V_drew)); exact Kd.V_mono (Kd.V_far (p := ⟨gb393, 2, none⟩) (Kd.V_far (p := ⟨gb393, 1, none⟩) (Kd.V_far (p := ⟨gb393, 0, none⟩) (Kd.V_mono HO0.out (fun k_ hk => (⟨hk, hk.2⟩ : _ ∧ k_ ≠ gb393))) (fun _ hk => hk.2) (.int .i64 t387)) (fun _ hk => hk.2) (.int .i64 t388)) (fun _ hk => hk.2) (.slice Ao37 t389.length co37)) (fun _ hk => ⟨hk.1.1, hk.1.2⟩)))⟩; have n1_ : Aside0 (Kd.V (Kd.int .i64) 3 w38 w.heap.size (fun k_ => (P0_ k_ ∨ w.heap.size ≤ k_) ∧ k_ ≠ gb393) (.slice Ao37 t389.length co37) t389) := ⟨(by rw [hw]; exact (by (with_reducible repeat (first | apply Kd.V_alloc | apply Kd.V_drewN | apply Kd.V_drew)); exact Kd.V_mono (Kd.V_far (p := ⟨gb393, 2, none⟩) (Kd.V_far (p := ⟨gb393, 1, none⟩) (Kd.V_far (p := ⟨gb393, 0, none⟩) (Kd.V_mono HO391.out (fun k_ hk => (⟨hk, hk.2⟩ : _ ∧ k_ ≠ gb393))) (fun _ hk => hk.2) (.int .i64 t387)) (fun _ hk => hk.2) (.int .i64 t388)) (fun _ hk => hk.2) (.slice Ao37 t389.length co37)) (fun _ hk => ⟨hk.1.1, hk.1.2⟩)))⟩; have n2_ : Aside0 (w38.heap[gb393]? = some (.cells #[.int .i64 t387, .int .i64 t388, .slice Ao37 t389.length co37] 33 (0, 0))) := ⟨(by rw [hw]; exact (by (with_reducible repeat (first | refine blk_drewN ?_ _ | refine blk_drew ?_ | refine blk_alloc ?_ _)); refine blk_put (cs := #[.int .i64 t387, .int .i64 t388, .slice none 0 0]) ?_ 2 _ rfl; (with_reducible repeat (first | refine blk_drewN ?_ _ | refine blk_drew ?_ | refine blk_alloc ?_ _)); refine blk_put (cs := #[.int .i64 t387, .int .i64 0, .slice none 0 0]) ?_ 1 _ rfl; (with_reducible repeat (first | refine blk_drewN ?_ _ | refine blk_drew ?_ | refine blk_alloc ?_ _)); refine blk_put (cs := #[.int .i64 0, .int .i64 0, .slice none 0 0]) ?_ 0 _ rfl; (with_reducible repeat (first | refine blk_drewN ?_ _ | refine blk_drew ?_ | refine blk_alloc ?_ _)); exact BK393.out))⟩; have n3_ : Aside0 (Below w.heap.size w w38) := ⟨(by rw [hw]; exact (zB1 HB GE393))⟩; clear hw; clear HO0; clear HO391; clear BK393; clear HB; have HO0 := n0_; have HO391 := n1_; have BK393 := n2_; have HB := n3_; clear n0_ n1_ n2_ n3_; have hcz39_0 : w38.cell? ⟨gb393, 0, none⟩ = some (.int .i64 t387) := (blk_cell BK393.out 0).trans rfl; have hcz39_1 : w38.cell? ⟨gb393, 1, none⟩ = some (.int .i64 t388) := (blk_cell BK393.out 1).trans rfl; have hcz39_2 : w38.cell? ⟨gb393, 2, none⟩ = some (.slice Ao37 t389.length co37) := (blk_cell BK393.out 2).trans rfl; have hfz39_0 := blk_frozen BK393.out 0; have hfz39_1 := blk_frozen BK393.out 1; have hfz39_2 := blk_frozen BK393.out 2) | ((with_reducible refine gate_callee (f := 58) rfl ?_); refine goesL_ (some 24) rfl rfl Try.func58 (by kernel_rfl) rfl #[.slice Ao37 t389.length co37] rfl zP ?_; (with_reducible refine (line_Pop.calls (fun k_ => ((P0_ k_ ∨ w.heap.size ≤ k_) ∧ k_ ≠ gb393)) _ _ t389 t394 t397 t398 _ ?side1 A5.out).mono ?_); (case side1 => exact HO391.out); rintro e w40 ⟨v395, rfl, ho0, hb⟩; refine ⟨_, rfl, ?_⟩; have n0_ := Aside0.mk (Kd.V_below (zV HO0) hb); have n1_ := Aside0.mk (Kd.V_below (zV HO391) hb); have n2_ := Aside0.mk (Kd.V_lower (Kd.V_mono (ok' := fun k_ => (P0_ k_ ∨ w.heap.size ≤ k_) ∧ k_ ≠ gb393) ho0 (fun k_ hk_ => ⟨Or.elim hk_ (fun hs_ => hs_.1) (fun hn_ => (.inr (Nat.le_trans (below_size (zB1 HB GE393)) hn_))), Or.elim hk_ (fun hs_ => hs_.2) (fun hn_ => (Kd.freshB (g := gb393) (o := .cells #[.int .i64 t387, .int .i64 t388, .slice Ao37 t389.length co37] 33 (0, 0)) (zK BK393) k_ hn_))⟩)) (below_size (zB1 HB GE393))); have n3_ := Aside0.mk (blk_below (g := gb393) (o := .cells #[.int .i64 t387, .int .i64 t388, .slice Ao37 t389.length co37] 33 (0, 0)) (zK BK393) hb); have n4_ := Aside0.mk (below_step (zB1 HB GE393) hb); clear HO0; clear HO391; clear BK393; clear HB; have HO0 := n0_; have HO391 := n1_; have HO396 := n2_; have BK393 := n3_; have HB := n4_; clear n0_ n1_ n2_ n3_ n4_; (try clear hb); (try clear hb2); (try clear hk); (try clear hi); (try clear ho0); have hcz41_0 : w40.cell? ⟨gb393, 0, none⟩ = some (.int .i64 t387) := (blk_cell BK393.out 0).trans rfl; have hcz41_1 : w40.cell? ⟨gb393, 1, none⟩ = some (.int .i64 t388) := (blk_cell BK393.out 1).trans rfl; have hcz41_2 : w40.cell? ⟨gb393, 2, none⟩ = some (.slice Ao37 t389.length co37) := (blk_cell BK393.out 2).trans rfl; have hfz41_0 := blk_frozen BK393.out 0; have hfz41_1 := blk_frozen BK393.out 1; have hfz41_2 := blk_frozen BK393.out 2))
    go_ret3
    exact ⟨_, by first | rfl | (simp [errW_none, errW_some] <;> rfl) | (simp [*, errW_none, errW_some] <;> rfl), Kd.V_mono (Kd.S_V (by first | exact Kd.S_nil _ _ _ 0 (fun k_ => w.heap.size ≤ k_) | exact Kd.S_nil _ _ _ _ _ | exact Kd.N_nil _ _ _ _ _ | exact Kd.V_nil _ _ _ _ _ | exact Kd.Q_nil _ _ _ _ _ | exact Kd.R_nil _ _ _ _ _)) (fun k_ hk => by first | exact ⟨(.inr (hk.1)), hk.2⟩ | exact (.inr (hk))), zB1 HB GE393⟩
   ·rw [if_neg c33] at H
    have c33b0 : (t388 == 2147483647) = false := beq_eq_false_iff_ne.mpr c33
    have c33b1 : (t388 != 2147483647) = true := bne_iff_ne.mpr c33
    replace H := Option.bind_eq_some_iff.mp H
    obtain ⟨⟨t403, t406⟩, A420, H⟩ := H
    replace H : (if t406 = 0 then (some (t403, (-1), 0)) else (some (([] : List (S33)), 0, t406))) = some (r1, r2, r3) := H
    have A42 := Aside0.mk A420
    clear A420
    by_cases c43 : t406 = 0
    ·rw [if_pos c43] at H
     have c43b0 : (t406 == 0) = true := beq_iff_eq.mpr c43
     have c43b1 : (t406 != 0) = false := bne_eq_false_iff_eq.mpr c43
     clear c43
     simp only [Option.some.injEq, Prod.mk.injEq] at H
     obtain ⟨rfl, rfl, rfl⟩ := H
     go_enter Try.func32, Try.ntmps32
     go_wp2_with (first | ((with_reducible refine gate_callee (f := 16) rfl ?_); refine goesL_ (some 16) rfl rfl Try.func16 (by kernel_rfl) rfl #[.slice A0 l0.length c0, .int .i64 a1] rfl zP ?_; (with_reducible refine (root_Get.calls (fun k_ => (P0_ k_ ∨ w.heap.size ≤ k_)) _ _ l0 a1 t387 t388 t389 t392 _ ?side1 A3.out).mono ?_); (case side1 => exact HO0.out); rintro e w44 ⟨v390, rfl, ho0, hb⟩; refine ⟨_, rfl, ?_⟩; have n0_ := Aside0.mk (Kd.V_below (zV HO0) hb); have n1_ := Aside0.mk (Kd.V_lower (Kd.V_mono (ok' := fun k_ => (P0_ k_ ∨ w.heap.size ≤ k_)) ho0 (fun k_ hk_ => Or.elim hk_ (fun hs_ => hs_) (fun hn_ => (.inr (Nat.le_trans (below_size (zB HB)) hn_))))) (below_size (zB HB))); have n2_ := Aside0.mk (below_step (zB HB) hb); clear HO0; clear HB; have HO0 := n0_; have HO391 := n1_; have HB := n2_; clear n0_ n1_ n2_; (try clear hb); (try clear hb2); (try clear hk); (try clear hi); (try clear ho0)) | ((with_reducible refine gate_dst (N := 7) rfl ?_); refine box_event ?hg (N := 7) ?hd (cs := #[.int .i64 0, .int .i64 0, .slice none 0 0]) (t := 33) ?hr ?_; (case hd => rfl); (case hg => rfl); (case hr => first | (go_simp; done) | (go_simp; rfl)); intro gb393 hg w45 hbox hb; have n0_ := Aside0.mk (Kd.V_below (Kd.V_elderB (zV HO0) gb393 (Nat.le_of_eq hg.symm)) hb); have n1_ := Aside0.mk (Kd.V_below (Kd.V_elderB (zV HO391) gb393 (Nat.le_of_eq hg.symm)) hb); have n2_ := Aside0.mk (below_step (zB HB) hb); have n3_ := Aside0.mk (hbox); have n4_ := Aside0.mk ((by rw [hg]; exact (below_size (zB HB)) : w.heap.size ≤ gb393)); have n5_ := Aside0.mk ((by rw [hg]; exact (below_size (zB HB)) : w.heap.size ≤ gb393)); clear HO0; clear HO391; clear HB; have HO0 := n0_; have HO391 := n1_; have HB := n2_; have BK393 := n3_; have GW393 := n4_; have GE393 := n5_; clear n0_ n1_ n2_ n3_ n4_ n5_; clear hb hbox hg; have hcz46_0 : w45.cell? ⟨gb393, 0, none⟩ = some (.int .i64 0) := (blk_cell BK393.out 0).trans rfl; have hcz46_1 : w45.cell? ⟨gb393, 1, none⟩ = some (.int .i64 0) := (blk_cell BK393.out 1).trans rfl; have hcz46_2 : w45.cell? ⟨gb393, 2, none⟩ = some (.slice none 0 0) := (blk_cell BK393.out 2).trans rfl; have hfz46_0 := blk_frozen BK393.out 0; have hfz46_1 := blk_frozen BK393.out 1; have hfz46_2 := blk_frozen BK393.out 2; obtain ⟨Ao47, co47, eo47⟩ := Kd.V_slice HO391.out; subst eo47) | ((with_reducible refine gate_store (t := 33) (p := 7) rfl ?_); refine store_event (t := 33) (p := 7) (v := ?vo_w48) (w1 := (((w45.setCell ⟨gb393, 0, none⟩ (.int .i64 t387)).setCell ⟨gb393, 1, none⟩ (.int .i64 t388)).setCell ⟨gb393, 2, none⟩ (.slice Ao47 t389.length co47))) ?hg ?ho ?hn ?hr ?_; (case ho => rfl); (case hg => rfl); (case hn => rfl); (case hr => first | (go_simp; done) | (go_simp; rfl)); intro w48 hw; have n0_ : Aside0 (Kd.V k33 33 w48 w.heap.size (fun k_ => (P0_ k_ ∨ w.heap.size ≤ k_) ∧ k_ ≠ gb393) (.slice A0 l0.length c0) l0) := ⟨(by rw [hw]; exact (by (with_reducible repeat (first | apply Kd.V_alloc | apply Kd.V_drewN | apply Kd.V_drew)); exact Kd.V_mono (Kd.V_far (p := ⟨gb393, 2, none⟩) (Kd.V_far (p := ⟨gb393, 1, none⟩) (Kd.V_far (p := ⟨gb393, 0, none⟩) (Kd.V_mono HO0.out (fun k_ hk => (⟨hk, hk.2⟩ : _ ∧ k_ ≠ gb393))) (fun _ hk => hk.2) (.int .i64 t387)) (fun _ hk => hk.2) (.int .i64 t388)) (fun _ hk => hk.2) (.slice Ao47 t389.length co47)) (fun _ hk => ⟨hk.1.1, hk.1.2⟩)))⟩; have n1_ : Aside0 (Kd.V (Kd.int .i64) 3 w48 w.heap.size (fun k_ => (P0_ k_ ∨ w.heap.size ≤ k_) ∧ k_ ≠ gb393) (.slice Ao47 t389.length co47) t389) := ⟨(by rw [hw]; exact (by (with_reducible repeat (first | apply Kd.V_alloc | apply Kd.V_drewN | apply Kd.V_drew)); exact Kd.V_mono (Kd.V_far (p := ⟨gb393, 2, none⟩) (Kd.V_far (p := ⟨gb393, 1, none⟩) (Kd.V_far (p := ⟨gb393, 0, none⟩) (Kd.V_mono HO391.out (fun k_ hk => (⟨hk, hk.2⟩ : _ ∧ k_ ≠ gb393))) (fun _ hk => hk.2) (.int .i64 t387)) (fun _ hk => hk.2) (.int .i64 t388)) (fun _ hk => hk.2) (.slice Ao47 t389.length co47)) (fun _ hk => ⟨hk.1.1, hk.1.2⟩)))⟩; have n2_ : Aside0 (w48.heap[gb393]? = some (.cells #[.int .i64 t387, .int .i64 t388, .slice Ao47 t389.length co47] 33 (0, 0))) := ⟨(by rw [hw]; exact (by (with_reducible repeat (first | refine blk_drewN ?_ _ | refine blk_drew ?_ | refine blk_alloc ?_ _)); refine blk_put (cs := #[.int .i64 t387, .int .i64 t388, .slice none 0 0]) ?_ 2 _ rfl; (with_reducible repeat (first | refine blk_drewN ?_ _ | refine blk_drew ?_ | refine blk_alloc ?_ _)); refine blk_put (cs := #[.int .i64 t387, .int .i64 0, .slice none 0 0]) ?_ 1 _ rfl; (with_reducible repeat (first | refine blk_drewN ?_ _ | refine blk_drew ?_ | refine blk_alloc ?_ _)); refine blk_put (cs := #[.int .i64 0, .int .i64 0, .slice none 0 0]) ?_ 0 _ rfl; (with_reducible repeat (first | refine blk_drewN ?_ _ | refine blk_drew ?_ | refine blk_alloc ?_ _)); exact BK393.out))⟩; have n3_ : Aside0 (Below w.heap.size w w48) := ⟨(by rw [hw]; exact (zB1 HB GE393))⟩; clear hw; clear HO0; clear HO391; clear BK393; clear HB; have HO0 := n0_; have HO391 := n1_; have BK393 := n2_; have HB := n3_; clear n0_ n1_ n2_ n3_; have hcz49_0 : w48.cell? ⟨gb393, 0, none⟩ = some (.int .i64 t387) := (blk_cell BK393.out 0).trans rfl; have hcz49_1 : w48.cell? ⟨gb393, 1, none⟩ = some (.int .i64 t388) := (blk_cell BK393.out 1).trans rfl; have hcz49_2 : w48.cell? ⟨gb393, 2, none⟩ = some (.slice Ao47 t389.length co47) := (blk_cell BK393.out 2).trans rfl; have hfz49_0 := blk_frozen BK393.out 0; have hfz49_1 := blk_frozen BK393.out 1; have hfz49_2 := blk_frozen BK393.out 2) | ((with_reducible refine gate_callee (f := 58) rfl ?_); refine goesL_ (some 24) rfl rfl Try.func58 (by kernel_rfl) rfl #[.slice Ao47 t389.length co47] rfl zP ?_; (with_reducible refine (line_Pop.calls (fun k_ => ((P0_ k_ ∨ w.heap.size ≤ k_) ∧ k_ ≠ gb393)) _ _ t389 t394 t397 t398 _ ?side1 A5.out).mono ?_); (case side1 => exact HO391.out); rintro e w50 ⟨v395, rfl, ho0, hb⟩; refine ⟨_, rfl, ?_⟩; have n0_ := Aside0.mk (Kd.V_below (zV HO0) hb); have n1_ := Aside0.mk (Kd.V_below (zV HO391) hb); have n2_ := Aside0.mk (Kd.V_lower (Kd.V_mono (ok' := fun k_ => (P0_ k_ ∨ w.heap.size ≤ k_) ∧ k_ ≠ gb393) ho0 (fun k_ hk_ => ⟨Or.elim hk_ (fun hs_ => hs_.1) (fun hn_ => (.inr (Nat.le_trans (below_size (zB1 HB GE393)) hn_))), Or.elim hk_ (fun hs_ => hs_.2) (fun hn_ => (Kd.freshB (g := gb393) (o := .cells #[.int .i64 t387, .int .i64 t388, .slice Ao47 t389.length co47] 33 (0, 0)) (zK BK393) k_ hn_))⟩)) (below_size (zB1 HB GE393))); have n3_ := Aside0.mk (blk_below (g := gb393) (o := .cells #[.int .i64 t387, .int .i64 t388, .slice Ao47 t389.length co47] 33 (0, 0)) (zK BK393) hb); have n4_ := Aside0.mk (below_step (zB1 HB GE393) hb); clear HO0; clear HO391; clear BK393; clear HB; have HO0 := n0_; have HO391 := n1_; have HO396 := n2_; have BK393 := n3_; have HB := n4_; clear n0_ n1_ n2_ n3_ n4_; (try clear hb); (try clear hb2); (try clear hk); (try clear hi); (try clear ho0); have hcz51_0 : w50.cell? ⟨gb393, 0, none⟩ = some (.int .i64 t387) := (blk_cell BK393.out 0).trans rfl; have hcz51_1 : w50.cell? ⟨gb393, 1, none⟩ = some (.int .i64 t388) := (blk_cell BK393.out 1).trans rfl; have hcz51_2 : w50.cell? ⟨gb393, 2, none⟩ = some (.slice Ao47 t389.length co47) := (blk_cell BK393.out 2).trans rfl; have hfz51_0 := blk_frozen BK393.out 0; have hfz51_1 := blk_frozen BK393.out 1; have hfz51_2 := blk_frozen BK393.out 2) | ((with_reducible refine gate_store (t := 3) (p := 31) rfl ?_); refine store_event (t := 3) (p := 31) (v := ?vo_w52) (w1 := (w50.setCell ⟨gb393, 1, none⟩ (.int .i64 (wrap64 (t388 + 1))))) ?hg ?ho ?hn ?hr ?_; (case ho => rfl); (case hg => rfl); (case hn => rfl); (case hr => first | (go_simp; done) | (go_simp; rfl)); intro w52 hw; have n0_ : Aside0 (Kd.V k33 33 w52 w.heap.size (fun k_ => (P0_ k_ ∨ w.heap.size ≤ k_) ∧ k_ ≠ gb393) (.slice A0 l0.length c0) l0) := ⟨(by rw [hw]; exact (by (with_reducible repeat (first | apply Kd.V_alloc | apply Kd.V_drewN | apply Kd.V_drew)); exact Kd.V_mono (Kd.V_far (p := ⟨gb393, 1, none⟩) (Kd.V_mono HO0.out (fun k_ hk => (⟨hk, hk.2⟩ : _ ∧ k_ ≠ gb393))) (fun _ hk => hk.2) (.int .i64 (wrap64 (t388 + 1)))) (fun _ hk => ⟨hk.1.1, hk.1.2⟩)))⟩; have n1_ : Aside0 (Kd.V (Kd.int .i64) 3 w52 w.heap.size (fun k_ => (P0_ k_ ∨ w.heap.size ≤ k_) ∧ k_ ≠ gb393) (.slice Ao47 t389.length co47) t389) := ⟨(by rw [hw]; exact (by (with_reducible repeat (first | apply Kd.V_alloc | apply Kd.V_drewN | apply Kd.V_drew)); exact Kd.V_mono (Kd.V_far (p := ⟨gb393, 1, none⟩) (Kd.V_mono HO391.out (fun k_ hk => (⟨hk, hk.2⟩ : _ ∧ k_ ≠ gb393))) (fun _ hk => hk.2) (.int .i64 (wrap64 (t388 + 1)))) (fun _ hk => ⟨hk.1.1, hk.1.2⟩)))⟩; have n2_ : Aside0 (Kd.V (Kd.int .i64) 3 w52 w.heap.size (fun k_ => (P0_ k_ ∨ w.heap.size ≤ k_) ∧ k_ ≠ gb393) v395 t394) := ⟨(by rw [hw]; exact (by (with_reducible repeat (first | apply Kd.V_alloc | apply Kd.V_drewN | apply Kd.V_drew)); exact Kd.V_mono (Kd.V_far (p := ⟨gb393, 1, none⟩) (Kd.V_mono HO396.out (fun k_ hk => (⟨hk, hk.2⟩ : _ ∧ k_ ≠ gb393))) (fun _ hk => hk.2) (.int .i64 (wrap64 (t388 + 1)))) (fun _ hk => ⟨hk.1.1, hk.1.2⟩)))⟩; have n3_ : Aside0 (w52.heap[gb393]? = some (.cells #[.int .i64 t387, .int .i64 (wrap64 (t388 + 1)), .slice Ao47 t389.length co47] 33 (0, 0))) := ⟨(by rw [hw]; exact (by (with_reducible repeat (first | refine blk_drewN ?_ _ | refine blk_drew ?_ | refine blk_alloc ?_ _)); refine blk_put (cs := #[.int .i64 t387, .int .i64 t388, .slice Ao47 t389.length co47]) ?_ 1 _ rfl; (with_reducible repeat (first | refine blk_drewN ?_ _ | refine blk_drew ?_ | refine blk_alloc ?_ _)); exact BK393.out))⟩; have n4_ : Aside0 (Below w.heap.size w w52) := ⟨(by rw [hw]; exact (zB1 HB GE393))⟩; clear hw; clear HO0; clear HO391; clear HO396; clear BK393; clear HB; have HO0 := n0_; have HO391 := n1_; have HO396 := n2_; have BK393 := n3_; have HB := n4_; clear n0_ n1_ n2_ n3_ n4_; have hcz53_0 : w52.cell? ⟨gb393, 0, none⟩ = some (.int .i64 t387) := (blk_cell BK393.out 0).trans rfl; have hcz53_1 : w52.cell? ⟨gb393, 1, none⟩ = some (.int .i64 (wrap64 (t388 + 1))) := (blk_cell BK393.out 1).trans rfl; have hcz53_2 : w52.cell? ⟨gb393, 2, none⟩ = some (.slice Ao47 t389.length co47) := (blk_cell BK393.out 2).trans rfl; have hfz53_0 := blk_frozen BK393.out 0; have hfz53_1 := blk_frozen BK393.out 1; have hfz53_2 := blk_frozen BK393.out 2) | ((with_reducible refine gate_callee (f := 17) rfl ?_); refine goesL_ (some 45) rfl rfl Try.func17 (by kernel_rfl) rfl #[.slice A0 l0.length c0, .agg #[.int .i64 t387, .int .i64 (wrap64 (t388 + 1)), .slice Ao47 t389.length co47]] rfl zP ?_; (with_reducible refine (root_Set.calls (fun k_ => ((P0_ k_ ∨ w.heap.size ≤ k_) ∧ k_ ≠ gb393)) _ _ l0 t387 (wrap64 (t388 + 1)) (fun k_ => ((P0_ k_ ∨ w.heap.size ≤ k_) ∧ k_ ≠ gb393)) _ _ t389 t403 t406 _ ?side1 ?side2 A42.out).mono ?_); (case side1 => exact HO0.out); (case side2 => exact HO391.out); rintro e w54 ⟨v404, rfl, ho0, hb⟩; refine ⟨_, rfl, ?_⟩; have n0_ := Aside0.mk (Kd.V_below (zV HO0) hb); have n1_ := Aside0.mk (Kd.V_below (zV HO391) hb); have n2_ := Aside0.mk (Kd.V_below (zV HO396) hb); have n3_ := Aside0.mk (Kd.V_lower (Kd.V_mono (ok' := fun k_ => (P0_ k_ ∨ w.heap.size ≤ k_) ∧ k_ ≠ gb393) ho0 (fun k_ hk_ => ⟨Or.elim hk_ (fun hs_ => Or.elim hs_ (fun hs_ => hs_.1) (fun hs_ => hs_.1)) (fun hn_ => (.inr (Nat.le_trans (below_size (zB1 HB GE393)) hn_))), Or.elim hk_ (fun hs_ => Or.elim hs_ (fun hs_ => hs_.2) (fun hs_ => hs_.2)) (fun hn_ => (Kd.freshB (g := gb393) (o := .cells #[.int .i64 t387, .int .i64 (wrap64 (t388 + 1)), .slice Ao47 t389.length co47] 33 (0, 0)) (zK BK393) k_ hn_))⟩)) (below_size (zB1 HB GE393))); have n4_ := Aside0.mk (blk_below (g := gb393) (o := .cells #[.int .i64 t387, .int .i64 (wrap64 (t388 + 1)), .slice Ao47 t389.length co47] 33 (0, 0)) (zK BK393) hb); have n5_ := Aside0.mk (below_step (zB1 HB GE393) hb); clear HO0; clear HO391; clear HO396; clear BK393; clear HB; have HO0 := n0_; have HO391 := n1_; have HO396 := n2_; have HO405 := n3_; have BK393 := n4_; have HB := n5_; clear n0_ n1_ n2_ n3_ n4_ n5_; (try clear hb); (try clear hb2); (try clear hk); (try clear hi); (try clear ho0)))
     go_ret3
     exact ⟨_, by first | rfl | (simp [errW_none, errW_some] <;> rfl) | (simp [*, errW_none, errW_some] <;> rfl), by (with_reducible repeat (first | apply Kd.V_alloc | apply Kd.V_drewN | apply Kd.V_drew)); exact Kd.V_mono HO405.out (fun _ hk => hk.1), zB1 HB GE393⟩
    ·rw [if_neg c43] at H
     have c43b0 : (t406 == 0) = false := beq_eq_false_iff_ne.mpr c43
     have c43b1 : (t406 != 0) = true := bne_iff_ne.mpr c43
     simp only [Option.some.injEq, Prod.mk.injEq] at H
     obtain ⟨rfl, rfl, rfl⟩ := H
     go_enter Try.func32, Try.ntmps32
     go_wp2_with (first | ((with_reducible refine gate_callee (f := 16) rfl ?_); refine goesL_ (some 16) rfl rfl Try.func16 (by kernel_rfl) rfl #[.slice A0 l0.length c0, .int .i64 a1] rfl zP ?_; (with_reducible refine (root_Get.calls (fun k_ => (P0_ k_ ∨ w.heap.size ≤ k_)) _ _ l0 a1 t387 t388 t389 t392 _ ?side1 A3.out).mono ?_); (case side1 => exact HO0.out); rintro e w55 ⟨v390, rfl, ho0, hb⟩; refine ⟨_, rfl, ?_⟩; have n0_ := Aside0.mk (Kd.V_below (zV HO0) hb); have n1_ := Aside0.mk (Kd.V_lower (Kd.V_mono (ok' := fun k_ => (P0_ k_ ∨ w.heap.size ≤ k_)) ho0 (fun k_ hk_ => Or.elim hk_ (fun hs_ => hs_) (fun hn_ => (.inr (Nat.le_trans (below_size (zB HB)) hn_))))) (below_size (zB HB))); have n2_ := Aside0.mk (below_step (zB HB) hb); clear HO0; clear HB; have HO0 := n0_; have HO391 := n1_; have HB := n2_; clear n0_ n1_ n2_; (try clear hb); (try clear hb2); (try clear hk); (try clear hi); (try clear ho0)) | ((with_reducible refine gate_dst (N := 7) rfl ?_); refine box_event ?hg (N := 7) ?hd (cs := #[.int .i64 0, .int .i64 0, .slice none 0 0]) (t := 33) ?hr ?_; (case hd => rfl); (case hg => rfl); (case hr => first | (go_simp; done) | (go_simp; rfl)); intro gb393 hg w56 hbox hb; have n0_ := Aside0.mk (Kd.V_below (Kd.V_elderB (zV HO0) gb393 (Nat.le_of_eq hg.symm)) hb); have n1_ := Aside0.mk (Kd.V_below (Kd.V_elderB (zV HO391) gb393 (Nat.le_of_eq hg.symm)) hb); have n2_ := Aside0.mk (below_step (zB HB) hb); have n3_ := Aside0.mk (hbox); have n4_ := Aside0.mk ((by rw [hg]; exact (below_size (zB HB)) : w.heap.size ≤ gb393)); have n5_ := Aside0.mk ((by rw [hg]; exact (below_size (zB HB)) : w.heap.size ≤ gb393)); clear HO0; clear HO391; clear HB; have HO0 := n0_; have HO391 := n1_; have HB := n2_; have BK393 := n3_; have GW393 := n4_; have GE393 := n5_; clear n0_ n1_ n2_ n3_ n4_ n5_; clear hb hbox hg; have hcz57_0 : w56.cell? ⟨gb393, 0, none⟩ = some (.int .i64 0) := (blk_cell BK393.out 0).trans rfl; have hcz57_1 : w56.cell? ⟨gb393, 1, none⟩ = some (.int .i64 0) := (blk_cell BK393.out 1).trans rfl; have hcz57_2 : w56.cell? ⟨gb393, 2, none⟩ = some (.slice none 0 0) := (blk_cell BK393.out 2).trans rfl; have hfz57_0 := blk_frozen BK393.out 0; have hfz57_1 := blk_frozen BK393.out 1; have hfz57_2 := blk_frozen BK393.out 2; obtain ⟨Ao58, co58, eo58⟩ := Kd.V_slice HO391.out; subst eo58) | ((with_reducible refine gate_store (t := 33) (p := 7) rfl ?_); refine store_event (t := 33) (p := 7) (v := ?vo_w59) (w1 := (((w56.setCell ⟨gb393, 0, none⟩ (.int .i64 t387)).setCell ⟨gb393, 1, none⟩ (.int .i64 t388)).setCell ⟨gb393, 2, none⟩ (.slice Ao58 t389.length co58))) ?hg ?ho ?hn ?hr ?_; (case ho => rfl); (case hg => rfl); (case hn => rfl); (case hr => first | (go_simp; done) | (go_simp; rfl)); intro w59 hw; have n0_ : Aside0 (Kd.V k33 33 w59 w.heap.size (fun k_ => (P0_ k_ ∨ w.heap.size ≤ k_) ∧ k_ ≠ gb393) (.slice A0 l0.length c0) l0) := ⟨(by rw [hw]; exact (by (with_reducible repeat (first | apply Kd.V_alloc | apply Kd.V_drewN | apply Kd.V_drew)); exact Kd.V_mono (Kd.V_far (p := ⟨gb393, 2, none⟩) (Kd.V_far (p := ⟨gb393, 1, none⟩) (Kd.V_far (p := ⟨gb393, 0, none⟩) (Kd.V_mono HO0.out (fun k_ hk => (⟨hk, hk.2⟩ : _ ∧ k_ ≠ gb393))) (fun _ hk => hk.2) (.int .i64 t387)) (fun _ hk => hk.2) (.int .i64 t388)) (fun _ hk => hk.2) (.slice Ao58 t389.length co58)) (fun _ hk => ⟨hk.1.1, hk.1.2⟩)))⟩; have n1_ : Aside0 (Kd.V (Kd.int .i64) 3 w59 w.heap.size (fun k_ => (P0_ k_ ∨ w.heap.size ≤ k_) ∧ k_ ≠ gb393) (.slice Ao58 t389.length co58) t389) := ⟨(by rw [hw]; exact (by (with_reducible repeat (first | apply Kd.V_alloc | apply Kd.V_drewN | apply Kd.V_drew)); exact Kd.V_mono (Kd.V_far (p := ⟨gb393, 2, none⟩) (Kd.V_far (p := ⟨gb393, 1, none⟩) (Kd.V_far (p := ⟨gb393, 0, none⟩) (Kd.V_mono HO391.out (fun k_ hk => (⟨hk, hk.2⟩ : _ ∧ k_ ≠ gb393))) (fun _ hk => hk.2) (.int .i64 t387)) (fun _ hk => hk.2) (.int .i64 t388)) (fun _ hk => hk.2) (.slice Ao58 t389.length co58)) (fun _ hk => ⟨hk.1.1, hk.1.2⟩)))⟩; have n2_ : Aside0 (w59.heap[gb393]? = some (.cells #[.int .i64 t387, .int .i64 t388, .slice Ao58 t389.length co58] 33 (0, 0))) := ⟨(by rw [hw]; exact (by (with_reducible repeat (first | refine blk_drewN ?_ _ | refine blk_drew ?_ | refine blk_alloc ?_ _)); refine blk_put (cs := #[.int .i64 t387, .int .i64 t388, .slice none 0 0]) ?_ 2 _ rfl; (with_reducible repeat (first | refine blk_drewN ?_ _ | refine blk_drew ?_ | refine blk_alloc ?_ _)); refine blk_put (cs := #[.int .i64 t387, .int .i64 0, .slice none 0 0]) ?_ 1 _ rfl; (with_reducible repeat (first | refine blk_drewN ?_ _ | refine blk_drew ?_ | refine blk_alloc ?_ _)); refine blk_put (cs := #[.int .i64 0, .int .i64 0, .slice none 0 0]) ?_ 0 _ rfl; (with_reducible repeat (first | refine blk_drewN ?_ _ | refine blk_drew ?_ | refine blk_alloc ?_ _)); exact BK393.out))⟩; have n3_ : Aside0 (Below w.heap.size w w59) := ⟨(by rw [hw]; exact (zB1 HB GE393))⟩; clear hw; clear HO0; clear HO391; clear BK393; clear HB; have HO0 := n0_; have HO391 := n1_; have BK393 := n2_; have HB := n3_; clear n0_ n1_ n2_ n3_; have hcz60_0 : w59.cell? ⟨gb393, 0, none⟩ = some (.int .i64 t387) := (blk_cell BK393.out 0).trans rfl; have hcz60_1 : w59.cell? ⟨gb393, 1, none⟩ = some (.int .i64 t388) := (blk_cell BK393.out 1).trans rfl; have hcz60_2 : w59.cell? ⟨gb393, 2, none⟩ = some (.slice Ao58 t389.length co58) := (blk_cell BK393.out 2).trans rfl; have hfz60_0 := blk_frozen BK393.out 0; have hfz60_1 := blk_frozen BK393.out 1; have hfz60_2 := blk_frozen BK393.out 2) | ((with_reducible refine gate_callee (f := 58) rfl ?_); refine goesL_ (some 24) rfl rfl Try.func58 (by kernel_rfl) rfl #[.slice Ao58 t389.length co58] rfl zP ?_; (with_reducible refine (line_Pop.calls (fun k_ => ((P0_ k_ ∨ w.heap.size ≤ k_) ∧ k_ ≠ gb393)) _ _ t389 t394 t397 t398 _ ?side1 A5.out).mono ?_); (case side1 => exact HO391.out); rintro e w61 ⟨v395, rfl, ho0, hb⟩; refine ⟨_, rfl, ?_⟩; have n0_ := Aside0.mk (Kd.V_below (zV HO0) hb); have n1_ := Aside0.mk (Kd.V_below (zV HO391) hb); have n2_ := Aside0.mk (Kd.V_lower (Kd.V_mono (ok' := fun k_ => (P0_ k_ ∨ w.heap.size ≤ k_) ∧ k_ ≠ gb393) ho0 (fun k_ hk_ => ⟨Or.elim hk_ (fun hs_ => hs_.1) (fun hn_ => (.inr (Nat.le_trans (below_size (zB1 HB GE393)) hn_))), Or.elim hk_ (fun hs_ => hs_.2) (fun hn_ => (Kd.freshB (g := gb393) (o := .cells #[.int .i64 t387, .int .i64 t388, .slice Ao58 t389.length co58] 33 (0, 0)) (zK BK393) k_ hn_))⟩)) (below_size (zB1 HB GE393))); have n3_ := Aside0.mk (blk_below (g := gb393) (o := .cells #[.int .i64 t387, .int .i64 t388, .slice Ao58 t389.length co58] 33 (0, 0)) (zK BK393) hb); have n4_ := Aside0.mk (below_step (zB1 HB GE393) hb); clear HO0; clear HO391; clear BK393; clear HB; have HO0 := n0_; have HO391 := n1_; have HO396 := n2_; have BK393 := n3_; have HB := n4_; clear n0_ n1_ n2_ n3_ n4_; (try clear hb); (try clear hb2); (try clear hk); (try clear hi); (try clear ho0); have hcz62_0 : w61.cell? ⟨gb393, 0, none⟩ = some (.int .i64 t387) := (blk_cell BK393.out 0).trans rfl; have hcz62_1 : w61.cell? ⟨gb393, 1, none⟩ = some (.int .i64 t388) := (blk_cell BK393.out 1).trans rfl; have hcz62_2 : w61.cell? ⟨gb393, 2, none⟩ = some (.slice Ao58 t389.length co58) := (blk_cell BK393.out 2).trans rfl; have hfz62_0 := blk_frozen BK393.out 0; have hfz62_1 := blk_frozen BK393.out 1; have hfz62_2 := blk_frozen BK393.out 2) | ((with_reducible refine gate_store (t := 3) (p := 31) rfl ?_); refine store_event (t := 3) (p := 31) (v := ?vo_w63) (w1 := (w61.setCell ⟨gb393, 1, none⟩ (.int .i64 (wrap64 (t388 + 1))))) ?hg ?ho ?hn ?hr ?_; (case ho => rfl); (case hg => rfl); (case hn => rfl); (case hr => first | (go_simp; done) | (go_simp; rfl)); intro w63 hw; have n0_ : Aside0 (Kd.V k33 33 w63 w.heap.size (fun k_ => (P0_ k_ ∨ w.heap.size ≤ k_) ∧ k_ ≠ gb393) (.slice A0 l0.length c0) l0) := ⟨(by rw [hw]; exact (by (with_reducible repeat (first | apply Kd.V_alloc | apply Kd.V_drewN | apply Kd.V_drew)); exact Kd.V_mono (Kd.V_far (p := ⟨gb393, 1, none⟩) (Kd.V_mono HO0.out (fun k_ hk => (⟨hk, hk.2⟩ : _ ∧ k_ ≠ gb393))) (fun _ hk => hk.2) (.int .i64 (wrap64 (t388 + 1)))) (fun _ hk => ⟨hk.1.1, hk.1.2⟩)))⟩; have n1_ : Aside0 (Kd.V (Kd.int .i64) 3 w63 w.heap.size (fun k_ => (P0_ k_ ∨ w.heap.size ≤ k_) ∧ k_ ≠ gb393) (.slice Ao58 t389.length co58) t389) := ⟨(by rw [hw]; exact (by (with_reducible repeat (first | apply Kd.V_alloc | apply Kd.V_drewN | apply Kd.V_drew)); exact Kd.V_mono (Kd.V_far (p := ⟨gb393, 1, none⟩) (Kd.V_mono HO391.out (fun k_ hk => (⟨hk, hk.2⟩ : _ ∧ k_ ≠ gb393))) (fun _ hk => hk.2) (.int .i64 (wrap64 (t388 + 1)))) (fun _ hk => ⟨hk.1.1, hk.1.2⟩)))⟩; have n2_ : Aside0 (Kd.V (Kd.int .i64) 3 w63 w.heap.size (fun k_ => (P0_ k_ ∨ w.heap.size ≤ k_) ∧ k_ ≠ gb393) v395 t394) := ⟨(by rw [hw]; exact (by (with_reducible repeat (first | apply Kd.V_alloc | apply Kd.V_drewN | apply Kd.V_drew)); exact Kd.V_mono (Kd.V_far (p := ⟨gb393, 1, none⟩) (Kd.V_mono HO396.out (fun k_ hk => (⟨hk, hk.2⟩ : _ ∧ k_ ≠ gb393))) (fun _ hk => hk.2) (.int .i64 (wrap64 (t388 + 1)))) (fun _ hk => ⟨hk.1.1, hk.1.2⟩)))⟩; have n3_ : Aside0 (w63.heap[gb393]? = some (.cells #[.int .i64 t387, .int .i64 (wrap64 (t388 + 1)), .slice Ao58 t389.length co58] 33 (0, 0))) := ⟨(by rw [hw]; exact (by (with_reducible repeat (first | refine blk_drewN ?_ _ | refine blk_drew ?_ | refine blk_alloc ?_ _)); refine blk_put (cs := #[.int .i64 t387, .int .i64 t388, .slice Ao58 t389.length co58]) ?_ 1 _ rfl; (with_reducible repeat (first | refine blk_drewN ?_ _ | refine blk_drew ?_ | refine blk_alloc ?_ _)); exact BK393.out))⟩; have n4_ : Aside0 (Below w.heap.size w w63) := ⟨(by rw [hw]; exact (zB1 HB GE393))⟩; clear hw; clear HO0; clear HO391; clear HO396; clear BK393; clear HB; have HO0 := n0_; have HO391 := n1_; have HO396 := n2_; have BK393 := n3_; have HB := n4_; clear n0_ n1_ n2_ n3_ n4_; have hcz64_0 : w63.cell? ⟨gb393, 0, none⟩ = some (.int .i64 t387) := (blk_cell BK393.out 0).trans rfl; have hcz64_1 : w63.cell? ⟨gb393, 1, none⟩ = some (.int .i64 (wrap64 (t388 + 1))) := (blk_cell BK393.out 1).trans rfl; have hcz64_2 : w63.cell? ⟨gb393, 2, none⟩ = some (.slice Ao58 t389.length co58) := (blk_cell BK393.out 2).trans rfl; have hfz64_0 := blk_frozen BK393.out 0; have hfz64_1 := blk_frozen BK393.out 1; have hfz64_2 := blk_frozen BK393.out 2) | ((with_reducible refine gate_callee (f := 17) rfl ?_); refine goesL_ (some 45) rfl rfl Try.func17 (by kernel_rfl) rfl #[.slice A0 l0.length c0, .agg #[.int .i64 t387, .int .i64 (wrap64 (t388 + 1)), .slice Ao58 t389.length co58]] rfl zP ?_; (with_reducible refine (root_Set.calls (fun k_ => ((P0_ k_ ∨ w.heap.size ≤ k_) ∧ k_ ≠ gb393)) _ _ l0 t387 (wrap64 (t388 + 1)) (fun k_ => ((P0_ k_ ∨ w.heap.size ≤ k_) ∧ k_ ≠ gb393)) _ _ t389 t403 t406 _ ?side1 ?side2 A42.out).mono ?_); (case side1 => exact HO0.out); (case side2 => exact HO391.out); rintro e w65 ⟨v404, rfl, ho0, hb⟩; refine ⟨_, rfl, ?_⟩; have n0_ := Aside0.mk (Kd.V_below (zV HO0) hb); have n1_ := Aside0.mk (Kd.V_below (zV HO391) hb); have n2_ := Aside0.mk (Kd.V_below (zV HO396) hb); have n3_ := Aside0.mk (Kd.V_lower (Kd.V_mono (ok' := fun k_ => (P0_ k_ ∨ w.heap.size ≤ k_) ∧ k_ ≠ gb393) ho0 (fun k_ hk_ => ⟨Or.elim hk_ (fun hs_ => Or.elim hs_ (fun hs_ => hs_.1) (fun hs_ => hs_.1)) (fun hn_ => (.inr (Nat.le_trans (below_size (zB1 HB GE393)) hn_))), Or.elim hk_ (fun hs_ => Or.elim hs_ (fun hs_ => hs_.2) (fun hs_ => hs_.2)) (fun hn_ => (Kd.freshB (g := gb393) (o := .cells #[.int .i64 t387, .int .i64 (wrap64 (t388 + 1)), .slice Ao58 t389.length co58] 33 (0, 0)) (zK BK393) k_ hn_))⟩)) (below_size (zB1 HB GE393))); have n4_ := Aside0.mk (blk_below (g := gb393) (o := .cells #[.int .i64 t387, .int .i64 (wrap64 (t388 + 1)), .slice Ao58 t389.length co58] 33 (0, 0)) (zK BK393) hb); have n5_ := Aside0.mk (below_step (zB1 HB GE393) hb); clear HO0; clear HO391; clear HO396; clear BK393; clear HB; have HO0 := n0_; have HO391 := n1_; have HO396 := n2_; have HO405 := n3_; have BK393 := n4_; have HB := n5_; clear n0_ n1_ n2_ n3_ n4_ n5_; (try clear hb); (try clear hb2); (try clear hk); (try clear hi); (try clear ho0)))
     go_ret3
     exact ⟨_, by first | rfl | (simp [errW_none, errW_some] <;> rfl) | (simp [*, errW_none, errW_some] <;> rfl), Kd.V_mono (Kd.S_V (by first | exact Kd.S_nil _ _ _ 0 (fun k_ => w.heap.size ≤ k_) | exact Kd.S_nil _ _ _ _ _ | exact Kd.N_nil _ _ _ _ _ | exact Kd.V_nil _ _ _ _ _ | exact Kd.Q_nil _ _ _ _ _ | exact Kd.R_nil _ _ _ _ _)) (fun k_ hk => by first | exact ⟨(.inr (hk.1)), hk.2⟩ | exact (.inr (hk))), zB1 HB GE393⟩
 ·rw [if_neg c4] at H
  have c4b0 : (t392 == 0) = false := beq_eq_false_iff_ne.mpr c4
  have c4b1 : (t392 != 0) = true := bne_iff_ne.mpr c4
  simp only [Option.some.injEq, Prod.mk.injEq] at H
  obtain ⟨rfl, rfl, rfl⟩ := H
  go_enter Try.func32, Try.ntmps32
  go_wp2_with (first | ((with_reducible refine gate_callee (f := 16) rfl ?_); refine goesL_ (some 16) rfl rfl Try.func16 (by kernel_rfl) rfl #[.slice A0 l0.length c0, .int .i64 a1] rfl zP ?_; (with_reducible refine (root_Get.calls (fun k_ => (P0_ k_ ∨ w.heap.size ≤ k_)) _ _ l0 a1 t387 t388 t389 t392 _ ?side1 A3.out).mono ?_); (case side1 => exact HO0.out); rintro e w66 ⟨v390, rfl, ho0, hb⟩; refine ⟨_, rfl, ?_⟩; have n0_ := Aside0.mk (Kd.V_below (zV HO0) hb); have n1_ := Aside0.mk (Kd.V_lower (Kd.V_mono (ok' := fun k_ => (P0_ k_ ∨ w.heap.size ≤ k_)) ho0 (fun k_ hk_ => Or.elim hk_ (fun hs_ => hs_) (fun hn_ => (.inr (Nat.le_trans (below_size (zB HB)) hn_))))) (below_size (zB HB))); have n2_ := Aside0.mk (below_step (zB HB) hb); clear HO0; clear HB; have HO0 := n0_; have HO391 := n1_; have HB := n2_; clear n0_ n1_ n2_; (try clear hb); (try clear hb2); (try clear hk); (try clear hi); (try clear ho0)) | ((with_reducible refine gate_dst (N := 7) rfl ?_); refine box_event ?hg (N := 7) ?hd (cs := #[.int .i64 0, .int .i64 0, .slice none 0 0]) (t := 33) ?hr ?_; (case hd => rfl); (case hg => rfl); (case hr => first | (go_simp; done) | (go_simp; rfl)); intro gb393 hg w67 hbox hb; have n0_ := Aside0.mk (Kd.V_below (Kd.V_elderB (zV HO0) gb393 (Nat.le_of_eq hg.symm)) hb); have n1_ := Aside0.mk (Kd.V_below (Kd.V_elderB (zV HO391) gb393 (Nat.le_of_eq hg.symm)) hb); have n2_ := Aside0.mk (below_step (zB HB) hb); have n3_ := Aside0.mk (hbox); have n4_ := Aside0.mk ((by rw [hg]; exact (below_size (zB HB)) : w.heap.size ≤ gb393)); have n5_ := Aside0.mk ((by rw [hg]; exact (below_size (zB HB)) : w.heap.size ≤ gb393)); clear HO0; clear HO391; clear HB; have HO0 := n0_; have HO391 := n1_; have HB := n2_; have BK393 := n3_; have GW393 := n4_; have GE393 := n5_; clear n0_ n1_ n2_ n3_ n4_ n5_; clear hb hbox hg; have hcz68_0 : w67.cell? ⟨gb393, 0, none⟩ = some (.int .i64 0) := (blk_cell BK393.out 0).trans rfl; have hcz68_1 : w67.cell? ⟨gb393, 1, none⟩ = some (.int .i64 0) := (blk_cell BK393.out 1).trans rfl; have hcz68_2 : w67.cell? ⟨gb393, 2, none⟩ = some (.slice none 0 0) := (blk_cell BK393.out 2).trans rfl; have hfz68_0 := blk_frozen BK393.out 0; have hfz68_1 := blk_frozen BK393.out 1; have hfz68_2 := blk_frozen BK393.out 2; obtain ⟨Ao69, co69, eo69⟩ := Kd.V_slice HO391.out; subst eo69))
  go_ret3
  exact ⟨_, by first | rfl | (simp [errW_none, errW_some] <;> rfl) | (simp [*, errW_none, errW_some] <;> rfl), Kd.V_mono (Kd.S_V (by first | exact Kd.S_nil _ _ _ 0 (fun k_ => w.heap.size ≤ k_) | exact Kd.S_nil _ _ _ _ _ | exact Kd.N_nil _ _ _ _ _ | exact Kd.V_nil _ _ _ _ _ | exact Kd.Q_nil _ _ _ _ _ | exact Kd.R_nil _ _ _ _ _)) (fun k_ hk => by first | exact ⟨(.inr (hk.1)), hk.2⟩ | exact (.inr (hk))), zB1 HB GE393⟩

end Go.Proofs.Ytnjnjajgpkmfhaa.PX

namespace Go.Proofs.Ytnjnjajgpkmfhaa.PX
open Go.RowKit Go.Proofs.YtnjnjajgpkmfhaaW.PrintWords Go.Proofs.YtnjnjajgpkmfhaaW.PrintLast Go.Proofs.YtnjnjajgpkmfhaaW.PrintMore
attribute [local go_sem] max2_int min2_int max_two min_two max_three min_three max_four min_four   -- for this text's walks alone
set_option linter.unusedVariables false
set_option linter.unusedSimpArgs false

/-! ### deadboltlaw10_alive: function 33 -/
def deadboltlaw10_alive.f (k : Nat)  : Option (Bool) := (sema_Acquire.f k ([] : List (S33)) 8 4 false).bind fun bt407 => ((sema_Acquire.f k bt407.1 8 2 true).bind fun bt412 => ((sema_Release.f bt412.1 8).bind fun bt417 => (if bt407.2.2 = 0 then (if bt412.2.2 = 0 then (if bt417.2.2 = 0 then (if bt407.2.1 = true then (some false) else (if bt412.2.1 = true then (some false) else (some (bt417.2.1 == 2)))) else (some false)) else (some false)) else (some false))))
theorem deadboltlaw10_alive.mono : ∀ k, LeO (deadboltlaw10_alive.f k ) (deadboltlaw10_alive.f (k + 1) ) := by
 intro  k
 unfold deadboltlaw10_alive.f
 repeat' first
   | (with_reducible exact sema_Acquire.mono _ _ _ _ _)
   | (with_reducible exact LeO.refl _)
   | (with_reducible exact LeO.none _)
   | (with_reducible refine LeO.ite ?_ ?_)
   | (with_reducible refine LeO.bind ?_ (fun _ => ?_))
   | exact sema_Acquire.mono _ _ _ _ _
   | exact LeO.none _
   | refine LeO.ite ?_ ?_
   | refine LeO.bind ?_ (fun _ => ?_)
set_option maxHeartbeats 8000000 in
set_option maxRecDepth 100000 in
theorem deadboltlaw10_alive.calls (k : Nat)  (r : Bool) (w : World) (h : deadboltlaw10_alive.f k  = some r) :
  Calls Try.prog 33 #[] w fun e w' => e = .returned (.bool r) ∧ Below w.heap.size w w' := by
 have HB := Aside0.mk (Below.refl w.heap.size w)
 have H : ((sema_Acquire.f k ([] : List (S33)) 8 4 false).bind fun bt407 => ((sema_Acquire.f k bt407.1 8 2 true).bind fun bt412 => ((sema_Release.f bt412.1 8).bind fun bt417 => (if bt407.2.2 = 0 then (if bt412.2.2 = 0 then (if bt417.2.2 = 0 then (if bt407.2.1 = true then (some false) else (if bt412.2.1 = true then (some false) else (some (bt417.2.1 == 2)))) else (some false)) else (some false)) else (some false))))) = some r := h
 clear h
 replace H := Option.bind_eq_some_iff.mp H
 obtain ⟨⟨t407, t410, t411⟩, A10, H⟩ := H
 replace H : ((sema_Acquire.f k t407 8 2 true).bind fun bt412 => ((sema_Release.f bt412.1 8).bind fun bt417 => (if t411 = 0 then (if bt412.2.2 = 0 then (if bt417.2.2 = 0 then (if t410 = true then (some false) else (if bt412.2.1 = true then (some false) else (some (bt417.2.1 == 2)))) else (some false)) else (some false)) else (some false)))) = some r := H
 have A1 := Aside0.mk A10
 clear A10
 replace H := Option.bind_eq_some_iff.mp H
 obtain ⟨⟨t412, t415, t416⟩, A20, H⟩ := H
 replace H : ((sema_Release.f t412 8).bind fun bt417 => (if t411 = 0 then (if t416 = 0 then (if bt417.2.2 = 0 then (if t410 = true then (some false) else (if t415 = true then (some false) else (some (bt417.2.1 == 2)))) else (some false)) else (some false)) else (some false))) = some r := H
 have A2 := Aside0.mk A20
 clear A20
 replace H := Option.bind_eq_some_iff.mp H
 obtain ⟨⟨t417, t420, t421⟩, A30, H⟩ := H
 replace H : (if t411 = 0 then (if t416 = 0 then (if t421 = 0 then (if t410 = true then (some false) else (if t415 = true then (some false) else (some (t420 == 2)))) else (some false)) else (some false)) else (some false)) = some r := H
 have A3 := Aside0.mk A30
 clear A30
 by_cases c4 : t411 = 0
 ·rw [if_pos c4] at H
  have c4b0 : (t411 == 0) = true := beq_iff_eq.mpr c4
  have c4b1 : (t411 != 0) = false := bne_eq_false_iff_eq.mpr c4
  clear c4
  by_cases c5 : t416 = 0
  ·rw [if_pos c5] at H
   have c5b0 : (t416 == 0) = true := beq_iff_eq.mpr c5
   have c5b1 : (t416 != 0) = false := bne_eq_false_iff_eq.mpr c5
   clear c5
   by_cases c6 : t421 = 0
   ·rw [if_pos c6] at H
    have c6b0 : (t421 == 0) = true := beq_iff_eq.mpr c6
    have c6b1 : (t421 != 0) = false := bne_eq_false_iff_eq.mpr c6
    clear c6
    by_cases c7 : t410 = true
    ·subst c7
     have H1 : (some false) = some r := by rw [if_pos rfl] at H; exact H
     clear H
     have H := H1
     clear H1
     obtain rfl := Option.some.inj H
     go_enter Try.func33, Try.ntmps33
     go_wp2_with (first | ((with_reducible refine gate_callee (f := 30) rfl ?_); refine goesL_ (some 10) rfl rfl Try.func30 (by kernel_rfl) rfl #[.slice none 0 0, .int .i64 8, .int .i64 4, .bool false] rfl zP ?_; (refine (sema_Acquire.calls k (fun k_ => False) _ _ ([] : List (S33)) 8 4 false t407 true t411 _ ?side1 A1.out).mono ?_); (case side1 => exact Kd.V_nil _ _ _ _ _); rintro e w8 ⟨v408, rfl, ho0, hb⟩; refine ⟨_, rfl, ?_⟩; have n0_ := Aside0.mk (Kd.V_lower (Kd.V_mono (ok' := fun k_ => True) ho0 (fun k_ hk_ => trivial)) (below_size (zB HB))); have n1_ := Aside0.mk (below_step (zB HB) hb); clear HB; have HO409 := n0_; have HB := n1_; clear n0_ n1_; (try clear hb); (try clear hb2); (try clear hk); (try clear hi); (try clear ho0); obtain ⟨Ao9, co9, eo9⟩ := Kd.V_slice HO409.out; subst eo9) | ((with_reducible refine gate_callee (f := 30) rfl ?_); refine goesL_ (some 16) rfl rfl Try.func30 (by kernel_rfl) rfl #[.slice Ao9 t407.length co9, .int .i64 8, .int .i64 2, .bool true] rfl zP ?_; (with_reducible refine (sema_Acquire.calls k (fun k_ => True) _ _ t407 8 2 true t412 t415 t416 _ ?side1 A2.out).mono ?_); (case side1 => exact HO409.out); rintro e w10 ⟨v413, rfl, ho0, hb⟩; refine ⟨_, rfl, ?_⟩; have n0_ := Aside0.mk (Kd.V_below (zV HO409) hb); have n1_ := Aside0.mk (Kd.V_lower (Kd.V_mono (ok' := fun k_ => True) ho0 (fun k_ hk_ => trivial)) (below_size (zB HB))); have n2_ := Aside0.mk (below_step (zB HB) hb); clear HO409; clear HB; have HO409 := n0_; have HO414 := n1_; have HB := n2_; clear n0_ n1_ n2_; (try clear hb); (try clear hb2); (try clear hk); (try clear hi); (try clear ho0); obtain ⟨Ao11, co11, eo11⟩ := Kd.V_slice HO414.out; subst eo11) | ((with_reducible refine gate_callee (f := 32) rfl ?_); refine goesL_ (some 22) rfl rfl Try.func32 (by kernel_rfl) rfl #[.slice Ao11 t412.length co11, .int .i64 8] rfl zP ?_; (with_reducible refine (sema_Release.calls (fun k_ => True) _ _ t412 8 t417 t420 t421 _ ?side1 A3.out).mono ?_); (case side1 => exact HO414.out); rintro e w12 ⟨v418, rfl, ho0, hb⟩; refine ⟨_, rfl, ?_⟩; have n0_ := Aside0.mk (Kd.V_below (zV HO409) hb); have n1_ := Aside0.mk (Kd.V_below (zV HO414) hb); have n2_ := Aside0.mk (Kd.V_lower (Kd.V_mono (ok' := fun k_ => True) ho0 (fun k_ hk_ => trivial)) (below_size (zB HB))); have n3_ := Aside0.mk (below_step (zB HB) hb); clear HO409; clear HO414; clear HB; have HO409 := n0_; have HO414 := n1_; have HO419 := n2_; have HB := n3_; clear n0_ n1_ n2_ n3_; (try clear hb); (try clear hb2); (try clear hk); (try clear hi); (try clear ho0)))
     go_ret
     exact ⟨by first | rfl | (simp [errW_none, errW_some] <;> rfl) | (simp [*, errW_none, errW_some] <;> rfl), zB HB⟩
    ·replace c7 := Bool.eq_false_iff.mpr c7
     subst c7
     have H1 : (if t415 = true then (some false) else (some (t420 == 2))) = some r := by rw [if_neg (show ¬ (false = true) by decide)] at H; exact H
     clear H
     have H := H1
     clear H1
     by_cases c13 : t415 = true
     ·subst c13
      have H1 : (some false) = some r := by rw [if_pos rfl] at H; exact H
      clear H
      have H := H1
      clear H1
      obtain rfl := Option.some.inj H
      go_enter Try.func33, Try.ntmps33
      go_wp2_with (first | ((with_reducible refine gate_callee (f := 30) rfl ?_); refine goesL_ (some 10) rfl rfl Try.func30 (by kernel_rfl) rfl #[.slice none 0 0, .int .i64 8, .int .i64 4, .bool false] rfl zP ?_; (refine (sema_Acquire.calls k (fun k_ => False) _ _ ([] : List (S33)) 8 4 false t407 false t411 _ ?side1 A1.out).mono ?_); (case side1 => exact Kd.V_nil _ _ _ _ _); rintro e w14 ⟨v408, rfl, ho0, hb⟩; refine ⟨_, rfl, ?_⟩; have n0_ := Aside0.mk (Kd.V_lower (Kd.V_mono (ok' := fun k_ => True) ho0 (fun k_ hk_ => trivial)) (below_size (zB HB))); have n1_ := Aside0.mk (below_step (zB HB) hb); clear HB; have HO409 := n0_; have HB := n1_; clear n0_ n1_; (try clear hb); (try clear hb2); (try clear hk); (try clear hi); (try clear ho0); obtain ⟨Ao15, co15, eo15⟩ := Kd.V_slice HO409.out; subst eo15) | ((with_reducible refine gate_callee (f := 30) rfl ?_); refine goesL_ (some 16) rfl rfl Try.func30 (by kernel_rfl) rfl #[.slice Ao15 t407.length co15, .int .i64 8, .int .i64 2, .bool true] rfl zP ?_; (with_reducible refine (sema_Acquire.calls k (fun k_ => True) _ _ t407 8 2 true t412 true t416 _ ?side1 A2.out).mono ?_); (case side1 => exact HO409.out); rintro e w16 ⟨v413, rfl, ho0, hb⟩; refine ⟨_, rfl, ?_⟩; have n0_ := Aside0.mk (Kd.V_below (zV HO409) hb); have n1_ := Aside0.mk (Kd.V_lower (Kd.V_mono (ok' := fun k_ => True) ho0 (fun k_ hk_ => trivial)) (below_size (zB HB))); have n2_ := Aside0.mk (below_step (zB HB) hb); clear HO409; clear HB; have HO409 := n0_; have HO414 := n1_; have HB := n2_; clear n0_ n1_ n2_; (try clear hb); (try clear hb2); (try clear hk); (try clear hi); (try clear ho0); obtain ⟨Ao17, co17, eo17⟩ := Kd.V_slice HO414.out; subst eo17) | ((with_reducible refine gate_callee (f := 32) rfl ?_); refine goesL_ (some 22) rfl rfl Try.func32 (by kernel_rfl) rfl #[.slice Ao17 t412.length co17, .int .i64 8] rfl zP ?_; (with_reducible refine (sema_Release.calls (fun k_ => True) _ _ t412 8 t417 t420 t421 _ ?side1 A3.out).mono ?_); (case side1 => exact HO414.out); rintro e w18 ⟨v418, rfl, ho0, hb⟩; refine ⟨_, rfl, ?_⟩; have n0_ := Aside0.mk (Kd.V_below (zV HO409) hb); have n1_ := Aside0.mk (Kd.V_below (zV HO414) hb); have n2_ := Aside0.mk (Kd.V_lower (Kd.V_mono (ok' := fun k_ => True) ho0 (fun k_ hk_ => trivial)) (below_size (zB HB))); have n3_ := Aside0.mk (below_step (zB HB) hb); clear HO409; clear HO414; clear HB; have HO409 := n0_; have HO414 := n1_; have HO419 := n2_; have HB := n3_; clear n0_ n1_ n2_ n3_; (try clear hb); (try clear hb2); (try clear hk); (try clear hi); (try clear ho0)))
      go_ret
      exact ⟨by first | rfl | (simp [errW_none, errW_some] <;> rfl) | (simp [*, errW_none, errW_some] <;> rfl), zB HB⟩
     ·replace c13 := Bool.eq_false_iff.mpr c13
      subst c13
      have H1 : (some (t420 == 2)) = some r := by rw [if_neg (show ¬ (false = true) by decide)] at H; exact H
      clear H
      have H := H1
      clear H1
      obtain rfl := Option.some.inj H
      go_enter Try.func33, Try.ntmps33
      go_wp2_with (first | ((with_reducible refine gate_callee (f := 30) rfl ?_); refine goesL_ (some 10) rfl rfl Try.func30 (by kernel_rfl) rfl #[.slice none 0 0, .int .i64 8, .int .i64 4, .bool false] rfl zP ?_; (refine (sema_Acquire.calls k (fun k_ => False) _ _ ([] : List (S33)) 8 4 false t407 false t411 _ ?side1 A1.out).mono ?_); (case side1 => exact Kd.V_nil _ _ _ _ _); rintro e w19 ⟨v408, rfl, ho0, hb⟩; refine ⟨_, rfl, ?_⟩; have n0_ := Aside0.mk (Kd.V_lower (Kd.V_mono (ok' := fun k_ => True) ho0 (fun k_ hk_ => trivial)) (below_size (zB HB))); have n1_ := Aside0.mk (below_step (zB HB) hb); clear HB; have HO409 := n0_; have HB := n1_; clear n0_ n1_; (try clear hb); (try clear hb2); (try clear hk); (try clear hi); (try clear ho0); obtain ⟨Ao20, co20, eo20⟩ := Kd.V_slice HO409.out; subst eo20) | ((with_reducible refine gate_callee (f := 30) rfl ?_); refine goesL_ (some 16) rfl rfl Try.func30 (by kernel_rfl) rfl #[.slice Ao20 t407.length co20, .int .i64 8, .int .i64 2, .bool true] rfl zP ?_; (with_reducible refine (sema_Acquire.calls k (fun k_ => True) _ _ t407 8 2 true t412 false t416 _ ?side1 A2.out).mono ?_); (case side1 => exact HO409.out); rintro e w21 ⟨v413, rfl, ho0, hb⟩; refine ⟨_, rfl, ?_⟩; have n0_ := Aside0.mk (Kd.V_below (zV HO409) hb); have n1_ := Aside0.mk (Kd.V_lower (Kd.V_mono (ok' := fun k_ => True) ho0 (fun k_ hk_ => trivial)) (below_size (zB HB))); have n2_ := Aside0.mk (below_step (zB HB) hb); clear HO409; clear HB; have HO409 := n0_; have HO414 := n1_; have HB := n2_; clear n0_ n1_ n2_; (try clear hb); (try clear hb2); (try clear hk); (try clear hi); (try clear ho0); obtain ⟨Ao22, co22, eo22⟩ := Kd.V_slice HO414.out; subst eo22) | ((with_reducible refine gate_callee (f := 32) rfl ?_); refine goesL_ (some 22) rfl rfl Try.func32 (by kernel_rfl) rfl #[.slice Ao22 t412.length co22, .int .i64 8] rfl zP ?_; (with_reducible refine (sema_Release.calls (fun k_ => True) _ _ t412 8 t417 t420 t421 _ ?side1 A3.out).mono ?_); (case side1 => exact HO414.out); rintro e w23 ⟨v418, rfl, ho0, hb⟩; refine ⟨_, rfl, ?_⟩; have n0_ := Aside0.mk (Kd.V_below (zV HO409) hb); have n1_ := Aside0.mk (Kd.V_below (zV HO414) hb); have n2_ := Aside0.mk (Kd.V_lower (Kd.V_mono (ok' := fun k_ => True) ho0 (fun k_ hk_ => trivial)) (below_size (zB HB))); have n3_ := Aside0.mk (below_step (zB HB) hb); clear HO409; clear HO414; clear HB; have HO409 := n0_; have HO414 := n1_; have HO419 := n2_; have HB := n3_; clear n0_ n1_ n2_ n3_; (try clear hb); (try clear hb2); (try clear hk); (try clear hi); (try clear ho0)))
      go_ret
      exact ⟨by first | rfl | (simp [errW_none, errW_some] <;> rfl) | (simp [*, errW_none, errW_some] <;> rfl), zB HB⟩
   ·rw [if_neg c6] at H
    have c6b0 : (t421 == 0) = false := beq_eq_false_iff_ne.mpr c6
    have c6b1 : (t421 != 0) = true := bne_iff_ne.mpr c6
    obtain rfl := Option.some.inj H
    go_enter Try.func33, Try.ntmps33
    go_wp2_with (first | ((with_reducible refine gate_callee (f := 30) rfl ?_); refine goesL_ (some 10) rfl rfl Try.func30 (by kernel_rfl) rfl #[.slice none 0 0, .int .i64 8, .int .i64 4, .bool false] rfl zP ?_; (refine (sema_Acquire.calls k (fun k_ => False) _ _ ([] : List (S33)) 8 4 false t407 t410 t411 _ ?side1 A1.out).mono ?_); (case side1 => exact Kd.V_nil _ _ _ _ _); rintro e w24 ⟨v408, rfl, ho0, hb⟩; refine ⟨_, rfl, ?_⟩; have n0_ := Aside0.mk (Kd.V_lower (Kd.V_mono (ok' := fun k_ => True) ho0 (fun k_ hk_ => trivial)) (below_size (zB HB))); have n1_ := Aside0.mk (below_step (zB HB) hb); clear HB; have HO409 := n0_; have HB := n1_; clear n0_ n1_; (try clear hb); (try clear hb2); (try clear hk); (try clear hi); (try clear ho0); obtain ⟨Ao25, co25, eo25⟩ := Kd.V_slice HO409.out; subst eo25) | ((with_reducible refine gate_callee (f := 30) rfl ?_); refine goesL_ (some 16) rfl rfl Try.func30 (by kernel_rfl) rfl #[.slice Ao25 t407.length co25, .int .i64 8, .int .i64 2, .bool true] rfl zP ?_; (with_reducible refine (sema_Acquire.calls k (fun k_ => True) _ _ t407 8 2 true t412 t415 t416 _ ?side1 A2.out).mono ?_); (case side1 => exact HO409.out); rintro e w26 ⟨v413, rfl, ho0, hb⟩; refine ⟨_, rfl, ?_⟩; have n0_ := Aside0.mk (Kd.V_below (zV HO409) hb); have n1_ := Aside0.mk (Kd.V_lower (Kd.V_mono (ok' := fun k_ => True) ho0 (fun k_ hk_ => trivial)) (below_size (zB HB))); have n2_ := Aside0.mk (below_step (zB HB) hb); clear HO409; clear HB; have HO409 := n0_; have HO414 := n1_; have HB := n2_; clear n0_ n1_ n2_; (try clear hb); (try clear hb2); (try clear hk); (try clear hi); (try clear ho0); obtain ⟨Ao27, co27, eo27⟩ := Kd.V_slice HO414.out; subst eo27) | ((with_reducible refine gate_callee (f := 32) rfl ?_); refine goesL_ (some 22) rfl rfl Try.func32 (by kernel_rfl) rfl #[.slice Ao27 t412.length co27, .int .i64 8] rfl zP ?_; (with_reducible refine (sema_Release.calls (fun k_ => True) _ _ t412 8 t417 t420 t421 _ ?side1 A3.out).mono ?_); (case side1 => exact HO414.out); rintro e w28 ⟨v418, rfl, ho0, hb⟩; refine ⟨_, rfl, ?_⟩; have n0_ := Aside0.mk (Kd.V_below (zV HO409) hb); have n1_ := Aside0.mk (Kd.V_below (zV HO414) hb); have n2_ := Aside0.mk (Kd.V_lower (Kd.V_mono (ok' := fun k_ => True) ho0 (fun k_ hk_ => trivial)) (below_size (zB HB))); have n3_ := Aside0.mk (below_step (zB HB) hb); clear HO409; clear HO414; clear HB; have HO409 := n0_; have HO414 := n1_; have HO419 := n2_; have HB := n3_; clear n0_ n1_ n2_ n3_; (try clear hb); (try clear hb2); (try clear hk); (try clear hi); (try clear ho0)))
    go_ret
    exact ⟨by first | rfl | (simp [errW_none, errW_some] <;> rfl) | (simp [*, errW_none, errW_some] <;> rfl), zB HB⟩
  ·rw [if_neg c5] at H
   have c5b0 : (t416 == 0) = false := beq_eq_false_iff_ne.mpr c5
   have c5b1 : (t416 != 0) = true := bne_iff_ne.mpr c5
   obtain rfl := Option.some.inj H
   go_enter Try.func33, Try.ntmps33
   go_wp2_with (first | ((with_reducible refine gate_callee (f := 30) rfl ?_); refine goesL_ (some 10) rfl rfl Try.func30 (by kernel_rfl) rfl #[.slice none 0 0, .int .i64 8, .int .i64 4, .bool false] rfl zP ?_; (refine (sema_Acquire.calls k (fun k_ => False) _ _ ([] : List (S33)) 8 4 false t407 t410 t411 _ ?side1 A1.out).mono ?_); (case side1 => exact Kd.V_nil _ _ _ _ _); rintro e w29 ⟨v408, rfl, ho0, hb⟩; refine ⟨_, rfl, ?_⟩; have n0_ := Aside0.mk (Kd.V_lower (Kd.V_mono (ok' := fun k_ => True) ho0 (fun k_ hk_ => trivial)) (below_size (zB HB))); have n1_ := Aside0.mk (below_step (zB HB) hb); clear HB; have HO409 := n0_; have HB := n1_; clear n0_ n1_; (try clear hb); (try clear hb2); (try clear hk); (try clear hi); (try clear ho0); obtain ⟨Ao30, co30, eo30⟩ := Kd.V_slice HO409.out; subst eo30) | ((with_reducible refine gate_callee (f := 30) rfl ?_); refine goesL_ (some 16) rfl rfl Try.func30 (by kernel_rfl) rfl #[.slice Ao30 t407.length co30, .int .i64 8, .int .i64 2, .bool true] rfl zP ?_; (with_reducible refine (sema_Acquire.calls k (fun k_ => True) _ _ t407 8 2 true t412 t415 t416 _ ?side1 A2.out).mono ?_); (case side1 => exact HO409.out); rintro e w31 ⟨v413, rfl, ho0, hb⟩; refine ⟨_, rfl, ?_⟩; have n0_ := Aside0.mk (Kd.V_below (zV HO409) hb); have n1_ := Aside0.mk (Kd.V_lower (Kd.V_mono (ok' := fun k_ => True) ho0 (fun k_ hk_ => trivial)) (below_size (zB HB))); have n2_ := Aside0.mk (below_step (zB HB) hb); clear HO409; clear HB; have HO409 := n0_; have HO414 := n1_; have HB := n2_; clear n0_ n1_ n2_; (try clear hb); (try clear hb2); (try clear hk); (try clear hi); (try clear ho0); obtain ⟨Ao32, co32, eo32⟩ := Kd.V_slice HO414.out; subst eo32) | ((with_reducible refine gate_callee (f := 32) rfl ?_); refine goesL_ (some 22) rfl rfl Try.func32 (by kernel_rfl) rfl #[.slice Ao32 t412.length co32, .int .i64 8] rfl zP ?_; (with_reducible refine (sema_Release.calls (fun k_ => True) _ _ t412 8 t417 t420 t421 _ ?side1 A3.out).mono ?_); (case side1 => exact HO414.out); rintro e w33 ⟨v418, rfl, ho0, hb⟩; refine ⟨_, rfl, ?_⟩; have n0_ := Aside0.mk (Kd.V_below (zV HO409) hb); have n1_ := Aside0.mk (Kd.V_below (zV HO414) hb); have n2_ := Aside0.mk (Kd.V_lower (Kd.V_mono (ok' := fun k_ => True) ho0 (fun k_ hk_ => trivial)) (below_size (zB HB))); have n3_ := Aside0.mk (below_step (zB HB) hb); clear HO409; clear HO414; clear HB; have HO409 := n0_; have HO414 := n1_; have HO419 := n2_; have HB := n3_; clear n0_ n1_ n2_ n3_; (try clear hb); (try clear hb2); (try clear hk); (try clear hi); (try clear ho0)))
   go_ret
   exact ⟨by first | rfl | (simp [errW_none, errW_some] <;> rfl) | (simp [*, errW_none, errW_some] <;> rfl), zB HB⟩
 ·rw [if_neg c4] at H
  have c4b0 : (t411 == 0) = false := beq_eq_false_iff_ne.mpr c4
  have c4b1 : (t411 != 0) = true := bne_iff_ne.mpr c4
  obtain rfl := Option.some.inj H
  go_enter Try.func33, Try.ntmps33
  go_wp2_with (first | ((with_reducible refine gate_callee (f := 30) rfl ?_); refine goesL_ (some 10) rfl rfl Try.func30 (by kernel_rfl) rfl #[.slice none 0 0, .int .i64 8, .int .i64 4, .bool false] rfl zP ?_; (refine (sema_Acquire.calls k (fun k_ => False) _ _ ([] : List (S33)) 8 4 false t407 t410 t411 _ ?side1 A1.out).mono ?_); (case side1 => exact Kd.V_nil _ _ _ _ _); rintro e w34 ⟨v408, rfl, ho0, hb⟩; refine ⟨_, rfl, ?_⟩; have n0_ := Aside0.mk (Kd.V_lower (Kd.V_mono (ok' := fun k_ => True) ho0 (fun k_ hk_ => trivial)) (below_size (zB HB))); have n1_ := Aside0.mk (below_step (zB HB) hb); clear HB; have HO409 := n0_; have HB := n1_; clear n0_ n1_; (try clear hb); (try clear hb2); (try clear hk); (try clear hi); (try clear ho0); obtain ⟨Ao35, co35, eo35⟩ := Kd.V_slice HO409.out; subst eo35) | ((with_reducible refine gate_callee (f := 30) rfl ?_); refine goesL_ (some 16) rfl rfl Try.func30 (by kernel_rfl) rfl #[.slice Ao35 t407.length co35, .int .i64 8, .int .i64 2, .bool true] rfl zP ?_; (with_reducible refine (sema_Acquire.calls k (fun k_ => True) _ _ t407 8 2 true t412 t415 t416 _ ?side1 A2.out).mono ?_); (case side1 => exact HO409.out); rintro e w36 ⟨v413, rfl, ho0, hb⟩; refine ⟨_, rfl, ?_⟩; have n0_ := Aside0.mk (Kd.V_below (zV HO409) hb); have n1_ := Aside0.mk (Kd.V_lower (Kd.V_mono (ok' := fun k_ => True) ho0 (fun k_ hk_ => trivial)) (below_size (zB HB))); have n2_ := Aside0.mk (below_step (zB HB) hb); clear HO409; clear HB; have HO409 := n0_; have HO414 := n1_; have HB := n2_; clear n0_ n1_ n2_; (try clear hb); (try clear hb2); (try clear hk); (try clear hi); (try clear ho0); obtain ⟨Ao37, co37, eo37⟩ := Kd.V_slice HO414.out; subst eo37) | ((with_reducible refine gate_callee (f := 32) rfl ?_); refine goesL_ (some 22) rfl rfl Try.func32 (by kernel_rfl) rfl #[.slice Ao37 t412.length co37, .int .i64 8] rfl zP ?_; (with_reducible refine (sema_Release.calls (fun k_ => True) _ _ t412 8 t417 t420 t421 _ ?side1 A3.out).mono ?_); (case side1 => exact HO414.out); rintro e w38 ⟨v418, rfl, ho0, hb⟩; refine ⟨_, rfl, ?_⟩; have n0_ := Aside0.mk (Kd.V_below (zV HO409) hb); have n1_ := Aside0.mk (Kd.V_below (zV HO414) hb); have n2_ := Aside0.mk (Kd.V_lower (Kd.V_mono (ok' := fun k_ => True) ho0 (fun k_ hk_ => trivial)) (below_size (zB HB))); have n3_ := Aside0.mk (below_step (zB HB) hb); clear HO409; clear HO414; clear HB; have HO409 := n0_; have HO414 := n1_; have HO419 := n2_; have HB := n3_; clear n0_ n1_ n2_ n3_; (try clear hb); (try clear hb2); (try clear hk); (try clear hi); (try clear ho0)))
  go_ret
  exact ⟨by first | rfl | (simp [errW_none, errW_some] <;> rfl) | (simp [*, errW_none, errW_some] <;> rfl), zB HB⟩

end Go.Proofs.Ytnjnjajgpkmfhaa.PX

namespace Go.Proofs.Ytnjnjajgpkmfhaa.PX
open Go.RowKit Go.Proofs.YtnjnjajgpkmfhaaW.PrintWords Go.Proofs.YtnjnjajgpkmfhaaW.PrintLast Go.Proofs.YtnjnjajgpkmfhaaW.PrintMore
attribute [local go_sem] max2_int min2_int max_two min_two max_three min_three max_four min_four   -- for this text's walks alone
set_option linter.unusedVariables false
set_option linter.unusedSimpArgs false

/-! ### deadboltlaw10_few: function 34 -/
def deadboltlaw10_few.l0 : Nat → List (S33) → List (S33) → Int → Int → Option ((List (S33)))
 | 0, _, _, _, _ => none
 | k + 1, x3, x10, x11, x12 => if x12 < x11 then (if 0 ≤ x12 then (if x12 < (x10.length : Int) then (if 0 ≤ (mn (((rd_T33 x10 x12).f2).length : Int) 70) then (if (mn (((rd_T33 x10 x12).f2).length : Int) 70) ≤ (((rd_T33 x10 x12).f2).length : Int) then (if x3.length < 3518437208883 then (deadboltlaw10_few.l0 k (x3 ++ [(⟨(rd_T33 x10 x12).f0, (rd_T33 x10 x12).f1, (((rd_T33 x10 x12).f2).take ((mn (((rd_T33 x10 x12).f2).length : Int) 70) : Int).toNat)⟩ : S33)]) x10 x11 (wrap64 (x12 + 1))) else (none)) else (none)) else (none)) else (none)) else (none)) else (some x3)
def deadboltlaw10_few.f (k : Nat) (l0 : List (S33)) : Option ((List (S33))) := if 0 ≤ (mn (l0.length : Int) 70) then (if (mn (l0.length : Int) 70) ≤ (l0.length : Int) then ((some (l0.take ((mn (l0.length : Int) 70) : Int).toNat : List (S33))).bind fun y422 => (deadboltlaw10_few.l0 k ([] : List (S33)) y422 (y422.length : Int) 0)) else (none)) else (none)
set_option maxHeartbeats 8000000 in
set_option maxRecDepth 100000 in
theorem deadboltlaw10_few.calls (k : Nat) (P0_ : Nat → Prop) (A0 : Option Addr) (c0 : Nat) (l0 : List (S33)) (r : List (S33)) (w : World) (hs0 : Kd.V k33 33 w w.heap.size (fun k_ => P0_ k_) (.slice A0 l0.length c0) l0) (h : deadboltlaw10_few.f k l0 = some r) :
  Calls Try.prog 34 #[.slice A0 l0.length c0] w fun e w' => ∃ v0_ : Value, e = .returned (v0_) ∧ Kd.N k33 33 w' w.heap.size (fun k_ => (P0_ k_ ∨ w.heap.size ≤ k_)) v0_ r ∧ Below w.heap.size w w' := by
 have hu33 := Try.underlying33
 have HO0 := Aside0.mk (show Kd.V k33 33 w w.heap.size (fun k_ => (P0_ k_ ∨ w.heap.size ≤ k_)) (.slice A0 l0.length c0) l0 from Kd.V_mono hs0 (fun k_ hk => .inl hk))
 have HB := Aside0.mk (Below.refl w.heap.size w)
 have H : (if 0 ≤ (mn (l0.length : Int) 70) then (if (mn (l0.length : Int) 70) ≤ (l0.length : Int) then ((some (l0.take ((mn (l0.length : Int) 70) : Int).toNat : List (S33))).bind fun y422 => (deadboltlaw10_few.l0 k ([] : List (S33)) y422 (y422.length : Int) 0)) else (none)) else (none)) = some r := h
 clear h
 obtain ⟨ji2, hji2⟩ : ∃ j_ : Int, (mn (l0.length : Int) 70) = j_ := ⟨_, rfl⟩
 replace H : (if 0 ≤ (ji2) then (if (ji2) ≤ (l0.length : Int) then ((some (l0.take ((ji2) : Int).toNat : List (S33))).bind fun y422 => (deadboltlaw10_few.l0 k ([] : List (S33)) y422 (y422.length : Int) 0)) else (none)) else (none)) = some r := by first | (rw [hji2] at H; exact H) | (simp only [hji2] at H ⊢; exact H)
 (try (have hji2h : ji2 ≤ 70 := by (rw [← hji2]; unfold mn; (repeat' split) <;> omega)))
 (try (have hji2g : ji2 ≤ 64 := by omega))
 (try (have hji2l : 0 ≤ ji2 := by (rw [← hji2]; unfold mn; (repeat' split) <;> omega)))
 (try (have hji2m : 0 ≤ ji2 := by omega))
 have hji2_ : (if 70 < (l0.length : Int) then 70 else (l0.length : Int)) = ji2 := hji2
 by_cases c3 : 0 ≤ (ji2)
 ·rw [if_pos c3] at H
  have c3b0 := eq_true c3
  have c3b1 : decide (0 ≤ (ji2)) = true := decide_eq_true c3
  clear c3
  by_cases c4 : (ji2) ≤ (l0.length : Int)
  ·rw [if_pos c4] at H
   have c4b0 := eq_true c4
   have c4b1 : decide ((ji2) ≤ (l0.length : Int)) = true := decide_eq_true c4
   clear c4
   obtain ⟨y422, hy422⟩ : ∃ y_ : List (S33), y_ = (l0.take ((ji2) : Int).toNat) := ⟨_, rfl⟩
   replace H : (deadboltlaw10_few.l0 k ([] : List (S33)) y422 (y422.length : Int) 0) = some r := by first | (rw [hy422]; with_reducible exact H) | (have H2_ := (Option.bind_some _ _).symm.trans H; rw [hy422]; with_reducible exact H2_) | (have H2_ := (Option.bind_some _ _).symm.trans H; with_reducible exact H2_) | with_reducible exact H | (rw [hy422]; exact H) | exact H
   have Ny422 := Aside0.mk hy422
   clear hy422
   have H' := Aside0.mk H
   clear H
   have q5 : ((ji2) : Int) ≤ ((l0.length : Int) : Int) := of_decide_eq_true (by first | (with_reducible assumption) | assumption)
   obtain ⟨i05, hi05, _, hsz5, _⟩ := info_parts info33
   have hroom5 : l0.length ≤ c0 := (Kd.V_reads' HO0.out).2.1
   have hC5 : Kd.F k33 _ _ A0 l0.length l0 := (Kd.V_at (base := w.heap.size) HO0.out).2.2
   have hcut5 := cut_to (P := Try.prog) 22 33 .i64 Try.underlying22 hi05 A0 l0.length c0 (ji2) (of_decide_eq_true (by first | (with_reducible assumption) | assumption)) q5 hroom5
   have hr5 := Kd.F_take (m := ((ji2) : Int).toNat) hC5 (by omega)
   have hy5 : y422.length = ((ji2) : Int).toNat := (by rw [Ny422.out, List.length_take]; omega)
   rw [← Ny422.out] at hr5
   rw [← hy5] at hcut5
   have HO426 := Aside0.mk (show Kd.V k33 33 _ w.heap.size _ (.slice A0 y422.length c0) y422 from Kd.V_mk (by omega) hr5)
   have HC426 := Aside0.mk (show y422.length ≤ c0 from by omega)
   clear hr5 hC5 hroom5 hi05 hsz5
   have KY5 := Aside0.mk hy5
   clear hy5
   replace q5 := eq_true q5
   go_enter Try.func34, Try.ntmps34
   go_wp2
   go_loopg [3, 12] k (fun kq v3 v12 w' => ∃ (x3_1 : List (S33)) (x12_1 : Int), v12 = .int .i64 x12_1 ∧ Aside0 (deadboltlaw10_few.l0 kq x3_1 y422 (y422.length : Int) x12_1 = some r) ∧ Aside0 (kq ≤ k) ∧ Aside0 (Kd.N k33 33 w' w.heap.size (fun k_ => (P0_ k_ ∨ w.heap.size ≤ k_)) v3 x3_1) ∧ Aside0 (Kd.V k33 33 w' w.heap.size (fun k_ => (P0_ k_ ∨ w.heap.size ≤ k_) ∧ some k_ ≠ (v3 : Value).ownBlock) (.slice A0 y422.length c0) y422) ∧ Aside0 (Below w.heap.size w w'))
   case atStart => exact ⟨(([] : List (S33))), (0), (by first | rfl | (simp; done) | (simp [*]; done)), H', ⟨Nat.le_refl _⟩, ⟨by first | exact Kd.S_nil _ _ _ _ _ | exact Kd.N_nil _ _ _ _ _ | exact Kd.V_nil _ _ _ _ _ | exact Kd.Q_nil _ _ _ _ _ | exact Kd.R_nil _ _ _ _ _⟩, ⟨by (with_reducible repeat (first | apply Kd.V_alloc | apply Kd.V_drewN | apply Kd.V_drew)); exact Kd.V_mono HO426.out (fun _ hk => ⟨hk, (by simp [Value.ownBlock])⟩)⟩, ⟨zB HB⟩⟩
   case round =>
    clear H'
    try clear p2
    try clear c3
    try clear c3b0
    try clear c3b1
    try clear c4
    try clear c4b0
    try clear c4b1
    try clear q5
    try clear q5
    obtain ⟨x3_1, x12_1, rfl, HA, HK1, HO_3, HO_10, HB⟩ := hrel
    cases gk with
    | zero => exact absurd HA.out (by simp [deadboltlaw10_few.l0])
    | succ k1 =>
     have H := HA.out
     clear HA
     simp only [deadboltlaw10_few.l0] at H
     by_cases c6 : x12_1 < (y422.length : Int)
     ·rw [if_pos c6] at H
      have c6b0 : decide (x12_1 < (y422.length : Int)) = true := decide_eq_true c6
      clear c6
      by_cases c7 : 0 ≤ x12_1
      ·rw [if_pos c7] at H
       have c7b0 : decide (0 ≤ x12_1) = true := decide_eq_true c7
       clear c7
       by_cases c8 : x12_1 < (y422.length : Int)
       ·rw [if_pos c8] at H
        have c8b0 : decide (x12_1 < (y422.length : Int)) = true := decide_eq_true c8
        clear c8
        obtain ⟨ji9, hji9⟩ : ∃ j_ : Int, (mn (((rd_T33 y422 x12_1).f2).length : Int) 70) = j_ := ⟨_, rfl⟩
        replace H : (if 0 ≤ (ji9) then (if (ji9) ≤ (((rd_T33 y422 x12_1).f2).length : Int) then (if x3_1.length < 3518437208883 then (deadboltlaw10_few.l0 k1 (x3_1 ++ [(⟨(rd_T33 y422 x12_1).f0, (rd_T33 y422 x12_1).f1, (((rd_T33 y422 x12_1).f2).take ((ji9) : Int).toNat)⟩ : S33)]) y422 (y422.length : Int) (wrap64 (x12_1 + 1))) else (none)) else (none)) else (none)) = some r := by first | (rw [hji9] at H; exact H) | (simp only [hji9] at H ⊢; exact H)
        have hji9_ : (if 70 < (((rd_T33 y422 x12_1).f2).length : Int) then 70 else (((rd_T33 y422 x12_1).f2).length : Int)) = ji9 := hji9
        by_cases c10 : 0 ≤ (ji9)
        ·rw [if_pos c10] at H
         have c10b0 := eq_true c10
         have c10b1 : decide (0 ≤ (ji9)) = true := decide_eq_true c10
         clear c10
         by_cases c11 : (ji9) ≤ (((rd_T33 y422 x12_1).f2).length : Int)
         ·rw [if_pos c11] at H
          have c11b0 := eq_true c11
          have c11b1 : decide ((ji9) ≤ (((rd_T33 y422 x12_1).f2).length : Int)) = true := decide_eq_true c11
          clear c11
          obtain ⟨y429, hy429⟩ : ∃ y_ : List Int, y_ = (((rd_T33 y422 x12_1).f2).take ((ji9) : Int).toNat) := ⟨_, rfl⟩
          replace H : (if x3_1.length < 3518437208883 then (deadboltlaw10_few.l0 k1 (x3_1 ++ [(⟨(rd_T33 y422 x12_1).f0, (rd_T33 y422 x12_1).f1, y429⟩ : S33)]) y422 (y422.length : Int) (wrap64 (x12_1 + 1))) else (none)) = some r := by first | (rw [hy429]; with_reducible exact H) | (have H2_ := (Option.bind_some _ _).symm.trans H; rw [hy429]; with_reducible exact H2_) | (have H2_ := (Option.bind_some _ _).symm.trans H; with_reducible exact H2_) | with_reducible exact H | (rw [hy429]; exact H) | exact H
          have Ny429 := Aside0.mk hy429
          clear hy429
          by_cases c12 : x3_1.length < 3518437208883
          ·rw [if_pos c12] at H
           have LMc12 := Aside0.mk c12
           clear c12
           obtain ⟨y434, hy434⟩ : ∃ y_ : List (S33), y_ = (x3_1 ++ [(⟨(rd_T33 y422 x12_1).f0, (rd_T33 y422 x12_1).f1, y429⟩ : S33)]) := ⟨_, rfl⟩
           replace H : (deadboltlaw10_few.l0 k1 y434 y422 (y422.length : Int) (wrap64 (x12_1 + 1))) = some r := by first | (rw [hy434]; with_reducible exact H) | (have H2_ := (Option.bind_some _ _).symm.trans H; rw [hy434]; with_reducible exact H2_) | (have H2_ := (Option.bind_some _ _).symm.trans H; with_reducible exact H2_) | with_reducible exact H | (rw [hy434]; exact H) | exact H
           have Ny434 := Aside0.mk hy434
           clear hy434
           have H' := Aside0.mk H
           clear H
           have p427 : 0 ≤ (x12_1 : Int) := of_decide_eq_true (by first | (with_reducible assumption) | assumption)
           have q427 : x12_1 < (y422.length : Int) := of_decide_eq_true (by first | (with_reducible assumption) | assumption)
           obtain ⟨ad427, A427_2, c427_2, e427, hx427_0, hx427_1, hx427_2, hl427_2, hi427_2⟩ := at_T33 (Kd.V_reads' HO_10.out).2.2 x12_1 p427 q427
           cases e427
           obtain ⟨ce427, hce427, hMe427, hcc427⟩ := Kd.V_get HO_10.out z33 x12_1 p427 (by first | exact q427 | exact of_decide_eq_true (by first | (with_reducible assumption) | assumption) | (have e_ := (Kd.V_reads' HO_10.out).1; omega))
           obtain ⟨ua427_2, uc427_2, rfl, ul427_2, ge427_2⟩ := k33_openF hMe427
           have hv427_2 := hcc427 2 _ rfl
           rw [add_field _ _ 2 (by omega)] at hv427_2
           replace hv427_2 := Option.some.inj (hv427_2.symm.trans hx427_2)
           injection hv427_2 with hva_ hvn_ hvc_
           rw [hva_] at ge427_2
           rw [hvc_] at ul427_2
           have HL427_2 := Aside0.mk (show Kd.V (Kd.int .i64) 3 _ w.heap.size _ _ ((rd_T33 y422 x12_1).f2) from Kd.V_mk ul427_2 ge427_2)
           clear hva_ hvn_ hvc_ ge427_2 ul427_2
           clear hcc427 hce427
           have HR427_2 := Aside0.mk hi427_2
           have HC427_2 := Aside0.mk hl427_2
           clear hi427_2 hl427_2
           replace p427 := eq_true p427
           replace q427 := eq_true q427
           go_wp2_with (first | ((with_reducible refine gate_dst (N := 5) rfl ?_); refine box_event ?hg (N := 5) ?hd (cs := #[.int .i64 0, .int .i64 0, .slice none 0 0]) (t := 33) ?hr ?_; (case hd => rfl); (case hg => rfl); (case hr => first | (go_simp; done) | (go_simp; rfl)); intro gb428 hg w13 hbox hb; have n0_ := Aside0.mk (Kd.N_below (Kd.N_elderB (zN HO_3) gb428 (Nat.le_of_eq hg.symm)) hb); have n1_ := Aside0.mk (Kd.V_below (Kd.V_elderB (zV HO_10) gb428 (Nat.le_of_eq hg.symm)) hb); have n2_ := Aside0.mk (Kd.V_below (Kd.V_elderB (zV HL427_2) gb428 (Nat.le_of_eq hg.symm)) hb); (first | have n3_ := Aside0.mk (Kd.C_below (by repeat (first | (with_reducible exact HR427_2.out) | (with_reducible refine Kd.C_alloc ?_ _) | (with_reducible refine Kd.C_drewN ?_ _) | (with_reducible refine Kd.C_drew ?_) | exact HR427_2.out)) hb) | have n3_ := Aside0.mk True.intro); have n4_ := Aside0.mk (below_step (zB HB) hb); have n5_ := Aside0.mk (hbox); have n6_ := Aside0.mk ((by rw [hg]; exact (below_size (zB HB)) : w.heap.size ≤ gb428)); have n7_ := Aside0.mk ((by rw [hg]; exact (below_size (zB HB)) : w.heap.size ≤ gb428)); clear HO_3; clear HO_10; clear HL427_2; clear HR427_2; clear HB; have HO_3 := n0_; have HO_10 := n1_; have HL427_2 := n2_; have HR427_2 := n3_; have HB := n4_; have BK428 := n5_; have GW428 := n6_; have GE428 := n7_; clear n0_ n1_ n2_ n3_ n4_ n5_ n6_ n7_; clear hb hbox hg; have hcz14_0 : w13.cell? ⟨gb428, 0, none⟩ = some (.int .i64 0) := (blk_cell BK428.out 0).trans rfl; have hcz14_1 : w13.cell? ⟨gb428, 1, none⟩ = some (.int .i64 0) := (blk_cell BK428.out 1).trans rfl; have hcz14_2 : w13.cell? ⟨gb428, 2, none⟩ = some (.slice none 0 0) := (blk_cell BK428.out 2).trans rfl; have hfz14_0 := blk_frozen BK428.out 0; have hfz14_1 := blk_frozen BK428.out 1; have hfz14_2 := blk_frozen BK428.out 2) | ((with_reducible refine gate_store (t := 33) (p := 5) rfl ?_); refine store_event (t := 33) (p := 5) (v := ?vo_w15) (w1 := (((w13.setCell ⟨gb428, 0, none⟩ (.int .i64 ((rd_T33 y422 x12_1).f0))).setCell ⟨gb428, 1, none⟩ (.int .i64 ((rd_T33 y422 x12_1).f1))).setCell ⟨gb428, 2, none⟩ (.slice A427_2 ((rd_T33 y422 x12_1).f2).length c427_2))) ?hg ?ho ?hn ?hr ?_; (case ho => rfl); (case hg => rfl); (case hn => rfl); (case hr => first | (go_simp; done) | (go_simp; rfl)); intro w15 hw; have n0_ : Aside0 (Kd.N k33 33 w15 w.heap.size (fun k_ => (P0_ k_ ∨ w.heap.size ≤ k_) ∧ k_ ≠ gb428) u3 x3_1) := ⟨(by rw [hw]; exact (by (with_reducible repeat (first | apply Kd.N_alloc | apply Kd.N_drewN | apply Kd.N_drew)); exact Kd.N_mono (Kd.N_far (p := ⟨gb428, 2, none⟩) (Kd.N_far (p := ⟨gb428, 1, none⟩) (Kd.N_far (p := ⟨gb428, 0, none⟩) (Kd.N_mono HO_3.out (fun k_ hk => (⟨hk, hk.2⟩ : _ ∧ k_ ≠ gb428))) (fun _ hk => hk.2) (.int .i64 ((rd_T33 y422 x12_1).f0))) (fun _ hk => hk.2) (.int .i64 ((rd_T33 y422 x12_1).f1))) (fun _ hk => hk.2) (.slice A427_2 ((rd_T33 y422 x12_1).f2).length c427_2)) (fun _ hk => ⟨hk.1.1, hk.1.2⟩)))⟩; have n1_ : Aside0 (Kd.V k33 33 w15 w.heap.size (fun k_ => (P0_ k_ ∨ w.heap.size ≤ k_) ∧ some k_ ≠ (u3 : Value).ownBlock ∧ k_ ≠ gb428) (.slice (some ad427) y422.length c0) y422) := ⟨(by rw [hw]; exact (by (with_reducible repeat (first | apply Kd.V_alloc | apply Kd.V_drewN | apply Kd.V_drew)); exact Kd.V_mono (Kd.V_far (p := ⟨gb428, 2, none⟩) (Kd.V_far (p := ⟨gb428, 1, none⟩) (Kd.V_far (p := ⟨gb428, 0, none⟩) (Kd.V_mono HO_10.out (fun k_ hk => (⟨hk, hk.2⟩ : _ ∧ k_ ≠ gb428))) (fun _ hk => hk.2) (.int .i64 ((rd_T33 y422 x12_1).f0))) (fun _ hk => hk.2) (.int .i64 ((rd_T33 y422 x12_1).f1))) (fun _ hk => hk.2) (.slice A427_2 ((rd_T33 y422 x12_1).f2).length c427_2)) (fun _ hk => ⟨hk.1.1.1, ⟨hk.1.1.2, hk.1.2⟩⟩)))⟩; have n2_ : Aside0 (Kd.V (Kd.int .i64) 3 w15 w.heap.size (fun k_ => (P0_ k_ ∨ w.heap.size ≤ k_) ∧ some k_ ≠ (u3 : Value).ownBlock ∧ k_ ≠ gb428) (.slice A427_2 ((rd_T33 y422 x12_1).f2).length c427_2) ((rd_T33 y422 x12_1).f2)) := ⟨(by rw [hw]; exact (by (with_reducible repeat (first | apply Kd.V_alloc | apply Kd.V_drewN | apply Kd.V_drew)); exact Kd.V_mono (Kd.V_far (p := ⟨gb428, 2, none⟩) (Kd.V_far (p := ⟨gb428, 1, none⟩) (Kd.V_far (p := ⟨gb428, 0, none⟩) (Kd.V_mono HL427_2.out (fun k_ hk => (⟨hk, hk.2⟩ : _ ∧ k_ ≠ gb428))) (fun _ hk => hk.2) (.int .i64 ((rd_T33 y422 x12_1).f0))) (fun _ hk => hk.2) (.int .i64 ((rd_T33 y422 x12_1).f1))) (fun _ hk => hk.2) (.slice A427_2 ((rd_T33 y422 x12_1).f2).length c427_2)) (fun _ hk => ⟨hk.1.1.1, ⟨hk.1.1.2, hk.1.2⟩⟩)))⟩; have n3_ : Aside0 (w15.heap[gb428]? = some (.cells #[.int .i64 ((rd_T33 y422 x12_1).f0), .int .i64 ((rd_T33 y422 x12_1).f1), .slice A427_2 ((rd_T33 y422 x12_1).f2).length c427_2] 33 (0, 0))) := ⟨(by rw [hw]; exact (by (with_reducible repeat (first | refine blk_drewN ?_ _ | refine blk_drew ?_ | refine blk_alloc ?_ _)); refine blk_put (cs := #[.int .i64 ((rd_T33 y422 x12_1).f0), .int .i64 ((rd_T33 y422 x12_1).f1), .slice none 0 0]) ?_ 2 _ rfl; (with_reducible repeat (first | refine blk_drewN ?_ _ | refine blk_drew ?_ | refine blk_alloc ?_ _)); refine blk_put (cs := #[.int .i64 ((rd_T33 y422 x12_1).f0), .int .i64 0, .slice none 0 0]) ?_ 1 _ rfl; (with_reducible repeat (first | refine blk_drewN ?_ _ | refine blk_drew ?_ | refine blk_alloc ?_ _)); refine blk_put (cs := #[.int .i64 0, .int .i64 0, .slice none 0 0]) ?_ 0 _ rfl; (with_reducible repeat (first | refine blk_drewN ?_ _ | refine blk_drew ?_ | refine blk_alloc ?_ _)); exact BK428.out))⟩; have n4_ : Aside0 (Below w.heap.size w w15) := ⟨(by rw [hw]; exact (zB1 HB GE428))⟩; clear hw; clear HO_3; clear HO_10; clear HL427_2; clear BK428; clear HB; have HO_3 := n0_; have HO_10 := n1_; have HL427_2 := n2_; have BK428 := n3_; have HB := n4_; clear n0_ n1_ n2_ n3_ n4_; have hcz16_0 : w15.cell? ⟨gb428, 0, none⟩ = some (.int .i64 ((rd_T33 y422 x12_1).f0)) := (blk_cell BK428.out 0).trans rfl; have hcz16_1 : w15.cell? ⟨gb428, 1, none⟩ = some (.int .i64 ((rd_T33 y422 x12_1).f1)) := (blk_cell BK428.out 1).trans rfl; have hcz16_2 : w15.cell? ⟨gb428, 2, none⟩ = some (.slice A427_2 ((rd_T33 y422 x12_1).f2).length c427_2) := (blk_cell BK428.out 2).trans rfl; have hfz16_0 := blk_frozen BK428.out 0; have hfz16_1 := blk_frozen BK428.out 1; have hfz16_2 := blk_frozen BK428.out 2; have q17 : ((ji9) : Int) ≤ ((((rd_T33 y422 x12_1).f2).length : Int) : Int) := of_decide_eq_true (by first | (with_reducible assumption) | assumption); obtain ⟨i017, hi017, _, hsz17, _⟩ := info_parts info3; have hroom17 : ((rd_T33 y422 x12_1).f2).length ≤ c427_2 := HC427_2.out; have hC17 : Kd.F (Kd.int .i64) _ _ A427_2 ((rd_T33 y422 x12_1).f2).length ((rd_T33 y422 x12_1).f2) := (Kd.V_at (base := w.heap.size) HL427_2.out).2.2; have hcut17 := cut_to (P := Try.prog) 25 3 .i64 Try.underlying25 hi017 A427_2 ((rd_T33 y422 x12_1).f2).length c427_2 (ji9) (of_decide_eq_true (by first | (with_reducible assumption) | assumption)) q17 hroom17; have hr17 := Kd.F_take (m := ((ji9) : Int).toNat) hC17 (by omega); have hy17 : y429.length = ((ji9) : Int).toNat := (by rw [Ny429.out, List.length_take]; omega); rw [← Ny429.out] at hr17; rw [← hy17] at hcut17; have HO433 := Aside0.mk (show Kd.V (Kd.int .i64) 3 _ w.heap.size _ (.slice A427_2 y429.length c427_2) y429 from Kd.V_mk (by omega) hr17); have HC433 := Aside0.mk (show y429.length ≤ c427_2 from by omega); clear hr17 hC17 hroom17 hi017 hsz17; have KY17 := Aside0.mk hy17; clear hy17; replace q17 := eq_true q17) | ((with_reducible refine gate_store (t := 25) (p := 23) rfl ?_); refine store_event (t := 25) (p := 23) (v := ?vo_w18) (w1 := (w15.setCell ⟨gb428, 2, none⟩ (.slice A427_2 y429.length c427_2))) ?hg ?ho ?hn ?hr ?_; (case ho => rfl); (case hg => rfl); (case hn => rfl); (case hr => first | (go_simp; done) | (go_simp; rfl)); intro w18 hw; have n0_ : Aside0 (Kd.N k33 33 w18 w.heap.size (fun k_ => (P0_ k_ ∨ w.heap.size ≤ k_) ∧ k_ ≠ gb428) u3 x3_1) := ⟨(by rw [hw]; exact (by (with_reducible repeat (first | apply Kd.N_alloc | apply Kd.N_drewN | apply Kd.N_drew)); exact Kd.N_mono (Kd.N_far (p := ⟨gb428, 2, none⟩) (Kd.N_mono HO_3.out (fun k_ hk => (⟨hk, hk.2⟩ : _ ∧ k_ ≠ gb428))) (fun _ hk => hk.2) (.slice A427_2 y429.length c427_2)) (fun _ hk => ⟨hk.1.1, hk.1.2⟩)))⟩; have n1_ : Aside0 (Kd.V k33 33 w18 w.heap.size (fun k_ => (P0_ k_ ∨ w.heap.size ≤ k_) ∧ some k_ ≠ (u3 : Value).ownBlock ∧ k_ ≠ gb428) (.slice (some ad427) y422.length c0) y422) := ⟨(by rw [hw]; exact (by (with_reducible repeat (first | apply Kd.V_alloc | apply Kd.V_drewN | apply Kd.V_drew)); exact Kd.V_mono (Kd.V_far (p := ⟨gb428, 2, none⟩) (Kd.V_mono HO_10.out (fun k_ hk => (⟨hk, hk.2.2⟩ : _ ∧ k_ ≠ gb428))) (fun _ hk => hk.2) (.slice A427_2 y429.length c427_2)) (fun _ hk => ⟨hk.1.1, ⟨hk.1.2.1, hk.1.2.2⟩⟩)))⟩; have n2_ : Aside0 (Kd.V (Kd.int .i64) 3 w18 w.heap.size (fun k_ => (P0_ k_ ∨ w.heap.size ≤ k_) ∧ some k_ ≠ (u3 : Value).ownBlock ∧ k_ ≠ gb428) (.slice A427_2 ((rd_T33 y422 x12_1).f2).length c427_2) ((rd_T33 y422 x12_1).f2)) := ⟨(by rw [hw]; exact (by (with_reducible repeat (first | apply Kd.V_alloc | apply Kd.V_drewN | apply Kd.V_drew)); exact Kd.V_mono (Kd.V_far (p := ⟨gb428, 2, none⟩) (Kd.V_mono HL427_2.out (fun k_ hk => (⟨hk, hk.2.2⟩ : _ ∧ k_ ≠ gb428))) (fun _ hk => hk.2) (.slice A427_2 y429.length c427_2)) (fun _ hk => ⟨hk.1.1, ⟨hk.1.2.1, hk.1.2.2⟩⟩)))⟩; have n3_ : Aside0 (Kd.V (Kd.int .i64) 3 w18 w.heap.size (fun k_ => (P0_ k_ ∨ w.heap.size ≤ k_) ∧ some k_ ≠ (u3 : Value).ownBlock ∧ k_ ≠ gb428) (.slice A427_2 y429.length c427_2) y429) := ⟨(by rw [hw]; exact (by (with_reducible repeat (first | apply Kd.V_alloc | apply Kd.V_drewN | apply Kd.V_drew)); exact Kd.V_mono (Kd.V_far (p := ⟨gb428, 2, none⟩) (Kd.V_mono HO433.out (fun k_ hk => (⟨hk, hk.2.2⟩ : _ ∧ k_ ≠ gb428))) (fun _ hk => hk.2) (.slice A427_2 y429.length c427_2)) (fun _ hk => ⟨hk.1.1, ⟨hk.1.2.1, hk.1.2.2⟩⟩)))⟩; have n4_ : Aside0 (w18.heap[gb428]? = some (.cells #[.int .i64 ((rd_T33 y422 x12_1).f0), .int .i64 ((rd_T33 y422 x12_1).f1), .slice A427_2 y429.length c427_2] 33 (0, 0))) := ⟨(by rw [hw]; exact (by (with_reducible repeat (first | refine blk_drewN ?_ _ | refine blk_drew ?_ | refine blk_alloc ?_ _)); refine blk_put (cs := #[.int .i64 ((rd_T33 y422 x12_1).f0), .int .i64 ((rd_T33 y422 x12_1).f1), .slice A427_2 ((rd_T33 y422 x12_1).f2).length c427_2]) ?_ 2 _ rfl; (with_reducible repeat (first | refine blk_drewN ?_ _ | refine blk_drew ?_ | refine blk_alloc ?_ _)); exact BK428.out))⟩; have n5_ : Aside0 (Below w.heap.size w w18) := ⟨(by rw [hw]; exact (zB1 HB GE428))⟩; clear hw; clear HO_3; clear HO_10; clear HL427_2; clear HO433; clear BK428; clear HB; have HO_3 := n0_; have HO_10 := n1_; have HL427_2 := n2_; have HO433 := n3_; have BK428 := n4_; have HB := n5_; clear n0_ n1_ n2_ n3_ n4_ n5_; have hcz19_0 : w18.cell? ⟨gb428, 0, none⟩ = some (.int .i64 ((rd_T33 y422 x12_1).f0)) := (blk_cell BK428.out 0).trans rfl; have hcz19_1 : w18.cell? ⟨gb428, 1, none⟩ = some (.int .i64 ((rd_T33 y422 x12_1).f1)) := (blk_cell BK428.out 1).trans rfl; have hcz19_2 : w18.cell? ⟨gb428, 2, none⟩ = some (.slice A427_2 y429.length c427_2) := (blk_cell BK428.out 2).trans rfl; have hfz19_0 := blk_frozen BK428.out 0; have hfz19_1 := blk_frozen BK428.out 1; have hfz19_2 := blk_frozen BK428.out 2) | ((with_reducible refine gate_builtin (b := .append) (xs := #[.tmp 24, .tmp 26]) rfl ?_); at_builtin; refine Kd.N_append k33 (w0 := w) w.heap.size rfl (.tmp 24) (.tmp 26) 22 33 (.agg #[(.int .i64 0), (.int .i64 0), (.slice none 0 0)]) 40 rfl Try.underlying22 info33 rfl (by decide) (by omega) u3 x3_1 (⟨(rd_T33 y422 x12_1).f0, (rd_T33 y422 x12_1).f1, y429⟩ : S33) [.int .i64 ((rd_T33 y422 x12_1).f0), .int .i64 ((rd_T33 y422 x12_1).f1), .slice A427_2 y429.length c427_2] (fun k_ => (P0_ k_ ∨ w.heap.size ≤ k_) ∧ k_ ≠ gb428) (fun k_ => ((fun k_ => (P0_ k_ ∨ w.heap.size ≤ k_) ∧ k_ ≠ gb428)) k_ ∧ some k_ ≠ (u3 : Value).ownBlock) rfl rfl ?aP (fun _ hk => hk) ?aF ?aO ?aB ?aS ?aL ?_; (case aP => first | exact (k33_mkF _ _ (⟨(rd_T33 y422 x12_1).f0, (rd_T33 y422 x12_1).f1, y429⟩ : S33) (Kd.V_reads' (Kd.V_mono (ok' := (fun k_ => ((fun k_ => (P0_ k_ ∨ w.heap.size ≤ k_) ∧ k_ ≠ gb428)) k_ ∧ some k_ ≠ (u3 : Value).ownBlock)) (HO433.out) (fun k_ hk => ⟨⟨hk.1, hk.2.2⟩, hk.2.1⟩))).2.1 (Kd.V_F (Kd.V_mono (ok' := (fun k_ => ((fun k_ => (P0_ k_ ∨ w.heap.size ≤ k_) ∧ k_ ≠ gb428)) k_ ∧ some k_ ≠ (u3 : Value).ownBlock)) (HO433.out) (fun k_ hk => ⟨⟨hk.1, hk.2.2⟩, hk.2.1⟩)))) | exact (k33_mkF _ _ (⟨(rd_T33 y422 x12_1).f0, (rd_T33 y422 x12_1).f1, y429⟩ : S33) (Kd.V_reads' (Kd.V_mono (ok' := (fun k_ => ((fun k_ => (P0_ k_ ∨ w.heap.size ≤ k_) ∧ k_ ≠ gb428)) k_ ∧ some k_ ≠ (u3 : Value).ownBlock)) (HO433.out) (fun k_ hk => ⟨⟨hk.1, hk.2.2⟩, hk.2.1⟩))).2.1 (Kd.V_F (Kd.V_mono (ok' := (fun k_ => ((fun k_ => (P0_ k_ ∨ w.heap.size ≤ k_) ∧ k_ ≠ gb428)) k_ ∧ some k_ ≠ (u3 : Value).ownBlock)) (Kd.V_drewN HO433.out _) (fun k_ hk => ⟨⟨hk.1, hk.2.2⟩, hk.2.1⟩))))); (case aB => exact (zB1 HB GE428)); (case aF => exact (fun k_ hk => ⟨(.inr (Nat.le_trans (below_size (zB1 HB GE428)) hk)), Kd.freshB (g := gb428) (o := .cells #[.int .i64 ((rd_T33 y422 x12_1).f0), .int .i64 ((rd_T33 y422 x12_1).f1), .slice A427_2 y429.length c427_2] 33 (0, 0)) (zK BK428) k_ hk⟩)); (case aO => exact (zN HO_3)); (case aS => exact (below_size (zB1 HB GE428))); (case aL => have := LMc12.out; omega); intro v435 w20 ho hb hg hat; rw [← Ny434.out] at ho; have n0_ := Aside0.mk (Kd.V_afterv (ok := (fun k_ => (P0_ k_ ∨ w.heap.size ≤ k_) ∧ k_ ≠ gb428)) (by (with_reducible repeat (first | apply Kd.V_alloc | apply Kd.V_drewN | apply Kd.V_drew)); exact Kd.V_mono HO_10.out (fun _ hk => ⟨⟨hk.1, hk.2.2⟩, hk.2.1⟩)) hg hat); have n1_ := Aside0.mk (Kd.V_afterv (ok := (fun k_ => (P0_ k_ ∨ w.heap.size ≤ k_) ∧ k_ ≠ gb428)) (by (with_reducible repeat (first | apply Kd.V_alloc | apply Kd.V_drewN | apply Kd.V_drew)); exact Kd.V_mono HL427_2.out (fun _ hk => ⟨⟨hk.1, hk.2.2⟩, hk.2.1⟩)) hg hat); have n2_ := Aside0.mk (blk_grown (g := gb428) (o := .cells #[.int .i64 ((rd_T33 y422 x12_1).f0), .int .i64 ((rd_T33 y422 x12_1).f1), .slice A427_2 y429.length c427_2] 33 (0, 0)) (zK BK428) hg (Kd.N_away HO_3.out (fun _ hk => hk.2))); have n3_ := Aside0.mk (Kd.V_afterv (ok := (fun k_ => (P0_ k_ ∨ w.heap.size ≤ k_) ∧ k_ ≠ gb428)) (by (with_reducible repeat (first | apply Kd.V_alloc | apply Kd.V_drewN | apply Kd.V_drew)); exact Kd.V_mono HO433.out (fun _ hk => ⟨⟨hk.1, hk.2.2⟩, hk.2.1⟩)) hg hat); have n4_ := Aside0.mk (hb); have n5_ := Aside0.mk (ho); clear HO_10; clear HL427_2; clear BK428; clear HO433; clear HB; clear HO_3; have HO_10 := n0_; have HL427_2 := n1_; have BK428 := n2_; have HO433 := n3_; have HB := n4_; have HO436 := n5_; clear n0_ n1_ n2_ n3_ n4_ n5_; clear ho hb hg hat))
           go_roundg k1
           case measure => have := HK1.out; omega
           case rel => exact ⟨(y434), (wrap64 (x12_1 + 1)), (by first | rfl | (simp; done) | (simp [*]; done)), H', ⟨by have := HK1.out; omega⟩, ⟨by (with_reducible repeat (first | apply Kd.N_alloc | apply Kd.N_drewN | apply Kd.N_drew)); exact Kd.N_mono HO436.out (fun _ hk => hk.1)⟩, ⟨by (with_reducible repeat (first | apply Kd.V_alloc | apply Kd.V_drewN | apply Kd.V_drew)); exact Kd.V_mono HO_10.out (fun _ hk => ⟨hk.1.1, hk.2⟩)⟩, ⟨zB1 HB GE428⟩⟩
          ·rw [if_neg c12] at H
           exact absurd H (by simp)
         ·rw [if_neg c11] at H
          exact absurd H (by simp)
        ·rw [if_neg c10] at H
         exact absurd H (by simp)
       ·rw [if_neg c8] at H
        exact absurd H (by simp)
      ·rw [if_neg c7] at H
       exact absurd H (by simp)
     ·rw [if_neg c6] at H
      have c6b0 : decide (x12_1 < (y422.length : Int)) = false := decide_eq_false c6
      clear c6
      obtain rfl := Option.some.inj H
      go_wp2
      go_ret
      exact ⟨_, by first | rfl | (simp [errW_none, errW_some] <;> rfl) | (simp only [← hji2]; first | rfl | (simp [errW_none, errW_some] <;> rfl)) | (simp [*, errW_none, errW_some] <;> rfl), by (with_reducible repeat (first | apply Kd.N_alloc | apply Kd.N_drewN | apply Kd.N_drew)); exact HO_3.out, zB HB⟩
  ·rw [if_neg c4] at H
   exact absurd H (by simp)
 ·rw [if_neg c3] at H
  exact absurd H (by simp)

end Go.Proofs.Ytnjnjajgpkmfhaa.PX

/-
 Grants and who waits for them, told as plain functions of tables.
-/
namespace Go.Proofs.Ytnjnjajgpkmfhaa.PX
open Go.RowKit Go.Proofs.YtnjnjajgpkmfhaaW.PrintWords Go.Proofs.YtnjnjajgpkmfhaaW.PrintLast Go.Proofs.YtnjnjajgpkmfhaaW.PrintMore
theorem index_l0 (l : List Int) (a : Int) (hl : l.length ≤ 1000) : ∀ (d i k : Nat), i + d = l.length → d < k → (∀ j, j < i → l[j]? ≠ some a) → slices_Index_int_int.l0 k l a (l.length : Int) (i : Int) = some (placeI l a) := by
 intro d
 induction d with
 | zero =>
  intro i k h1 hk h
  obtain ⟨k, rfl⟩ : ∃ q, k = q + 1 := ⟨k - 1, by omega⟩
  rw [slices_Index_int_int.l0, if_neg (by omega), placeI, if_neg]
  intro hm
  obtain ⟨j, hj, rfl⟩ := List.mem_iff_getElem.1 hm
  exact h j (by omega) (List.getElem?_eq_getElem hj)
 | succ d ih =>
  intro i k h1 hk h
  obtain ⟨k, rfl⟩ : ∃ q, k = q + 1 := ⟨k - 1, by omega⟩
  have hx : l[i]? = some l[i] := List.getElem?_eq_getElem (by omega)
  rw [slices_Index_int_int.l0, if_pos (by omega), if_pos (by omega), if_pos (by omega), rd_at hx]
  by_cases he : a = l[i]
  ·have hmem : a ∈ l := by rw [he]; exact List.getElem_mem _
   have hp := place_l0 l a hl (l.length - i) i (l.length + 1) (by omega) (by omega) h
   rw [deadboltref07_Place.l0, if_pos (by omega), if_pos (by omega), if_pos (by omega), rd_at hx, if_pos he.symm] at hp
   rw [if_pos he]
   exact hp
  ·rw [if_neg he, next_i (by omega)]
   refine ih (i + 1) k (by omega) (by omega) fun j hj => ?_
   rcases Nat.lt_or_eq_of_le (Nat.le_of_lt_succ hj) with h' | h'
   ·exact h j h'
   ·rw [h', hx]
    exact fun e => he (Option.some.inj e).symm
theorem contains_f {l : List Int} (a : Int) (hl : l.length ≤ 1000) {k : Nat} (hk : l.length < k) : slices_Contains_int_int.f k l a = some (decide (a ∈ l)) := by
 unfold slices_Contains_int_int.f slices_Index_int_int.f
 rw [show (0 : Int) = ((0 : Nat) : Int) from rfl, index_l0 l a hl l.length 0 k (by omega) hk (fun j hj => absurd hj (by omega))]
 simp only [Option.bind_some]
 refine congrArg some (Bool.eq_iff_iff.2 ?_)
 rw [decide_eq_true_eq, decide_eq_true_eq]
 exact placeI_mem l a
theorem joined_f (p q : List Int) (h : p.length + q.length ≤ 1000) {k : Nat} (hk : 5 ≤ k) : line_joined.f k [p, q] = some (p ++ q) := by
 obtain ⟨k, rfl⟩ : ∃ q, k = q + 1 + 1 + 1 := ⟨k - 3, by omega⟩
 unfold line_joined.f
 rw [line_joined.l0, if_pos (by simp), if_pos (by omega), if_pos (by simp), show rd_L1 [p, q] 0 = p from rfl, if_pos (by simp; omega), show wrap64 ((0 : Int) + 1) = 1 from by unfold wrap64; omega,
  line_joined.l0, if_pos (by simp), if_pos (by omega), if_pos (by simp), show rd_L1 [p, q] 1 = q from rfl, if_pos (by simp; omega), show wrap64 ((1 : Int) + 1) = 2 from by unfold wrap64; omega,
  line_joined.l0, if_neg (by simp)]
 rfl
/-- One more in a line. -/
def pushL (l : List Int) (x : Int) (first : Bool) : List Int := if first = true then x :: l else l ++ [x]
theorem pushL_len (l : List Int) (x : Int) (b : Bool) : (pushL l x b).length = l.length + 1 := by
 unfold pushL; split <;> simp
theorem pushL_line {l : List Int} {x : Int} {b : Bool} (h : lineB l = true) (hx : 0 ≤ x) (hm : x ∉ l) (hn : l.length ≠ 64) : lineB (pushL l x b) = true := by
 obtain ⟨h1, h2, h3⟩ := (lineB_iff l).1 h
 refine (lineB_iff _).2 ⟨?_, fun y hy => ?_, by rw [pushL_len]; omega⟩
 ·unfold pushL
  split
  ·exact List.nodup_cons.2 ⟨hm, h1⟩
  ·refine List.nodup_append.2 ⟨h1, by simp, fun a ha c hc => ?_⟩
   simp at hc
   subst hc
   exact fun e => hm (e ▸ ha)
 ·unfold pushL at hy
  split at hy
  ·rcases List.mem_cons.1 hy with rfl | h
   ·exact hx
   ·exact h2 y h
  ·rcases List.mem_append.1 hy with h | h
   ·exact h2 y h
   ·simp at h; omega
theorem push_f {l : List Int} {x : Int} (b : Bool) (h : lineB l = true) (hx : 0 ≤ x) (hm : x ∉ l) {k : Nat} (hk : 200 ≤ k) : line_Push.f k l x b = some (if l.length = 64 then ([], 5) else (pushL l x b, 0)) := by
 have h3 := ((lineB_iff l).1 h).2.2
 obtain ⟨k, rfl⟩ : ∃ q, k = q + 1 := ⟨k - 1, by omega⟩
 unfold line_Push.f line_Right.f
 rw [if_pos (by omega)]
 simp only [Option.bind_some]
 rw [if_pos h, line_Push.j0, if_neg (by simp; omega), contains_f x (by omega) (by omega), decide_eq_false hm]
 simp only [Option.bind_some]
 rw [if_neg Bool.false_ne_true]
 by_cases hn : l.length = 64
 ·rw [if_pos (by omega), if_pos hn]
 ·rw [if_neg (by omega), if_neg hn]
  unfold pushL
  cases b with
  | true =>
   rw [if_pos rfl, joined_f [x] l (by simp; omega) (by omega), if_pos rfl]
   rfl
  | false =>
   rw [if_neg Bool.false_ne_true, joined_f l [x] (by simp; omega) (by omega), if_neg Bool.false_ne_true]
   rfl
/-- What setting a spot tells, with a word beside it. -/
noncomputable def setR (L : List Sp) (s : Sp) (b : Bool) : List Sp × Bool × Int := if (setT L s).length > 64 then ([], false, 5) else (setT L s, b, 0)
noncomputable def acqT (L : List Sp) (a who : Int) (first : Bool) : List Sp × Bool × Int :=
 if who ∈ (getT L a).f2 then ([], false, 7) else if (getT L a).f1 > 0 then setR L ⟨a, (getT L a).f1 - 1, (getT L a).f2⟩ true
  else if (getT L a).f2.length = 64 then ([], false, 5) else setR L ⟨a, 0, pushL (getT L a).f2 who first⟩ false
theorem less_spot {s : Sp} (h : SpotP s) (h1 : s.f1 > 0) : SpotP ⟨s.f0, s.f1 - 1, s.f2⟩ := by
 obtain ⟨p1, p2, p3, p4⟩ := h
 exact ⟨p1, ⟨by show 0 ≤ s.f1 - 1; omega, by show s.f1 - 1 ≤ _; omega⟩, p3, .inr (p4.resolve_left (by omega))⟩
theorem push_spot {s : Sp} {x : Int} {b : Bool} (h : SpotP s) (hx : 0 ≤ x) (hm : x ∉ s.f2) (hn : s.f2.length ≠ 64) : SpotP ⟨s.f0, 0, pushL s.f2 x b⟩ :=
 ⟨h.1, by simp, pushL_line h.2.2.1 hx hm hn, .inl rfl⟩
theorem acq_f {L : List Sp} (h : Tab L) {a : Int} (ha : 0 ≤ a ∧ a ≤ 4294967295) {who : Int} (hw : 0 ≤ who) (first : Bool) {k : Nat} (hk : 300 ≤ k) : sema_Acquire.f k L a who first = some (acqT L a who first) := by
 obtain ⟨hS, h0⟩ := get_spot h ha
 have h3 := ((lineB_iff _).1 hS.2.2.1).2.2
 obtain ⟨k, rfl⟩ : ∃ q, k = q + 1 := ⟨k - 1, by omega⟩
 unfold sema_Acquire.f acqT
 rw [get_f h ha]
 simp only [Option.bind_some]
 rw [if_pos trivial, sema_Acquire.j0, if_neg (by simp; omega), contains_f who (by omega) (by omega)]
 simp only [Option.bind_some]
 by_cases hm : who ∈ (getT L a).f2
 ·rw [if_pos (decide_eq_true hm), if_pos hm]
 ·rw [if_neg (by simpa using hm), if_neg hm]
  have hf1 := hS.2.1
  by_cases h1 : (getT L a).f1 > 0
  ·have hsp := less_spot hS h1
   rw [h0] at hsp
   rw [if_pos h1, if_pos h1, wrap_id (by omega) (by omega), h0, set_f h hsp, setR]
   simp only [Option.bind_some]
   split
   ·rfl
   ·rw [if_pos rfl, decide_eq_true h1]
  ·rw [if_neg h1, if_neg h1, push_f first hS.2.2.1 hw hm (by omega)]
   simp only [Option.bind_some]
   by_cases hn : (getT L a).f2.length = 64
   ·rw [if_pos hn, if_pos hn, if_neg (by simp)]
   ·have hsp := push_spot (b := first) hS hw hm hn
    rw [h0] at hsp
    rw [if_neg hn, if_neg hn]
    simp only
    rw [if_pos trivial, h0, show (getT L a).f1 = 0 by omega, set_f h hsp, setR]
    simp only [Option.bind_some]
    split
    ·rfl
    ·rw [if_pos rfl, decide_eq_false (by omega)]
theorem acq_bad {L : List Sp} {a who : Int} {first : Bool} (hl : L.length ≤ 80) (h2 : ∀ s ∈ L, s.f2.length ≤ 1000) (h : ¬ Tab L ∨ isAddrB a = false ∨ who < 0) {k : Nat} (hk : 300 ≤ k) : sema_Acquire.f k L a who first = some ([], false, 1) := by
 obtain ⟨k, rfl⟩ : ∃ q, k = q + 1 := ⟨k - 1, by omega⟩
 unfold sema_Acquire.f
 by_cases hT : Tab L
 ·by_cases ha : isAddrB a = true
  ·rw [get_f hT ((addr_iff a).1 ha)]
   simp only [Option.bind_some]
   have hw : who < 0 := (h.resolve_left (fun hn => hn hT)).resolve_left (by rw [ha]; simp)
   rw [if_pos trivial, sema_Acquire.j0, if_pos (decide_eq_true hw)]
  ·rw [get_bad hl h2 (.inr (by simpa using ha))]
   simp only [Option.bind_some]
   rw [if_neg (by simp), sema_Acquire.j0, if_pos rfl]
 ·rw [get_bad hl h2 (.inl hT)]
  simp only [Option.bind_some]
  rw [if_neg (by simp), sema_Acquire.j0, if_pos rfl]
noncomputable def relT (L : List Sp) (a : Int) : List Sp × Int × Int :=
 match (getT L a).f2 with
 | x :: r => (setT L ⟨a, (getT L a).f1, r⟩, x, 0)
 | [] => if (getT L a).f1 = 2147483647 then ([], 0, 10) else if (setT L ⟨a, (getT L a).f1 + 1, []⟩).length > 64 then ([], 0, 5) else (setT L ⟨a, (getT L a).f1 + 1, []⟩, -1, 0)
theorem pop_spot {s : Sp} {x : Int} {r : List Int} (h : SpotP s) (he : s.f2 = x :: r) : SpotP ⟨s.f0, s.f1, r⟩ := by
 obtain ⟨p1, p2, p3, p4⟩ := h
 refine ⟨p1, p2, ?_, ?_⟩
 ·obtain ⟨h1, h2, h3⟩ := (lineB_iff _).1 p3
  rw [he] at h1 h2 h3
  exact (lineB_iff _).2 ⟨(List.nodup_cons.1 h1).2, fun y hy => h2 y (List.mem_cons_of_mem _ hy), by simp at h3 ⊢; omega⟩
 ·rcases p4 with h | h
  ·exact .inl h
  ·rw [he] at h; cases h
theorem more_spot {s : Sp} (h : SpotP s) (_h2 : s.f2 = []) (h1 : s.f1 ≠ 2147483647) : SpotP ⟨s.f0, s.f1 + 1, []⟩ := by
 obtain ⟨p1, p2, p3, p4⟩ := h
 exact ⟨p1, ⟨by show 0 ≤ s.f1 + 1; omega, by show s.f1 + 1 ≤ _; omega⟩, by simp [lineB], .inr rfl⟩
theorem pop_room {L : List Sp} (h : Tab L) {a : Int} {x : Int} {r : List Int} {c : Int} (he : (getT L a).f2 = x :: r) {t : List Int} : (setT L ⟨a, c, t⟩).length ≤ 64 :=
 set_room h (s := ⟨a, c, t⟩) (fun hE => by have := hE.2; simp only at this; rw [he] at this; cases this)
theorem rel_f {L : List Sp} (h : Tab L) {a : Int} (ha : 0 ≤ a ∧ a ≤ 4294967295) : sema_Release.f L a = some (relT L a) := by
 obtain ⟨hS, h0⟩ := get_spot h ha
 have h3 := ((lineB_iff _).1 hS.2.2.1).2.2
 have hf1 := hS.2.1
 unfold sema_Release.f relT
 rw [get_f h ha]
 simp only [Option.bind_some]
 rw [if_pos trivial]
 unfold line_Pop.f
 rw [if_pos (by omega), if_neg (by rw [hS.2.2.1]; simp)]
 simp only [Option.bind_some]
 cases hl : (getT L a).f2 with
 | cons x r =>
  simp only
  have hsp := pop_spot hS hl
  rw [h0] at hsp
  have hroom := pop_room h hl (c := (getT L a).f1) (t := r)
  rw [if_pos trivial, h0, set_f h hsp, if_neg (by omega)]
  simp only [Option.bind_some]
  rw [if_pos trivial]
 | nil =>
  simp only
  rw [if_neg (by simp)]
  by_cases hm : (getT L a).f1 = 2147483647
  ·rw [if_pos hm, if_pos hm]
  ·have hsp := more_spot hS hl hm
   rw [h0] at hsp
   rw [if_neg hm, if_neg hm, wrap_id (by omega) (by omega), h0, set_f h hsp]
   simp only [Option.bind_some]
   split
   ·rfl
   ·rfl
theorem rel_bad {L : List Sp} {a : Int} (hl : L.length ≤ 80) (h2 : ∀ s ∈ L, s.f2.length ≤ 1000) (h : ¬ Tab L ∨ isAddrB a = false) : sema_Release.f L a = some ([], 0, 1) := by
 unfold sema_Release.f
 rw [get_bad hl h2 h]
 rfl
theorem semalive_at : deadboltlaw10_alive.f 400 = some true := by decide +kernel
theorem semalive_ok {k : Nat} (hk : 400 ≤ k) : deadboltlaw10_alive.f k = some true := by
 obtain ⟨d, rfl⟩ : ∃ d, k = 400 + d := ⟨k - 400, by omega⟩
 clear hk
 induction d with
 | zero => exact semalive_at
 | succ d ih => exact deadboltlaw10_alive.mono _ _ ih
/-- The law's own cut of a table. -/
theorem few10_l0 (l : List Sp) (hl : l.length ≤ 1000) : ∀ (d i : Nat) (k : Nat) (out : List Sp), i + d = l.length → d < k → out.length ≤ 1000 + i → deadboltlaw10_few.l0 k out l (l.length : Int) (i : Int) = some (out ++ (l.drop i).map cut70) := by
 intro d
 induction d with
 | zero =>
  intro i k out h1 h2 h3
  obtain ⟨k, rfl⟩ : ∃ q, k = q + 1 := ⟨k - 1, by omega⟩
  rw [deadboltlaw10_few.l0, if_neg (by omega), List.drop_eq_nil_of_le (by omega)]
  simp
 | succ d ih =>
  intro i k out h1 h2 h3
  obtain ⟨k, rfl⟩ : ∃ q, k = q + 1 := ⟨k - 1, by omega⟩
  have hx : l[i]? = some l[i] := List.getElem?_eq_getElem (by omega)
  have hm : mn ((l[i].f2.length : Nat) : Int) 70 = ((min l[i].f2.length 70 : Nat) : Int) := by unfold mn; split <;> omega
  have hc : l[i].f2.take (min l[i].f2.length 70) = l[i].f2.take 70 := by rw [Nat.min_comm, ← List.take_eq_take_min]
  rw [deadboltlaw10_few.l0, if_pos (by omega), if_pos (by omega), if_pos (by omega), rd_sp hx, hm, if_pos (by omega), if_pos (by omega), if_pos (by omega), Int.toNat_natCast, hc, next_i (by omega), ih (i + 1) k _ (by omega) (by omega) (by simp; omega)]
  rw [List.drop_eq_getElem_cons (show i < l.length by omega), List.map_cons, List.append_assoc]
  rfl
theorem few10_f (l : List Sp) {k : Nat} (hk : 80 ≤ k) : deadboltlaw10_few.f k l = some (fewF l) := by
 unfold deadboltlaw10_few.f
 have hm : mn (l.length : Int) 70 = ((min l.length 70 : Nat) : Int) := by unfold mn; split <;> omega
 rw [hm, if_pos (by omega), if_pos (by omega), Int.toNat_natCast]
 simp only [Option.bind_some]
 have hl : (l.take (min l.length 70)).length ≤ 70 := by simp; omega
 have e : l.take (min l.length 70) = l.take 70 := by rw [Nat.min_comm, ← List.take_eq_take_min]
 rw [e] at hl ⊢
 have := few10_l0 (l.take 70) (by omega) (l.take 70).length 0 k [] (by omega) (by omega) (by simp)
 rw [List.drop_zero, List.nil_append] at this
 exact this
end Go.Proofs.Ytnjnjajgpkmfhaa.PX

namespace Go.Proofs.Ytnjnjajgpkmfhaa.PX
open Go.RowKit Go.Proofs.YtnjnjajgpkmfhaaW.PrintWords Go.Proofs.YtnjnjajgpkmfhaaW.PrintLast Go.Proofs.YtnjnjajgpkmfhaaW.PrintMore
attribute [local go_sem] max2_int min2_int max_two min_two max_three min_three max_four min_four   -- for this text's walks alone
set_option linter.unusedVariables false
set_option linter.unusedSimpArgs false

/-! ### deadboltref10_May: function 35 -/
def deadboltref10_May.f (k : Nat) (l0 : List (S33)) (a1 : Int) : Option (Bool) := (deadboltref09_Right.f k l0).bind fun t437 => (if t437 = true then ((deadboltref08_Key.f a1).bind fun t438 => (some t438)) else (some false))
set_option maxHeartbeats 8000000 in
set_option maxRecDepth 100000 in
theorem deadboltref10_May.calls (k : Nat) (A0 : Option Addr) (c0 : Nat) (l0 : List (S33)) (a1 : Int) (r : Bool) (w : World) (hr0 : Kd.C k33 w A0 l0.length l0) (hc0 : l0.length ≤ c0) (h : deadboltref10_May.f k l0 a1 = some r) :
  Calls Try.prog 35 #[.slice A0 l0.length c0, .int .i64 a1] w fun e w' => e = .returned (.bool r) ∧ Below w.heap.size w w' := by
 have HR0 := Aside0.mk hr0
 have HC0 := Aside0.mk hc0
 clear hr0 hc0
 have HB := Aside0.mk (Below.refl w.heap.size w)
 have H : ((deadboltref09_Right.f k l0).bind fun t437 => (if t437 = true then ((deadboltref08_Key.f a1).bind fun t438 => (some t438)) else (some false))) = some r := h
 clear h
 replace H := Option.bind_eq_some_iff.mp H
 obtain ⟨t437, A30, H⟩ := H
 replace H : (if t437 = true then ((deadboltref08_Key.f a1).bind fun t438 => (some t438)) else (some false)) = some r := H
 have A3 := Aside0.mk A30
 clear A30
 by_cases c4 : t437 = true
 ·subst c4
  have H1 : ((deadboltref08_Key.f a1).bind fun t438 => (some t438)) = some r := by rw [if_pos rfl] at H; exact H
  clear H
  have H := H1
  clear H1
  replace H := Option.bind_eq_some_iff.mp H
  obtain ⟨t438, A50, H⟩ := H
  replace H : (some t438) = some r := H
  have A5 := Aside0.mk A50
  clear A50
  obtain rfl := Option.some.inj H
  go_enter Try.func35, Try.ntmps35
  go_wp2_with (first | ((with_reducible refine gate_callee (f := 18) rfl ?_); refine goesL_ (some 6) rfl rfl Try.func18 (by kernel_rfl) rfl #[.slice A0 l0.length c0] rfl zP ?_; (with_reducible refine (deadboltref09_Right.calls k _ _ l0 true _ ?side1 ?side2 A3.out).mono ?_); (case side1 => repeat (first | exact HR0.out | (with_reducible refine Kd.C_alloc ?_ _) | (with_reducible refine Kd.C_drewN ?_ _) | (with_reducible refine Kd.C_drew ?_))); (case side2 => exact HC0.out); rintro e w6 ⟨rfl, hb⟩; refine ⟨_, rfl, ?_⟩; have n0_ := Aside0.mk (below_step (zB HB) hb); clear HB; have HB := n0_; clear n0_; (try clear hb); (try clear hb2); (try clear hk); (try clear hi)) | (go_at_call 19; (with_reducible refine (deadboltref08_Key.calls a1 t438 _ A5.out).mono ?_); rintro e w' ⟨rfl, ⟨nd, rfl⟩⟩))
  go_ret
  exact ⟨by first | rfl | (simp [errW_none, errW_some] <;> rfl) | (simp [*, errW_none, errW_some] <;> rfl), zB HB⟩
 ·replace c4 := Bool.eq_false_iff.mpr c4
  subst c4
  have H1 : (some false) = some r := by rw [if_neg (show ¬ (false = true) by decide)] at H; exact H
  clear H
  have H := H1
  clear H1
  obtain rfl := Option.some.inj H
  go_enter Try.func35, Try.ntmps35
  go_wp2_with (first | ((with_reducible refine gate_callee (f := 18) rfl ?_); refine goesL_ (some 6) rfl rfl Try.func18 (by kernel_rfl) rfl #[.slice A0 l0.length c0] rfl zP ?_; (with_reducible refine (deadboltref09_Right.calls k _ _ l0 false _ ?side1 ?side2 A3.out).mono ?_); (case side1 => repeat (first | exact HR0.out | (with_reducible refine Kd.C_alloc ?_ _) | (with_reducible refine Kd.C_drewN ?_ _) | (with_reducible refine Kd.C_drew ?_))); (case side2 => exact HC0.out); rintro e w7 ⟨rfl, hb⟩; refine ⟨_, rfl, ?_⟩; have n0_ := Aside0.mk (below_step (zB HB) hb); clear HB; have HB := n0_; clear n0_; (try clear hb); (try clear hb2); (try clear hk); (try clear hi)))
  go_ret
  exact ⟨by first | rfl | (simp [errW_none, errW_some] <;> rfl) | (simp [*, errW_none, errW_some] <;> rfl), zB HB⟩

end Go.Proofs.Ytnjnjajgpkmfhaa.PX

namespace Go.Proofs.Ytnjnjajgpkmfhaa.PX
open Go.RowKit Go.Proofs.YtnjnjajgpkmfhaaW.PrintWords Go.Proofs.YtnjnjajgpkmfhaaW.PrintLast Go.Proofs.YtnjnjajgpkmfhaaW.PrintMore
attribute [local go_sem] max2_int min2_int max_two min_two max_three min_three max_four min_four   -- for this text's walks alone
set_option linter.unusedVariables false
set_option linter.unusedSimpArgs false

/-! ### deadboltlaw10_SemaOrder: function 7 -/
mutual
def deadboltlaw10_SemaOrder.j0 : Nat → List (S33) → Int → List Int → Bool → Bool → Option (Bool)
 | 0, _, _, _, _, _ => none
 | k + 1, x0, x1, x2, x3, x33 => if x33 = true then ((deadboltlaw10_alive.f k).bind fun t579 => (some t579)) else (if 0 ≤ (mn (x2.length : Int) 20) then (if (mn (x2.length : Int) 20) ≤ (x2.length : Int) then (deadboltlaw10_SemaOrder.l0 k x0 x1 x3 ([] : List Int) x0 (x2.take ((mn (x2.length : Int) 20) : Int).toNat) ((x2.take ((mn (x2.length : Int) 20) : Int).toNat).length : Int) 0) else (none)) else (none))
def deadboltlaw10_SemaOrder.l0 : Nat → List (S33) → Int → Bool → List Int → List (S33) → List Int → Int → Int → Option (Bool)
 | 0, _, _, _, _, _, _, _, _ => none
 | k + 1, x0, x1, x3, x9, x10, x40, x41, x42 => if x42 < x41 then (if 0 ≤ x42 then (if x42 < (x40.length : Int) then ((sema_Acquire.f k x10 x1 (rd x40 x42) x3).bind fun bt582 => (if bt582.2.2 = 0 then (if bt582.2.1 = true then (some false) else (if (rd x40 x42) < 0 then (some false) else (if x9.length < 17592186044416 then (deadboltlaw10_SemaOrder.l0 k x0 x1 x3 (x9 ++ [rd x40 x42]) bt582.1 x40 x41 (wrap64 (x42 + 1))) else (none)))) else (deadboltlaw10_SemaOrder.l0 k x0 x1 x3 x9 x10 x40 x41 (wrap64 (x42 + 1))))) else (none)) else (none)) else (deadboltlaw10_SemaOrder.l1 k x0 x1 x3 x9 x10 (x9.length : Int) 0)
def deadboltlaw10_SemaOrder.l1 : Nat → List (S33) → Int → Bool → List Int → List (S33) → Int → Int → Option (Bool)
 | 0, _, _, _, _, _, _, _ => none
 | k + 1, x0, x1, x3, x9, x10, x69, x70 => if x70 < x69 then ((sema_Release.f x10 x1).bind fun bt592 => (if 0 ≤ x70 then (if x70 < (x9.length : Int) then (if x3 = true then (if 0 ≤ (wrap64 ((wrap64 ((x9.length : Int) - 1)) - x70)) then (if (wrap64 ((wrap64 ((x9.length : Int) - 1)) - x70)) < (x9.length : Int) then (if bt592.2.2 = 0 then (if bt592.2.1 = (rd x9 (wrap64 ((wrap64 ((x9.length : Int) - 1)) - x70))) then (deadboltlaw10_SemaOrder.l1 k x0 x1 x3 x9 bt592.1 x69 (wrap64 (x70 + 1))) else (some false)) else (some false)) else (none)) else (none)) else (if bt592.2.2 = 0 then (if bt592.2.1 = (rd x9 x70) then (deadboltlaw10_SemaOrder.l1 k x0 x1 x3 x9 bt592.1 x69 (wrap64 (x70 + 1))) else (some false)) else (some false))) else (none)) else (none))) else ((deadboltlaw10_alive.f k).bind fun t590 => (if t590 = true then ((deadboltref09_Same.f k x10 x0).bind fun t591 => (some t591)) else (some false)))
end
def deadboltlaw10_SemaOrder.f (k : Nat) (l0 : List (S33)) (a1 : Int) (l2 : List Int) (a3 : Bool) : Option (Bool) := (deadboltlaw10_few.f k l0).bind fun t569 => ((deadboltref10_May.f k t569 a1).bind fun t572 => (if t572 = true then ((deadboltref09_Get.f k t569 a1).bind fun bt573 => ((deadboltref09_Empty.f bt573.1 bt573.2.1 bt573.2.2).bind fun t578 => (deadboltlaw10_SemaOrder.j0 k t569 a1 l2 a3 (!t578)))) else (deadboltlaw10_SemaOrder.j0 k t569 a1 l2 a3 true)))
end Go.Proofs.Ytnjnjajgpkmfhaa.PX

/-
 The law SemaOrder, told of its printed form.
-/
namespace Go.Proofs.Ytnjnjajgpkmfhaa.PX
open Go.RowKit Go.Proofs.YtnjnjajgpkmfhaaW.PrintWords Go.Proofs.YtnjnjajgpkmfhaaW.PrintLast Go.Proofs.YtnjnjajgpkmfhaaW.PrintMore
theorem may_f {l : List Sp} (hl : l.length ≤ 1000) (h2 : ∀ s ∈ l, s.f2.length ≤ 1000) (a : Int) {k : Nat} (hk : 3100 ≤ k) : ∃ b, deadboltref10_May.f k l a = some b ∧ (b = true ↔ Tab l ∧ isAddrB a = true) := by
 obtain ⟨b, e1, e2⟩ := refright_f l hl h2 hk
 unfold deadboltref10_May.f
 rw [e1, key_f]
 simp only [Option.bind_some]
 cases b with
 | true => rw [if_pos rfl]; exact ⟨_, rfl, by simp [e2.1 rfl]⟩
 | false => rw [if_neg Bool.false_ne_true]; exact ⟨_, rfl, by simp; exact fun h => by have := e2.2 h; cases this⟩
section
variable {t : List Sp} {a : Int}
/-- A line at the address, in the table. -/
structure AtL (t : List Sp) (a : Int) (ln : List Int) : Prop where
 line : lineB ln = true
 room : (setT t ⟨a, 0, ln⟩).length ≤ 64
/-- Who waits, when they came in this order. -/
def lnOf (b : Bool) (come : List Int) : List Int := if b = true then come.reverse else come
end
end Go.Proofs.Ytnjnjajgpkmfhaa.PX

/-
 The contract of sema.Queued: in how many lines somebody waits.
-/
namespace Go.Proofs.Ytnjnjajgpkmfhaa.PX
open Go.RowKit Go.Proofs.YtnjnjajgpkmfhaaW.PrintWords Go.Proofs.YtnjnjajgpkmfhaaW.PrintLast Go.Proofs.YtnjnjajgpkmfhaaW.PrintMore
/-- What is behind one spot that is looked at. -/
def SeeP (n₀ Bw Bn : Nat) (who n : Int) (w : World) (e : Ending) (w' : World) : Prop := (∃ v, e = .returned v) ∧ Blk w' Bw 3 #[.int .i64 who] ∧ Blk w' Bn 3 #[.int .i64 n] ∧ Below n₀ w w'
set_option maxRecDepth 100000 in
set_option maxHeartbeats 2000000 in
theorem see_any (n₀ Bw Bn : Nat) (who n : Int) (x : Rw) (w : World) (hw : Blk w Bw 3 #[.int .i64 who]) (hn : Blk w Bn 3 #[.int .i64 n]) (hne : Bw ≠ Bn) (hB : n₀ ≤ Bn) (hs : n₀ ≤ w.heap.size)
  {ok : Nat → Prop} (hV : Kd.V (Kd.int .i64) 3 w 0 ok x.v x.s.f2) (r : Bool) (k : Nat) (hr : slices_Contains_int_int.f k x.s.f2 who = some r) (h0 : 0 ≤ n) (h1 : n ≤ 100000) (n' : Int) (hn' : n' = if r = true then n + 1 else n) :
  Calls Try.prog 59 #[.agg #[.int .i64 x.s.f0, .int .i64 x.s.f1, x.v], .pointer (some ⟨Bw, 0, none⟩), .pointer (some ⟨Bn, 0, none⟩)] w (SeeP n₀ Bw Bn who n' w) := by
 obtain ⟨s, Av, cv⟩ := x
 simp only [Rw.v] at hV hr ⊢
 obtain ⟨_, hc, hC⟩ := Kd.V_reads' hV
 have hltw := hw.lt
 have hltn := hn.lt
 have HW := Lib.hid (hw.alloc (.cells #[.int .i64 s.f0, .int .i64 s.f1, .slice Av s.f2.length cv] 33))
 have HN := Lib.hid (hn.alloc (.cells #[.int .i64 s.f0, .int .i64 s.f1, .slice Av s.f2.length cv] 33))
 have HB0 := Lib.hid (((Below.refl n₀ w).alloc hs (.cells #[.int .i64 s.f0, .int .i64 s.f1, .slice Av s.f2.length cv] 33)))
 have HC := Lib.hid (Kd.C_alloc hC (.cells #[.int .i64 s.f0, .int .i64 s.f1, .slice Av s.f2.length cv] 33))
 have HR := Lib.hid hr
 have HL := Lib.hid hc
 have qw := HW.out.at1
 have qn := HN.out.at1
 have zn := HN.out.frozen 0
 have HNE := Lib.hid hne
 have HN' := Lib.hid hn'
 have HS := Lib.hid hs
 have HBN := Lib.hid hB
 clear hV hC hw hn hr hc hne hs hB hltw hn'
 go_enter Try.func59, Try.ntmps59
 go_wp2_with fail
 refine (slices_Contains_int_int.calls k Av cv s.f2 who r _ HC.out HL.out HR.out).mono ?_
 rintro e w2 ⟨rfl, ⟨m, rfl⟩⟩
 have HB2 := Lib.hid (below_drewN HB0.out m)
 have HW2 := Lib.hid (HW.out.drewN m)
 have HN2 := Lib.hid (HN.out.drewN m)
 clear HB0 HC HR HL HW HN
 cases r with
 | true =>
  have hv := HN'.out
  rw [if_pos rfl] at hv
  subst hv
  clear HN'
  go_wp2_with fail
  go_end0
  exact ⟨⟨_, rfl⟩, HW2.out.far (p := ⟨Bn, 0, none⟩) HNE.out _, HN2.out.set_ 0 _, HB2.out.setCell (p := ⟨Bn, 0, none⟩) HBN.out _⟩
 | false =>
  have hv := HN'.out
  rw [if_neg Bool.false_ne_true] at hv
  subst hv
  clear HN'
  go_wp2_with fail
  go_end0
  exact ⟨⟨_, rfl⟩, HW2.out, HN2.out, HB2.out⟩
/-- In how many lines somebody waits. -/
def cntI (who : Int) (l : List S33) : Int := ((l.filter (fun s => decide (who ∈ s.f2))).length : Int)
def sema_Queued.f (l0 : List S33) (a1 : Int) : Option (Int × Int) := if l0.length ≤ 1000 ∧ (∀ s ∈ l0, s.f2.length ≤ 1000) then (root_Right.f 2000 l0).bind fun r => if r = false ∨ a1 < 0 then some (0, 1) else some (cntI a1 l0, 0) else none
theorem contains_q {l : List Int} (a : Int) (hl : l.length ≤ 1000) : slices_Contains_int_int.f 1001 l a = some (decide (a ∈ l)) := by
 have idx : ∀ (d i k : Nat), i + d = l.length → d < k → (∀ j, j < i → l[j]? ≠ some a) → ∃ r, slices_Index_int_int.l0 k l a (l.length : Int) (i : Int) = some r ∧ (r ≥ 0 ↔ a ∈ l) := by
  intro d
  induction d with
  | zero =>
   intro i k h1 hk h
   obtain ⟨k, rfl⟩ : ∃ q, k = q + 1 := ⟨k - 1, by omega⟩
   rw [slices_Index_int_int.l0, if_neg (by omega)]
   refine ⟨-1, rfl, ⟨fun h => by omega, fun hm => ?_⟩⟩
   obtain ⟨j, hj, rfl⟩ := List.mem_iff_getElem.1 hm
   exact absurd (List.getElem?_eq_getElem hj) (h j (by omega))
  | succ d ih =>
   intro i k h1 hk h
   obtain ⟨k, rfl⟩ : ∃ q, k = q + 1 := ⟨k - 1, by omega⟩
   have hx : l[i]? = some l[i] := List.getElem?_eq_getElem (by omega)
   have hrd : rd l (i : Int) = l[i] := by
    unfold rd
    rw [Int.toNat_natCast, List.getD_eq_getElem?_getD, hx]
    rfl
   rw [slices_Index_int_int.l0, if_pos (by omega), if_pos (by omega), if_pos (by omega), hrd]
   by_cases he : a = l[i]
   ·rw [if_pos he]
    exact ⟨_, rfl, ⟨fun _ => by rw [he]; exact List.getElem_mem _, fun _ => by omega⟩⟩
   ·rw [if_neg he, show wrap64 ((i : Int) + 1) = ((i + 1 : Nat) : Int) by unfold wrap64; omega]
    refine ih (i + 1) k (by omega) (by omega) fun j hj => ?_
    rcases Nat.lt_or_eq_of_le (Nat.le_of_lt_succ hj) with h' | h'
    ·exact h j h'
    ·rw [h', hx]
     exact fun e => he (Option.some.inj e).symm
 obtain ⟨r, h1, h2⟩ := idx l.length 0 1001 (by omega) (by omega) (fun j hj => absurd hj (by omega))
 unfold slices_Contains_int_int.f slices_Index_int_int.f
 rw [show (0 : Int) = ((0 : Nat) : Int) from rfl, h1]
 simp only [Option.bind_some]
 refine congrArg some (Bool.eq_iff_iff.2 ?_)
 rw [decide_eq_true_eq, decide_eq_true_eq]
 exact h2
theorem cnt_more (who : Int) (R : List Rw) (i : Nat) (x : Rw) (h : R[i]? = some x) : cntI who (spots (R.take (i + 1))) = if decide (who ∈ x.s.f2) = true then cntI who (spots (R.take i)) + 1 else cntI who (spots (R.take i)) := by
 unfold cntI spots
 rw [List.take_add_one, h, List.map_append, List.filter_append, List.length_append]
 by_cases hm : who ∈ x.s.f2
 ·simp [hm]
 ·simp [hm]
theorem cnt_le (who : Int) (l : List S33) : 0 ≤ cntI who l ∧ cntI who l ≤ l.length := by
 unfold cntI
 have := List.length_filter_le (fun s : S33 => decide (who ∈ s.f2)) l
 omega
def QuP (r1 r2 : Int) (w : World) (e : Ending) (w' : World) : Prop := e = .returned (.tuple #[.int .i64 r1, .int .i64 r2]) ∧ Below w.heap.size w w'
set_option maxRecDepth 100000 in
set_option maxHeartbeats 4000000 in
theorem queued_any (A0 : Option Addr) (c0 : Nat) (l0 : List S33) (a1 : Int) (b : Bool) (w : World) (hr0 : Kd.C k33 w A0 l0.length l0) (hc0 : l0.length ≤ c0) (hn : l0.length ≤ 1000) (h2 : ∀ s ∈ l0, s.f2.length ≤ 1000) (hb : root_Right.f 2000 l0 = some b)
  (R1 R2 : Int) (hres : (b = true → 0 ≤ a1 → R1 = cntI a1 l0 ∧ R2 = 0) ∧ (b = false ∨ a1 < 0 → R1 = 0 ∧ R2 = 1)) :
  Calls Try.prog 36 #[.slice A0 l0.length c0, .int .i64 a1] w (QuP R1 R2 w) := by
 obtain ⟨R, hR, _, _, hreads, hrep⟩ := raws_of_V (base := 0) (Kd.V_mk (e := 33) (base := 0) hc0 (Kd.C_F k33_heap hr0))
 have HRD := Lib.hid hreads
 have HRP := Lib.hid hrep
 have HSP := Lib.hid hR
 have HN := Lib.hid hn
 have H2 := Lib.hid h2
 have HRES := Lib.hid hres
 have HC := Lib.hid hc0
 have HBF := Lib.hid hb
 have HC1 := Lib.hid (Kd.C_alloc hr0 (.cells #[.int .i64 a1] 3))
 have HB1 := Lib.hid ((Below.refl w.heap.size w).alloc (Nat.le_refl _) (.cells #[.int .i64 a1] 3))
 have HW1 := Lib.hid (Blk.new w 3 #[.int .i64 a1])
 clear hr0 hc0 hn h2 hb hres hreads hrep hR
 go_enter Try.func36, Try.ntmps36
 go_wp2_with fail
 refine (root_Right.calls 2000 A0 c0 l0 b _ HC1.out HC.out HBF.out).mono ?_
 rintro e w2 ⟨rfl, hb2⟩
 have HB2 := Lib.hid (bthen HB1.out hb2)
 have HW2 := Lib.hid (HW1.out.below hb2 HW1.out.lt)
 clear hb2 HC1 HB1 HW1 HC HBF
 have q1 := HW2.out.at1
 cases b with
 | false =>
  have HV := Lib.hid (HRES.out.2 (.inl rfl))
  clear HRES
  go_wp2_with fail
  go_ret2
  exact ⟨by rw [HV.out.1, HV.out.2]; rfl, HB2.out⟩
 | true =>
  by_cases h0 : a1 < 0
  ·have d0 : decide (a1 < 0) = true := decide_eq_true h0
   have HV := Lib.hid (HRES.out.2 (.inr h0))
   clear HRES h0
   go_wp2_with fail
   go_ret2
   exact ⟨by rw [HV.out.1, HV.out.2]; rfl, HB2.out⟩
  ·have d0 : decide (a1 < 0) = false := decide_eq_false h0
   have HV := Lib.hid (HRES.out.1 rfl (by omega))
   clear HRES h0
   have HNE := Lib.hid (Nat.ne_of_lt HW2.out.lt)
   have HGE := Lib.hid (Nat.le_of_lt HW2.out.lt)
   have HW3 := Lib.hid (HW2.out.alloc (.cells #[.int .i64 0] 3))
   have HN3 := Lib.hid (Blk.new w2 3 #[.int .i64 0])
   have HB3 := Lib.hid (HB2.out.alloc HGE.out (.cells #[.int .i64 0] 3))
   have HLEN := Lib.hid (raw_len HRD.out)
   go_wp2_with fail
   clear HW2 HB2 q1
   go_loopw [20] (fun v wr => ∃ i : Nat, i ≤ l0.length ∧ v = .int .i64 i ∧ Blk wr w.heap.size 3 #[.int .i64 a1] ∧ Blk wr w2.heap.size 3 #[.int .i64 (cntI a1 (spots (R.take i)))] ∧ Below w.heap.size w wr) (fun v _ => l0.length - (intOf v).toNat)
   case atStart => exact ⟨0, Nat.zero_le _, rfl, HW3.out, HN3.out, HB3.out⟩
   case round =>
    obtain ⟨i, hi, rfl, hw, hnn, hb⟩ := hrel
    have HBR := Lib.hid hb
    by_cases hlt : i < l0.length
    ·have d1 : decide ((i : Int) < l0.length) = true := decide_eq_true (by omega)
     obtain ⟨ad, x, rfl, _, hx, q0, q1, q2⟩ := raw_at (HRD.out.below hb) hlt
     have hxm : x.s ∈ l0 := by rw [← HSP.out]; exact List.mem_map.2 ⟨x, List.mem_of_getElem? hx, rfl⟩
     have hlx := H2.out _ hxm
     have hcn := cnt_le a1 (spots (R.take i))
     have hc2 : (cntI a1 (spots (R.take i))) ≤ 1000 := by
      have : (spots (R.take i)).length ≤ i := by unfold spots; rw [List.length_map, List.length_take]; omega
      have := HN.out
      omega
     have HSEE := Lib.hid (see_any w.heap.size w.heap.size w2.heap.size a1 (cntI a1 (spots (R.take i))) x (wr.alloc (.cells #[.int .i64 x.s.f0, .int .i64 x.s.f1, x.v] 33)) (hw.alloc _) (hnn.alloc _) HNE.out HGE.out
      (below_size (hb.alloc (below_size hb) _)) (Kd.V_alloc ((HRP.out.below hb) x (List.mem_of_getElem? hx)) _) (decide (a1 ∈ x.s.f2)) 1001 (contains_q a1 hlx) hcn.1 (by omega) (cntI a1 (spots (R.take (i + 1)))) (cnt_more a1 R i x hx))
     have HBA := Lib.hid (hb.alloc (below_size hb) (.cells #[.int .i64 x.s.f0, .int .i64 x.s.f1, x.v] 33))
     have hen : ∀ W, (callFunc 59 (#[.agg #[.int .i64 x.s.f0, .int .i64 x.s.f1, x.v]] ++ #[.pointer (some ⟨w.heap.size, 0, none⟩), .pointer (some ⟨w2.heap.size, 0, none⟩)])).run Try.prog W = .ok (.enter 59 (#[.agg #[.int .i64 x.s.f0, .int .i64 x.s.f1, x.v]] ++ #[.pointer (some ⟨w.heap.size, 0, none⟩), .pointer (some ⟨w2.heap.size, 0, none⟩)])) W := fun W => by simp [go_sem]
     clear hb hx hw hnn hxm hlx hcn hc2
     obtain ⟨xs, Av, cv⟩ := x
     simp only [Rw.v] at q2 HSEE HBA hen
     go_wp2_with fail
     refine HSEE.out.mono ?_
     rintro e w4 ⟨⟨v, rfl⟩, hw4, hn4, hb4⟩
     have HW4 := Lib.hid hw4
     have HN4 := Lib.hid hn4
     have HB4 := Lib.hid (HBA.out.trans hb4)
     clear hw4 hn4 hb4 q0 q1 q2
     go_wp2_with fail
     have hwr : wrap64 ((i : Int) + 1) = ((i + 1 : Nat) : Int) := by have := HN.out; unfold wrap64; omega
     rw [hwr]
     exact ⟨⟨i + 1, by omega, rfl, HW4.out, HN4.out, HB4.out⟩, by simp only [intOf]; omega⟩
    ·have d1 : decide ((i : Int) < l0.length) = false := decide_eq_false (by omega)
     obtain rfl : i = l0.length := by omega
     have hall : spots (R.take l0.length) = l0 := by rw [List.take_of_length_le (by rw [HLEN.out]; exact Nat.le_refl _), HSP.out]
     rw [hall] at hnn
     have q5 := hnn.at1
     clear hb hw hnn hall
     go_wp2_with fail
     go_ret2
     exact ⟨by rw [HV.out.1, HV.out.2]; rfl, HBR.out⟩
theorem sema_Queued.calls (A0 : Option Addr) (c0 : Nat) (l0 : List S33) (a1 : Int) (r1 r2 : Int) (w : World) (hr0 : Kd.C k33 w A0 l0.length l0) (hc0 : l0.length ≤ c0) (h : sema_Queued.f l0 a1 = some (r1, r2)) :
  Calls Try.prog 36 #[.slice A0 l0.length c0, .int .i64 a1] w fun e w' => e = .returned (.tuple #[.int .i64 r1, .int .i64 r2]) ∧ Below w.heap.size w w' := by
 unfold sema_Queued.f at h
 split at h
 case isFalse => cases h
 rename_i hh
 obtain ⟨b, hb, h⟩ := Option.bind_eq_some_iff.1 h
 refine queued_any A0 c0 l0 a1 b w hr0 hc0 hh.1 hh.2 hb r1 r2 ⟨fun h1 h2 => ?_, fun h1 => ?_⟩
 ·rw [if_neg (by rw [h1]; simp; omega)] at h
  have := Option.some.inj h
  exact ⟨(congrArg (·.1) this).symm, (congrArg (·.2) this).symm⟩
 ·rw [if_pos h1] at h
  have := Option.some.inj h
  exact ⟨(congrArg (·.1) this).symm, (congrArg (·.2) this).symm⟩
end Go.Proofs.Ytnjnjajgpkmfhaa.PX
