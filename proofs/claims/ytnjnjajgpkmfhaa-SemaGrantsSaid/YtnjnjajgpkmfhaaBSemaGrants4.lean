/-
 The statement on SemaGrants, out of the walk: for every input the call returns true, and each argument reads behind it as it read before.
-/
import Derived.Test.YtnjnjajgpkmfhaaBSemaGrants3
import Derived.Test.YtnjnjajgpkmfhaaRows
/-
 Tables as what they tell of each address.
-/
namespace Go.Proofs.Ytnjnjajgpkmfhaa.PX
open Go.RowKit Go.Proofs.YtnjnjajgpkmfhaaW.PrintWords Go.Proofs.YtnjnjajgpkmfhaaW.PrintLast Go.Proofs.YtnjnjajgpkmfhaaW.PrintMore
def UpL (l : List Sp) : Prop := l.Pairwise (fun a b => LessP a.f0 b.f0)
theorem Tab.upl {l : List Sp} (h : Tab l) : UpL l := List.pairwise_map.1 h.up
theorem less_irrefl (a : Int) : ¬ LessP a a := by unfold LessP; omega
theorem less_total {a b : Int} (h : a ≠ b) : LessP a b ∨ LessP b a := by unfold LessP; omega
theorem same_at {l : List Sp} (h : UpL l) {x y : Sp} (hx : x ∈ l) (hy : y ∈ l) (he : x.f0 = y.f0) : x = y := by
 induction l with
 | nil => cases hx
 | cons z l ih =>
  obtain ⟨h1, h2⟩ := List.pairwise_cons.1 h
  rcases List.mem_cons.1 hx with rfl | hx'
  ·rcases List.mem_cons.1 hy with rfl | hy'
   ·rfl
   ·have := h1 y hy'
    rw [he] at this
    exact absurd this (less_irrefl _)
  ·rcases List.mem_cons.1 hy with rfl | hy'
   ·have := h1 x hx'
    rw [he] at this
    exact absurd this (less_irrefl _)
   ·exact ih h2 hx' hy'
theorem getT_mem {l : List Sp} (h : UpL l) {x : Sp} (hx : x ∈ l) : getT l x.f0 = x := by
 obtain ⟨_, h2, h3⟩ := getT_in (List.mem_map.2 ⟨x, hx, rfl⟩)
 exact same_at h h3 hx h2
theorem mem_offS {l : List Sp} {a : Int} {x : Sp} : x ∈ offS l a ↔ x ∈ l ∧ x.f0 ≠ a := by
 unfold offS
 rw [List.mem_filter]
 simp
theorem mem_putS {l : List Sp} {s x : Sp} : x ∈ putS l s ↔ x = s ∨ x ∈ l := by
 induction l with
 | nil => simp [putS_nil]
 | cons y l ih =>
  rw [putS_cons]
  split
  ·simp
  ·rw [List.mem_cons, ih, List.mem_cons]
   constructor
   ·rintro (h | h | h)
    ·exact .inr (.inl h)
    ·exact .inl h
    ·exact .inr (.inr h)
   ·rintro (h | h | h)
    ·exact .inr (.inl h)
    ·exact .inl h
    ·exact .inr (.inr h)
theorem up_putS {l : List Sp} {s : Sp} (h : UpL l) (hs : 0 ≤ s.f0 ∧ s.f0 ≤ 4294967295) (hl : ∀ x ∈ l, (0 ≤ x.f0 ∧ x.f0 ≤ 4294967295) ∧ x.f0 ≠ s.f0) : UpL (putS l s) := by
 induction l with
 | nil => simp [putS_nil, UpL]
 | cons y l ih =>
  obtain ⟨h1, h2⟩ := List.pairwise_cons.1 h
  obtain ⟨hy, hne⟩ := hl y (by simp)
  have ho := (order_less hy hs).2
  rw [putS_cons]
  by_cases hc : orderI y.f0 s.f0 > 0
  ·rw [if_pos hc]
   have hlt := ho.1 hc
   refine List.pairwise_cons.2 ⟨fun x hx => ?_, h⟩
   rcases List.mem_cons.1 hx with rfl | hx'
   ·exact hlt
   ·exact less_trans hlt (h1 x hx')
  ·rw [if_neg hc]
   have hlt : LessP y.f0 s.f0 := (less_total hne).resolve_right (fun hh => hc (ho.2 hh))
   refine List.pairwise_cons.2 ⟨fun x hx => ?_, ih h2 (fun x hx => hl x (by simp [hx]))⟩
   rcases mem_putS.1 hx with rfl | hx'
   ·exact hlt
   ·exact h1 x hx'
theorem empty_is {s : Sp} (h : EmptyP s) : s = ⟨s.f0, 0, []⟩ := by
 cases s
 obtain ⟨h1, h2⟩ := h
 simp only at h1 h2
 rw [h1, h2]
theorem mem_setT {l : List Sp} {s x : Sp} : x ∈ setT l s ↔ (x = s ∧ ¬ EmptyP s) ∨ (x ∈ l ∧ x.f0 ≠ s.f0) := by
 unfold setT
 split
 ·rename_i h
  rw [mem_offS]
  simp [h]
 ·rename_i h
  rw [mem_putS, mem_offS]
  simp [h]
theorem up_setT {l : List Sp} (h : Tab l) {s : Sp} (hs : SpotP s) : UpL (setT l s) := by
 have h1 : UpL (offS l s.f0) := h.upl.sublist List.filter_sublist
 unfold setT
 split
 ·exact h1
 ·exact up_putS h1 hs.1 fun x hx => ⟨h.addr x (mem_offS.1 hx).1, (mem_offS.1 hx).2⟩
theorem tab_set {l : List Sp} (h : Tab l) {s : Sp} (hs : SpotP s) (hn : (setT l s).length ≤ 64) : Tab (setT l s) := by
 refine ⟨fun x hx => ?_, List.pairwise_map.2 (up_setT h hs), hn⟩
 rcases mem_setT.1 hx with ⟨rfl, he⟩ | ⟨h1, _⟩
 ·exact ⟨hs, he⟩
 ·exact h.spot x h1
theorem getT_set {l : List Sp} (h : Tab l) {s : Sp} (hs : SpotP s) (b : Int) : getT (setT l s) b = if b = s.f0 then s else getT l b := by
 have hu := up_setT h hs
 by_cases hb : b = s.f0
 ·rw [if_pos hb, hb]
  by_cases he : EmptyP s
  ·have hn : s.f0 ∉ (setT l s).map (·.f0) := by
    intro hm
    obtain ⟨x, hx, e⟩ := List.mem_map.1 hm
    rcases mem_setT.1 hx with ⟨_, h2⟩ | ⟨_, h2⟩
    ·exact h2 he
    ·exact h2 e
   rw [getT_out hn, ← empty_is he]
  ·exact getT_mem hu (mem_setT.2 (.inl ⟨rfl, he⟩))
 ·rw [if_neg hb]
  by_cases hm : b ∈ l.map (·.f0)
  ·obtain ⟨_, h2, h3⟩ := getT_in hm
   have := getT_mem hu (mem_setT.2 (.inr ⟨h3, by rw [h2]; exact hb⟩))
   rw [h2] at this
   exact this
  ·have hn : b ∉ (setT l s).map (·.f0) := by
    intro hm2
    obtain ⟨x, hx, e⟩ := List.mem_map.1 hm2
    rcases mem_setT.1 hx with ⟨h2, _⟩ | ⟨h2, _⟩
    ·exact hb (by rw [← e, h2])
    ·exact hm (List.mem_map.2 ⟨x, h2, e⟩)
   rw [getT_out hn, getT_out hm]
theorem get_spot {l : List Sp} (h : Tab l) {a : Int} (ha : 0 ≤ a ∧ a ≤ 4294967295) : SpotP (getT l a) ∧ (getT l a).f0 = a := by
 by_cases hm : a ∈ l.map (·.f0)
 ·obtain ⟨_, h2, h3⟩ := getT_in hm
  exact ⟨(h.spot _ h3).1, h2⟩
 ·rw [getT_out hm]
  exact ⟨⟨ha, by simp, by simp [lineB], .inl rfl⟩, rfl⟩
theorem offS_less {l : List Sp} {a : Int} (h : a ∈ l.map (·.f0)) : (offS l a).length < l.length := by
 obtain ⟨s, hs, rfl⟩ := List.mem_map.1 h
 have := List.length_filter_lt_length_iff_exists (p := fun x : Sp => !(x.f0 == s.f0)) (l := l)
 exact this.2 ⟨s, hs, by simp⟩
/-- Where there was a spot, there is room. -/
theorem set_room {l : List Sp} (h : Tab l) {s : Sp} (hm : ¬ EmptyP (getT l s.f0)) : (setT l s).length ≤ 64 := by
 have hf := h.few
 have hm' : s.f0 ∈ l.map (·.f0) := Classical.byContradiction fun hn => hm (by rw [getT_out hn]; exact ⟨rfl, rfl⟩)
 have := offS_less hm'
 unfold setT
 split
 ·omega
 ·rw [putS_len]; omega
end Go.Proofs.Ytnjnjajgpkmfhaa.PX

namespace Go.Proofs.Ytnjnjajgpkmfhaa.PX
open Go.RowKit Go.Proofs.YtnjnjajgpkmfhaaW.PrintWords Go.Proofs.YtnjnjajgpkmfhaaW.PrintLast Go.Proofs.YtnjnjajgpkmfhaaW.PrintMore
attribute [local go_sem] max2_int min2_int max_two min_two max_three min_three max_four min_four   -- for this text's walks alone
set_option linter.unusedVariables false
set_option linter.unusedSimpArgs false

/-! ### slices_Index_int_int: function 73 -/
def slices_Index_int_int.l0 : Nat → List Int → Int → Int → Int → Option (Int)
 | 0, _, _, _, _ => none
 | k + 1, x0, x1, x7, x8 => if x8 < x7 then (if 0 ≤ x8 then (if x8 < (x0.length : Int) then (if x1 = (rd x0 x8) then (some x8) else (slices_Index_int_int.l0 k x0 x1 x7 (wrap64 (x8 + 1)))) else (none)) else (none)) else (some (-1))
def slices_Index_int_int.f (k : Nat) (l0 : List Int) (a1 : Int) : Option (Int) := slices_Index_int_int.l0 k l0 a1 (l0.length : Int) 0
theorem slices_Index_int_int.mono_l : ∀ k, (∀ y0 y1 y2 y3, LeO (slices_Index_int_int.l0 k y0 y1 y2 y3) (slices_Index_int_int.l0 (k + 1) y0 y1 y2 y3))
 | 0 => fun _ _ _ _ r h => by simp [slices_Index_int_int.l0] at h
 | k + 1 => by
  have ih0 := slices_Index_int_int.mono_l k
  ·intro y0 y1 y2 y3
   unfold slices_Index_int_int.l0
   repeat' first
   | (with_reducible exact ih0 _ _ _ _)
   | (with_reducible exact LeO.refl _)
   | (with_reducible exact LeO.none _)
   | (with_reducible refine LeO.ite ?_ ?_)
   | (with_reducible refine LeO.bind ?_ (fun _ => ?_))
   | exact ih0 _ _ _ _
   | exact LeO.none _
   | refine LeO.ite ?_ ?_
   | refine LeO.bind ?_ (fun _ => ?_)
theorem slices_Index_int_int.mono : ∀ a0 a1 k, LeO (slices_Index_int_int.f k a0 a1) (slices_Index_int_int.f (k + 1) a0 a1) := by
 intro a0 a1 k
 have ih0 := slices_Index_int_int.mono_l k
 unfold slices_Index_int_int.f
 repeat' first
   | (with_reducible exact ih0 _ _ _ _)
   | (with_reducible exact LeO.refl _)
   | (with_reducible exact LeO.none _)
   | (with_reducible refine LeO.ite ?_ ?_)
   | (with_reducible refine LeO.bind ?_ (fun _ => ?_))
   | exact ih0 _ _ _ _
   | exact LeO.none _
   | refine LeO.ite ?_ ?_
   | refine LeO.bind ?_ (fun _ => ?_)
set_option maxHeartbeats 8000000 in
set_option maxRecDepth 100000 in
theorem slices_Index_int_int.calls (k : Nat) (A0 : Option Addr) (c0 : Nat) (l0 : List Int) (a1 : Int) (r : Int) (w : World) (hr0 : Kd.C (Kd.int .i64) w A0 l0.length l0) (hc0 : l0.length ≤ c0) (h : slices_Index_int_int.f k l0 a1 = some r) :
  Calls Try.prog 73 #[.slice A0 l0.length c0, .int .i64 a1] w fun e w' => e = .returned (.int .i64 r) ∧ Drawn0 w w' := by
 have HR0 := Aside0.mk hr0
 have HC0 := Aside0.mk hc0
 clear hr0 hc0
 have H : (slices_Index_int_int.l0 k l0 a1 (l0.length : Int) 0) = some r := h
 clear h
 have H' := Aside0.mk H
 clear H
 go_enter Try.func73, Try.ntmps73
 go_wp2
 go_loopg [8] k (fun kq v8 w' => ∃ (x8_1 : Int), v8 = .int .i64 x8_1 ∧ Aside0 (slices_Index_int_int.l0 kq l0 a1 (l0.length : Int) x8_1 = some r) ∧ Aside0 (kq ≤ k) ∧ Drawn0 w w')
 case atStart => exact ⟨(0), (by first | rfl | (simp; done) | (simp [*]; done)), H', ⟨Nat.le_refl _⟩, by repeat (first | exact Drawn0.refl _ | apply Drawn0.step)⟩
 case round =>
  clear H'
  try clear p2
  obtain ⟨x8_1, rfl, HA, HK1, ⟨m1, rfl⟩⟩ := hrel
  cases gk with
  | zero => exact absurd HA.out (by simp [slices_Index_int_int.l0])
  | succ k1 =>
   have H := HA.out
   clear HA
   simp only [slices_Index_int_int.l0] at H
   by_cases c3 : x8_1 < (l0.length : Int)
   ·rw [if_pos c3] at H
    have c3b0 : decide (x8_1 < (l0.length : Int)) = true := decide_eq_true c3
    clear c3
    by_cases c4 : 0 ≤ x8_1
    ·rw [if_pos c4] at H
     have c4b0 : decide (0 ≤ x8_1) = true := decide_eq_true c4
     clear c4
     by_cases c5 : x8_1 < (l0.length : Int)
     ·rw [if_pos c5] at H
      have c5b0 : decide (x8_1 < (l0.length : Int)) = true := decide_eq_true c5
      clear c5
      by_cases c6 : a1 = (rd l0 x8_1)
      ·rw [if_pos c6] at H
       have c6b0 : (a1 == (rd l0 x8_1)) = true := beq_iff_eq.mpr c6
       have c6b1 : (a1 != (rd l0 x8_1)) = false := bne_eq_false_iff_eq.mpr c6
       clear c6
       obtain rfl := Option.some.inj H
       have p341 : 0 ≤ (x8_1 : Int) := of_decide_eq_true (by first | (with_reducible assumption) | assumption)
       have q341 : x8_1 < (l0.length : Int) := of_decide_eq_true (by first | (with_reducible assumption) | assumption)
       obtain ⟨ad341, e341, hx341_0⟩ := Kd.at_int HR0.out x8_1 p341 q341
       cases e341
       replace p341 := eq_true p341
       replace q341 := eq_true q341
       go_wp2
       go_ret
       exact ⟨by first | rfl | (simp; done) | (simp [*]; done), by repeat (first | exact Drawn0.refl _ | apply Drawn0.step)⟩
      ·rw [if_neg c6] at H
       have c6b0 : (a1 == (rd l0 x8_1)) = false := beq_eq_false_iff_ne.mpr c6
       have c6b1 : (a1 != (rd l0 x8_1)) = true := bne_iff_ne.mpr c6
       have H' := Aside0.mk H
       clear H
       have p341 : 0 ≤ (x8_1 : Int) := of_decide_eq_true (by first | (with_reducible assumption) | assumption)
       have q341 : x8_1 < (l0.length : Int) := of_decide_eq_true (by first | (with_reducible assumption) | assumption)
       obtain ⟨ad341, e341, hx341_0⟩ := Kd.at_int HR0.out x8_1 p341 q341
       cases e341
       replace p341 := eq_true p341
       replace q341 := eq_true q341
       go_wp2
       go_roundg k1
       case measure => have := HK1.out; omega
       case rel => exact ⟨(wrap64 (x8_1 + 1)), (by first | rfl | (simp; done) | (simp [*]; done)), H', ⟨by have := HK1.out; omega⟩, by repeat (first | exact Drawn0.refl _ | apply Drawn0.step)⟩
     ·rw [if_neg c5] at H
      exact absurd H (by simp)
    ·rw [if_neg c4] at H
     exact absurd H (by simp)
   ·rw [if_neg c3] at H
    have c3b0 : decide (x8_1 < (l0.length : Int)) = false := decide_eq_false c3
    clear c3
    obtain rfl := Option.some.inj H
    go_wp2
    go_ret
    exact ⟨by first | rfl | (simp; done) | (simp [*]; done), by repeat (first | exact Drawn0.refl _ | apply Drawn0.step)⟩

end Go.Proofs.Ytnjnjajgpkmfhaa.PX

namespace Go.Proofs.Ytnjnjajgpkmfhaa.PX
open Go.RowKit Go.Proofs.YtnjnjajgpkmfhaaW.PrintWords Go.Proofs.YtnjnjajgpkmfhaaW.PrintLast Go.Proofs.YtnjnjajgpkmfhaaW.PrintMore
attribute [local go_sem] max2_int min2_int max_two min_two max_three min_three max_four min_four   -- for this text's walks alone
set_option linter.unusedVariables false
set_option linter.unusedSimpArgs false

/-! ### slices_Contains_int_int: function 56 -/
def slices_Contains_int_int.f (k : Nat) (l0 : List Int) (a1 : Int) : Option (Bool) := (slices_Index_int_int.f k l0 a1).bind fun t342 => (some (decide (t342 ≥ 0)))
theorem slices_Contains_int_int.mono : ∀ a0 a1 k, LeO (slices_Contains_int_int.f k a0 a1) (slices_Contains_int_int.f (k + 1) a0 a1) := by
 intro a0 a1 k
 unfold slices_Contains_int_int.f
 repeat' first
   | (with_reducible exact slices_Index_int_int.mono _ _ _)
   | (with_reducible exact LeO.refl _)
   | (with_reducible exact LeO.none _)
   | (with_reducible refine LeO.ite ?_ ?_)
   | (with_reducible refine LeO.bind ?_ (fun _ => ?_))
   | exact slices_Index_int_int.mono _ _ _
   | exact LeO.none _
   | refine LeO.ite ?_ ?_
   | refine LeO.bind ?_ (fun _ => ?_)
set_option maxHeartbeats 8000000 in
set_option maxRecDepth 100000 in
theorem slices_Contains_int_int.calls (k : Nat) (A0 : Option Addr) (c0 : Nat) (l0 : List Int) (a1 : Int) (r : Bool) (w : World) (hr0 : Kd.C (Kd.int .i64) w A0 l0.length l0) (hc0 : l0.length ≤ c0) (h : slices_Contains_int_int.f k l0 a1 = some r) :
  Calls Try.prog 56 #[.slice A0 l0.length c0, .int .i64 a1] w fun e w' => e = .returned (.bool r) ∧ Drawn0 w w' := by
 have HR0 := Aside0.mk hr0
 have HC0 := Aside0.mk hc0
 clear hr0 hc0
 have H : ((slices_Index_int_int.f k l0 a1).bind fun t342 => (some (decide (t342 ≥ 0)))) = some r := h
 clear h
 replace H := Option.bind_eq_some_iff.mp H
 obtain ⟨t342, A30, H⟩ := H
 replace H : (some (decide (t342 ≥ 0))) = some r := H
 have A3 := Aside0.mk A30
 clear A30
 obtain rfl := Option.some.inj H
 go_enter Try.func56, Try.ntmps56
 go_wp2_with (first | ((with_reducible refine gate_callee (f := 73) rfl ?_); refine goesL_ (some 7) rfl rfl Try.func73 (by kernel_rfl) rfl #[.slice A0 l0.length c0, .int .i64 a1] rfl zP ?_; (with_reducible refine (slices_Index_int_int.calls k _ _ l0 a1 t342 _ ?side1 ?side2 A3.out).mono ?_); (case side1 => repeat (first | exact HR0.out | (with_reducible refine Kd.C_alloc ?_ _) | (with_reducible refine Kd.C_drewN ?_ _) | (with_reducible refine Kd.C_drew ?_))); (case side2 => exact HC0.out); rintro e w' ⟨rfl, ⟨nd, rfl⟩⟩; refine ⟨_, rfl, ?_⟩))
 go_ret
 exact ⟨by first | rfl | (simp; done) | (simp [*]; done), by repeat (first | exact Drawn0.refl _ | apply Drawn0.step)⟩

end Go.Proofs.Ytnjnjajgpkmfhaa.PX

namespace Go.Proofs.Ytnjnjajgpkmfhaa.PX
open Go.RowKit Go.Proofs.YtnjnjajgpkmfhaaW.PrintWords Go.Proofs.YtnjnjajgpkmfhaaW.PrintLast Go.Proofs.YtnjnjajgpkmfhaaW.PrintMore
attribute [local go_sem] max2_int min2_int max_two min_two max_three min_three max_four min_four   -- for this text's walks alone
set_option linter.unusedVariables false
set_option linter.unusedSimpArgs false

/-! ### line_joined: function 74 -/
def line_joined.l0 : Nat → List Int → List (List Int) → Int → Int → Option (List Int)
 | 0, _, _, _, _ => none
 | k + 1, x3, x6, x7, x8 => if x8 < x7 then (if 0 ≤ x8 then (if x8 < (x6.length : Int) then (if x3.length + (rd_L1 x6 x8).length < 17592186044416 then (line_joined.l0 k (x3 ++ (rd_L1 x6 x8)) x6 x7 (wrap64 (x8 + 1))) else (none)) else (none)) else (none)) else (some x3)
def line_joined.f (k : Nat) (l0 : List (List Int)) : Option (List Int) := line_joined.l0 k ([] : List Int) l0 (l0.length : Int) 0
theorem line_joined.mono_l : ∀ k, (∀ y0 y1 y2 y3, LeO (line_joined.l0 k y0 y1 y2 y3) (line_joined.l0 (k + 1) y0 y1 y2 y3))
 | 0 => fun _ _ _ _ r h => by simp [line_joined.l0] at h
 | k + 1 => by
  have ih0 := line_joined.mono_l k
  ·intro y0 y1 y2 y3
   unfold line_joined.l0
   repeat' first
   | (with_reducible exact ih0 _ _ _ _)
   | (with_reducible exact LeO.refl _)
   | (with_reducible exact LeO.none _)
   | (with_reducible refine LeO.ite ?_ ?_)
   | (with_reducible refine LeO.bind ?_ (fun _ => ?_))
   | exact ih0 _ _ _ _
   | exact LeO.none _
   | refine LeO.ite ?_ ?_
   | refine LeO.bind ?_ (fun _ => ?_)
theorem line_joined.mono : ∀ a0 k, LeO (line_joined.f k a0) (line_joined.f (k + 1) a0) := by
 intro a0 k
 have ih0 := line_joined.mono_l k
 unfold line_joined.f
 repeat' first
   | (with_reducible exact ih0 _ _ _ _)
   | (with_reducible exact LeO.refl _)
   | (with_reducible exact LeO.none _)
   | (with_reducible refine LeO.ite ?_ ?_)
   | (with_reducible refine LeO.bind ?_ (fun _ => ?_))
   | exact ih0 _ _ _ _
   | exact LeO.none _
   | refine LeO.ite ?_ ?_
   | refine LeO.bind ?_ (fun _ => ?_)
set_option maxHeartbeats 8000000 in
set_option maxRecDepth 100000 in
theorem line_joined.calls (k : Nat) (A0 : Option Addr) (c0 : Nat) (l0 : List (List Int)) (r : List Int) (w : World) (hr0 : Kd.C (Kd.slice 3 (Kd.int .i64)) w A0 l0.length l0) (hc0 : l0.length ≤ c0) (h : line_joined.f k l0 = some r) :
  Calls Try.prog 74 #[.slice A0 l0.length c0] w fun e w' => ∃ v0_ : Value, e = .returned (v0_) ∧ Kd.R (Kd.int .i64) 3 w' w.heap.size (fun _ => True) v0_ r ∧ Below w.heap.size w w' := by
 have HR0 := Aside0.mk hr0
 have HC0 := Aside0.mk hc0
 clear hr0 hc0
 have HB := Aside0.mk (Below.refl w.heap.size w)
 have H : (line_joined.l0 k ([] : List Int) l0 (l0.length : Int) 0) = some r := h
 clear h
 have H' := Aside0.mk H
 clear H
 go_enter Try.func74, Try.ntmps74
 go_wp2
 go_loopg [3, 8] k (fun kq v3 v8 w' => ∃ (x3_1 : List Int) (x8_1 : Int), v8 = .int .i64 x8_1 ∧ Aside0 (line_joined.l0 kq x3_1 l0 (l0.length : Int) x8_1 = some r) ∧ Aside0 (kq ≤ k) ∧ Aside0 (Kd.R (Kd.int .i64) 3 w' w.heap.size (fun _ => True) v3 x3_1) ∧ Aside0 (Below w.heap.size w w'))
 case atStart => exact ⟨(([] : List Int)), (0), (by first | rfl | (simp; done) | (simp [*]; done)), H', ⟨Nat.le_refl _⟩, ⟨by first | exact Kd.R_nil _ _ _ _ _ | exact Kd.N_nil _ _ _ _ _ | exact Kd.V_nil _ _ _ _ _ | exact Kd.Q_nil _ _ _ _ _ | exact Kd.S_nil _ _ _ _ _⟩, ⟨zB HB⟩⟩
 case round =>
  clear H'
  obtain ⟨x3_1, x8_1, rfl, HA, HK1, HO_3, HB⟩ := hrel
  cases gk with
  | zero => exact absurd HA.out (by simp [line_joined.l0])
  | succ k1 =>
   have H := HA.out
   clear HA
   simp only [line_joined.l0] at H
   by_cases c2 : x8_1 < (l0.length : Int)
   ·rw [if_pos c2] at H
    have c2b0 : decide (x8_1 < (l0.length : Int)) = true := decide_eq_true c2
    clear c2
    by_cases c3 : 0 ≤ x8_1
    ·rw [if_pos c3] at H
     have c3b0 : decide (0 ≤ x8_1) = true := decide_eq_true c3
     clear c3
     by_cases c4 : x8_1 < (l0.length : Int)
     ·rw [if_pos c4] at H
      have c4b0 : decide (x8_1 < (l0.length : Int)) = true := decide_eq_true c4
      clear c4
      by_cases c5 : x3_1.length + (rd_L1 l0 x8_1).length < 17592186044416
      ·rw [if_pos c5] at H
       have LMc5 := Aside0.mk c5
       clear c5
       obtain ⟨y344, hy344⟩ : ∃ y_ : List Int, y_ = (x3_1 ++ (rd_L1 l0 x8_1)) := ⟨_, rfl⟩
       replace H : (line_joined.l0 k1 y344 l0 (l0.length : Int) (wrap64 (x8_1 + 1))) = some r := by first | (rw [hy344]; with_reducible exact H) | (have H2_ := (Option.bind_some _ _).symm.trans H; rw [hy344]; with_reducible exact H2_) | (have H2_ := (Option.bind_some _ _).symm.trans H; with_reducible exact H2_) | with_reducible exact H | (rw [hy344]; exact H) | exact H
       have Ny344 := Aside0.mk hy344
       clear hy344
       have H' := Aside0.mk H
       clear H
       have p343 : 0 ≤ (x8_1 : Int) := of_decide_eq_true (by first | (with_reducible assumption) | assumption)
       have q343 : x8_1 < (l0.length : Int) := of_decide_eq_true (by first | (with_reducible assumption) | assumption)
       obtain ⟨ad343, A343_0, c343_0, e343, hx343_0, hl343_0, hi343_0⟩ := at_L1 HR0.out x8_1 p343 q343
       cases e343
       replace hx343_0 := (HB.out.cell (World.block_lt_of_cell? w _ hx343_0)).trans hx343_0
       have HR343_0 := Aside0.mk hi343_0
       have HC343_0 := Aside0.mk hl343_0
       clear hi343_0 hl343_0
       replace p343 := eq_true p343
       replace q343 := eq_true q343
       go_wp2_with (first | ((with_reducible refine gate_builtin (b := .append) (xs := #[.tmp 12, .tmp 13]) rfl ?_); at_builtin; refine Kd.R_append_rows (Kd.int .i64) (w0 := w) w.heap.size rfl (.tmp 12) (.tmp 13) 25 3 (.int .i64 0) 8 rfl Try.underlying25 info3 rfl (by decide) (by omega) u3 x3_1 (rd_L1 l0 x8_1) _ _ _ (fun _ => True) (fun _ => False) rfl rfl ?aO ?aR (fun _ _ h => h) (fun _ h => h.elim) ?aF ?aB ?aS ?aL ?_; (case aR => repeat (first | exact (Kd.C_below HR343_0.out HB.out) | (with_reducible refine Kd.C_alloc ?_ _) | (with_reducible refine Kd.C_drewN ?_ _) | (with_reducible refine Kd.C_drew ?_))); (case aB => exact (zB HB)); (case aF => exact (fun _ _ => trivial)); (case aO => exact (zR HO_3)); (case aS => exact (below_size (zB HB))); (case aL => have := LMc5.out; omega); intro v345 w6 ho hb hg hat; rw [← Ny344.out] at ho; have n0_ := Aside0.mk (hb); have n1_ := Aside0.mk (ho); clear HB; clear HO_3; have HB := n0_; have HO346 := n1_; clear n0_ n1_; clear ho hb hg hat))
       go_roundg k1
       case measure => have := HK1.out; omega
       case rel => exact ⟨(y344), (wrap64 (x8_1 + 1)), (by first | rfl | (simp; done) | (simp [*]; done)), H', ⟨by have := HK1.out; omega⟩, ⟨by (with_reducible repeat (first | apply Kd.R_alloc | apply Kd.R_drewN | apply Kd.R_drew)); exact HO346.out⟩, ⟨zB HB⟩⟩
      ·rw [if_neg c5] at H
       exact absurd H (by simp)
     ·rw [if_neg c4] at H
      exact absurd H (by simp)
    ·rw [if_neg c3] at H
     exact absurd H (by simp)
   ·rw [if_neg c2] at H
    have c2b0 : decide (x8_1 < (l0.length : Int)) = false := decide_eq_false c2
    clear c2
    obtain rfl := Option.some.inj H
    go_wp2
    go_ret
    exact ⟨_, by first | rfl | (simp [errW_none, errW_some] <;> rfl) | (simp [*, errW_none, errW_some] <;> rfl), by (with_reducible repeat (first | apply Kd.R_alloc | apply Kd.R_drewN | apply Kd.R_drew)); exact HO_3.out, zB HB⟩

end Go.Proofs.Ytnjnjajgpkmfhaa.PX

namespace Go.Proofs.Ytnjnjajgpkmfhaa.PX
open Go.RowKit Go.Proofs.YtnjnjajgpkmfhaaW.PrintWords Go.Proofs.YtnjnjajgpkmfhaaW.PrintLast Go.Proofs.YtnjnjajgpkmfhaaW.PrintMore
attribute [local go_sem] max2_int min2_int max_two min_two max_three min_three max_four min_four   -- for this text's walks alone
set_option linter.unusedVariables false
set_option linter.unusedSimpArgs false

/-! ### line_Push: function 57 -/
def line_Push.j0 : Nat → List Int → Int → Bool → Bool → Option (List Int × Int)
 | 0, _, _, _, _ => none
 | k + 1, x0, x1, x2, x8 => if x8 = true then (some (([] : List Int), 1)) else ((slices_Contains_int_int.f k x0 x1).bind fun t348 => (if t348 = true then (some (([] : List Int), 7)) else (if (x0.length : Int) = 64 then (some (([] : List Int), 5)) else (if x2 = true then ((line_joined.f k (([(([x1] : List Int)), x0] : List (List Int)))).bind fun t355 => (some (t355, 0))) else ((line_joined.f k (([x0, (([x1] : List Int))] : List (List Int)))).bind fun t364 => (some (t364, 0)))))))
def line_Push.f (k : Nat) (l0 : List Int) (a1 : Int) (a2 : Bool) : Option (List Int × Int) := (line_Right.f l0).bind fun t347 => (if t347 = true then (line_Push.j0 k l0 a1 a2 (decide (a1 < 0))) else (line_Push.j0 k l0 a1 a2 true))
theorem line_Push.mono_l : ∀ k, (∀ y0 y1 y2 y3, LeO (line_Push.j0 k y0 y1 y2 y3) (line_Push.j0 (k + 1) y0 y1 y2 y3))
 | 0 => fun _ _ _ _ r h => by simp [line_Push.j0] at h
 | k + 1 => by
  have ih0 := line_Push.mono_l k
  ·intro y0 y1 y2 y3
   unfold line_Push.j0
   repeat' first
   | (with_reducible exact ih0 _ _ _ _)
   | (with_reducible exact line_joined.mono _ _)
   | (with_reducible exact slices_Contains_int_int.mono _ _ _)
   | (with_reducible exact LeO.refl _)
   | (with_reducible exact LeO.none _)
   | (with_reducible refine LeO.ite ?_ ?_)
   | (with_reducible refine LeO.bind ?_ (fun _ => ?_))
   | exact ih0 _ _ _ _
   | exact line_joined.mono _ _
   | exact slices_Contains_int_int.mono _ _ _
   | exact LeO.none _
   | refine LeO.ite ?_ ?_
   | refine LeO.bind ?_ (fun _ => ?_)
theorem line_Push.mono : ∀ a0 a1 a2 k, LeO (line_Push.f k a0 a1 a2) (line_Push.f (k + 1) a0 a1 a2) := by
 intro a0 a1 a2 k
 have ih0 := line_Push.mono_l k
 unfold line_Push.f
 repeat' first
   | (with_reducible exact ih0 _ _ _ _)
   | (with_reducible exact line_joined.mono _ _)
   | (with_reducible exact slices_Contains_int_int.mono _ _ _)
   | (with_reducible exact LeO.refl _)
   | (with_reducible exact LeO.none _)
   | (with_reducible refine LeO.ite ?_ ?_)
   | (with_reducible refine LeO.bind ?_ (fun _ => ?_))
   | exact ih0 _ _ _ _
   | exact line_joined.mono _ _
   | exact slices_Contains_int_int.mono _ _ _
   | exact LeO.none _
   | refine LeO.ite ?_ ?_
   | refine LeO.bind ?_ (fun _ => ?_)
set_option maxHeartbeats 8000000 in
set_option maxRecDepth 100000 in
theorem line_Push.calls (k : Nat) (P0_ : Nat → Prop) (A0 : Option Addr) (c0 : Nat) (l0 : List Int) (a1 : Int) (a2 : Bool) (r1 : List Int) (r2 : Int) (w : World) (hs0 : Kd.V (Kd.int .i64) 3 w w.heap.size (fun k_ => P0_ k_) (.slice A0 l0.length c0) l0) (h : line_Push.f k l0 a1 a2 = some (r1, r2)) :
  Calls Try.prog 57 #[.slice A0 l0.length c0, .int .i64 a1, .bool a2] w fun e w' => ∃ v0_ : Value, e = .returned (.tuple #[v0_, .int .i64 r2]) ∧ Kd.R (Kd.int .i64) 3 w' w.heap.size (fun k_ => (w.heap.size ≤ k_)) v0_ r1 ∧ Below w.heap.size w w' := by
 have HO0 := Aside0.mk (show Kd.V (Kd.int .i64) 3 w w.heap.size (fun k_ => (P0_ k_ ∨ w.heap.size ≤ k_)) (.slice A0 l0.length c0) l0 from Kd.V_mono hs0 (fun k_ hk => .inl hk))
 have HB := Aside0.mk (Below.refl w.heap.size w)
 have H : ((line_Right.f l0).bind fun t347 => (if t347 = true then (line_Push.j0 k l0 a1 a2 (decide (a1 < 0))) else (line_Push.j0 k l0 a1 a2 true))) = some (r1, r2) := h
 clear h
 have HC4 := Aside0.mk H
 clear H
 go_enter Try.func57, Try.ntmps57
 go_upto_region 1 with (fail)
 go_cut [8] (fun v8 wc => ∃ (kq : Nat) (x8_3 : Bool), v8 = .bool x8_3 ∧ Aside0 (line_Push.j0 kq l0 a1 a2 x8_3 = some (r1, r2)) ∧ Aside0 (kq ≤ k) ∧ Aside0 (Kd.V (Kd.int .i64) 3 wc w.heap.size (fun k_ => (P0_ k_ ∨ w.heap.size ≤ k_)) (.slice A0 l0.length c0) l0) ∧ Aside0 (Below w.heap.size w wc))
 case first =>
  have H := HC4.out
  clear HC4
  replace H := Option.bind_eq_some_iff.mp H
  obtain ⟨t347, A50, H⟩ := H
  replace H : (if t347 = true then (line_Push.j0 k l0 a1 a2 (decide (a1 < 0))) else (line_Push.j0 k l0 a1 a2 true)) = some (r1, r2) := H
  have A5 := Aside0.mk A50
  clear A50
  by_cases c6 : t347 = true
  ·subst c6
   have H1 : (line_Push.j0 k l0 a1 a2 (decide (a1 < 0))) = some (r1, r2) := by rw [if_pos rfl] at H; exact H
   clear H
   have H := H1
   clear H1
   have H' := Aside0.mk H
   clear H
   go_wp2_with (first | ((with_reducible refine gate_callee (f := 61) rfl ?_); refine goesL_ (some 10) rfl rfl Try.func61 (by kernel_rfl) rfl #[.slice A0 l0.length c0] rfl zP ?_; (with_reducible refine (line_Right.calls _ _ l0 true _ ?side1 ?side2 A5.out).mono ?_); (case side1 => repeat (first | exact (Kd.V_reads' HO0.out).2.2 | (with_reducible refine Kd.C_alloc ?_ _) | (with_reducible refine Kd.C_drewN ?_ _) | (with_reducible refine Kd.C_drew ?_))); (case side2 => exact (Kd.V_reads' HO0.out).2.1); rintro e w7 ⟨rfl, hb⟩; refine ⟨_, rfl, ?_⟩; have n0_ := Aside0.mk (Kd.V_below (zV HO0) hb); have n1_ := Aside0.mk (below_step (zB HB) hb); clear HO0; clear HB; have HO0 := n0_; have HB := n1_; clear n0_ n1_; (try clear hb); (try clear hb2); (try clear hk); (try clear hi)))
   go_meet
   case rel => exact ⟨_, (decide (a1 < 0)), (by first | rfl | (simp; done) | (simp [*]; done)), H', ⟨by first | omega | exact Nat.le_refl _⟩, ⟨by (with_reducible repeat (first | apply Kd.V_alloc | apply Kd.V_drewN | apply Kd.V_drew)); exact HO0.out⟩, ⟨zB HB⟩⟩
  ·replace c6 := Bool.eq_false_iff.mpr c6
   subst c6
   have H1 : (line_Push.j0 k l0 a1 a2 true) = some (r1, r2) := by rw [if_neg (show ¬ (false = true) by decide)] at H; exact H
   clear H
   have H := H1
   clear H1
   have H' := Aside0.mk H
   clear H
   go_wp2_with (first | ((with_reducible refine gate_callee (f := 61) rfl ?_); refine goesL_ (some 10) rfl rfl Try.func61 (by kernel_rfl) rfl #[.slice A0 l0.length c0] rfl zP ?_; (with_reducible refine (line_Right.calls _ _ l0 false _ ?side1 ?side2 A5.out).mono ?_); (case side1 => repeat (first | exact (Kd.V_reads' HO0.out).2.2 | (with_reducible refine Kd.C_alloc ?_ _) | (with_reducible refine Kd.C_drewN ?_ _) | (with_reducible refine Kd.C_drew ?_))); (case side2 => exact (Kd.V_reads' HO0.out).2.1); rintro e w8 ⟨rfl, hb⟩; refine ⟨_, rfl, ?_⟩; have n0_ := Aside0.mk (Kd.V_below (zV HO0) hb); have n1_ := Aside0.mk (below_step (zB HB) hb); clear HO0; clear HB; have HO0 := n0_; have HB := n1_; clear n0_ n1_; (try clear hb); (try clear hb2); (try clear hk); (try clear hi)))
   go_meet
   case rel => exact ⟨_, (true), (by first | rfl | (simp; done) | (simp [*]; done)), H', ⟨by first | omega | exact Nat.le_refl _⟩, ⟨by (with_reducible repeat (first | apply Kd.V_alloc | apply Kd.V_drewN | apply Kd.V_drew)); exact HO0.out⟩, ⟨zB HB⟩⟩
 case rest =>
  clear HC4
  try clear p2
  try clear c5
  try clear c6
  obtain ⟨kq, x8_3, rfl, HA, HJ3, HO_0, HB⟩ := hcut
  cases kq with
  | zero => exact absurd HA.out (by simp [line_Push.j0])
  | succ kj3 =>
   have H := HA.out
   clear HA
   simp only [line_Push.j0] at H
   by_cases c9 : x8_3 = true
   ·subst c9
    have H1 : (some (([] : List Int), 1)) = some (r1, r2) := by rw [if_pos rfl] at H; exact H
    clear H
    have H := H1
    clear H1
    simp only [Option.some.injEq, Prod.mk.injEq] at H
    obtain ⟨rfl, rfl⟩ := H
    go_wp2
    go_ret2
    exact ⟨_, by first | rfl | (simp [errW_none, errW_some] <;> rfl) | (simp [*, errW_none, errW_some] <;> rfl), by first | exact Kd.R_nil _ _ _ _ _ | exact Kd.N_nil _ _ _ _ _ | exact Kd.V_nil _ _ _ _ _ | exact Kd.Q_nil _ _ _ _ _ | exact Kd.S_nil _ _ _ _ _, zB HB⟩
   ·replace c9 := Bool.eq_false_iff.mpr c9
    subst c9
    have H1 : ((slices_Contains_int_int.f kj3 l0 a1).bind fun t348 => (if t348 = true then (some (([] : List Int), 7)) else (if (l0.length : Int) = 64 then (some (([] : List Int), 5)) else (if a2 = true then ((line_joined.f kj3 (([(([a1] : List Int)), l0] : List (List Int)))).bind fun t355 => (some (t355, 0))) else ((line_joined.f kj3 (([l0, (([a1] : List Int))] : List (List Int)))).bind fun t364 => (some (t364, 0))))))) = some (r1, r2) := by rw [if_neg (show ¬ (false = true) by decide)] at H; exact H
    clear H
    have H := H1
    clear H1
    replace H := Option.bind_eq_some_iff.mp H
    obtain ⟨t348, A100, H⟩ := H
    replace H : (if t348 = true then (some (([] : List Int), 7)) else (if (l0.length : Int) = 64 then (some (([] : List Int), 5)) else (if a2 = true then ((line_joined.f kj3 (([(([a1] : List Int)), l0] : List (List Int)))).bind fun t355 => (some (t355, 0))) else ((line_joined.f kj3 (([l0, (([a1] : List Int))] : List (List Int)))).bind fun t364 => (some (t364, 0)))))) = some (r1, r2) := H
    have A10 := Aside0.mk A100
    clear A100
    by_cases c11 : t348 = true
    ·subst c11
     have H1 : (some (([] : List Int), 7)) = some (r1, r2) := by rw [if_pos rfl] at H; exact H
     clear H
     have H := H1
     clear H1
     simp only [Option.some.injEq, Prod.mk.injEq] at H
     obtain ⟨rfl, rfl⟩ := H
     go_wp2_with (first | ((with_reducible refine gate_callee (f := 56) rfl ?_); refine goesL_ (some 19) rfl rfl Try.func56 (by kernel_rfl) rfl #[.slice A0 l0.length c0, .int .i64 a1] rfl zP ?_; (with_reducible refine (slices_Contains_int_int.calls kj3 _ _ l0 a1 true _ ?side1 ?side2 A10.out).mono ?_); (case side1 => repeat (first | exact (Kd.V_reads' HO_0.out).2.2 | (with_reducible refine Kd.C_alloc ?_ _) | (with_reducible refine Kd.C_drewN ?_ _) | (with_reducible refine Kd.C_drew ?_))); (case side2 => exact (Kd.V_reads' HO_0.out).2.1); rintro e w' ⟨rfl, ⟨nd, rfl⟩⟩; refine ⟨_, rfl, ?_⟩))
     go_ret2
     exact ⟨_, by first | rfl | (simp [errW_none, errW_some] <;> rfl) | (simp [*, errW_none, errW_some] <;> rfl), by first | exact Kd.R_nil _ _ _ _ _ | exact Kd.N_nil _ _ _ _ _ | exact Kd.V_nil _ _ _ _ _ | exact Kd.Q_nil _ _ _ _ _ | exact Kd.S_nil _ _ _ _ _, zB HB⟩
    ·replace c11 := Bool.eq_false_iff.mpr c11
     subst c11
     have H1 : (if (l0.length : Int) = 64 then (some (([] : List Int), 5)) else (if a2 = true then ((line_joined.f kj3 (([(([a1] : List Int)), l0] : List (List Int)))).bind fun t355 => (some (t355, 0))) else ((line_joined.f kj3 (([l0, (([a1] : List Int))] : List (List Int)))).bind fun t364 => (some (t364, 0))))) = some (r1, r2) := by rw [if_neg (show ¬ (false = true) by decide)] at H; exact H
     clear H
     have H := H1
     clear H1
     by_cases c12 : (l0.length : Int) = 64
     ·rw [if_pos c12] at H
      have c12b0 : ((l0.length : Int) == 64) = true := beq_iff_eq.mpr c12
      have c12b1 : ((l0.length : Int) != 64) = false := bne_eq_false_iff_eq.mpr c12
      clear c12
      simp only [Option.some.injEq, Prod.mk.injEq] at H
      obtain ⟨rfl, rfl⟩ := H
      go_wp2_with (first | ((with_reducible refine gate_callee (f := 56) rfl ?_); refine goesL_ (some 19) rfl rfl Try.func56 (by kernel_rfl) rfl #[.slice A0 l0.length c0, .int .i64 a1] rfl zP ?_; (with_reducible refine (slices_Contains_int_int.calls kj3 _ _ l0 a1 false _ ?side1 ?side2 A10.out).mono ?_); (case side1 => repeat (first | exact (Kd.V_reads' HO_0.out).2.2 | (with_reducible refine Kd.C_alloc ?_ _) | (with_reducible refine Kd.C_drewN ?_ _) | (with_reducible refine Kd.C_drew ?_))); (case side2 => exact (Kd.V_reads' HO_0.out).2.1); rintro e w' ⟨rfl, ⟨nd, rfl⟩⟩; refine ⟨_, rfl, ?_⟩))
      go_ret2
      exact ⟨_, by first | rfl | (simp [errW_none, errW_some] <;> rfl) | (simp [*, errW_none, errW_some] <;> rfl), by first | exact Kd.R_nil _ _ _ _ _ | exact Kd.N_nil _ _ _ _ _ | exact Kd.V_nil _ _ _ _ _ | exact Kd.Q_nil _ _ _ _ _ | exact Kd.S_nil _ _ _ _ _, zB HB⟩
     ·rw [if_neg c12] at H
      have c12b0 : ((l0.length : Int) == 64) = false := beq_eq_false_iff_ne.mpr c12
      have c12b1 : ((l0.length : Int) != 64) = true := bne_iff_ne.mpr c12
      by_cases c13 : a2 = true
      ·subst c13
       have H1 : ((line_joined.f kj3 (([(([a1] : List Int)), l0] : List (List Int)))).bind fun t355 => (some (t355, 0))) = some (r1, r2) := by rw [if_pos rfl] at H; exact H
       clear H
       have H := H1
       clear H1
       obtain ⟨y349, hy349⟩ : ∃ y_ : List Int, y_ = (([a1] : List Int)) := ⟨_, rfl⟩
       replace H : ((line_joined.f kj3 (([y349, l0] : List (List Int)))).bind fun t355 => (some (t355, 0))) = some (r1, r2) := by first | (rw [hy349]; with_reducible exact H) | (have H2_ := (Option.bind_some _ _).symm.trans H; rw [hy349]; with_reducible exact H2_) | (have H2_ := (Option.bind_some _ _).symm.trans H; with_reducible exact H2_) | with_reducible exact H | (rw [hy349]; exact H) | exact H
       have Ny349 := Aside0.mk hy349
       clear hy349
       obtain ⟨y352, hy352⟩ : ∃ y_ : List (List Int), y_ = (([y349, l0] : List (List Int))) := ⟨_, rfl⟩
       replace H : ((line_joined.f kj3 y352).bind fun t355 => (some (t355, 0))) = some (r1, r2) := by first | (rw [hy352]; with_reducible exact H) | (have H2_ := (Option.bind_some _ _).symm.trans H; rw [hy352]; with_reducible exact H2_) | (have H2_ := (Option.bind_some _ _).symm.trans H; with_reducible exact H2_) | with_reducible exact H | (rw [hy352]; exact H) | exact H
       have Ny352 := Aside0.mk hy352
       clear hy352
       replace H := Option.bind_eq_some_iff.mp H
       obtain ⟨t355, A140, H⟩ := H
       replace H : (some (t355, 0)) = some (r1, r2) := H
       have A14 := Aside0.mk A140
       clear A140
       simp only [Option.some.injEq, Prod.mk.injEq] at H
       obtain ⟨rfl, rfl⟩ := H
       go_wp2_with (first | ((with_reducible refine gate_callee (f := 56) rfl ?_); refine goesL_ (some 19) rfl rfl Try.func56 (by kernel_rfl) rfl #[.slice A0 l0.length c0, .int .i64 a1] rfl zP ?_; (with_reducible refine (slices_Contains_int_int.calls kj3 _ _ l0 a1 false _ ?side1 ?side2 A10.out).mono ?_); (case side1 => repeat (first | exact (Kd.V_reads' HO_0.out).2.2 | (with_reducible refine Kd.C_alloc ?_ _) | (with_reducible refine Kd.C_drewN ?_ _) | (with_reducible refine Kd.C_drew ?_))); (case side2 => exact (Kd.V_reads' HO_0.out).2.1); rintro e w' ⟨rfl, ⟨nd, rfl⟩⟩; refine ⟨_, rfl, ?_⟩) | ((with_reducible refine gate_dst (N := 27) rfl ?_); refine Kd.R_lit (Kd.int .i64) _ 3 ?hg (N := 27) ?hd (xs := ([a1] : List Int)) (inner := [.int .i64 a1]) (ok := fun _ => True) (okp := fun _ => True) ?hr ?hp (fun _ hk => hk) trivial (Below.refl _ _) (Nat.le_refl _) (by simp) ?_; (case hd => rfl); (case hg => rfl); (case hr => first | (go_simp; done) | (go_simp; rfl)); (case hp => exact (Reps.one (show Kd.M (Kd.int .i64) _ _ _ a1 [.int .i64 a1] from rfl) (Reps.none _ _))); intro v350 w15 ho16 hb hg_ hnew_; clear hg_ hnew_; (first | rw [← Ny349.out] at ho16 | (simp only [Int.reduceToNat] at ho16; rw [← Ny349.out] at ho16)); have n0_ := Aside0.mk (Kd.V_elder' (zV HO_0) (Kd.R_base ho16) hb); have n1_ := Aside0.mk (Kd.R_lower (Kd.R_newM (M := fun k_ => (w.heap.size ≤ k_)) ho16 (below_size (zB HB)) (fun k_ h_ => h_)) (below_size (zB HB))); have n2_ := Aside0.mk (below_step (zB HB) hb); clear HO_0; clear HB; have HO_0 := n0_; have HO351 := n1_; have HB := n2_; clear n0_ n1_ n2_; clear hb ho16; obtain ⟨Ao17, co17, eo17⟩ := Kd.R_slice HO351.out; subst eo17) | ((with_reducible refine gate_dst (N := 29) rfl ?_); refine Kd.N_lit (Kd.slice 3 (Kd.int .i64)) _ 25 ?hg (N' := 29) ?hd (xs := ([y349, l0] : List (List Int))) (inner := [.slice Ao17 y349.length co17, .slice A0 l0.length c0]) (ok := (fun k_ => (P0_ k_ ∨ w.heap.size ≤ k_))) (okp := (fun k_ => (P0_ k_ ∨ w.heap.size ≤ k_))) ?hr ?hp (fun _ hk => hk) ((show ∀ k_, w15.heap.size ≤ k_ → (fun k_ => (P0_ k_ ∨ w.heap.size ≤ k_)) k_ from fun k_ hk => (.inr (Nat.le_trans (below_size (zB HB)) hk))) _ (Nat.le_refl _)) (Below.refl _ _) (Nat.le_refl _) (by simp) ?_; (case hd => rfl); (case hg => rfl); (case hr => first | (go_simp; done) | (go_simp; rfl)); (case hp => exact (Reps.one (show Kd.FK (Kd.slice 3 (Kd.int .i64)) _ _ y349 [.slice Ao17 y349.length co17] from (Kd.FK_slice_mk (Kd.R_reads' (Kd.R_mono (ok' := (fun k_ => (P0_ k_ ∨ w.heap.size ≤ k_))) (HO351.out) (fun k_ hk => (.inr (hk.1))))).2.1 (Kd.R_F (Kd.R_mono (ok' := (fun k_ => (P0_ k_ ∨ w.heap.size ≤ k_))) (HO351.out) (fun k_ hk => (.inr (hk.1))))))) (Reps.one (show Kd.FK (Kd.slice 3 (Kd.int .i64)) _ _ l0 [.slice A0 l0.length c0] from (Kd.FK_slice_mk (Kd.V_reads' (Kd.V_mono (ok' := (fun k_ => (P0_ k_ ∨ w.heap.size ≤ k_))) (HO_0.out) (fun k_ hk => hk.1))).2.1 (Kd.V_F (Kd.V_mono (ok' := (fun k_ => (P0_ k_ ∨ w.heap.size ≤ k_))) (HO_0.out) (fun k_ hk => hk.1))))) (Reps.none _ _)))); intro v353 w18 ho19 hb hg_ hnew_; clear hg_ hnew_; (first | rw [← Ny352.out] at ho19 | (simp only [Int.reduceToNat] at ho19; rw [← Ny352.out] at ho19)); have n0_ := Aside0.mk (Kd.V_elder' (zV HO_0) (Kd.N_base ho19) hb); have n1_ := Aside0.mk (Kd.N_lower ho19 (below_size (zB HB))); have n2_ := Aside0.mk (below_step (zB HB) hb); clear HO_0; clear HB; clear HO351; have HO_0 := n0_; have HO354 := n1_; have HB := n2_; clear n0_ n1_ n2_; clear hb ho19; obtain ⟨Ao20, co20, eo20⟩ := Kd.N_slice HO354.out; subst eo20) | ((with_reducible refine gate_callee (f := 74) rfl ?_); refine goesL_ (some 30) rfl rfl Try.func74 (by kernel_rfl) rfl #[.slice Ao20 y352.length co20] rfl zP ?_; (with_reducible refine (line_joined.calls kj3 _ _ y352 t355 _ ?side1 ?side2 A14.out).mono ?_); (case side1 => repeat (first | exact (Kd.N_reads' HO354.out).2.2 | (with_reducible refine Kd.C_alloc ?_ _) | (with_reducible refine Kd.C_drewN ?_ _) | (with_reducible refine Kd.C_drew ?_))); (case side2 => exact (Kd.N_reads' HO354.out).2.1); rintro e w21 ⟨v356, rfl, ho0, hb⟩; refine ⟨_, rfl, ?_⟩; have n0_ := Aside0.mk (Kd.V_elder' (zV HO_0) (Kd.R_base ho0) hb); have n1_ := Aside0.mk (Kd.N_elder' (zN HO354) (Kd.R_base ho0) hb); have n2_ := Aside0.mk (Kd.R_lower (Kd.R_newM (M := fun k_ => (w.heap.size ≤ k_)) ho0 (below_size (zB HB)) (fun k_ h_ => h_)) (below_size (zB HB))); have n3_ := Aside0.mk (below_step (zB HB) hb); clear HO_0; clear HO354; clear HB; have HO_0 := n0_; have HO354 := n1_; have HO357 := n2_; have HB := n3_; clear n0_ n1_ n2_ n3_; (try clear hb); (try clear hb2); (try clear hk); (try clear hi); (try clear ho0)))
       go_ret2
       exact ⟨_, by first | rfl | (simp [errW_none, errW_some] <;> rfl) | (simp [*, errW_none, errW_some] <;> rfl), by (with_reducible repeat (first | apply Kd.R_alloc | apply Kd.R_drewN | apply Kd.R_drew)); exact Kd.R_mono HO357.out (fun _ hk => hk.1), zB HB⟩
      ·replace c13 := Bool.eq_false_iff.mpr c13
       subst c13
       have H1 : ((line_joined.f kj3 (([l0, (([a1] : List Int))] : List (List Int)))).bind fun t364 => (some (t364, 0))) = some (r1, r2) := by rw [if_neg (show ¬ (false = true) by decide)] at H; exact H
       clear H
       have H := H1
       clear H1
       obtain ⟨y358, hy358⟩ : ∃ y_ : List Int, y_ = (([a1] : List Int)) := ⟨_, rfl⟩
       replace H : ((line_joined.f kj3 (([l0, y358] : List (List Int)))).bind fun t364 => (some (t364, 0))) = some (r1, r2) := by first | (rw [hy358]; with_reducible exact H) | (have H2_ := (Option.bind_some _ _).symm.trans H; rw [hy358]; with_reducible exact H2_) | (have H2_ := (Option.bind_some _ _).symm.trans H; with_reducible exact H2_) | with_reducible exact H | (rw [hy358]; exact H) | exact H
       have Ny358 := Aside0.mk hy358
       clear hy358
       obtain ⟨y361, hy361⟩ : ∃ y_ : List (List Int), y_ = (([l0, y358] : List (List Int))) := ⟨_, rfl⟩
       replace H : ((line_joined.f kj3 y361).bind fun t364 => (some (t364, 0))) = some (r1, r2) := by first | (rw [hy361]; with_reducible exact H) | (have H2_ := (Option.bind_some _ _).symm.trans H; rw [hy361]; with_reducible exact H2_) | (have H2_ := (Option.bind_some _ _).symm.trans H; with_reducible exact H2_) | with_reducible exact H | (rw [hy361]; exact H) | exact H
       have Ny361 := Aside0.mk hy361
       clear hy361
       replace H := Option.bind_eq_some_iff.mp H
       obtain ⟨t364, A220, H⟩ := H
       replace H : (some (t364, 0)) = some (r1, r2) := H
       have A22 := Aside0.mk A220
       clear A220
       simp only [Option.some.injEq, Prod.mk.injEq] at H
       obtain ⟨rfl, rfl⟩ := H
       go_wp2_with (first | ((with_reducible refine gate_callee (f := 56) rfl ?_); refine goesL_ (some 19) rfl rfl Try.func56 (by kernel_rfl) rfl #[.slice A0 l0.length c0, .int .i64 a1] rfl zP ?_; (with_reducible refine (slices_Contains_int_int.calls kj3 _ _ l0 a1 false _ ?side1 ?side2 A10.out).mono ?_); (case side1 => repeat (first | exact (Kd.V_reads' HO_0.out).2.2 | (with_reducible refine Kd.C_alloc ?_ _) | (with_reducible refine Kd.C_drewN ?_ _) | (with_reducible refine Kd.C_drew ?_))); (case side2 => exact (Kd.V_reads' HO_0.out).2.1); rintro e w' ⟨rfl, ⟨nd, rfl⟩⟩; refine ⟨_, rfl, ?_⟩) | ((with_reducible refine gate_dst (N := 33) rfl ?_); refine Kd.R_lit (Kd.int .i64) _ 3 ?hg (N := 33) ?hd (xs := ([a1] : List Int)) (inner := [.int .i64 a1]) (ok := fun _ => True) (okp := fun _ => True) ?hr ?hp (fun _ hk => hk) trivial (Below.refl _ _) (Nat.le_refl _) (by simp) ?_; (case hd => rfl); (case hg => rfl); (case hr => first | (go_simp; done) | (go_simp; rfl)); (case hp => exact (Reps.one (show Kd.M (Kd.int .i64) _ _ _ a1 [.int .i64 a1] from rfl) (Reps.none _ _))); intro v359 w23 ho24 hb hg_ hnew_; clear hg_ hnew_; (first | rw [← Ny358.out] at ho24 | (simp only [Int.reduceToNat] at ho24; rw [← Ny358.out] at ho24)); have n0_ := Aside0.mk (Kd.V_elder' (zV HO_0) (Kd.R_base ho24) hb); have n1_ := Aside0.mk (Kd.R_lower (Kd.R_newM (M := fun k_ => (w.heap.size ≤ k_)) ho24 (below_size (zB HB)) (fun k_ h_ => h_)) (below_size (zB HB))); have n2_ := Aside0.mk (below_step (zB HB) hb); clear HO_0; clear HB; have HO_0 := n0_; have HO360 := n1_; have HB := n2_; clear n0_ n1_ n2_; clear hb ho24; obtain ⟨Ao25, co25, eo25⟩ := Kd.R_slice HO360.out; subst eo25) | ((with_reducible refine gate_dst (N := 34) rfl ?_); refine Kd.N_lit (Kd.slice 3 (Kd.int .i64)) _ 25 ?hg (N' := 34) ?hd (xs := ([l0, y358] : List (List Int))) (inner := [.slice A0 l0.length c0, .slice Ao25 y358.length co25]) (ok := (fun k_ => (P0_ k_ ∨ w.heap.size ≤ k_))) (okp := (fun k_ => (P0_ k_ ∨ w.heap.size ≤ k_))) ?hr ?hp (fun _ hk => hk) ((show ∀ k_, w23.heap.size ≤ k_ → (fun k_ => (P0_ k_ ∨ w.heap.size ≤ k_)) k_ from fun k_ hk => (.inr (Nat.le_trans (below_size (zB HB)) hk))) _ (Nat.le_refl _)) (Below.refl _ _) (Nat.le_refl _) (by simp) ?_; (case hd => rfl); (case hg => rfl); (case hr => first | (go_simp; done) | (go_simp; rfl)); (case hp => exact (Reps.one (show Kd.FK (Kd.slice 3 (Kd.int .i64)) _ _ l0 [.slice A0 l0.length c0] from (Kd.FK_slice_mk (Kd.V_reads' (Kd.V_mono (ok' := (fun k_ => (P0_ k_ ∨ w.heap.size ≤ k_))) (HO_0.out) (fun k_ hk => hk.1))).2.1 (Kd.V_F (Kd.V_mono (ok' := (fun k_ => (P0_ k_ ∨ w.heap.size ≤ k_))) (HO_0.out) (fun k_ hk => hk.1))))) (Reps.one (show Kd.FK (Kd.slice 3 (Kd.int .i64)) _ _ y358 [.slice Ao25 y358.length co25] from (Kd.FK_slice_mk (Kd.R_reads' (Kd.R_mono (ok' := (fun k_ => (P0_ k_ ∨ w.heap.size ≤ k_))) (HO360.out) (fun k_ hk => (.inr (hk.1))))).2.1 (Kd.R_F (Kd.R_mono (ok' := (fun k_ => (P0_ k_ ∨ w.heap.size ≤ k_))) (HO360.out) (fun k_ hk => (.inr (hk.1))))))) (Reps.none _ _)))); intro v362 w26 ho27 hb hg_ hnew_; clear hg_ hnew_; (first | rw [← Ny361.out] at ho27 | (simp only [Int.reduceToNat] at ho27; rw [← Ny361.out] at ho27)); have n0_ := Aside0.mk (Kd.V_elder' (zV HO_0) (Kd.N_base ho27) hb); have n1_ := Aside0.mk (Kd.N_lower ho27 (below_size (zB HB))); have n2_ := Aside0.mk (below_step (zB HB) hb); clear HO_0; clear HB; clear HO360; have HO_0 := n0_; have HO363 := n1_; have HB := n2_; clear n0_ n1_ n2_; clear hb ho27; obtain ⟨Ao28, co28, eo28⟩ := Kd.N_slice HO363.out; subst eo28) | ((with_reducible refine gate_callee (f := 74) rfl ?_); refine goesL_ (some 35) rfl rfl Try.func74 (by kernel_rfl) rfl #[.slice Ao28 y361.length co28] rfl zP ?_; (with_reducible refine (line_joined.calls kj3 _ _ y361 t364 _ ?side1 ?side2 A22.out).mono ?_); (case side1 => repeat (first | exact (Kd.N_reads' HO363.out).2.2 | (with_reducible refine Kd.C_alloc ?_ _) | (with_reducible refine Kd.C_drewN ?_ _) | (with_reducible refine Kd.C_drew ?_))); (case side2 => exact (Kd.N_reads' HO363.out).2.1); rintro e w29 ⟨v365, rfl, ho0, hb⟩; refine ⟨_, rfl, ?_⟩; have n0_ := Aside0.mk (Kd.V_elder' (zV HO_0) (Kd.R_base ho0) hb); have n1_ := Aside0.mk (Kd.N_elder' (zN HO363) (Kd.R_base ho0) hb); have n2_ := Aside0.mk (Kd.R_lower (Kd.R_newM (M := fun k_ => (w.heap.size ≤ k_)) ho0 (below_size (zB HB)) (fun k_ h_ => h_)) (below_size (zB HB))); have n3_ := Aside0.mk (below_step (zB HB) hb); clear HO_0; clear HO363; clear HB; have HO_0 := n0_; have HO363 := n1_; have HO366 := n2_; have HB := n3_; clear n0_ n1_ n2_ n3_; (try clear hb); (try clear hb2); (try clear hk); (try clear hi); (try clear ho0)))
       go_ret2
       exact ⟨_, by first | rfl | (simp [errW_none, errW_some] <;> rfl) | (simp [*, errW_none, errW_some] <;> rfl), by (with_reducible repeat (first | apply Kd.R_alloc | apply Kd.R_drewN | apply Kd.R_drew)); exact Kd.R_mono HO366.out (fun _ hk => hk.1), zB HB⟩

end Go.Proofs.Ytnjnjajgpkmfhaa.PX

namespace Go.Proofs.Ytnjnjajgpkmfhaa.PX
open Go.RowKit Go.Proofs.YtnjnjajgpkmfhaaW.PrintWords Go.Proofs.YtnjnjajgpkmfhaaW.PrintLast Go.Proofs.YtnjnjajgpkmfhaaW.PrintMore
attribute [local go_sem] max2_int min2_int max_two min_two max_three min_three max_four min_four   -- for this text's walks alone
set_option linter.unusedVariables false
set_option linter.unusedSimpArgs false

/-! ### sema_Acquire: function 30 -/
def sema_Acquire.j0 : Nat → List (S33) → Int → Bool → Bool → Int → Int → List Int → Option ((List (S33)) × Bool × Int)
 | 0, _, _, _, _, _, _, _ => none
 | k + 1, x0, x2, x3, x25, x374000, x374001, x374002 => if x25 = true then (some (([] : List (S33)), false, 1)) else ((slices_Contains_int_int.f k x374002 x2).bind fun t374 => (if t374 = true then (some (([] : List (S33)), false, 7)) else (if x374001 > 0 then ((root_Set.f x0 x374000 (wrap64 (x374001 - 1)) x374002).bind fun bt375 => (if bt375.2 = 0 then (some (bt375.1, decide (x374001 > 0), 0)) else (some (([] : List (S33)), false, bt375.2)))) else ((line_Push.f k x374002 x2 x3).bind fun bt379 => (if bt379.2 = 0 then ((root_Set.f x0 x374000 x374001 bt379.1).bind fun bt383 => (if bt383.2 = 0 then (some (bt383.1, decide (x374001 > 0), 0)) else (some (([] : List (S33)), false, bt383.2)))) else (some (([] : List (S33)), false, bt379.2)))))))
def sema_Acquire.f (k : Nat) (l0 : List (S33)) (a1 : Int) (a2 : Int) (a3 : Bool) : Option ((List (S33)) × Bool × Int) := (root_Get.f l0 a1).bind fun bt367 => (if bt367.2.2.2 = 0 then (sema_Acquire.j0 k l0 a2 a3 (decide (a2 < 0)) bt367.1 bt367.2.1 bt367.2.2.1) else (sema_Acquire.j0 k l0 a2 a3 true bt367.1 bt367.2.1 bt367.2.2.1))
theorem sema_Acquire.mono_l : ∀ k, (∀ y0 y1 y2 y3 y4 y5 y6, LeO (sema_Acquire.j0 k y0 y1 y2 y3 y4 y5 y6) (sema_Acquire.j0 (k + 1) y0 y1 y2 y3 y4 y5 y6))
 | 0 => fun _ _ _ _ _ _ _ r h => by simp [sema_Acquire.j0] at h
 | k + 1 => by
  have ih0 := sema_Acquire.mono_l k
  ·intro y0 y1 y2 y3 y4 y5 y6
   unfold sema_Acquire.j0
   repeat' first
   | (with_reducible exact ih0 _ _ _ _ _ _ _)
   | (with_reducible exact line_Push.mono _ _ _ _)
   | (with_reducible exact slices_Contains_int_int.mono _ _ _)
   | (with_reducible exact LeO.refl _)
   | (with_reducible exact LeO.none _)
   | (with_reducible refine LeO.ite ?_ ?_)
   | (with_reducible refine LeO.bind ?_ (fun _ => ?_))
   | exact ih0 _ _ _ _ _ _ _
   | exact line_Push.mono _ _ _ _
   | exact slices_Contains_int_int.mono _ _ _
   | exact LeO.none _
   | refine LeO.ite ?_ ?_
   | refine LeO.bind ?_ (fun _ => ?_)
theorem sema_Acquire.mono : ∀ a0 a1 a2 a3 k, LeO (sema_Acquire.f k a0 a1 a2 a3) (sema_Acquire.f (k + 1) a0 a1 a2 a3) := by
 intro a0 a1 a2 a3 k
 have ih0 := sema_Acquire.mono_l k
 unfold sema_Acquire.f
 repeat' first
   | (with_reducible exact ih0 _ _ _ _ _ _ _)
   | (with_reducible exact line_Push.mono _ _ _ _)
   | (with_reducible exact slices_Contains_int_int.mono _ _ _)
   | (with_reducible exact LeO.refl _)
   | (with_reducible exact LeO.none _)
   | (with_reducible refine LeO.ite ?_ ?_)
   | (with_reducible refine LeO.bind ?_ (fun _ => ?_))
   | exact ih0 _ _ _ _ _ _ _
   | exact line_Push.mono _ _ _ _
   | exact slices_Contains_int_int.mono _ _ _
   | exact LeO.none _
   | refine LeO.ite ?_ ?_
   | refine LeO.bind ?_ (fun _ => ?_)
set_option maxHeartbeats 8000000 in
set_option maxRecDepth 100000 in
theorem sema_Acquire.calls (k : Nat) (P0_ : Nat → Prop) (A0 : Option Addr) (c0 : Nat) (l0 : List (S33)) (a1 : Int) (a2 : Int) (a3 : Bool) (r1 : List (S33)) (r2 : Bool) (r3 : Int) (w : World) (hs0 : Kd.V k33 33 w w.heap.size (fun k_ => P0_ k_) (.slice A0 l0.length c0) l0) (h : sema_Acquire.f k l0 a1 a2 a3 = some (r1, r2, r3)) :
  Calls Try.prog 30 #[.slice A0 l0.length c0, .int .i64 a1, .int .i64 a2, .bool a3] w fun e w' => ∃ v0_ : Value, e = .returned (.tuple #[v0_, .bool r2, .int .i64 r3]) ∧ Kd.V k33 33 w' w.heap.size (fun k_ => (P0_ k_ ∨ w.heap.size ≤ k_)) v0_ r1 ∧ Below w.heap.size w w' := by
 have hu33 := Try.underlying33
 have HO0 := Aside0.mk (show Kd.V k33 33 w w.heap.size (fun k_ => (P0_ k_ ∨ w.heap.size ≤ k_)) (.slice A0 l0.length c0) l0 from Kd.V_mono hs0 (fun k_ hk => .inl hk))
 have HB := Aside0.mk (Below.refl w.heap.size w)
 have H : ((root_Get.f l0 a1).bind fun bt367 => (if bt367.2.2.2 = 0 then (sema_Acquire.j0 k l0 a2 a3 (decide (a2 < 0)) bt367.1 bt367.2.1 bt367.2.2.1) else (sema_Acquire.j0 k l0 a2 a3 true bt367.1 bt367.2.1 bt367.2.2.1))) = some (r1, r2, r3) := h
 clear h
 replace H := Option.bind_eq_some_iff.mp H
 obtain ⟨⟨t367, t368, t369, t372⟩, A50, H⟩ := H
 replace H : (if t372 = 0 then (sema_Acquire.j0 k l0 a2 a3 (decide (a2 < 0)) t367 t368 t369) else (sema_Acquire.j0 k l0 a2 a3 true t367 t368 t369)) = some (r1, r2, r3) := H
 have A5 := Aside0.mk A50
 clear A50
 have HC6 := Aside0.mk H
 clear H
 go_enter Try.func30, Try.ntmps30
 go_upto_region 2 with (first | ((with_reducible refine gate_callee (f := 16) rfl ?_); refine goesL_ (some 17) rfl rfl Try.func16 (by kernel_rfl) rfl #[.slice A0 l0.length c0, .int .i64 a1] rfl zP ?_; (with_reducible refine (root_Get.calls (fun k_ => (P0_ k_ ∨ w.heap.size ≤ k_)) _ _ l0 a1 t367 t368 t369 t372 _ ?side1 A5.out).mono ?_); (case side1 => exact HO0.out); rintro e w7 ⟨v370, rfl, ho0, hb⟩; refine ⟨_, rfl, ?_⟩; have n0_ := Aside0.mk (Kd.V_below (zV HO0) hb); have n1_ := Aside0.mk (Kd.V_lower (Kd.V_mono (ok' := fun k_ => (P0_ k_ ∨ w.heap.size ≤ k_)) ho0 (fun k_ hk_ => Or.elim hk_ (fun hs_ => hs_) (fun hn_ => (.inr (Nat.le_trans (below_size (zB HB)) hn_))))) (below_size (zB HB))); have n2_ := Aside0.mk (below_step (zB HB) hb); clear HO0; clear HB; have HO0 := n0_; have HO371 := n1_; have HB := n2_; clear n0_ n1_ n2_; (try clear hb); (try clear hb2); (try clear hk); (try clear hi); (try clear ho0)) | ((with_reducible refine gate_dst (N := 11) rfl ?_); refine box_event ?hg (N := 11) ?hd (cs := #[.int .i64 0, .int .i64 0, .slice none 0 0]) (t := 33) ?hr ?_; (case hd => rfl); (case hg => rfl); (case hr => first | (go_simp; done) | (go_simp; rfl)); intro gb373 hg w8 hbox hb; have n0_ := Aside0.mk (Kd.V_below (Kd.V_elderB (zV HO0) gb373 (Nat.le_of_eq hg.symm)) hb); have n1_ := Aside0.mk (Kd.V_below (Kd.V_elderB (zV HO371) gb373 (Nat.le_of_eq hg.symm)) hb); have n2_ := Aside0.mk (below_step (zB HB) hb); have n3_ := Aside0.mk (hbox); have n4_ := Aside0.mk ((by rw [hg]; exact (below_size (zB HB)) : w.heap.size ≤ gb373)); have n5_ := Aside0.mk ((by rw [hg]; exact (below_size (zB HB)) : w.heap.size ≤ gb373)); clear HO0; clear HO371; clear HB; have HO0 := n0_; have HO371 := n1_; have HB := n2_; have BK373 := n3_; have GW373 := n4_; have GE373 := n5_; clear n0_ n1_ n2_ n3_ n4_ n5_; clear hb hbox hg; have hcz9_0 : w8.cell? ⟨gb373, 0, none⟩ = some (.int .i64 0) := (blk_cell BK373.out 0).trans rfl; have hcz9_1 : w8.cell? ⟨gb373, 1, none⟩ = some (.int .i64 0) := (blk_cell BK373.out 1).trans rfl; have hcz9_2 : w8.cell? ⟨gb373, 2, none⟩ = some (.slice none 0 0) := (blk_cell BK373.out 2).trans rfl; have hfz9_0 := blk_frozen BK373.out 0; have hfz9_1 := blk_frozen BK373.out 1; have hfz9_2 := blk_frozen BK373.out 2; obtain ⟨Ao10, co10, eo10⟩ := Kd.V_slice HO371.out; subst eo10))
 (try simp only [Act.put, List.setIfInBounds_toArray, List.set_cons_zero, List.set_cons_succ])
 go_cut [25] (fun v25 wc => ∃ (kq : Nat) (x25_5 : Bool), v25 = .bool x25_5 ∧ Aside0 (sema_Acquire.j0 kq l0 a2 a3 x25_5 t367 t368 t369 = some (r1, r2, r3)) ∧ Aside0 (kq ≤ k) ∧ Aside0 (Kd.V k33 33 wc w.heap.size (fun k_ => (P0_ k_ ∨ w.heap.size ≤ k_) ∧ k_ ≠ gb373) (.slice A0 l0.length c0) l0) ∧ Aside0 (Kd.V (Kd.int .i64) 3 wc w.heap.size (fun k_ => (P0_ k_ ∨ w.heap.size ≤ k_) ∧ k_ ≠ gb373) (.slice Ao10 t369.length co10) t369) ∧ Aside0 (wc.heap[gb373]? = some (.cells #[.int .i64 t367, .int .i64 t368, (.slice Ao10 t369.length co10)] 33 (0, 0))) ∧ Aside0 (Below w.heap.size w wc))
 case first =>
  have H := HC6.out
  clear HC6
  by_cases c11 : t372 = 0
  ·rw [if_pos c11] at H
   have c11b0 : (t372 == 0) = true := beq_iff_eq.mpr c11
   have c11b1 : (t372 != 0) = false := bne_eq_false_iff_eq.mpr c11
   clear c11
   (first | rw [c11b0] | (simp only [i64_w, i32_w]; rw [c11b0]) | skip)
   have H' := Aside0.mk H
   clear H
   go_wp2
   go_meet
   case rel => exact ⟨_, (decide (a2 < 0)), (by first | rfl | (simp; done) | (simp [*]; done)), H', ⟨by first | omega | exact Nat.le_refl _⟩, ⟨by (with_reducible repeat (first | apply Kd.V_alloc | apply Kd.V_drewN | apply Kd.V_drew)); exact Kd.V_mono (Kd.V_far (p := ⟨gb373, 2, none⟩) (Kd.V_far (p := ⟨gb373, 1, none⟩) (Kd.V_far (p := ⟨gb373, 0, none⟩) (Kd.V_mono HO0.out (fun k_ hk => (⟨hk, hk.2⟩ : _ ∧ k_ ≠ gb373))) (fun _ hk => hk.2) (.int .i64 t367)) (fun _ hk => hk.2) (.int .i64 t368)) (fun _ hk => hk.2) (.slice Ao10 t369.length co10)) (fun _ hk => ⟨hk.1.1, hk.1.2⟩)⟩, ⟨by (with_reducible repeat (first | apply Kd.V_alloc | apply Kd.V_drewN | apply Kd.V_drew)); exact Kd.V_mono (Kd.V_far (p := ⟨gb373, 2, none⟩) (Kd.V_far (p := ⟨gb373, 1, none⟩) (Kd.V_far (p := ⟨gb373, 0, none⟩) (Kd.V_mono HO371.out (fun k_ hk => (⟨hk, hk.2⟩ : _ ∧ k_ ≠ gb373))) (fun _ hk => hk.2) (.int .i64 t367)) (fun _ hk => hk.2) (.int .i64 t368)) (fun _ hk => hk.2) (.slice Ao10 t369.length co10)) (fun _ hk => ⟨hk.1.1, hk.1.2⟩)⟩, ⟨by (with_reducible repeat (first | refine blk_drewN ?_ _ | refine blk_drew ?_ | refine blk_alloc ?_ _)); refine blk_put (cs := #[.int .i64 t367, .int .i64 t368, .slice none 0 0]) ?_ 2 _ rfl; (with_reducible repeat (first | refine blk_drewN ?_ _ | refine blk_drew ?_ | refine blk_alloc ?_ _)); refine blk_put (cs := #[.int .i64 t367, .int .i64 0, .slice none 0 0]) ?_ 1 _ rfl; (with_reducible repeat (first | refine blk_drewN ?_ _ | refine blk_drew ?_ | refine blk_alloc ?_ _)); refine blk_put (cs := #[.int .i64 0, .int .i64 0, .slice none 0 0]) ?_ 0 _ rfl; (with_reducible repeat (first | refine blk_drewN ?_ _ | refine blk_drew ?_ | refine blk_alloc ?_ _)); exact BK373.out⟩, ⟨zB1 HB GE373⟩⟩
  ·rw [if_neg c11] at H
   have c11b0 : (t372 == 0) = false := beq_eq_false_iff_ne.mpr c11
   have c11b1 : (t372 != 0) = true := bne_iff_ne.mpr c11
   (first | rw [c11b0] | (simp only [i64_w, i32_w]; rw [c11b0]) | skip)
   have H' := Aside0.mk H
   clear H
   go_wp2
   go_meet
   case rel => exact ⟨_, (true), (by first | rfl | (simp; done) | (simp [*]; done)), H', ⟨by first | omega | exact Nat.le_refl _⟩, ⟨by (with_reducible repeat (first | apply Kd.V_alloc | apply Kd.V_drewN | apply Kd.V_drew)); exact Kd.V_mono (Kd.V_far (p := ⟨gb373, 2, none⟩) (Kd.V_far (p := ⟨gb373, 1, none⟩) (Kd.V_far (p := ⟨gb373, 0, none⟩) (Kd.V_mono HO0.out (fun k_ hk => (⟨hk, hk.2⟩ : _ ∧ k_ ≠ gb373))) (fun _ hk => hk.2) (.int .i64 t367)) (fun _ hk => hk.2) (.int .i64 t368)) (fun _ hk => hk.2) (.slice Ao10 t369.length co10)) (fun _ hk => ⟨hk.1.1, hk.1.2⟩)⟩, ⟨by (with_reducible repeat (first | apply Kd.V_alloc | apply Kd.V_drewN | apply Kd.V_drew)); exact Kd.V_mono (Kd.V_far (p := ⟨gb373, 2, none⟩) (Kd.V_far (p := ⟨gb373, 1, none⟩) (Kd.V_far (p := ⟨gb373, 0, none⟩) (Kd.V_mono HO371.out (fun k_ hk => (⟨hk, hk.2⟩ : _ ∧ k_ ≠ gb373))) (fun _ hk => hk.2) (.int .i64 t367)) (fun _ hk => hk.2) (.int .i64 t368)) (fun _ hk => hk.2) (.slice Ao10 t369.length co10)) (fun _ hk => ⟨hk.1.1, hk.1.2⟩)⟩, ⟨by (with_reducible repeat (first | refine blk_drewN ?_ _ | refine blk_drew ?_ | refine blk_alloc ?_ _)); refine blk_put (cs := #[.int .i64 t367, .int .i64 t368, .slice none 0 0]) ?_ 2 _ rfl; (with_reducible repeat (first | refine blk_drewN ?_ _ | refine blk_drew ?_ | refine blk_alloc ?_ _)); refine blk_put (cs := #[.int .i64 t367, .int .i64 0, .slice none 0 0]) ?_ 1 _ rfl; (with_reducible repeat (first | refine blk_drewN ?_ _ | refine blk_drew ?_ | refine blk_alloc ?_ _)); refine blk_put (cs := #[.int .i64 0, .int .i64 0, .slice none 0 0]) ?_ 0 _ rfl; (with_reducible repeat (first | refine blk_drewN ?_ _ | refine blk_drew ?_ | refine blk_alloc ?_ _)); exact BK373.out⟩, ⟨zB1 HB GE373⟩⟩
 case rest =>
  clear HC6
  try clear c1
  try clear p2
  try clear c3
  try clear c11
  try clear c11b0
  try clear c11b1
  try clear hcz9_0
  try clear hcz9_1
  try clear hcz9_2
  try clear hfz9_0
  try clear hfz9_1
  try clear hfz9_2
  obtain ⟨kq, x25_5, rfl, HA, HJ5, HO_0, HO_374002, BK373, HB⟩ := hcut
  cases kq with
  | zero => exact absurd HA.out (by simp [sema_Acquire.j0])
  | succ kj5 =>
   have H := HA.out
   clear HA
   simp only [sema_Acquire.j0] at H
   by_cases c12 : x25_5 = true
   ·subst c12
    have H1 : (some (([] : List (S33)), false, 1)) = some (r1, r2, r3) := by rw [if_pos rfl] at H; exact H
    clear H
    have H := H1
    clear H1
    simp only [Option.some.injEq, Prod.mk.injEq] at H
    obtain ⟨rfl, rfl, rfl⟩ := H
    go_wp2
    go_ret3
    exact ⟨_, by first | rfl | (simp [errW_none, errW_some] <;> rfl) | (simp [*, errW_none, errW_some] <;> rfl), Kd.V_mono (Kd.S_V (by first | exact Kd.S_nil _ _ _ 0 (fun k_ => w.heap.size ≤ k_) | exact Kd.S_nil _ _ _ _ _ | exact Kd.N_nil _ _ _ _ _ | exact Kd.V_nil _ _ _ _ _ | exact Kd.Q_nil _ _ _ _ _ | exact Kd.R_nil _ _ _ _ _)) (fun k_ hk => by first | exact ⟨(.inr (hk.1)), hk.2⟩ | exact (.inr (hk))), zB1 HB GE373⟩
   ·replace c12 := Bool.eq_false_iff.mpr c12
    subst c12
    have H1 : ((slices_Contains_int_int.f kj5 t369 a2).bind fun t374 => (if t374 = true then (some (([] : List (S33)), false, 7)) else (if t368 > 0 then ((root_Set.f l0 t367 (wrap64 (t368 - 1)) t369).bind fun bt375 => (if bt375.2 = 0 then (some (bt375.1, decide (t368 > 0), 0)) else (some (([] : List (S33)), false, bt375.2)))) else ((line_Push.f kj5 t369 a2 a3).bind fun bt379 => (if bt379.2 = 0 then ((root_Set.f l0 t367 t368 bt379.1).bind fun bt383 => (if bt383.2 = 0 then (some (bt383.1, decide (t368 > 0), 0)) else (some (([] : List (S33)), false, bt383.2)))) else (some (([] : List (S33)), false, bt379.2))))))) = some (r1, r2, r3) := by rw [if_neg (show ¬ (false = true) by decide)] at H; exact H
    clear H
    have H := H1
    clear H1
    replace H := Option.bind_eq_some_iff.mp H
    obtain ⟨t374, A130, H⟩ := H
    replace H : (if t374 = true then (some (([] : List (S33)), false, 7)) else (if t368 > 0 then ((root_Set.f l0 t367 (wrap64 (t368 - 1)) t369).bind fun bt375 => (if bt375.2 = 0 then (some (bt375.1, decide (t368 > 0), 0)) else (some (([] : List (S33)), false, bt375.2)))) else ((line_Push.f kj5 t369 a2 a3).bind fun bt379 => (if bt379.2 = 0 then ((root_Set.f l0 t367 t368 bt379.1).bind fun bt383 => (if bt383.2 = 0 then (some (bt383.1, decide (t368 > 0), 0)) else (some (([] : List (S33)), false, bt383.2)))) else (some (([] : List (S33)), false, bt379.2)))))) = some (r1, r2, r3) := H
    have A13 := Aside0.mk A130
    clear A130
    by_cases c14 : t374 = true
    ·subst c14
     have H1 : (some (([] : List (S33)), false, 7)) = some (r1, r2, r3) := by rw [if_pos rfl] at H; exact H
     clear H
     have H := H1
     clear H1
     simp only [Option.some.injEq, Prod.mk.injEq] at H
     obtain ⟨rfl, rfl, rfl⟩ := H
     have hcz15_0 : wc.cell? ⟨gb373, 0, none⟩ = some (.int .i64 t367) := (blk_cell BK373.out 0).trans rfl
     have hcz15_1 : wc.cell? ⟨gb373, 1, none⟩ = some (.int .i64 t368) := (blk_cell BK373.out 1).trans rfl
     have hcz15_2 : wc.cell? ⟨gb373, 2, none⟩ = some (.slice Ao10 t369.length co10) := (blk_cell BK373.out 2).trans rfl
     have hfz15_0 := blk_frozen BK373.out 0
     have hfz15_1 := blk_frozen BK373.out 1
     have hfz15_2 := blk_frozen BK373.out 2
     go_wp2_with (first | ((with_reducible refine gate_callee (f := 56) rfl ?_); refine goesL_ (some 29) rfl rfl Try.func56 (by kernel_rfl) rfl #[.slice Ao10 t369.length co10, .int .i64 a2] rfl zP ?_; (with_reducible refine (slices_Contains_int_int.calls kj5 _ _ t369 a2 true _ ?side1 ?side2 A13.out).mono ?_); (case side1 => repeat (first | exact (Kd.V_reads' HO_374002.out).2.2 | (with_reducible refine Kd.C_alloc ?_ _) | (with_reducible refine Kd.C_drewN ?_ _) | (with_reducible refine Kd.C_drew ?_))); (case side2 => exact (Kd.V_reads' HO_374002.out).2.1); rintro e w' ⟨rfl, ⟨nd, rfl⟩⟩; refine ⟨_, rfl, ?_⟩))
     go_ret3
     exact ⟨_, by first | rfl | (simp [errW_none, errW_some] <;> rfl) | (simp [*, errW_none, errW_some] <;> rfl), Kd.V_mono (Kd.S_V (by first | exact Kd.S_nil _ _ _ 0 (fun k_ => w.heap.size ≤ k_) | exact Kd.S_nil _ _ _ _ _ | exact Kd.N_nil _ _ _ _ _ | exact Kd.V_nil _ _ _ _ _ | exact Kd.Q_nil _ _ _ _ _ | exact Kd.R_nil _ _ _ _ _)) (fun k_ hk => by first | exact ⟨(.inr (hk.1)), hk.2⟩ | exact (.inr (hk))), zB1 HB GE373⟩
    ·replace c14 := Bool.eq_false_iff.mpr c14
     subst c14
     have H1 : (if t368 > 0 then ((root_Set.f l0 t367 (wrap64 (t368 - 1)) t369).bind fun bt375 => (if bt375.2 = 0 then (some (bt375.1, decide (t368 > 0), 0)) else (some (([] : List (S33)), false, bt375.2)))) else ((line_Push.f kj5 t369 a2 a3).bind fun bt379 => (if bt379.2 = 0 then ((root_Set.f l0 t367 t368 bt379.1).bind fun bt383 => (if bt383.2 = 0 then (some (bt383.1, decide (t368 > 0), 0)) else (some (([] : List (S33)), false, bt383.2)))) else (some (([] : List (S33)), false, bt379.2))))) = some (r1, r2, r3) := by rw [if_neg (show ¬ (false = true) by decide)] at H; exact H
     clear H
     have H := H1
     clear H1
     by_cases c16 : t368 > 0
     ·rw [if_pos c16] at H
      have c16b0 : decide (0 < t368) = true := decide_eq_true c16
      clear c16
      replace H := Option.bind_eq_some_iff.mp H
      obtain ⟨⟨t375, t378⟩, A170, H⟩ := H
      replace H : (if t378 = 0 then (some (t375, decide (t368 > 0), 0)) else (some (([] : List (S33)), false, t378))) = some (r1, r2, r3) := H
      have A17 := Aside0.mk A170
      clear A170
      by_cases c18 : t378 = 0
      ·rw [if_pos c18] at H
       have c18b0 : (t378 == 0) = true := beq_iff_eq.mpr c18
       have c18b1 : (t378 != 0) = false := bne_eq_false_iff_eq.mpr c18
       clear c18
       simp only [Option.some.injEq, Prod.mk.injEq] at H
       obtain ⟨rfl, rfl, rfl⟩ := H
       have hcz19_0 : wc.cell? ⟨gb373, 0, none⟩ = some (.int .i64 t367) := (blk_cell BK373.out 0).trans rfl
       have hcz19_1 : wc.cell? ⟨gb373, 1, none⟩ = some (.int .i64 t368) := (blk_cell BK373.out 1).trans rfl
       have hcz19_2 : wc.cell? ⟨gb373, 2, none⟩ = some (.slice Ao10 t369.length co10) := (blk_cell BK373.out 2).trans rfl
       have hfz19_0 := blk_frozen BK373.out 0
       have hfz19_1 := blk_frozen BK373.out 1
       have hfz19_2 := blk_frozen BK373.out 2
       go_wp2_with (first | ((with_reducible refine gate_callee (f := 56) rfl ?_); refine goesL_ (some 29) rfl rfl Try.func56 (by kernel_rfl) rfl #[.slice Ao10 t369.length co10, .int .i64 a2] rfl zP ?_; (with_reducible refine (slices_Contains_int_int.calls kj5 _ _ t369 a2 false _ ?side1 ?side2 A13.out).mono ?_); (case side1 => repeat (first | exact (Kd.V_reads' HO_374002.out).2.2 | (with_reducible refine Kd.C_alloc ?_ _) | (with_reducible refine Kd.C_drewN ?_ _) | (with_reducible refine Kd.C_drew ?_))); (case side2 => exact (Kd.V_reads' HO_374002.out).2.1); rintro e w' ⟨rfl, ⟨nd, rfl⟩⟩; refine ⟨_, rfl, ?_⟩; (try (rw [drewN_self wc]; generalize hq_ : World.drewN wc _ = wc; have n0_ : Aside0 (Kd.V k33 33 wc w.heap.size (fun k_ => (P0_ k_ ∨ w.heap.size ≤ k_) ∧ k_ ≠ gb373) (.slice A0 l0.length c0) l0) := ⟨by rw [← hq_]; exact (zV HO_0)⟩; have n1_ : Aside0 (Kd.V (Kd.int .i64) 3 wc w.heap.size (fun k_ => (P0_ k_ ∨ w.heap.size ≤ k_) ∧ k_ ≠ gb373) (.slice Ao10 t369.length co10) t369) := ⟨by rw [← hq_]; exact (zV HO_374002)⟩; have n2_ : Aside0 (wc.heap[gb373]? = some (.cells #[.int .i64 t367, .int .i64 t368, .slice Ao10 t369.length co10] 33 (0, 0))) := ⟨by rw [← hq_]; exact (zK BK373)⟩; have n3_ : Aside0 (Below w.heap.size w wc) := ⟨by rw [← hq_]; exact (zB1 HB GE373)⟩; clear HO_0 HO_374002 BK373 HB hq_; have HO_0 := n0_; have HO_374002 := n1_; have BK373 := n2_; have HB := n3_; clear n0_ n1_ n2_ n3_; have hcz19_0 : wc.cell? ⟨gb373, 0, none⟩ = some (.int .i64 t367) := (blk_cell BK373.out 0).trans rfl; have hcz19_1 : wc.cell? ⟨gb373, 1, none⟩ = some (.int .i64 t368) := (blk_cell BK373.out 1).trans rfl; have hcz19_2 : wc.cell? ⟨gb373, 2, none⟩ = some (.slice Ao10 t369.length co10) := (blk_cell BK373.out 2).trans rfl; have hfz19_0 := blk_frozen BK373.out 0; have hfz19_1 := blk_frozen BK373.out 1; have hfz19_2 := blk_frozen BK373.out 2))) | ((with_reducible refine gate_store (t := 3) (p := 37) rfl ?_); refine store_event (t := 3) (p := 37) (v := ?vo_w20) (w1 := (wc.setCell ⟨gb373, 1, none⟩ (.int .i64 (wrap64 (t368 - 1))))) ?hg ?ho ?hn ?hr ?_; (case ho => rfl); (case hg => rfl); (case hn => rfl); (case hr => first | (go_simp; done) | (go_simp; rfl)); intro w20 hw; have n0_ : Aside0 (Kd.V k33 33 w20 w.heap.size (fun k_ => (P0_ k_ ∨ w.heap.size ≤ k_) ∧ k_ ≠ gb373) (.slice A0 l0.length c0) l0) := ⟨(by rw [hw]; exact (by (with_reducible repeat (first | apply Kd.V_alloc | apply Kd.V_drewN | apply Kd.V_drew)); exact Kd.V_mono (Kd.V_far (p := ⟨gb373, 1, none⟩) (Kd.V_mono HO_0.out (fun k_ hk => (⟨hk, hk.2⟩ : _ ∧ k_ ≠ gb373))) (fun _ hk => hk.2) (.int .i64 (wrap64 (t368 - 1)))) (fun _ hk => ⟨hk.1.1, hk.1.2⟩)))⟩; have n1_ : Aside0 (Kd.V (Kd.int .i64) 3 w20 w.heap.size (fun k_ => (P0_ k_ ∨ w.heap.size ≤ k_) ∧ k_ ≠ gb373) (.slice Ao10 t369.length co10) t369) := ⟨(by rw [hw]; exact (by (with_reducible repeat (first | apply Kd.V_alloc | apply Kd.V_drewN | apply Kd.V_drew)); exact Kd.V_mono (Kd.V_far (p := ⟨gb373, 1, none⟩) (Kd.V_mono HO_374002.out (fun k_ hk => (⟨hk, hk.2⟩ : _ ∧ k_ ≠ gb373))) (fun _ hk => hk.2) (.int .i64 (wrap64 (t368 - 1)))) (fun _ hk => ⟨hk.1.1, hk.1.2⟩)))⟩; have n2_ : Aside0 (w20.heap[gb373]? = some (.cells #[.int .i64 t367, .int .i64 (wrap64 (t368 - 1)), .slice Ao10 t369.length co10] 33 (0, 0))) := ⟨(by rw [hw]; exact (by (with_reducible repeat (first | refine blk_drewN ?_ _ | refine blk_drew ?_ | refine blk_alloc ?_ _)); refine blk_put (cs := #[.int .i64 t367, .int .i64 t368, .slice Ao10 t369.length co10]) ?_ 1 _ rfl; (with_reducible repeat (first | refine blk_drewN ?_ _ | refine blk_drew ?_ | refine blk_alloc ?_ _)); exact BK373.out))⟩; have n3_ : Aside0 (Below w.heap.size w w20) := ⟨(by rw [hw]; exact (zB1 HB GE373))⟩; clear hw; clear HO_0; clear HO_374002; clear BK373; clear HB; have HO_0 := n0_; have HO_374002 := n1_; have BK373 := n2_; have HB := n3_; clear n0_ n1_ n2_ n3_; have hcz21_0 : w20.cell? ⟨gb373, 0, none⟩ = some (.int .i64 t367) := (blk_cell BK373.out 0).trans rfl; have hcz21_1 : w20.cell? ⟨gb373, 1, none⟩ = some (.int .i64 (wrap64 (t368 - 1))) := (blk_cell BK373.out 1).trans rfl; have hcz21_2 : w20.cell? ⟨gb373, 2, none⟩ = some (.slice Ao10 t369.length co10) := (blk_cell BK373.out 2).trans rfl; have hfz21_0 := blk_frozen BK373.out 0; have hfz21_1 := blk_frozen BK373.out 1; have hfz21_2 := blk_frozen BK373.out 2) | ((with_reducible refine gate_callee (f := 17) rfl ?_); refine goesL_ (some 53) rfl rfl Try.func17 (by kernel_rfl) rfl #[.slice A0 l0.length c0, .agg #[.int .i64 t367, .int .i64 (wrap64 (t368 - 1)), .slice Ao10 t369.length co10]] rfl zP ?_; (with_reducible refine (root_Set.calls (fun k_ => ((P0_ k_ ∨ w.heap.size ≤ k_) ∧ k_ ≠ gb373)) _ _ l0 t367 (wrap64 (t368 - 1)) (fun k_ => ((P0_ k_ ∨ w.heap.size ≤ k_) ∧ k_ ≠ gb373)) _ _ t369 t375 t378 _ ?side1 ?side2 A17.out).mono ?_); (case side1 => exact HO_0.out); (case side2 => exact HO_374002.out); rintro e w22 ⟨v376, rfl, ho0, hb⟩; refine ⟨_, rfl, ?_⟩; have n0_ := Aside0.mk (Kd.V_below (zV HO_0) hb); have n1_ := Aside0.mk (Kd.V_below (zV HO_374002) hb); have n2_ := Aside0.mk (Kd.V_lower (Kd.V_mono (ok' := fun k_ => (P0_ k_ ∨ w.heap.size ≤ k_) ∧ k_ ≠ gb373) ho0 (fun k_ hk_ => ⟨Or.elim hk_ (fun hs_ => Or.elim hs_ (fun hs_ => hs_.1) (fun hs_ => hs_.1)) (fun hn_ => (.inr (Nat.le_trans (below_size (zB1 HB GE373)) hn_))), Or.elim hk_ (fun hs_ => Or.elim hs_ (fun hs_ => hs_.2) (fun hs_ => hs_.2)) (fun hn_ => (Kd.freshB (g := gb373) (o := .cells #[.int .i64 t367, .int .i64 (wrap64 (t368 - 1)), .slice Ao10 t369.length co10] 33 (0, 0)) (zK BK373) k_ hn_))⟩)) (below_size (zB1 HB GE373))); have n3_ := Aside0.mk (blk_below (g := gb373) (o := .cells #[.int .i64 t367, .int .i64 (wrap64 (t368 - 1)), .slice Ao10 t369.length co10] 33 (0, 0)) (zK BK373) hb); have n4_ := Aside0.mk (below_step (zB1 HB GE373) hb); clear HO_0; clear HO_374002; clear BK373; clear HB; have HO_0 := n0_; have HO_374002 := n1_; have HO377 := n2_; have BK373 := n3_; have HB := n4_; clear n0_ n1_ n2_ n3_ n4_; (try clear hb); (try clear hb2); (try clear hk); (try clear hi); (try clear ho0)))
       go_ret3
       exact ⟨_, by first | rfl | (simp [errW_none, errW_some] <;> rfl) | (simp [*, errW_none, errW_some] <;> rfl), by (with_reducible repeat (first | apply Kd.V_alloc | apply Kd.V_drewN | apply Kd.V_drew)); exact Kd.V_mono HO377.out (fun _ hk => hk.1), zB1 HB GE373⟩
      ·rw [if_neg c18] at H
       have c18b0 : (t378 == 0) = false := beq_eq_false_iff_ne.mpr c18
       have c18b1 : (t378 != 0) = true := bne_iff_ne.mpr c18
       simp only [Option.some.injEq, Prod.mk.injEq] at H
       obtain ⟨rfl, rfl, rfl⟩ := H
       have hcz23_0 : wc.cell? ⟨gb373, 0, none⟩ = some (.int .i64 t367) := (blk_cell BK373.out 0).trans rfl
       have hcz23_1 : wc.cell? ⟨gb373, 1, none⟩ = some (.int .i64 t368) := (blk_cell BK373.out 1).trans rfl
       have hcz23_2 : wc.cell? ⟨gb373, 2, none⟩ = some (.slice Ao10 t369.length co10) := (blk_cell BK373.out 2).trans rfl
       have hfz23_0 := blk_frozen BK373.out 0
       have hfz23_1 := blk_frozen BK373.out 1
       have hfz23_2 := blk_frozen BK373.out 2
       go_wp2_with (first | ((with_reducible refine gate_callee (f := 56) rfl ?_); refine goesL_ (some 29) rfl rfl Try.func56 (by kernel_rfl) rfl #[.slice Ao10 t369.length co10, .int .i64 a2] rfl zP ?_; (with_reducible refine (slices_Contains_int_int.calls kj5 _ _ t369 a2 false _ ?side1 ?side2 A13.out).mono ?_); (case side1 => repeat (first | exact (Kd.V_reads' HO_374002.out).2.2 | (with_reducible refine Kd.C_alloc ?_ _) | (with_reducible refine Kd.C_drewN ?_ _) | (with_reducible refine Kd.C_drew ?_))); (case side2 => exact (Kd.V_reads' HO_374002.out).2.1); rintro e w' ⟨rfl, ⟨nd, rfl⟩⟩; refine ⟨_, rfl, ?_⟩; (try (rw [drewN_self wc]; generalize hq_ : World.drewN wc _ = wc; have n0_ : Aside0 (Kd.V k33 33 wc w.heap.size (fun k_ => (P0_ k_ ∨ w.heap.size ≤ k_) ∧ k_ ≠ gb373) (.slice A0 l0.length c0) l0) := ⟨by rw [← hq_]; exact (zV HO_0)⟩; have n1_ : Aside0 (Kd.V (Kd.int .i64) 3 wc w.heap.size (fun k_ => (P0_ k_ ∨ w.heap.size ≤ k_) ∧ k_ ≠ gb373) (.slice Ao10 t369.length co10) t369) := ⟨by rw [← hq_]; exact (zV HO_374002)⟩; have n2_ : Aside0 (wc.heap[gb373]? = some (.cells #[.int .i64 t367, .int .i64 t368, .slice Ao10 t369.length co10] 33 (0, 0))) := ⟨by rw [← hq_]; exact (zK BK373)⟩; have n3_ : Aside0 (Below w.heap.size w wc) := ⟨by rw [← hq_]; exact (zB1 HB GE373)⟩; clear HO_0 HO_374002 BK373 HB hq_; have HO_0 := n0_; have HO_374002 := n1_; have BK373 := n2_; have HB := n3_; clear n0_ n1_ n2_ n3_; have hcz23_0 : wc.cell? ⟨gb373, 0, none⟩ = some (.int .i64 t367) := (blk_cell BK373.out 0).trans rfl; have hcz23_1 : wc.cell? ⟨gb373, 1, none⟩ = some (.int .i64 t368) := (blk_cell BK373.out 1).trans rfl; have hcz23_2 : wc.cell? ⟨gb373, 2, none⟩ = some (.slice Ao10 t369.length co10) := (blk_cell BK373.out 2).trans rfl; have hfz23_0 := blk_frozen BK373.out 0; have hfz23_1 := blk_frozen BK373.out 1; have hfz23_2 := blk_frozen BK373.out 2))) | ((with_reducible refine gate_store (t := 3) (p := 37) rfl ?_); refine store_event (t := 3) (p := 37) (v := ?vo_w24) (w1 := (wc.setCell ⟨gb373, 1, none⟩ (.int .i64 (wrap64 (t368 - 1))))) ?hg ?ho ?hn ?hr ?_; (case ho => rfl); (case hg => rfl); (case hn => rfl); (case hr => first | (go_simp; done) | (go_simp; rfl)); intro w24 hw; have n0_ : Aside0 (Kd.V k33 33 w24 w.heap.size (fun k_ => (P0_ k_ ∨ w.heap.size ≤ k_) ∧ k_ ≠ gb373) (.slice A0 l0.length c0) l0) := ⟨(by rw [hw]; exact (by (with_reducible repeat (first | apply Kd.V_alloc | apply Kd.V_drewN | apply Kd.V_drew)); exact Kd.V_mono (Kd.V_far (p := ⟨gb373, 1, none⟩) (Kd.V_mono HO_0.out (fun k_ hk => (⟨hk, hk.2⟩ : _ ∧ k_ ≠ gb373))) (fun _ hk => hk.2) (.int .i64 (wrap64 (t368 - 1)))) (fun _ hk => ⟨hk.1.1, hk.1.2⟩)))⟩; have n1_ : Aside0 (Kd.V (Kd.int .i64) 3 w24 w.heap.size (fun k_ => (P0_ k_ ∨ w.heap.size ≤ k_) ∧ k_ ≠ gb373) (.slice Ao10 t369.length co10) t369) := ⟨(by rw [hw]; exact (by (with_reducible repeat (first | apply Kd.V_alloc | apply Kd.V_drewN | apply Kd.V_drew)); exact Kd.V_mono (Kd.V_far (p := ⟨gb373, 1, none⟩) (Kd.V_mono HO_374002.out (fun k_ hk => (⟨hk, hk.2⟩ : _ ∧ k_ ≠ gb373))) (fun _ hk => hk.2) (.int .i64 (wrap64 (t368 - 1)))) (fun _ hk => ⟨hk.1.1, hk.1.2⟩)))⟩; have n2_ : Aside0 (w24.heap[gb373]? = some (.cells #[.int .i64 t367, .int .i64 (wrap64 (t368 - 1)), .slice Ao10 t369.length co10] 33 (0, 0))) := ⟨(by rw [hw]; exact (by (with_reducible repeat (first | refine blk_drewN ?_ _ | refine blk_drew ?_ | refine blk_alloc ?_ _)); refine blk_put (cs := #[.int .i64 t367, .int .i64 t368, .slice Ao10 t369.length co10]) ?_ 1 _ rfl; (with_reducible repeat (first | refine blk_drewN ?_ _ | refine blk_drew ?_ | refine blk_alloc ?_ _)); exact BK373.out))⟩; have n3_ : Aside0 (Below w.heap.size w w24) := ⟨(by rw [hw]; exact (zB1 HB GE373))⟩; clear hw; clear HO_0; clear HO_374002; clear BK373; clear HB; have HO_0 := n0_; have HO_374002 := n1_; have BK373 := n2_; have HB := n3_; clear n0_ n1_ n2_ n3_; have hcz25_0 : w24.cell? ⟨gb373, 0, none⟩ = some (.int .i64 t367) := (blk_cell BK373.out 0).trans rfl; have hcz25_1 : w24.cell? ⟨gb373, 1, none⟩ = some (.int .i64 (wrap64 (t368 - 1))) := (blk_cell BK373.out 1).trans rfl; have hcz25_2 : w24.cell? ⟨gb373, 2, none⟩ = some (.slice Ao10 t369.length co10) := (blk_cell BK373.out 2).trans rfl; have hfz25_0 := blk_frozen BK373.out 0; have hfz25_1 := blk_frozen BK373.out 1; have hfz25_2 := blk_frozen BK373.out 2) | ((with_reducible refine gate_callee (f := 17) rfl ?_); refine goesL_ (some 53) rfl rfl Try.func17 (by kernel_rfl) rfl #[.slice A0 l0.length c0, .agg #[.int .i64 t367, .int .i64 (wrap64 (t368 - 1)), .slice Ao10 t369.length co10]] rfl zP ?_; (with_reducible refine (root_Set.calls (fun k_ => ((P0_ k_ ∨ w.heap.size ≤ k_) ∧ k_ ≠ gb373)) _ _ l0 t367 (wrap64 (t368 - 1)) (fun k_ => ((P0_ k_ ∨ w.heap.size ≤ k_) ∧ k_ ≠ gb373)) _ _ t369 t375 t378 _ ?side1 ?side2 A17.out).mono ?_); (case side1 => exact HO_0.out); (case side2 => exact HO_374002.out); rintro e w26 ⟨v376, rfl, ho0, hb⟩; refine ⟨_, rfl, ?_⟩; have n0_ := Aside0.mk (Kd.V_below (zV HO_0) hb); have n1_ := Aside0.mk (Kd.V_below (zV HO_374002) hb); have n2_ := Aside0.mk (Kd.V_lower (Kd.V_mono (ok' := fun k_ => (P0_ k_ ∨ w.heap.size ≤ k_) ∧ k_ ≠ gb373) ho0 (fun k_ hk_ => ⟨Or.elim hk_ (fun hs_ => Or.elim hs_ (fun hs_ => hs_.1) (fun hs_ => hs_.1)) (fun hn_ => (.inr (Nat.le_trans (below_size (zB1 HB GE373)) hn_))), Or.elim hk_ (fun hs_ => Or.elim hs_ (fun hs_ => hs_.2) (fun hs_ => hs_.2)) (fun hn_ => (Kd.freshB (g := gb373) (o := .cells #[.int .i64 t367, .int .i64 (wrap64 (t368 - 1)), .slice Ao10 t369.length co10] 33 (0, 0)) (zK BK373) k_ hn_))⟩)) (below_size (zB1 HB GE373))); have n3_ := Aside0.mk (blk_below (g := gb373) (o := .cells #[.int .i64 t367, .int .i64 (wrap64 (t368 - 1)), .slice Ao10 t369.length co10] 33 (0, 0)) (zK BK373) hb); have n4_ := Aside0.mk (below_step (zB1 HB GE373) hb); clear HO_0; clear HO_374002; clear BK373; clear HB; have HO_0 := n0_; have HO_374002 := n1_; have HO377 := n2_; have BK373 := n3_; have HB := n4_; clear n0_ n1_ n2_ n3_ n4_; (try clear hb); (try clear hb2); (try clear hk); (try clear hi); (try clear ho0)))
       go_ret3
       exact ⟨_, by first | rfl | (simp [errW_none, errW_some] <;> rfl) | (simp [*, errW_none, errW_some] <;> rfl), Kd.V_mono (Kd.S_V (by first | exact Kd.S_nil _ _ _ 0 (fun k_ => w.heap.size ≤ k_) | exact Kd.S_nil _ _ _ _ _ | exact Kd.N_nil _ _ _ _ _ | exact Kd.V_nil _ _ _ _ _ | exact Kd.Q_nil _ _ _ _ _ | exact Kd.R_nil _ _ _ _ _)) (fun k_ hk => by first | exact ⟨(.inr (hk.1)), hk.2⟩ | exact (.inr (hk))), zB1 HB GE373⟩
     ·rw [if_neg c16] at H
      have c16b0 : decide (0 < t368) = false := decide_eq_false c16
      clear c16
      replace H := Option.bind_eq_some_iff.mp H
      obtain ⟨⟨t379, t382⟩, A270, H⟩ := H
      replace H : (if t382 = 0 then ((root_Set.f l0 t367 t368 t379).bind fun bt383 => (if bt383.2 = 0 then (some (bt383.1, decide (t368 > 0), 0)) else (some (([] : List (S33)), false, bt383.2)))) else (some (([] : List (S33)), false, t382))) = some (r1, r2, r3) := H
      have A27 := Aside0.mk A270
      clear A270
      by_cases c28 : t382 = 0
      ·rw [if_pos c28] at H
       have c28b0 : (t382 == 0) = true := beq_iff_eq.mpr c28
       have c28b1 : (t382 != 0) = false := bne_eq_false_iff_eq.mpr c28
       clear c28
       replace H := Option.bind_eq_some_iff.mp H
       obtain ⟨⟨t383, t386⟩, A290, H⟩ := H
       replace H : (if t386 = 0 then (some (t383, decide (t368 > 0), 0)) else (some (([] : List (S33)), false, t386))) = some (r1, r2, r3) := H
       have A29 := Aside0.mk A290
       clear A290
       by_cases c30 : t386 = 0
       ·rw [if_pos c30] at H
        have c30b0 : (t386 == 0) = true := beq_iff_eq.mpr c30
        have c30b1 : (t386 != 0) = false := bne_eq_false_iff_eq.mpr c30
        clear c30
        simp only [Option.some.injEq, Prod.mk.injEq] at H
        obtain ⟨rfl, rfl, rfl⟩ := H
        have hcz31_0 : wc.cell? ⟨gb373, 0, none⟩ = some (.int .i64 t367) := (blk_cell BK373.out 0).trans rfl
        have hcz31_1 : wc.cell? ⟨gb373, 1, none⟩ = some (.int .i64 t368) := (blk_cell BK373.out 1).trans rfl
        have hcz31_2 : wc.cell? ⟨gb373, 2, none⟩ = some (.slice Ao10 t369.length co10) := (blk_cell BK373.out 2).trans rfl
        have hfz31_0 := blk_frozen BK373.out 0
        have hfz31_1 := blk_frozen BK373.out 1
        have hfz31_2 := blk_frozen BK373.out 2
        go_wp2_with (first | ((with_reducible refine gate_callee (f := 56) rfl ?_); refine goesL_ (some 29) rfl rfl Try.func56 (by kernel_rfl) rfl #[.slice Ao10 t369.length co10, .int .i64 a2] rfl zP ?_; (with_reducible refine (slices_Contains_int_int.calls kj5 _ _ t369 a2 false _ ?side1 ?side2 A13.out).mono ?_); (case side1 => repeat (first | exact (Kd.V_reads' HO_374002.out).2.2 | (with_reducible refine Kd.C_alloc ?_ _) | (with_reducible refine Kd.C_drewN ?_ _) | (with_reducible refine Kd.C_drew ?_))); (case side2 => exact (Kd.V_reads' HO_374002.out).2.1); rintro e w' ⟨rfl, ⟨nd, rfl⟩⟩; refine ⟨_, rfl, ?_⟩; (try (rw [drewN_self wc]; generalize hq_ : World.drewN wc _ = wc; have n0_ : Aside0 (Kd.V k33 33 wc w.heap.size (fun k_ => (P0_ k_ ∨ w.heap.size ≤ k_) ∧ k_ ≠ gb373) (.slice A0 l0.length c0) l0) := ⟨by rw [← hq_]; exact (zV HO_0)⟩; have n1_ : Aside0 (Kd.V (Kd.int .i64) 3 wc w.heap.size (fun k_ => (P0_ k_ ∨ w.heap.size ≤ k_) ∧ k_ ≠ gb373) (.slice Ao10 t369.length co10) t369) := ⟨by rw [← hq_]; exact (zV HO_374002)⟩; have n2_ : Aside0 (wc.heap[gb373]? = some (.cells #[.int .i64 t367, .int .i64 t368, .slice Ao10 t369.length co10] 33 (0, 0))) := ⟨by rw [← hq_]; exact (zK BK373)⟩; have n3_ : Aside0 (Below w.heap.size w wc) := ⟨by rw [← hq_]; exact (zB1 HB GE373)⟩; clear HO_0 HO_374002 BK373 HB hq_; have HO_0 := n0_; have HO_374002 := n1_; have BK373 := n2_; have HB := n3_; clear n0_ n1_ n2_ n3_; have hcz31_0 : wc.cell? ⟨gb373, 0, none⟩ = some (.int .i64 t367) := (blk_cell BK373.out 0).trans rfl; have hcz31_1 : wc.cell? ⟨gb373, 1, none⟩ = some (.int .i64 t368) := (blk_cell BK373.out 1).trans rfl; have hcz31_2 : wc.cell? ⟨gb373, 2, none⟩ = some (.slice Ao10 t369.length co10) := (blk_cell BK373.out 2).trans rfl; have hfz31_0 := blk_frozen BK373.out 0; have hfz31_1 := blk_frozen BK373.out 1; have hfz31_2 := blk_frozen BK373.out 2))) | ((with_reducible refine gate_callee (f := 57) rfl ?_); refine goesL_ (some 43) rfl rfl Try.func57 (by kernel_rfl) rfl #[.slice Ao10 t369.length co10, .int .i64 a2, .bool a3] rfl zP ?_; (with_reducible refine (line_Push.calls kj5 (fun k_ => ((P0_ k_ ∨ w.heap.size ≤ k_) ∧ k_ ≠ gb373)) _ _ t369 a2 a3 t379 t382 _ ?side1 A27.out).mono ?_); (case side1 => exact HO_374002.out); rintro e w32 ⟨v380, rfl, ho0, hb⟩; refine ⟨_, rfl, ?_⟩; have n0_ := Aside0.mk (Kd.V_elder' (zV HO_0) (Kd.R_base ho0) hb); have n1_ := Aside0.mk (Kd.V_elder' (zV HO_374002) (Kd.R_base ho0) hb); have n2_ := Aside0.mk (Kd.R_lower (Kd.R_newM (M := fun k_ => (w.heap.size ≤ k_)) (Kd.R_mono (ok' := fun k_ => True) ho0 (fun _ hk_ => trivial)) (below_size (zB1 HB GE373)) (fun k_ h_ => h_)) (below_size (zB1 HB GE373))); have n3_ := Aside0.mk (blk_below (g := gb373) (o := .cells #[.int .i64 t367, .int .i64 t368, .slice Ao10 t369.length co10] 33 (0, 0)) (zK BK373) hb); have n4_ := Aside0.mk (below_step (zB1 HB GE373) hb); clear HO_0; clear HO_374002; clear BK373; clear HB; have HO_0 := n0_; have HO_374002 := n1_; have HO381 := n2_; have BK373 := n3_; have HB := n4_; clear n0_ n1_ n2_ n3_ n4_; (try clear hb); (try clear hb2); (try clear hk); (try clear hi); (try clear ho0); obtain ⟨Ao33, co33, eo33⟩ := Kd.R_slice HO381.out; subst eo33; have hcz34_0 : w32.cell? ⟨gb373, 0, none⟩ = some (.int .i64 t367) := (blk_cell BK373.out 0).trans rfl; have hcz34_1 : w32.cell? ⟨gb373, 1, none⟩ = some (.int .i64 t368) := (blk_cell BK373.out 1).trans rfl; have hcz34_2 : w32.cell? ⟨gb373, 2, none⟩ = some (.slice Ao10 t369.length co10) := (blk_cell BK373.out 2).trans rfl; have hfz34_0 := blk_frozen BK373.out 0; have hfz34_1 := blk_frozen BK373.out 1; have hfz34_2 := blk_frozen BK373.out 2) | ((with_reducible refine gate_store (t := 25) (p := 46) rfl ?_); refine store_event (t := 25) (p := 46) (v := ?vo_w35) (w1 := (w32.setCell ⟨gb373, 2, none⟩ (.slice Ao33 t379.length co33))) ?hg ?ho ?hn ?hr ?_; (case ho => rfl); (case hg => rfl); (case hn => rfl); (case hr => first | (go_simp; done) | (go_simp; rfl)); intro w35 hw; have n0_ : Aside0 (Kd.V k33 33 w35 w.heap.size (fun k_ => (P0_ k_ ∨ w.heap.size ≤ k_) ∧ some k_ ≠ (.slice Ao33 t379.length co33 : Value).ownBlock ∧ k_ ≠ gb373) (.slice A0 l0.length c0) l0) := ⟨(by rw [hw]; exact (by (with_reducible repeat (first | apply Kd.V_alloc | apply Kd.V_drewN | apply Kd.V_drew)); exact Kd.V_mono (Kd.V_far (p := ⟨gb373, 2, none⟩) (Kd.V_mono HO_0.out (fun k_ hk => (⟨hk, hk.1.2⟩ : _ ∧ k_ ≠ gb373))) (fun _ hk => hk.2) (.slice Ao33 t379.length co33)) (fun _ hk => ⟨hk.1.1.1, ⟨hk.1.2, hk.1.1.2⟩⟩)))⟩; have n1_ : Aside0 (Kd.V (Kd.int .i64) 3 w35 w.heap.size (fun k_ => (P0_ k_ ∨ w.heap.size ≤ k_) ∧ some k_ ≠ (.slice Ao33 t379.length co33 : Value).ownBlock ∧ k_ ≠ gb373) (.slice Ao10 t369.length co10) t369) := ⟨(by rw [hw]; exact (by (with_reducible repeat (first | apply Kd.V_alloc | apply Kd.V_drewN | apply Kd.V_drew)); exact Kd.V_mono (Kd.V_far (p := ⟨gb373, 2, none⟩) (Kd.V_mono HO_374002.out (fun k_ hk => (⟨hk, hk.1.2⟩ : _ ∧ k_ ≠ gb373))) (fun _ hk => hk.2) (.slice Ao33 t379.length co33)) (fun _ hk => ⟨hk.1.1.1, ⟨hk.1.2, hk.1.1.2⟩⟩)))⟩; have n2_ : Aside0 (Kd.R (Kd.int .i64) 3 w35 w.heap.size (fun k_ => (w.heap.size ≤ k_)) (.slice Ao33 t379.length co33) t379) := ⟨(by rw [hw]; exact (by (with_reducible repeat (first | apply Kd.R_alloc | apply Kd.R_drewN | apply Kd.R_drew)); exact Kd.R_mono (Kd.R_far (p := ⟨gb373, 2, none⟩) (Kd.R_types HO381.out BK373.out (by decide)) (fun _ hk => hk.2) (.slice Ao33 t379.length co33)) (fun _ hk => hk.1.1)))⟩; have n3_ : Aside0 (w35.heap[gb373]? = some (.cells #[.int .i64 t367, .int .i64 t368, .slice Ao33 t379.length co33] 33 (0, 0))) := ⟨(by rw [hw]; exact (by (with_reducible repeat (first | refine blk_drewN ?_ _ | refine blk_drew ?_ | refine blk_alloc ?_ _)); refine blk_put (cs := #[.int .i64 t367, .int .i64 t368, .slice Ao10 t369.length co10]) ?_ 2 _ rfl; (with_reducible repeat (first | refine blk_drewN ?_ _ | refine blk_drew ?_ | refine blk_alloc ?_ _)); exact BK373.out))⟩; have n4_ : Aside0 (Below w.heap.size w w35) := ⟨(by rw [hw]; exact (zB1 HB GE373))⟩; clear hw; clear HO_0; clear HO_374002; clear HO381; clear BK373; clear HB; have HO_0 := n0_; have HO_374002 := n1_; have HO381 := n2_; have BK373 := n3_; have HB := n4_; clear n0_ n1_ n2_ n3_ n4_; have hcz36_0 : w35.cell? ⟨gb373, 0, none⟩ = some (.int .i64 t367) := (blk_cell BK373.out 0).trans rfl; have hcz36_1 : w35.cell? ⟨gb373, 1, none⟩ = some (.int .i64 t368) := (blk_cell BK373.out 1).trans rfl; have hcz36_2 : w35.cell? ⟨gb373, 2, none⟩ = some (.slice Ao33 t379.length co33) := (blk_cell BK373.out 2).trans rfl; have hfz36_0 := blk_frozen BK373.out 0; have hfz36_1 := blk_frozen BK373.out 1; have hfz36_2 := blk_frozen BK373.out 2) | ((with_reducible refine gate_callee (f := 17) rfl ?_); refine goesL_ (some 53) rfl rfl Try.func17 (by kernel_rfl) rfl #[.slice A0 l0.length c0, .agg #[.int .i64 t367, .int .i64 t368, .slice Ao33 t379.length co33]] rfl zP ?_; (with_reducible refine (root_Set.calls (fun k_ => ((P0_ k_ ∨ w.heap.size ≤ k_) ∧ (some k_ ≠ (.slice Ao33 t379.length co33 : Value).ownBlock ∧ k_ ≠ gb373))) _ _ l0 t367 t368 (fun k_ => some k_ = (.slice Ao33 t379.length co33 : Value).ownBlock) _ _ t379 t383 t386 _ ?side1 ?side2 A29.out).mono ?_); (case side1 => exact HO_0.out); (case side2 => exact Kd.R_V (Kd.R_tight rfl (Kd.R_types (HO381.out) BK373.out (by decide)))); rintro e w37 ⟨v384, rfl, ho0, hb⟩; refine ⟨_, rfl, ?_⟩; have n0_ := Aside0.mk (Kd.V_below (zV HO_0) hb); have n1_ := Aside0.mk (Kd.V_below (zV HO_374002) hb); have n2_ := Aside0.mk (Kd.R_below (zR HO381) hb); have n3_ := Aside0.mk (Kd.V_lower (Kd.V_mono (ok' := fun k_ => (P0_ k_ ∨ w.heap.size ≤ k_) ∧ k_ ≠ gb373) ho0 (fun k_ hk_ => ⟨Or.elim hk_ (fun hs_ => Or.elim hs_ (fun hs_ => hs_.1) (fun hs_ => (.inr (((Kd.R_types (HO381.out) BK373.out (by decide)).1 k_ hs_.symm).1)))) (fun hn_ => (.inr (Nat.le_trans (below_size (zB1 HB GE373)) hn_))), Or.elim hk_ (fun hs_ => Or.elim hs_ (fun hs_ => hs_.2.2) (fun hs_ => ((Kd.R_types (HO381.out) BK373.out (by decide)).1 k_ hs_.symm).2)) (fun hn_ => (Kd.freshB (g := gb373) (o := .cells #[.int .i64 t367, .int .i64 t368, .slice Ao33 t379.length co33] 33 (0, 0)) (zK BK373) k_ hn_))⟩)) (below_size (zB1 HB GE373))); have n4_ := Aside0.mk (blk_below (g := gb373) (o := .cells #[.int .i64 t367, .int .i64 t368, .slice Ao33 t379.length co33] 33 (0, 0)) (zK BK373) hb); have n5_ := Aside0.mk (below_step (zB1 HB GE373) hb); clear HO_0; clear HO_374002; clear HO381; clear BK373; clear HB; have HO_0 := n0_; have HO_374002 := n1_; have HO381 := n2_; have HO385 := n3_; have BK373 := n4_; have HB := n5_; clear n0_ n1_ n2_ n3_ n4_ n5_; (try clear hb); (try clear hb2); (try clear hk); (try clear hi); (try clear ho0)))
        go_ret3
        exact ⟨_, by first | rfl | (simp [errW_none, errW_some] <;> rfl) | (simp [*, errW_none, errW_some] <;> rfl), by (with_reducible repeat (first | apply Kd.V_alloc | apply Kd.V_drewN | apply Kd.V_drew)); exact Kd.V_mono HO385.out (fun _ hk => hk.1), zB1 HB GE373⟩
       ·rw [if_neg c30] at H
        have c30b0 : (t386 == 0) = false := beq_eq_false_iff_ne.mpr c30
        have c30b1 : (t386 != 0) = true := bne_iff_ne.mpr c30
        simp only [Option.some.injEq, Prod.mk.injEq] at H
        obtain ⟨rfl, rfl, rfl⟩ := H
        have hcz38_0 : wc.cell? ⟨gb373, 0, none⟩ = some (.int .i64 t367) := (blk_cell BK373.out 0).trans rfl
        have hcz38_1 : wc.cell? ⟨gb373, 1, none⟩ = some (.int .i64 t368) := (blk_cell BK373.out 1).trans rfl
        have hcz38_2 : wc.cell? ⟨gb373, 2, none⟩ = some (.slice Ao10 t369.length co10) := (blk_cell BK373.out 2).trans rfl
        have hfz38_0 := blk_frozen BK373.out 0
        have hfz38_1 := blk_frozen BK373.out 1
        have hfz38_2 := blk_frozen BK373.out 2
        go_wp2_with (first | ((with_reducible refine gate_callee (f := 56) rfl ?_); refine goesL_ (some 29) rfl rfl Try.func56 (by kernel_rfl) rfl #[.slice Ao10 t369.length co10, .int .i64 a2] rfl zP ?_; (with_reducible refine (slices_Contains_int_int.calls kj5 _ _ t369 a2 false _ ?side1 ?side2 A13.out).mono ?_); (case side1 => repeat (first | exact (Kd.V_reads' HO_374002.out).2.2 | (with_reducible refine Kd.C_alloc ?_ _) | (with_reducible refine Kd.C_drewN ?_ _) | (with_reducible refine Kd.C_drew ?_))); (case side2 => exact (Kd.V_reads' HO_374002.out).2.1); rintro e w' ⟨rfl, ⟨nd, rfl⟩⟩; refine ⟨_, rfl, ?_⟩; (try (rw [drewN_self wc]; generalize hq_ : World.drewN wc _ = wc; have n0_ : Aside0 (Kd.V k33 33 wc w.heap.size (fun k_ => (P0_ k_ ∨ w.heap.size ≤ k_) ∧ k_ ≠ gb373) (.slice A0 l0.length c0) l0) := ⟨by rw [← hq_]; exact (zV HO_0)⟩; have n1_ : Aside0 (Kd.V (Kd.int .i64) 3 wc w.heap.size (fun k_ => (P0_ k_ ∨ w.heap.size ≤ k_) ∧ k_ ≠ gb373) (.slice Ao10 t369.length co10) t369) := ⟨by rw [← hq_]; exact (zV HO_374002)⟩; have n2_ : Aside0 (wc.heap[gb373]? = some (.cells #[.int .i64 t367, .int .i64 t368, .slice Ao10 t369.length co10] 33 (0, 0))) := ⟨by rw [← hq_]; exact (zK BK373)⟩; have n3_ : Aside0 (Below w.heap.size w wc) := ⟨by rw [← hq_]; exact (zB1 HB GE373)⟩; clear HO_0 HO_374002 BK373 HB hq_; have HO_0 := n0_; have HO_374002 := n1_; have BK373 := n2_; have HB := n3_; clear n0_ n1_ n2_ n3_; have hcz38_0 : wc.cell? ⟨gb373, 0, none⟩ = some (.int .i64 t367) := (blk_cell BK373.out 0).trans rfl; have hcz38_1 : wc.cell? ⟨gb373, 1, none⟩ = some (.int .i64 t368) := (blk_cell BK373.out 1).trans rfl; have hcz38_2 : wc.cell? ⟨gb373, 2, none⟩ = some (.slice Ao10 t369.length co10) := (blk_cell BK373.out 2).trans rfl; have hfz38_0 := blk_frozen BK373.out 0; have hfz38_1 := blk_frozen BK373.out 1; have hfz38_2 := blk_frozen BK373.out 2))) | ((with_reducible refine gate_callee (f := 57) rfl ?_); refine goesL_ (some 43) rfl rfl Try.func57 (by kernel_rfl) rfl #[.slice Ao10 t369.length co10, .int .i64 a2, .bool a3] rfl zP ?_; (with_reducible refine (line_Push.calls kj5 (fun k_ => ((P0_ k_ ∨ w.heap.size ≤ k_) ∧ k_ ≠ gb373)) _ _ t369 a2 a3 t379 t382 _ ?side1 A27.out).mono ?_); (case side1 => exact HO_374002.out); rintro e w39 ⟨v380, rfl, ho0, hb⟩; refine ⟨_, rfl, ?_⟩; have n0_ := Aside0.mk (Kd.V_elder' (zV HO_0) (Kd.R_base ho0) hb); have n1_ := Aside0.mk (Kd.V_elder' (zV HO_374002) (Kd.R_base ho0) hb); have n2_ := Aside0.mk (Kd.R_lower (Kd.R_newM (M := fun k_ => (w.heap.size ≤ k_)) (Kd.R_mono (ok' := fun k_ => True) ho0 (fun _ hk_ => trivial)) (below_size (zB1 HB GE373)) (fun k_ h_ => h_)) (below_size (zB1 HB GE373))); have n3_ := Aside0.mk (blk_below (g := gb373) (o := .cells #[.int .i64 t367, .int .i64 t368, .slice Ao10 t369.length co10] 33 (0, 0)) (zK BK373) hb); have n4_ := Aside0.mk (below_step (zB1 HB GE373) hb); clear HO_0; clear HO_374002; clear BK373; clear HB; have HO_0 := n0_; have HO_374002 := n1_; have HO381 := n2_; have BK373 := n3_; have HB := n4_; clear n0_ n1_ n2_ n3_ n4_; (try clear hb); (try clear hb2); (try clear hk); (try clear hi); (try clear ho0); obtain ⟨Ao40, co40, eo40⟩ := Kd.R_slice HO381.out; subst eo40; have hcz41_0 : w39.cell? ⟨gb373, 0, none⟩ = some (.int .i64 t367) := (blk_cell BK373.out 0).trans rfl; have hcz41_1 : w39.cell? ⟨gb373, 1, none⟩ = some (.int .i64 t368) := (blk_cell BK373.out 1).trans rfl; have hcz41_2 : w39.cell? ⟨gb373, 2, none⟩ = some (.slice Ao10 t369.length co10) := (blk_cell BK373.out 2).trans rfl; have hfz41_0 := blk_frozen BK373.out 0; have hfz41_1 := blk_frozen BK373.out 1; have hfz41_2 := blk_frozen BK373.out 2) | ((with_reducible refine gate_store (t := 25) (p := 46) rfl ?_); refine store_event (t := 25) (p := 46) (v := ?vo_w42) (w1 := (w39.setCell ⟨gb373, 2, none⟩ (.slice Ao40 t379.length co40))) ?hg ?ho ?hn ?hr ?_; (case ho => rfl); (case hg => rfl); (case hn => rfl); (case hr => first | (go_simp; done) | (go_simp; rfl)); intro w42 hw; have n0_ : Aside0 (Kd.V k33 33 w42 w.heap.size (fun k_ => (P0_ k_ ∨ w.heap.size ≤ k_) ∧ some k_ ≠ (.slice Ao40 t379.length co40 : Value).ownBlock ∧ k_ ≠ gb373) (.slice A0 l0.length c0) l0) := ⟨(by rw [hw]; exact (by (with_reducible repeat (first | apply Kd.V_alloc | apply Kd.V_drewN | apply Kd.V_drew)); exact Kd.V_mono (Kd.V_far (p := ⟨gb373, 2, none⟩) (Kd.V_mono HO_0.out (fun k_ hk => (⟨hk, hk.1.2⟩ : _ ∧ k_ ≠ gb373))) (fun _ hk => hk.2) (.slice Ao40 t379.length co40)) (fun _ hk => ⟨hk.1.1.1, ⟨hk.1.2, hk.1.1.2⟩⟩)))⟩; have n1_ : Aside0 (Kd.V (Kd.int .i64) 3 w42 w.heap.size (fun k_ => (P0_ k_ ∨ w.heap.size ≤ k_) ∧ some k_ ≠ (.slice Ao40 t379.length co40 : Value).ownBlock ∧ k_ ≠ gb373) (.slice Ao10 t369.length co10) t369) := ⟨(by rw [hw]; exact (by (with_reducible repeat (first | apply Kd.V_alloc | apply Kd.V_drewN | apply Kd.V_drew)); exact Kd.V_mono (Kd.V_far (p := ⟨gb373, 2, none⟩) (Kd.V_mono HO_374002.out (fun k_ hk => (⟨hk, hk.1.2⟩ : _ ∧ k_ ≠ gb373))) (fun _ hk => hk.2) (.slice Ao40 t379.length co40)) (fun _ hk => ⟨hk.1.1.1, ⟨hk.1.2, hk.1.1.2⟩⟩)))⟩; have n2_ : Aside0 (Kd.R (Kd.int .i64) 3 w42 w.heap.size (fun k_ => (w.heap.size ≤ k_)) (.slice Ao40 t379.length co40) t379) := ⟨(by rw [hw]; exact (by (with_reducible repeat (first | apply Kd.R_alloc | apply Kd.R_drewN | apply Kd.R_drew)); exact Kd.R_mono (Kd.R_far (p := ⟨gb373, 2, none⟩) (Kd.R_types HO381.out BK373.out (by decide)) (fun _ hk => hk.2) (.slice Ao40 t379.length co40)) (fun _ hk => hk.1.1)))⟩; have n3_ : Aside0 (w42.heap[gb373]? = some (.cells #[.int .i64 t367, .int .i64 t368, .slice Ao40 t379.length co40] 33 (0, 0))) := ⟨(by rw [hw]; exact (by (with_reducible repeat (first | refine blk_drewN ?_ _ | refine blk_drew ?_ | refine blk_alloc ?_ _)); refine blk_put (cs := #[.int .i64 t367, .int .i64 t368, .slice Ao10 t369.length co10]) ?_ 2 _ rfl; (with_reducible repeat (first | refine blk_drewN ?_ _ | refine blk_drew ?_ | refine blk_alloc ?_ _)); exact BK373.out))⟩; have n4_ : Aside0 (Below w.heap.size w w42) := ⟨(by rw [hw]; exact (zB1 HB GE373))⟩; clear hw; clear HO_0; clear HO_374002; clear HO381; clear BK373; clear HB; have HO_0 := n0_; have HO_374002 := n1_; have HO381 := n2_; have BK373 := n3_; have HB := n4_; clear n0_ n1_ n2_ n3_ n4_; have hcz43_0 : w42.cell? ⟨gb373, 0, none⟩ = some (.int .i64 t367) := (blk_cell BK373.out 0).trans rfl; have hcz43_1 : w42.cell? ⟨gb373, 1, none⟩ = some (.int .i64 t368) := (blk_cell BK373.out 1).trans rfl; have hcz43_2 : w42.cell? ⟨gb373, 2, none⟩ = some (.slice Ao40 t379.length co40) := (blk_cell BK373.out 2).trans rfl; have hfz43_0 := blk_frozen BK373.out 0; have hfz43_1 := blk_frozen BK373.out 1; have hfz43_2 := blk_frozen BK373.out 2) | ((with_reducible refine gate_callee (f := 17) rfl ?_); refine goesL_ (some 53) rfl rfl Try.func17 (by kernel_rfl) rfl #[.slice A0 l0.length c0, .agg #[.int .i64 t367, .int .i64 t368, .slice Ao40 t379.length co40]] rfl zP ?_; (with_reducible refine (root_Set.calls (fun k_ => ((P0_ k_ ∨ w.heap.size ≤ k_) ∧ (some k_ ≠ (.slice Ao40 t379.length co40 : Value).ownBlock ∧ k_ ≠ gb373))) _ _ l0 t367 t368 (fun k_ => some k_ = (.slice Ao40 t379.length co40 : Value).ownBlock) _ _ t379 t383 t386 _ ?side1 ?side2 A29.out).mono ?_); (case side1 => exact HO_0.out); (case side2 => exact Kd.R_V (Kd.R_tight rfl (Kd.R_types (HO381.out) BK373.out (by decide)))); rintro e w44 ⟨v384, rfl, ho0, hb⟩; refine ⟨_, rfl, ?_⟩; have n0_ := Aside0.mk (Kd.V_below (zV HO_0) hb); have n1_ := Aside0.mk (Kd.V_below (zV HO_374002) hb); have n2_ := Aside0.mk (Kd.R_below (zR HO381) hb); have n3_ := Aside0.mk (Kd.V_lower (Kd.V_mono (ok' := fun k_ => (P0_ k_ ∨ w.heap.size ≤ k_) ∧ k_ ≠ gb373) ho0 (fun k_ hk_ => ⟨Or.elim hk_ (fun hs_ => Or.elim hs_ (fun hs_ => hs_.1) (fun hs_ => (.inr (((Kd.R_types (HO381.out) BK373.out (by decide)).1 k_ hs_.symm).1)))) (fun hn_ => (.inr (Nat.le_trans (below_size (zB1 HB GE373)) hn_))), Or.elim hk_ (fun hs_ => Or.elim hs_ (fun hs_ => hs_.2.2) (fun hs_ => ((Kd.R_types (HO381.out) BK373.out (by decide)).1 k_ hs_.symm).2)) (fun hn_ => (Kd.freshB (g := gb373) (o := .cells #[.int .i64 t367, .int .i64 t368, .slice Ao40 t379.length co40] 33 (0, 0)) (zK BK373) k_ hn_))⟩)) (below_size (zB1 HB GE373))); have n4_ := Aside0.mk (blk_below (g := gb373) (o := .cells #[.int .i64 t367, .int .i64 t368, .slice Ao40 t379.length co40] 33 (0, 0)) (zK BK373) hb); have n5_ := Aside0.mk (below_step (zB1 HB GE373) hb); clear HO_0; clear HO_374002; clear HO381; clear BK373; clear HB; have HO_0 := n0_; have HO_374002 := n1_; have HO381 := n2_; have HO385 := n3_; have BK373 := n4_; have HB := n5_; clear n0_ n1_ n2_ n3_ n4_ n5_; (try clear hb); (try clear hb2); (try clear hk); (try clear hi); (try clear ho0)))
        go_ret3
        exact ⟨_, by first | rfl | (simp [errW_none, errW_some] <;> rfl) | (simp [*, errW_none, errW_some] <;> rfl), Kd.V_mono (Kd.S_V (by first | exact Kd.S_nil _ _ _ 0 (fun k_ => w.heap.size ≤ k_) | exact Kd.S_nil _ _ _ _ _ | exact Kd.N_nil _ _ _ _ _ | exact Kd.V_nil _ _ _ _ _ | exact Kd.Q_nil _ _ _ _ _ | exact Kd.R_nil _ _ _ _ _)) (fun k_ hk => by first | exact ⟨(.inr (hk.1)), hk.2⟩ | exact (.inr (hk))), zB1 HB GE373⟩
      ·rw [if_neg c28] at H
       have c28b0 : (t382 == 0) = false := beq_eq_false_iff_ne.mpr c28
       have c28b1 : (t382 != 0) = true := bne_iff_ne.mpr c28
       simp only [Option.some.injEq, Prod.mk.injEq] at H
       obtain ⟨rfl, rfl, rfl⟩ := H
       have hcz45_0 : wc.cell? ⟨gb373, 0, none⟩ = some (.int .i64 t367) := (blk_cell BK373.out 0).trans rfl
       have hcz45_1 : wc.cell? ⟨gb373, 1, none⟩ = some (.int .i64 t368) := (blk_cell BK373.out 1).trans rfl
       have hcz45_2 : wc.cell? ⟨gb373, 2, none⟩ = some (.slice Ao10 t369.length co10) := (blk_cell BK373.out 2).trans rfl
       have hfz45_0 := blk_frozen BK373.out 0
       have hfz45_1 := blk_frozen BK373.out 1
       have hfz45_2 := blk_frozen BK373.out 2
       go_wp2_with (first | ((with_reducible refine gate_callee (f := 56) rfl ?_); refine goesL_ (some 29) rfl rfl Try.func56 (by kernel_rfl) rfl #[.slice Ao10 t369.length co10, .int .i64 a2] rfl zP ?_; (with_reducible refine (slices_Contains_int_int.calls kj5 _ _ t369 a2 false _ ?side1 ?side2 A13.out).mono ?_); (case side1 => repeat (first | exact (Kd.V_reads' HO_374002.out).2.2 | (with_reducible refine Kd.C_alloc ?_ _) | (with_reducible refine Kd.C_drewN ?_ _) | (with_reducible refine Kd.C_drew ?_))); (case side2 => exact (Kd.V_reads' HO_374002.out).2.1); rintro e w' ⟨rfl, ⟨nd, rfl⟩⟩; refine ⟨_, rfl, ?_⟩; (try (rw [drewN_self wc]; generalize hq_ : World.drewN wc _ = wc; have n0_ : Aside0 (Kd.V k33 33 wc w.heap.size (fun k_ => (P0_ k_ ∨ w.heap.size ≤ k_) ∧ k_ ≠ gb373) (.slice A0 l0.length c0) l0) := ⟨by rw [← hq_]; exact (zV HO_0)⟩; have n1_ : Aside0 (Kd.V (Kd.int .i64) 3 wc w.heap.size (fun k_ => (P0_ k_ ∨ w.heap.size ≤ k_) ∧ k_ ≠ gb373) (.slice Ao10 t369.length co10) t369) := ⟨by rw [← hq_]; exact (zV HO_374002)⟩; have n2_ : Aside0 (wc.heap[gb373]? = some (.cells #[.int .i64 t367, .int .i64 t368, .slice Ao10 t369.length co10] 33 (0, 0))) := ⟨by rw [← hq_]; exact (zK BK373)⟩; have n3_ : Aside0 (Below w.heap.size w wc) := ⟨by rw [← hq_]; exact (zB1 HB GE373)⟩; clear HO_0 HO_374002 BK373 HB hq_; have HO_0 := n0_; have HO_374002 := n1_; have BK373 := n2_; have HB := n3_; clear n0_ n1_ n2_ n3_; have hcz45_0 : wc.cell? ⟨gb373, 0, none⟩ = some (.int .i64 t367) := (blk_cell BK373.out 0).trans rfl; have hcz45_1 : wc.cell? ⟨gb373, 1, none⟩ = some (.int .i64 t368) := (blk_cell BK373.out 1).trans rfl; have hcz45_2 : wc.cell? ⟨gb373, 2, none⟩ = some (.slice Ao10 t369.length co10) := (blk_cell BK373.out 2).trans rfl; have hfz45_0 := blk_frozen BK373.out 0; have hfz45_1 := blk_frozen BK373.out 1; have hfz45_2 := blk_frozen BK373.out 2))) | ((with_reducible refine gate_callee (f := 57) rfl ?_); refine goesL_ (some 43) rfl rfl Try.func57 (by kernel_rfl) rfl #[.slice Ao10 t369.length co10, .int .i64 a2, .bool a3] rfl zP ?_; (with_reducible refine (line_Push.calls kj5 (fun k_ => ((P0_ k_ ∨ w.heap.size ≤ k_) ∧ k_ ≠ gb373)) _ _ t369 a2 a3 t379 t382 _ ?side1 A27.out).mono ?_); (case side1 => exact HO_374002.out); rintro e w46 ⟨v380, rfl, ho0, hb⟩; refine ⟨_, rfl, ?_⟩; have n0_ := Aside0.mk (Kd.V_elder' (zV HO_0) (Kd.R_base ho0) hb); have n1_ := Aside0.mk (Kd.V_elder' (zV HO_374002) (Kd.R_base ho0) hb); have n2_ := Aside0.mk (Kd.R_lower (Kd.R_newM (M := fun k_ => (w.heap.size ≤ k_)) (Kd.R_mono (ok' := fun k_ => True) ho0 (fun _ hk_ => trivial)) (below_size (zB1 HB GE373)) (fun k_ h_ => h_)) (below_size (zB1 HB GE373))); have n3_ := Aside0.mk (blk_below (g := gb373) (o := .cells #[.int .i64 t367, .int .i64 t368, .slice Ao10 t369.length co10] 33 (0, 0)) (zK BK373) hb); have n4_ := Aside0.mk (below_step (zB1 HB GE373) hb); clear HO_0; clear HO_374002; clear BK373; clear HB; have HO_0 := n0_; have HO_374002 := n1_; have HO381 := n2_; have BK373 := n3_; have HB := n4_; clear n0_ n1_ n2_ n3_ n4_; (try clear hb); (try clear hb2); (try clear hk); (try clear hi); (try clear ho0); obtain ⟨Ao47, co47, eo47⟩ := Kd.R_slice HO381.out; subst eo47; have hcz48_0 : w46.cell? ⟨gb373, 0, none⟩ = some (.int .i64 t367) := (blk_cell BK373.out 0).trans rfl; have hcz48_1 : w46.cell? ⟨gb373, 1, none⟩ = some (.int .i64 t368) := (blk_cell BK373.out 1).trans rfl; have hcz48_2 : w46.cell? ⟨gb373, 2, none⟩ = some (.slice Ao10 t369.length co10) := (blk_cell BK373.out 2).trans rfl; have hfz48_0 := blk_frozen BK373.out 0; have hfz48_1 := blk_frozen BK373.out 1; have hfz48_2 := blk_frozen BK373.out 2))
       go_ret3
       exact ⟨_, by first | rfl | (simp [errW_none, errW_some] <;> rfl) | (simp [*, errW_none, errW_some] <;> rfl), Kd.V_mono (Kd.S_V (by first | exact Kd.S_nil _ _ _ 0 (fun k_ => w.heap.size ≤ k_) | exact Kd.S_nil _ _ _ _ _ | exact Kd.N_nil _ _ _ _ _ | exact Kd.V_nil _ _ _ _ _ | exact Kd.Q_nil _ _ _ _ _ | exact Kd.R_nil _ _ _ _ _)) (fun k_ hk => by first | exact ⟨(.inr (hk.1)), hk.2⟩ | exact (.inr (hk))), zB1 HB GE373⟩

end Go.Proofs.Ytnjnjajgpkmfhaa.PX

namespace Go.Proofs.Ytnjnjajgpkmfhaa.PX
open Go.RowKit Go.Proofs.YtnjnjajgpkmfhaaW.PrintWords Go.Proofs.YtnjnjajgpkmfhaaW.PrintLast Go.Proofs.YtnjnjajgpkmfhaaW.PrintMore
attribute [local go_sem] max2_int min2_int max_two min_two max_three min_three max_four min_four   -- for this text's walks alone
set_option linter.unusedVariables false
set_option linter.unusedSimpArgs false

/-! ### sema_Release: function 32 -/
def sema_Release.f (l0 : List (S33)) (a1 : Int) : Option ((List (S33)) × Int × Int) := (root_Get.f l0 a1).bind fun bt387 => (if bt387.2.2.2 = 0 then ((line_Pop.f bt387.2.2.1).bind fun bt394 => (if bt394.2.2 = 0 then ((root_Set.f l0 bt387.1 bt387.2.1 bt394.1).bind fun bt399 => (if bt399.2 = 0 then (some (bt399.1, bt394.2.1, 0)) else (some (([] : List (S33)), 0, bt399.2)))) else (if bt387.2.1 = 2147483647 then (some (([] : List (S33)), 0, 10)) else ((root_Set.f l0 bt387.1 (wrap64 (bt387.2.1 + 1)) bt387.2.2.1).bind fun bt403 => (if bt403.2 = 0 then (some (bt403.1, (-1), 0)) else (some (([] : List (S33)), 0, bt403.2))))))) else (some (([] : List (S33)), 0, 1)))
set_option maxHeartbeats 8000000 in
set_option maxRecDepth 100000 in
theorem sema_Release.calls (P0_ : Nat → Prop) (A0 : Option Addr) (c0 : Nat) (l0 : List (S33)) (a1 : Int) (r1 : List (S33)) (r2 : Int) (r3 : Int) (w : World) (hs0 : Kd.V k33 33 w w.heap.size (fun k_ => P0_ k_) (.slice A0 l0.length c0) l0) (h : sema_Release.f l0 a1 = some (r1, r2, r3)) :
  Calls Try.prog 32 #[.slice A0 l0.length c0, .int .i64 a1] w fun e w' => ∃ v0_ : Value, e = .returned (.tuple #[v0_, .int .i64 r2, .int .i64 r3]) ∧ Kd.V k33 33 w' w.heap.size (fun k_ => (P0_ k_ ∨ w.heap.size ≤ k_)) v0_ r1 ∧ Below w.heap.size w w' := by
 have hu33 := Try.underlying33
 have HO0 := Aside0.mk (show Kd.V k33 33 w w.heap.size (fun k_ => (P0_ k_ ∨ w.heap.size ≤ k_)) (.slice A0 l0.length c0) l0 from Kd.V_mono hs0 (fun k_ hk => .inl hk))
 have HB := Aside0.mk (Below.refl w.heap.size w)
 have H : ((root_Get.f l0 a1).bind fun bt387 => (if bt387.2.2.2 = 0 then ((line_Pop.f bt387.2.2.1).bind fun bt394 => (if bt394.2.2 = 0 then ((root_Set.f l0 bt387.1 bt387.2.1 bt394.1).bind fun bt399 => (if bt399.2 = 0 then (some (bt399.1, bt394.2.1, 0)) else (some (([] : List (S33)), 0, bt399.2)))) else (if bt387.2.1 = 2147483647 then (some (([] : List (S33)), 0, 10)) else ((root_Set.f l0 bt387.1 (wrap64 (bt387.2.1 + 1)) bt387.2.2.1).bind fun bt403 => (if bt403.2 = 0 then (some (bt403.1, (-1), 0)) else (some (([] : List (S33)), 0, bt403.2))))))) else (some (([] : List (S33)), 0, 1)))) = some (r1, r2, r3) := h
 clear h
 replace H := Option.bind_eq_some_iff.mp H
 obtain ⟨⟨t387, t388, t389, t392⟩, A30, H⟩ := H
 replace H : (if t392 = 0 then ((line_Pop.f t389).bind fun bt394 => (if bt394.2.2 = 0 then ((root_Set.f l0 t387 t388 bt394.1).bind fun bt399 => (if bt399.2 = 0 then (some (bt399.1, bt394.2.1, 0)) else (some (([] : List (S33)), 0, bt399.2)))) else (if t388 = 2147483647 then (some (([] : List (S33)), 0, 10)) else ((root_Set.f l0 t387 (wrap64 (t388 + 1)) t389).bind fun bt403 => (if bt403.2 = 0 then (some (bt403.1, (-1), 0)) else (some (([] : List (S33)), 0, bt403.2))))))) else (some (([] : List (S33)), 0, 1))) = some (r1, r2, r3) := H
 have A3 := Aside0.mk A30
 clear A30
 by_cases c4 : t392 = 0
 ·rw [if_pos c4] at H
  have c4b0 : (t392 == 0) = true := beq_iff_eq.mpr c4
  have c4b1 : (t392 != 0) = false := bne_eq_false_iff_eq.mpr c4
  clear c4
  replace H := Option.bind_eq_some_iff.mp H
  obtain ⟨⟨t394, t397, t398⟩, A50, H⟩ := H
  replace H : (if t398 = 0 then ((root_Set.f l0 t387 t388 t394).bind fun bt399 => (if bt399.2 = 0 then (some (bt399.1, t397, 0)) else (some (([] : List (S33)), 0, bt399.2)))) else (if t388 = 2147483647 then (some (([] : List (S33)), 0, 10)) else ((root_Set.f l0 t387 (wrap64 (t388 + 1)) t389).bind fun bt403 => (if bt403.2 = 0 then (some (bt403.1, (-1), 0)) else (some (([] : List (S33)), 0, bt403.2)))))) = some (r1, r2, r3) := H
  have A5 := Aside0.mk A50
  clear A50
  by_cases c6 : t398 = 0
  ·rw [if_pos c6] at H
   have c6b0 : (t398 == 0) = true := beq_iff_eq.mpr c6
   have c6b1 : (t398 != 0) = false := bne_eq_false_iff_eq.mpr c6
   clear c6
   replace H := Option.bind_eq_some_iff.mp H
   obtain ⟨⟨t399, t402⟩, A70, H⟩ := H
   replace H : (if t402 = 0 then (some (t399, t397, 0)) else (some (([] : List (S33)), 0, t402))) = some (r1, r2, r3) := H
   have A7 := Aside0.mk A70
   clear A70
   by_cases c8 : t402 = 0
   ·rw [if_pos c8] at H
    have c8b0 : (t402 == 0) = true := beq_iff_eq.mpr c8
    have c8b1 : (t402 != 0) = false := bne_eq_false_iff_eq.mpr c8
    clear c8
    simp only [Option.some.injEq, Prod.mk.injEq] at H
    obtain ⟨rfl, rfl, rfl⟩ := H
    go_enter Try.func32, Try.ntmps32
    go_wp2_with (first | ((with_reducible refine gate_callee (f := 16) rfl ?_); refine goesL_ (some 16) rfl rfl Try.func16 (by kernel_rfl) rfl #[.slice A0 l0.length c0, .int .i64 a1] rfl zP ?_; (with_reducible refine (root_Get.calls (fun k_ => (P0_ k_ ∨ w.heap.size ≤ k_)) _ _ l0 a1 t387 t388 t389 t392 _ ?side1 A3.out).mono ?_); (case side1 => exact HO0.out); rintro e w9 ⟨v390, rfl, ho0, hb⟩; refine ⟨_, rfl, ?_⟩; have n0_ := Aside0.mk (Kd.V_below (zV HO0) hb); have n1_ := Aside0.mk (Kd.V_lower (Kd.V_mono (ok' := fun k_ => (P0_ k_ ∨ w.heap.size ≤ k_)) ho0 (fun k_ hk_ => Or.elim hk_ (fun hs_ => hs_) (fun hn_ => (.inr (Nat.le_trans (below_size (zB HB)) hn_))))) (below_size (zB HB))); have n2_ := Aside0.mk (below_step (zB HB) hb); clear HO0; clear HB; have HO0 := n0_; have HO391 := n1_; have HB := n2_; clear n0_ n1_ n2_; (try clear hb); (try clear hb2); (try clear hk); (try clear hi); (try clear ho0)) | ((with_reducible refine gate_dst (N := 7) rfl ?_); refine box_event ?hg (N := 7) ?hd (cs := #[.int .i64 0, .int .i64 0, .slice none 0 0]) (t := 33) ?hr ?_; (case hd => rfl); (case hg => rfl); (case hr => first | (go_simp; done) | (go_simp; rfl)); intro gb393 hg w10 hbox hb; have n0_ := Aside0.mk (Kd.V_below (Kd.V_elderB (zV HO0) gb393 (Nat.le_of_eq hg.symm)) hb); have n1_ := Aside0.mk (Kd.V_below (Kd.V_elderB (zV HO391) gb393 (Nat.le_of_eq hg.symm)) hb); have n2_ := Aside0.mk (below_step (zB HB) hb); have n3_ := Aside0.mk (hbox); have n4_ := Aside0.mk ((by rw [hg]; exact (below_size (zB HB)) : w.heap.size ≤ gb393)); have n5_ := Aside0.mk ((by rw [hg]; exact (below_size (zB HB)) : w.heap.size ≤ gb393)); clear HO0; clear HO391; clear HB; have HO0 := n0_; have HO391 := n1_; have HB := n2_; have BK393 := n3_; have GW393 := n4_; have GE393 := n5_; clear n0_ n1_ n2_ n3_ n4_ n5_; clear hb hbox hg; have hcz11_0 : w10.cell? ⟨gb393, 0, none⟩ = some (.int .i64 0) := (blk_cell BK393.out 0).trans rfl; have hcz11_1 : w10.cell? ⟨gb393, 1, none⟩ = some (.int .i64 0) := (blk_cell BK393.out 1).trans rfl; have hcz11_2 : w10.cell? ⟨gb393, 2, none⟩ = some (.slice none 0 0) := (blk_cell BK393.out 2).trans rfl; have hfz11_0 := blk_frozen BK393.out 0; have hfz11_1 := blk_frozen BK393.out 1; have hfz11_2 := blk_frozen BK393.out 2; obtain ⟨Ao12, co12, eo12⟩ := Kd.V_slice HO391.out; subst eo12) | ((with_reducible refine gate_store (t := 33) (p := 7) rfl ?_); refine store_event (t := 33) (p := 7) (v := ?vo_w13) (w1 := (((w10.setCell ⟨gb393, 0, none⟩ (.int .i64 t387)).setCell ⟨gb393, 1, none⟩ (.int .i64 t388)).setCell ⟨gb393, 2, none⟩ (.slice Ao12 t389.length co12))) ?hg ?ho ?hn ?hr ?_; (case ho => rfl); (case hg => rfl); (case hn => rfl); (case hr => first | (go_simp; done) | (go_simp; rfl)); intro w13 hw; have n0_ : Aside0 (Kd.V k33 33 w13 w.heap.size (fun k_ => (P0_ k_ ∨ w.heap.size ≤ k_) ∧ k_ ≠ gb393) (.slice A0 l0.length c0) l0) := ⟨(by rw [hw]; exact (by (with_reducible repeat (first | apply Kd.V_alloc | apply Kd.V_drewN | apply Kd.V_drew)); exact Kd.V_mono (Kd.V_far (p := ⟨gb393, 2, none⟩) (Kd.V_far (p := ⟨gb393, 1, none⟩) (Kd.V_far (p := ⟨gb393, 0, none⟩) (Kd.V_mono HO0.out (fun k_ hk => (⟨hk, hk.2⟩ : _ ∧ k_ ≠ gb393))) (fun _ hk => hk.2) (.int .i64 t387)) (fun _ hk => hk.2) (.int .i64 t388)) (fun _ hk => hk.2) (.slice Ao12 t389.length co12)) (fun _ hk => ⟨hk.1.1, hk.1.2⟩)))⟩; have n1_ : Aside0 (Kd.V (Kd.int .i64) 3 w13 w.heap.size (fun k_ => (P0_ k_ ∨ w.heap.size ≤ k_) ∧ k_ ≠ gb393) (.slice Ao12 t389.length co12) t389) := ⟨(by rw [hw]; exact (by (with_reducible repeat (first | apply Kd.V_alloc | apply Kd.V_drewN | apply Kd.V_drew)); exact Kd.V_mono (Kd.V_far (p := ⟨gb393, 2, none⟩) (Kd.V_far (p := ⟨gb393, 1, none⟩) (Kd.V_far (p := ⟨gb393, 0, none⟩) (Kd.V_mono HO391.out (fun k_ hk => (⟨hk, hk.2⟩ : _ ∧ k_ ≠ gb393))) (fun _ hk => hk.2) (.int .i64 t387)) (fun _ hk => hk.2) (.int .i64 t388)) (fun _ hk => hk.2) (.slice Ao12 t389.length co12)) (fun _ hk => ⟨hk.1.1, hk.1.2⟩)))⟩; have n2_ : Aside0 (w13.heap[gb393]? = some (.cells #[.int .i64 t387, .int .i64 t388, .slice Ao12 t389.length co12] 33 (0, 0))) := ⟨(by rw [hw]; exact (by (with_reducible repeat (first | refine blk_drewN ?_ _ | refine blk_drew ?_ | refine blk_alloc ?_ _)); refine blk_put (cs := #[.int .i64 t387, .int .i64 t388, .slice none 0 0]) ?_ 2 _ rfl; (with_reducible repeat (first | refine blk_drewN ?_ _ | refine blk_drew ?_ | refine blk_alloc ?_ _)); refine blk_put (cs := #[.int .i64 t387, .int .i64 0, .slice none 0 0]) ?_ 1 _ rfl; (with_reducible repeat (first | refine blk_drewN ?_ _ | refine blk_drew ?_ | refine blk_alloc ?_ _)); refine blk_put (cs := #[.int .i64 0, .int .i64 0, .slice none 0 0]) ?_ 0 _ rfl; (with_reducible repeat (first | refine blk_drewN ?_ _ | refine blk_drew ?_ | refine blk_alloc ?_ _)); exact BK393.out))⟩; have n3_ : Aside0 (Below w.heap.size w w13) := ⟨(by rw [hw]; exact (zB1 HB GE393))⟩; clear hw; clear HO0; clear HO391; clear BK393; clear HB; have HO0 := n0_; have HO391 := n1_; have BK393 := n2_; have HB := n3_; clear n0_ n1_ n2_ n3_; have hcz14_0 : w13.cell? ⟨gb393, 0, none⟩ = some (.int .i64 t387) := (blk_cell BK393.out 0).trans rfl; have hcz14_1 : w13.cell? ⟨gb393, 1, none⟩ = some (.int .i64 t388) := (blk_cell BK393.out 1).trans rfl; have hcz14_2 : w13.cell? ⟨gb393, 2, none⟩ = some (.slice Ao12 t389.length co12) := (blk_cell BK393.out 2).trans rfl; have hfz14_0 := blk_frozen BK393.out 0; have hfz14_1 := blk_frozen BK393.out 1; have hfz14_2 := blk_frozen BK393.out 2) | ((with_reducible refine gate_callee (f := 58) rfl ?_); refine goesL_ (some 24) rfl rfl Try.func58 (by kernel_rfl) rfl #[.slice Ao12 t389.length co12] rfl zP ?_; (with_reducible refine (line_Pop.calls (fun k_ => ((P0_ k_ ∨ w.heap.size ≤ k_) ∧ k_ ≠ gb393)) _ _ t389 t394 t397 t398 _ ?side1 A5.out).mono ?_); (case side1 => exact HO391.out); rintro e w15 ⟨v395, rfl, ho0, hb⟩; refine ⟨_, rfl, ?_⟩; have n0_ := Aside0.mk (Kd.V_below (zV HO0) hb); have n1_ := Aside0.mk (Kd.V_below (zV HO391) hb); have n2_ := Aside0.mk (Kd.V_lower (Kd.V_mono (ok' := fun k_ => (P0_ k_ ∨ w.heap.size ≤ k_) ∧ k_ ≠ gb393) ho0 (fun k_ hk_ => ⟨Or.elim hk_ (fun hs_ => hs_.1) (fun hn_ => (.inr (Nat.le_trans (below_size (zB1 HB GE393)) hn_))), Or.elim hk_ (fun hs_ => hs_.2) (fun hn_ => (Kd.freshB (g := gb393) (o := .cells #[.int .i64 t387, .int .i64 t388, .slice Ao12 t389.length co12] 33 (0, 0)) (zK BK393) k_ hn_))⟩)) (below_size (zB1 HB GE393))); have n3_ := Aside0.mk (blk_below (g := gb393) (o := .cells #[.int .i64 t387, .int .i64 t388, .slice Ao12 t389.length co12] 33 (0, 0)) (zK BK393) hb); have n4_ := Aside0.mk (below_step (zB1 HB GE393) hb); clear HO0; clear HO391; clear BK393; clear HB; have HO0 := n0_; have HO391 := n1_; have HO396 := n2_; have BK393 := n3_; have HB := n4_; clear n0_ n1_ n2_ n3_ n4_; (try clear hb); (try clear hb2); (try clear hk); (try clear hi); (try clear ho0); obtain ⟨Ao16, co16, eo16⟩ := Kd.V_slice HO396.out; subst eo16; have hcz17_0 : w15.cell? ⟨gb393, 0, none⟩ = some (.int .i64 t387) := (blk_cell BK393.out 0).trans rfl; have hcz17_1 : w15.cell? ⟨gb393, 1, none⟩ = some (.int .i64 t388) := (blk_cell BK393.out 1).trans rfl; have hcz17_2 : w15.cell? ⟨gb393, 2, none⟩ = some (.slice Ao12 t389.length co12) := (blk_cell BK393.out 2).trans rfl; have hfz17_0 := blk_frozen BK393.out 0; have hfz17_1 := blk_frozen BK393.out 1; have hfz17_2 := blk_frozen BK393.out 2) | ((with_reducible refine gate_store (t := 25) (p := 37) rfl ?_); refine store_event (t := 25) (p := 37) (v := ?vo_w18) (w1 := (w15.setCell ⟨gb393, 2, none⟩ (.slice Ao16 t394.length co16))) ?hg ?ho ?hn ?hr ?_; (case ho => rfl); (case hg => rfl); (case hn => rfl); (case hr => first | (go_simp; done) | (go_simp; rfl)); intro w18 hw; have n0_ : Aside0 (Kd.V k33 33 w18 w.heap.size (fun k_ => (P0_ k_ ∨ w.heap.size ≤ k_) ∧ k_ ≠ gb393) (.slice A0 l0.length c0) l0) := ⟨(by rw [hw]; exact (by (with_reducible repeat (first | apply Kd.V_alloc | apply Kd.V_drewN | apply Kd.V_drew)); exact Kd.V_mono (Kd.V_far (p := ⟨gb393, 2, none⟩) (Kd.V_mono HO0.out (fun k_ hk => (⟨hk, hk.2⟩ : _ ∧ k_ ≠ gb393))) (fun _ hk => hk.2) (.slice Ao16 t394.length co16)) (fun _ hk => ⟨hk.1.1, hk.1.2⟩)))⟩; have n1_ : Aside0 (Kd.V (Kd.int .i64) 3 w18 w.heap.size (fun k_ => (P0_ k_ ∨ w.heap.size ≤ k_) ∧ k_ ≠ gb393) (.slice Ao12 t389.length co12) t389) := ⟨(by rw [hw]; exact (by (with_reducible repeat (first | apply Kd.V_alloc | apply Kd.V_drewN | apply Kd.V_drew)); exact Kd.V_mono (Kd.V_far (p := ⟨gb393, 2, none⟩) (Kd.V_mono HO391.out (fun k_ hk => (⟨hk, hk.2⟩ : _ ∧ k_ ≠ gb393))) (fun _ hk => hk.2) (.slice Ao16 t394.length co16)) (fun _ hk => ⟨hk.1.1, hk.1.2⟩)))⟩; have n2_ : Aside0 (Kd.V (Kd.int .i64) 3 w18 w.heap.size (fun k_ => (P0_ k_ ∨ w.heap.size ≤ k_) ∧ k_ ≠ gb393) (.slice Ao16 t394.length co16) t394) := ⟨(by rw [hw]; exact (by (with_reducible repeat (first | apply Kd.V_alloc | apply Kd.V_drewN | apply Kd.V_drew)); exact Kd.V_mono (Kd.V_far (p := ⟨gb393, 2, none⟩) (Kd.V_mono HO396.out (fun k_ hk => (⟨hk, hk.2⟩ : _ ∧ k_ ≠ gb393))) (fun _ hk => hk.2) (.slice Ao16 t394.length co16)) (fun _ hk => ⟨hk.1.1, hk.1.2⟩)))⟩; have n3_ : Aside0 (w18.heap[gb393]? = some (.cells #[.int .i64 t387, .int .i64 t388, .slice Ao16 t394.length co16] 33 (0, 0))) := ⟨(by rw [hw]; exact (by (with_reducible repeat (first | refine blk_drewN ?_ _ | refine blk_drew ?_ | refine blk_alloc ?_ _)); refine blk_put (cs := #[.int .i64 t387, .int .i64 t388, .slice Ao12 t389.length co12]) ?_ 2 _ rfl; (with_reducible repeat (first | refine blk_drewN ?_ _ | refine blk_drew ?_ | refine blk_alloc ?_ _)); exact BK393.out))⟩; have n4_ : Aside0 (Below w.heap.size w w18) := ⟨(by rw [hw]; exact (zB1 HB GE393))⟩; clear hw; clear HO0; clear HO391; clear HO396; clear BK393; clear HB; have HO0 := n0_; have HO391 := n1_; have HO396 := n2_; have BK393 := n3_; have HB := n4_; clear n0_ n1_ n2_ n3_ n4_; have hcz19_0 : w18.cell? ⟨gb393, 0, none⟩ = some (.int .i64 t387) := (blk_cell BK393.out 0).trans rfl; have hcz19_1 : w18.cell? ⟨gb393, 1, none⟩ = some (.int .i64 t388) := (blk_cell BK393.out 1).trans rfl; have hcz19_2 : w18.cell? ⟨gb393, 2, none⟩ = some (.slice Ao16 t394.length co16) := (blk_cell BK393.out 2).trans rfl; have hfz19_0 := blk_frozen BK393.out 0; have hfz19_1 := blk_frozen BK393.out 1; have hfz19_2 := blk_frozen BK393.out 2) | ((with_reducible refine gate_callee (f := 17) rfl ?_); refine goesL_ (some 45) rfl rfl Try.func17 (by kernel_rfl) rfl #[.slice A0 l0.length c0, .agg #[.int .i64 t387, .int .i64 t388, .slice Ao16 t394.length co16]] rfl zP ?_; (with_reducible refine (root_Set.calls (fun k_ => ((P0_ k_ ∨ w.heap.size ≤ k_) ∧ k_ ≠ gb393)) _ _ l0 t387 t388 (fun k_ => ((P0_ k_ ∨ w.heap.size ≤ k_) ∧ k_ ≠ gb393)) _ _ t394 t399 t402 _ ?side1 ?side2 A7.out).mono ?_); (case side1 => exact HO0.out); (case side2 => exact HO396.out); rintro e w20 ⟨v400, rfl, ho0, hb⟩; refine ⟨_, rfl, ?_⟩; have n0_ := Aside0.mk (Kd.V_below (zV HO0) hb); have n1_ := Aside0.mk (Kd.V_below (zV HO391) hb); have n2_ := Aside0.mk (Kd.V_below (zV HO396) hb); have n3_ := Aside0.mk (Kd.V_lower (Kd.V_mono (ok' := fun k_ => (P0_ k_ ∨ w.heap.size ≤ k_) ∧ k_ ≠ gb393) ho0 (fun k_ hk_ => ⟨Or.elim hk_ (fun hs_ => Or.elim hs_ (fun hs_ => hs_.1) (fun hs_ => hs_.1)) (fun hn_ => (.inr (Nat.le_trans (below_size (zB1 HB GE393)) hn_))), Or.elim hk_ (fun hs_ => Or.elim hs_ (fun hs_ => hs_.2) (fun hs_ => hs_.2)) (fun hn_ => (Kd.freshB (g := gb393) (o := .cells #[.int .i64 t387, .int .i64 t388, .slice Ao16 t394.length co16] 33 (0, 0)) (zK BK393) k_ hn_))⟩)) (below_size (zB1 HB GE393))); have n4_ := Aside0.mk (blk_below (g := gb393) (o := .cells #[.int .i64 t387, .int .i64 t388, .slice Ao16 t394.length co16] 33 (0, 0)) (zK BK393) hb); have n5_ := Aside0.mk (below_step (zB1 HB GE393) hb); clear HO0; clear HO391; clear HO396; clear BK393; clear HB; have HO0 := n0_; have HO391 := n1_; have HO396 := n2_; have HO401 := n3_; have BK393 := n4_; have HB := n5_; clear n0_ n1_ n2_ n3_ n4_ n5_; (try clear hb); (try clear hb2); (try clear hk); (try clear hi); (try clear ho0)))
    go_ret3
    exact ⟨_, by first | rfl | (simp [errW_none, errW_some] <;> rfl) | (simp [*, errW_none, errW_some] <;> rfl), by (with_reducible repeat (first | apply Kd.V_alloc | apply Kd.V_drewN | apply Kd.V_drew)); exact Kd.V_mono HO401.out (fun _ hk => hk.1), zB1 HB GE393⟩
   ·rw [if_neg c8] at H
    have c8b0 : (t402 == 0) = false := beq_eq_false_iff_ne.mpr c8
    have c8b1 : (t402 != 0) = true := bne_iff_ne.mpr c8
    simp only [Option.some.injEq, Prod.mk.injEq] at H
    obtain ⟨rfl, rfl, rfl⟩ := H
    go_enter Try.func32, Try.ntmps32
    go_wp2_with (first | ((with_reducible refine gate_callee (f := 16) rfl ?_); refine goesL_ (some 16) rfl rfl Try.func16 (by kernel_rfl) rfl #[.slice A0 l0.length c0, .int .i64 a1] rfl zP ?_; (with_reducible refine (root_Get.calls (fun k_ => (P0_ k_ ∨ w.heap.size ≤ k_)) _ _ l0 a1 t387 t388 t389 t392 _ ?side1 A3.out).mono ?_); (case side1 => exact HO0.out); rintro e w21 ⟨v390, rfl, ho0, hb⟩; refine ⟨_, rfl, ?_⟩; have n0_ := Aside0.mk (Kd.V_below (zV HO0) hb); have n1_ := Aside0.mk (Kd.V_lower (Kd.V_mono (ok' := fun k_ => (P0_ k_ ∨ w.heap.size ≤ k_)) ho0 (fun k_ hk_ => Or.elim hk_ (fun hs_ => hs_) (fun hn_ => (.inr (Nat.le_trans (below_size (zB HB)) hn_))))) (below_size (zB HB))); have n2_ := Aside0.mk (below_step (zB HB) hb); clear HO0; clear HB; have HO0 := n0_; have HO391 := n1_; have HB := n2_; clear n0_ n1_ n2_; (try clear hb); (try clear hb2); (try clear hk); (try clear hi); (try clear ho0)) | ((with_reducible refine gate_dst (N := 7) rfl ?_); refine box_event ?hg (N := 7) ?hd (cs := #[.int .i64 0, .int .i64 0, .slice none 0 0]) (t := 33) ?hr ?_; (case hd => rfl); (case hg => rfl); (case hr => first | (go_simp; done) | (go_simp; rfl)); intro gb393 hg w22 hbox hb; have n0_ := Aside0.mk (Kd.V_below (Kd.V_elderB (zV HO0) gb393 (Nat.le_of_eq hg.symm)) hb); have n1_ := Aside0.mk (Kd.V_below (Kd.V_elderB (zV HO391) gb393 (Nat.le_of_eq hg.symm)) hb); have n2_ := Aside0.mk (below_step (zB HB) hb); have n3_ := Aside0.mk (hbox); have n4_ := Aside0.mk ((by rw [hg]; exact (below_size (zB HB)) : w.heap.size ≤ gb393)); have n5_ := Aside0.mk ((by rw [hg]; exact (below_size (zB HB)) : w.heap.size ≤ gb393)); clear HO0; clear HO391; clear HB; have HO0 := n0_; have HO391 := n1_; have HB := n2_; have BK393 := n3_; have GW393 := n4_; have GE393 := n5_; clear n0_ n1_ n2_ n3_ n4_ n5_; clear hb hbox hg; have hcz23_0 : w22.cell? ⟨gb393, 0, none⟩ = some (.int .i64 0) := (blk_cell BK393.out 0).trans rfl; have hcz23_1 : w22.cell? ⟨gb393, 1, none⟩ = some (.int .i64 0) := (blk_cell BK393.out 1).trans rfl; have hcz23_2 : w22.cell? ⟨gb393, 2, none⟩ = some (.slice none 0 0) := (blk_cell BK393.out 2).trans rfl; have hfz23_0 := blk_frozen BK393.out 0; have hfz23_1 := blk_frozen BK393.out 1; have hfz23_2 := blk_frozen BK393.out 2; obtain ⟨Ao24, co24, eo24⟩ := Kd.V_slice HO391.out; subst eo24) | ((with_reducible refine gate_store (t := 33) (p := 7) rfl ?_); refine store_event (t := 33) (p := 7) (v := ?vo_w25) (w1 := (((w22.setCell ⟨gb393, 0, none⟩ (.int .i64 t387)).setCell ⟨gb393, 1, none⟩ (.int .i64 t388)).setCell ⟨gb393, 2, none⟩ (.slice Ao24 t389.length co24))) ?hg ?ho ?hn ?hr ?_; (case ho => rfl); (case hg => rfl); (case hn => rfl); (case hr => first | (go_simp; done) | (go_simp; rfl)); intro w25 hw; have n0_ : Aside0 (Kd.V k33 33 w25 w.heap.size (fun k_ => (P0_ k_ ∨ w.heap.size ≤ k_) ∧ k_ ≠ gb393) (.slice A0 l0.length c0) l0) := ⟨(by rw [hw]; exact (by (with_reducible repeat (first | apply Kd.V_alloc | apply Kd.V_drewN | apply Kd.V_drew)); exact Kd.V_mono (Kd.V_far (p := ⟨gb393, 2, none⟩) (Kd.V_far (p := ⟨gb393, 1, none⟩) (Kd.V_far (p := ⟨gb393, 0, none⟩) (Kd.V_mono HO0.out (fun k_ hk => (⟨hk, hk.2⟩ : _ ∧ k_ ≠ gb393))) (fun _ hk => hk.2) (.int .i64 t387)) (fun _ hk => hk.2) (.int .i64 t388)) (fun _ hk => hk.2) (.slice Ao24 t389.length co24)) (fun _ hk => ⟨hk.1.1, hk.1.2⟩)))⟩; have n1_ : Aside0 (Kd.V (Kd.int .i64) 3 w25 w.heap.size (fun k_ => (P0_ k_ ∨ w.heap.size ≤ k_) ∧ k_ ≠ gb393) (.slice Ao24 t389.length co24) t389) := ⟨(by rw [hw]; exact (by (with_reducible repeat (first | apply Kd.V_alloc | apply Kd.V_drewN | apply Kd.V_drew)); exact Kd.V_mono (Kd.V_far (p := ⟨gb393, 2, none⟩) (Kd.V_far (p := ⟨gb393, 1, none⟩) (Kd.V_far (p := ⟨gb393, 0, none⟩) (Kd.V_mono HO391.out (fun k_ hk => (⟨hk, hk.2⟩ : _ ∧ k_ ≠ gb393))) (fun _ hk => hk.2) (.int .i64 t387)) (fun _ hk => hk.2) (.int .i64 t388)) (fun _ hk => hk.2) (.slice Ao24 t389.length co24)) (fun _ hk => ⟨hk.1.1, hk.1.2⟩)))⟩; have n2_ : Aside0 (w25.heap[gb393]? = some (.cells #[.int .i64 t387, .int .i64 t388, .slice Ao24 t389.length co24] 33 (0, 0))) := ⟨(by rw [hw]; exact (by (with_reducible repeat (first | refine blk_drewN ?_ _ | refine blk_drew ?_ | refine blk_alloc ?_ _)); refine blk_put (cs := #[.int .i64 t387, .int .i64 t388, .slice none 0 0]) ?_ 2 _ rfl; (with_reducible repeat (first | refine blk_drewN ?_ _ | refine blk_drew ?_ | refine blk_alloc ?_ _)); refine blk_put (cs := #[.int .i64 t387, .int .i64 0, .slice none 0 0]) ?_ 1 _ rfl; (with_reducible repeat (first | refine blk_drewN ?_ _ | refine blk_drew ?_ | refine blk_alloc ?_ _)); refine blk_put (cs := #[.int .i64 0, .int .i64 0, .slice none 0 0]) ?_ 0 _ rfl; (with_reducible repeat (first | refine blk_drewN ?_ _ | refine blk_drew ?_ | refine blk_alloc ?_ _)); exact BK393.out))⟩; have n3_ : Aside0 (Below w.heap.size w w25) := ⟨(by rw [hw]; exact (zB1 HB GE393))⟩; clear hw; clear HO0; clear HO391; clear BK393; clear HB; have HO0 := n0_; have HO391 := n1_; have BK393 := n2_; have HB := n3_; clear n0_ n1_ n2_ n3_; have hcz26_0 : w25.cell? ⟨gb393, 0, none⟩ = some (.int .i64 t387) := (blk_cell BK393.out 0).trans rfl; have hcz26_1 : w25.cell? ⟨gb393, 1, none⟩ = some (.int .i64 t388) := (blk_cell BK393.out 1).trans rfl; have hcz26_2 : w25.cell? ⟨gb393, 2, none⟩ = some (.slice Ao24 t389.length co24) := (blk_cell BK393.out 2).trans rfl; have hfz26_0 := blk_frozen BK393.out 0; have hfz26_1 := blk_frozen BK393.out 1; have hfz26_2 := blk_frozen BK393.out 2) | ((with_reducible refine gate_callee (f := 58) rfl ?_); refine goesL_ (some 24) rfl rfl Try.func58 (by kernel_rfl) rfl #[.slice Ao24 t389.length co24] rfl zP ?_; (with_reducible refine (line_Pop.calls (fun k_ => ((P0_ k_ ∨ w.heap.size ≤ k_) ∧ k_ ≠ gb393)) _ _ t389 t394 t397 t398 _ ?side1 A5.out).mono ?_); (case side1 => exact HO391.out); rintro e w27 ⟨v395, rfl, ho0, hb⟩; refine ⟨_, rfl, ?_⟩; have n0_ := Aside0.mk (Kd.V_below (zV HO0) hb); have n1_ := Aside0.mk (Kd.V_below (zV HO391) hb); have n2_ := Aside0.mk (Kd.V_lower (Kd.V_mono (ok' := fun k_ => (P0_ k_ ∨ w.heap.size ≤ k_) ∧ k_ ≠ gb393) ho0 (fun k_ hk_ => ⟨Or.elim hk_ (fun hs_ => hs_.1) (fun hn_ => (.inr (Nat.le_trans (below_size (zB1 HB GE393)) hn_))), Or.elim hk_ (fun hs_ => hs_.2) (fun hn_ => (Kd.freshB (g := gb393) (o := .cells #[.int .i64 t387, .int .i64 t388, .slice Ao24 t389.length co24] 33 (0, 0)) (zK BK393) k_ hn_))⟩)) (below_size (zB1 HB GE393))); have n3_ := Aside0.mk (blk_below (g := gb393) (o := .cells #[.int .i64 t387, .int .i64 t388, .slice Ao24 t389.length co24] 33 (0, 0)) (zK BK393) hb); have n4_ := Aside0.mk (below_step (zB1 HB GE393) hb); clear HO0; clear HO391; clear BK393; clear HB; have HO0 := n0_; have HO391 := n1_; have HO396 := n2_; have BK393 := n3_; have HB := n4_; clear n0_ n1_ n2_ n3_ n4_; (try clear hb); (try clear hb2); (try clear hk); (try clear hi); (try clear ho0); obtain ⟨Ao28, co28, eo28⟩ := Kd.V_slice HO396.out; subst eo28; have hcz29_0 : w27.cell? ⟨gb393, 0, none⟩ = some (.int .i64 t387) := (blk_cell BK393.out 0).trans rfl; have hcz29_1 : w27.cell? ⟨gb393, 1, none⟩ = some (.int .i64 t388) := (blk_cell BK393.out 1).trans rfl; have hcz29_2 : w27.cell? ⟨gb393, 2, none⟩ = some (.slice Ao24 t389.length co24) := (blk_cell BK393.out 2).trans rfl; have hfz29_0 := blk_frozen BK393.out 0; have hfz29_1 := blk_frozen BK393.out 1; have hfz29_2 := blk_frozen BK393.out 2) | ((with_reducible refine gate_store (t := 25) (p := 37) rfl ?_); refine store_event (t := 25) (p := 37) (v := ?vo_w30) (w1 := (w27.setCell ⟨gb393, 2, none⟩ (.slice Ao28 t394.length co28))) ?hg ?ho ?hn ?hr ?_; (case ho => rfl); (case hg => rfl); (case hn => rfl); (case hr => first | (go_simp; done) | (go_simp; rfl)); intro w30 hw; have n0_ : Aside0 (Kd.V k33 33 w30 w.heap.size (fun k_ => (P0_ k_ ∨ w.heap.size ≤ k_) ∧ k_ ≠ gb393) (.slice A0 l0.length c0) l0) := ⟨(by rw [hw]; exact (by (with_reducible repeat (first | apply Kd.V_alloc | apply Kd.V_drewN | apply Kd.V_drew)); exact Kd.V_mono (Kd.V_far (p := ⟨gb393, 2, none⟩) (Kd.V_mono HO0.out (fun k_ hk => (⟨hk, hk.2⟩ : _ ∧ k_ ≠ gb393))) (fun _ hk => hk.2) (.slice Ao28 t394.length co28)) (fun _ hk => ⟨hk.1.1, hk.1.2⟩)))⟩; have n1_ : Aside0 (Kd.V (Kd.int .i64) 3 w30 w.heap.size (fun k_ => (P0_ k_ ∨ w.heap.size ≤ k_) ∧ k_ ≠ gb393) (.slice Ao24 t389.length co24) t389) := ⟨(by rw [hw]; exact (by (with_reducible repeat (first | apply Kd.V_alloc | apply Kd.V_drewN | apply Kd.V_drew)); exact Kd.V_mono (Kd.V_far (p := ⟨gb393, 2, none⟩) (Kd.V_mono HO391.out (fun k_ hk => (⟨hk, hk.2⟩ : _ ∧ k_ ≠ gb393))) (fun _ hk => hk.2) (.slice Ao28 t394.length co28)) (fun _ hk => ⟨hk.1.1, hk.1.2⟩)))⟩; have n2_ : Aside0 (Kd.V (Kd.int .i64) 3 w30 w.heap.size (fun k_ => (P0_ k_ ∨ w.heap.size ≤ k_) ∧ k_ ≠ gb393) (.slice Ao28 t394.length co28) t394) := ⟨(by rw [hw]; exact (by (with_reducible repeat (first | apply Kd.V_alloc | apply Kd.V_drewN | apply Kd.V_drew)); exact Kd.V_mono (Kd.V_far (p := ⟨gb393, 2, none⟩) (Kd.V_mono HO396.out (fun k_ hk => (⟨hk, hk.2⟩ : _ ∧ k_ ≠ gb393))) (fun _ hk => hk.2) (.slice Ao28 t394.length co28)) (fun _ hk => ⟨hk.1.1, hk.1.2⟩)))⟩; have n3_ : Aside0 (w30.heap[gb393]? = some (.cells #[.int .i64 t387, .int .i64 t388, .slice Ao28 t394.length co28] 33 (0, 0))) := ⟨(by rw [hw]; exact (by (with_reducible repeat (first | refine blk_drewN ?_ _ | refine blk_drew ?_ | refine blk_alloc ?_ _)); refine blk_put (cs := #[.int .i64 t387, .int .i64 t388, .slice Ao24 t389.length co24]) ?_ 2 _ rfl; (with_reducible repeat (first | refine blk_drewN ?_ _ | refine blk_drew ?_ | refine blk_alloc ?_ _)); exact BK393.out))⟩; have n4_ : Aside0 (Below w.heap.size w w30) := ⟨(by rw [hw]; exact (zB1 HB GE393))⟩; clear hw; clear HO0; clear HO391; clear HO396; clear BK393; clear HB; have HO0 := n0_; have HO391 := n1_; have HO396 := n2_; have BK393 := n3_; have HB := n4_; clear n0_ n1_ n2_ n3_ n4_; have hcz31_0 : w30.cell? ⟨gb393, 0, none⟩ = some (.int .i64 t387) := (blk_cell BK393.out 0).trans rfl; have hcz31_1 : w30.cell? ⟨gb393, 1, none⟩ = some (.int .i64 t388) := (blk_cell BK393.out 1).trans rfl; have hcz31_2 : w30.cell? ⟨gb393, 2, none⟩ = some (.slice Ao28 t394.length co28) := (blk_cell BK393.out 2).trans rfl; have hfz31_0 := blk_frozen BK393.out 0; have hfz31_1 := blk_frozen BK393.out 1; have hfz31_2 := blk_frozen BK393.out 2) | ((with_reducible refine gate_callee (f := 17) rfl ?_); refine goesL_ (some 45) rfl rfl Try.func17 (by kernel_rfl) rfl #[.slice A0 l0.length c0, .agg #[.int .i64 t387, .int .i64 t388, .slice Ao28 t394.length co28]] rfl zP ?_; (with_reducible refine (root_Set.calls (fun k_ => ((P0_ k_ ∨ w.heap.size ≤ k_) ∧ k_ ≠ gb393)) _ _ l0 t387 t388 (fun k_ => ((P0_ k_ ∨ w.heap.size ≤ k_) ∧ k_ ≠ gb393)) _ _ t394 t399 t402 _ ?side1 ?side2 A7.out).mono ?_); (case side1 => exact HO0.out); (case side2 => exact HO396.out); rintro e w32 ⟨v400, rfl, ho0, hb⟩; refine ⟨_, rfl, ?_⟩; have n0_ := Aside0.mk (Kd.V_below (zV HO0) hb); have n1_ := Aside0.mk (Kd.V_below (zV HO391) hb); have n2_ := Aside0.mk (Kd.V_below (zV HO396) hb); have n3_ := Aside0.mk (Kd.V_lower (Kd.V_mono (ok' := fun k_ => (P0_ k_ ∨ w.heap.size ≤ k_) ∧ k_ ≠ gb393) ho0 (fun k_ hk_ => ⟨Or.elim hk_ (fun hs_ => Or.elim hs_ (fun hs_ => hs_.1) (fun hs_ => hs_.1)) (fun hn_ => (.inr (Nat.le_trans (below_size (zB1 HB GE393)) hn_))), Or.elim hk_ (fun hs_ => Or.elim hs_ (fun hs_ => hs_.2) (fun hs_ => hs_.2)) (fun hn_ => (Kd.freshB (g := gb393) (o := .cells #[.int .i64 t387, .int .i64 t388, .slice Ao28 t394.length co28] 33 (0, 0)) (zK BK393) k_ hn_))⟩)) (below_size (zB1 HB GE393))); have n4_ := Aside0.mk (blk_below (g := gb393) (o := .cells #[.int .i64 t387, .int .i64 t388, .slice Ao28 t394.length co28] 33 (0, 0)) (zK BK393) hb); have n5_ := Aside0.mk (below_step (zB1 HB GE393) hb); clear HO0; clear HO391; clear HO396; clear BK393; clear HB; have HO0 := n0_; have HO391 := n1_; have HO396 := n2_; have HO401 := n3_; have BK393 := n4_; have HB := n5_; clear n0_ n1_ n2_ n3_ n4_ n5_; (try clear hb); (try clear hb2); (try clear hk); (try clear hi); (try clear ho0)))
    go_ret3
    exact ⟨_, by first | rfl | (simp [errW_none, errW_some] <;> rfl) | (simp [*, errW_none, errW_some] <;> rfl), Kd.V_mono (Kd.S_V (by first | exact Kd.S_nil _ _ _ 0 (fun k_ => w.heap.size ≤ k_) | exact Kd.S_nil _ _ _ _ _ | exact Kd.N_nil _ _ _ _ _ | exact Kd.V_nil _ _ _ _ _ | exact Kd.Q_nil _ _ _ _ _ | exact Kd.R_nil _ _ _ _ _)) (fun k_ hk => by first | exact ⟨(.inr (hk.1)), hk.2⟩ | exact (.inr (hk))), zB1 HB GE393⟩
  ·rw [if_neg c6] at H
   have c6b0 : (t398 == 0) = false := beq_eq_false_iff_ne.mpr c6
   have c6b1 : (t398 != 0) = true := bne_iff_ne.mpr c6
   by_cases c33 : t388 = 2147483647
   ·rw [if_pos c33] at H
    have c33b0 : (t388 == 2147483647) = true := beq_iff_eq.mpr c33
    have c33b1 : (t388 != 2147483647) = false := bne_eq_false_iff_eq.mpr c33
    clear c33
    simp only [Option.some.injEq, Prod.mk.injEq] at H
    obtain ⟨rfl, rfl, rfl⟩ := H
    go_enter Try.func32, Try.ntmps32
    go_wp2_with (first | ((with_reducible refine gate_callee (f := 16) rfl ?_); refine goesL_ (some 16) rfl rfl Try.func16 (by kernel_rfl) rfl #[.slice A0 l0.length c0, .int .i64 a1] rfl zP ?_; (with_reducible refine (root_Get.calls (fun k_ => (P0_ k_ ∨ w.heap.size ≤ k_)) _ _ l0 a1 t387 t388 t389 t392 _ ?side1 A3.out).mono ?_); (case side1 => exact HO0.out); rintro e w34 ⟨v390, rfl, ho0, hb⟩; refine ⟨_, rfl, ?_⟩; have n0_ := Aside0.mk (Kd.V_below (zV HO0) hb); have n1_ := Aside0.mk (Kd.V_lower (Kd.V_mono (ok' := fun k_ => (P0_ k_ ∨ w.heap.size ≤ k_)) ho0 (fun k_ hk_ => Or.elim hk_ (fun hs_ => hs_) (fun hn_ => (.inr (Nat.le_trans (below_size (zB HB)) hn_))))) (below_size (zB HB))); have n2_ := Aside0.mk (below_step (zB HB) hb); clear HO0; clear HB; have HO0 := n0_; have HO391 := n1_; have HB := n2_; clear n0_ n1_ n2_; (try clear hb); (try clear hb2); (try clear hk); (try clear hi); (try clear ho0)) | ((with_reducible refine gate_dst (N := 7) rfl ?_); refine box_event ?hg (N := 7) ?hd (cs := #[.int .i64 0, .int .i64 0, .slice none 0 0]) (t := 33) ?hr ?_; (case hd => rfl); (case hg => rfl); (case hr => first | (go_simp; done) | (go_simp; rfl)); intro gb393 hg w35 hbox hb; have n0_ := Aside0.mk (Kd.V_below (Kd.V_elderB (zV HO0) gb393 (Nat.le_of_eq hg.symm)) hb); have n1_ := Aside0.mk (Kd.V_below (Kd.V_elderB (zV HO391) gb393 (Nat.le_of_eq hg.symm)) hb); have n2_ := Aside0.mk (below_step (zB HB) hb); have n3_ := Aside0.mk (hbox); have n4_ := Aside0.mk ((by rw [hg]; exact (below_size (zB HB)) : w.heap.size ≤ gb393)); have n5_ := Aside0.mk ((by rw [hg]; exact (below_size (zB HB)) : w.heap.size ≤ gb393)); clear HO0; clear HO391; clear HB; have HO0 := n0_; have HO391 := n1_; have HB := n2_; have BK393 := n3_; have GW393 := n4_; have GE393 := n5_; clear n0_ n1_ n2_ n3_ n4_ n5_; clear hb hbox hg; have hcz36_0 : w35.cell? ⟨gb393, 0, none⟩ = some (.int .i64 0) := (blk_cell BK393.out 0).trans rfl; have hcz36_1 : w35.cell? ⟨gb393, 1, none⟩ = some (.int .i64 0) := (blk_cell BK393.out 1).trans rfl; have hcz36_2 : w35.cell? ⟨gb393, 2, none⟩ = some (.slice none 0 0) := (blk_cell BK393.out 2).trans rfl; have hfz36_0 := blk_frozen BK393.out 0; have hfz36_1 := blk_frozen BK393.out 1; have hfz36_2 := blk_frozen BK393.out 2; obtain ⟨Ao37, co37, eo37⟩ := Kd.V_slice HO391.out; subst eo37) | ((with_reducible refine gate_store (t := 33) (p := 7) rfl ?_); refine store_event (t := 33) (p := 7) (v := ?vo_w38) (w1 := (((w35.setCell ⟨gb393, 0, none⟩ (.int .i64 t387)).setCell ⟨gb393, 1, none⟩ (.int .i64 t388)).setCell ⟨gb393, 2, none⟩ (.slice Ao37 t389.length co37))) ?hg ?ho ?hn ?hr ?_; (case ho => rfl); (case hg => rfl); (case hn => rfl); (case hr => first | (go_simp; done) | (go_simp; rfl)); intro w38 hw; have n0_ : Aside0 (Kd.V k33 33 w38 w.heap.size (fun k_ => (P0_ k_ ∨ w.heap.size ≤ k_) ∧ k_ ≠ gb393) (.slice A0 l0.length c0) l0) := ⟨(by rw [hw]; exact (by (with_reducible repeat (first | apply Kd.V_alloc | apply Kd.V_drewN | apply Kd.V_drew)); exact Kd.V_mono (Kd.V_far (p := ⟨gb393, 2, none⟩) (Kd.V_far (p := ⟨gb393, 1, none⟩) (Kd.V_far (p := ⟨gb393, 0, none⟩) (Kd.V_mono HO0.out (fun k_ hk => (⟨hk, hk.2⟩ : _ ∧ k_ ≠ gb393))) (fun _ hk => hk.2) (.int .i64 t387)) (fun _ hk => hk.2) (.int .i64 t388)) (fun _ hk => hk.2) (.slice Ao37 t389.length co37)) (fun _ hk => ⟨hk.1.1, hk.1.2⟩)))⟩; have n1_ : Aside0 (Kd.V (Kd.int .i64) 3 w38 w.heap.size (fun k_ => (P0_ k_ ∨ w.heap.size ≤ k_) ∧ k_ ≠ gb393) (.slice Ao37 t389.length co37) t389) := ⟨(by rw [hw]; exact (by (with_reducible repeat (first | apply Kd.V_alloc | apply Kd.V_drewN | apply Kd.V_drew)); exact Kd.V_mono (Kd.V_far (p := ⟨gb393, 2, none⟩) (Kd.V_far (p := ⟨gb393, 1, none⟩) (Kd.V_far (p := ⟨gb393, 0, none⟩) (Kd.V_mono HO391.out (fun k_ hk => (⟨hk, hk.2⟩ : _ ∧ k_ ≠ gb393))) (fun _ hk => hk.2) (.int .i64 t387)) (fun _ hk => hk.2) (.int .i64 t388)) (fun _ hk => hk.2) (.slice Ao37 t389.length co37)) (fun _ hk => ⟨hk.1.1, hk.1.2⟩)))⟩; have n2_ : Aside0 (w38.heap[gb393]? = some (.cells #[.int .i64 t387, .int .i64 t388, .slice Ao37 t389.length co37] 33 (0, 0))) := ⟨(by rw [hw]; exact (by (with_reducible repeat (first | refine blk_drewN ?_ _ | refine blk_drew ?_ | refine blk_alloc ?_ _)); refine blk_put (cs := #[.int .i64 t387, .int .i64 t388, .slice none 0 0]) ?_ 2 _ rfl; (with_reducible repeat (first | refine blk_drewN ?_ _ | refine blk_drew ?_ | refine blk_alloc ?_ _)); refine blk_put (cs := #[.int .i64 t387, .int .i64 0, .slice none 0 0]) ?_ 1 _ rfl; (with_reducible repeat (first | refine blk_drewN ?_ _ | refine blk_drew ?_ | refine blk_alloc ?_ _)); refine blk_put (cs := #[.int .i64 0, .int .i64 0, .slice none 0 0]) ?_ 0 _ rfl; (with_reducible repeat (first | refine blk_drewN ?_ _ | refine blk_drew ?_ | refine blk_alloc ?_ _)); exact BK393.out))⟩; have n3_ : Aside0 (Below w.heap.size w w38) := ⟨(by rw [hw]; exact (zB1 HB GE393))⟩; clear hw; clear HO0; clear HO391; clear BK393; clear HB; have HO0 := n0_; have HO391 := n1_; have BK393 := n2_; have HB := n3_; clear n0_ n1_ n2_ n3_; have hcz39_0 : w38.cell? ⟨gb393, 0, none⟩ = some (.int .i64 t387) := (blk_cell BK393.out 0).trans rfl; have hcz39_1 : w38.cell? ⟨gb393, 1, none⟩ = some (.int .i64 t388) := (blk_cell BK393.out 1).trans rfl; have hcz39_2 : w38.cell? ⟨gb393, 2, none⟩ = some (.slice Ao37 t389.length co37) := (blk_cell BK393.out 2).trans rfl; have hfz39_0 := blk_frozen BK393.out 0; have hfz39_1 := blk_frozen BK393.out 1; have hfz39_2 := blk_frozen BK393.out 2) | ((with_reducible refine gate_callee (f := 58) rfl ?_); refine goesL_ (some 24) rfl rfl Try.func58 (by kernel_rfl) rfl #[.slice Ao37 t389.length co37] rfl zP ?_; (with_reducible refine (line_Pop.calls (fun k_ => ((P0_ k_ ∨ w.heap.size ≤ k_) ∧ k_ ≠ gb393)) _ _ t389 t394 t397 t398 _ ?side1 A5.out).mono ?_); (case side1 => exact HO391.out); rintro e w40 ⟨v395, rfl, ho0, hb⟩; refine ⟨_, rfl, ?_⟩; have n0_ := Aside0.mk (Kd.V_below (zV HO0) hb); have n1_ := Aside0.mk (Kd.V_below (zV HO391) hb); have n2_ := Aside0.mk (Kd.V_lower (Kd.V_mono (ok' := fun k_ => (P0_ k_ ∨ w.heap.size ≤ k_) ∧ k_ ≠ gb393) ho0 (fun k_ hk_ => ⟨Or.elim hk_ (fun hs_ => hs_.1) (fun hn_ => (.inr (Nat.le_trans (below_size (zB1 HB GE393)) hn_))), Or.elim hk_ (fun hs_ => hs_.2) (fun hn_ => (Kd.freshB (g := gb393) (o := .cells #[.int .i64 t387, .int .i64 t388, .slice Ao37 t389.length co37] 33 (0, 0)) (zK BK393) k_ hn_))⟩)) (below_size (zB1 HB GE393))); have n3_ := Aside0.mk (blk_below (g := gb393) (o := .cells #[.int .i64 t387, .int .i64 t388, .slice Ao37 t389.length co37] 33 (0, 0)) (zK BK393) hb); have n4_ := Aside0.mk (below_step (zB1 HB GE393) hb); clear HO0; clear HO391; clear BK393; clear HB; have HO0 := n0_; have HO391 := n1_; have HO396 := n2_; have BK393 := n3_; have HB := n4_; clear n0_ n1_ n2_ n3_ n4_; (try clear hb); (try clear hb2); (try clear hk); (try clear hi); (try clear ho0); have hcz41_0 : w40.cell? ⟨gb393, 0, none⟩ = some (.int .i64 t387) := (blk_cell BK393.out 0).trans rfl; have hcz41_1 : w40.cell? ⟨gb393, 1, none⟩ = some (.int .i64 t388) := (blk_cell BK393.out 1).trans rfl; have hcz41_2 : w40.cell? ⟨gb393, 2, none⟩ = some (.slice Ao37 t389.length co37) := (blk_cell BK393.out 2).trans rfl; have hfz41_0 := blk_frozen BK393.out 0; have hfz41_1 := blk_frozen BK393.out 1; have hfz41_2 := blk_frozen BK393.out 2))
    go_ret3
    exact ⟨_, by first | rfl | (simp [errW_none, errW_some] <;> rfl) | (simp [*, errW_none, errW_some] <;> rfl), Kd.V_mono (Kd.S_V (by first | exact Kd.S_nil _ _ _ 0 (fun k_ => w.heap.size ≤ k_) | exact Kd.S_nil _ _ _ _ _ | exact Kd.N_nil _ _ _ _ _ | exact Kd.V_nil _ _ _ _ _ | exact Kd.Q_nil _ _ _ _ _ | exact Kd.R_nil _ _ _ _ _)) (fun k_ hk => by first | exact ⟨(.inr (hk.1)), hk.2⟩ | exact (.inr (hk))), zB1 HB GE393⟩
   ·rw [if_neg c33] at H
    have c33b0 : (t388 == 2147483647) = false := beq_eq_false_iff_ne.mpr c33
    have c33b1 : (t388 != 2147483647) = true := bne_iff_ne.mpr c33
    replace H := Option.bind_eq_some_iff.mp H
    obtain ⟨⟨t403, t406⟩, A420, H⟩ := H
    replace H : (if t406 = 0 then (some (t403, (-1), 0)) else (some (([] : List (S33)), 0, t406))) = some (r1, r2, r3) := H
    have A42 := Aside0.mk A420
    clear A420
    by_cases c43 : t406 = 0
    ·rw [if_pos c43] at H
     have c43b0 : (t406 == 0) = true := beq_iff_eq.mpr c43
     have c43b1 : (t406 != 0) = false := bne_eq_false_iff_eq.mpr c43
     clear c43
     simp only [Option.some.injEq, Prod.mk.injEq] at H
     obtain ⟨rfl, rfl, rfl⟩ := H
     go_enter Try.func32, Try.ntmps32
     go_wp2_with (first | ((with_reducible refine gate_callee (f := 16) rfl ?_); refine goesL_ (some 16) rfl rfl Try.func16 (by kernel_rfl) rfl #[.slice A0 l0.length c0, .int .i64 a1] rfl zP ?_; (with_reducible refine (root_Get.calls (fun k_ => (P0_ k_ ∨ w.heap.size ≤ k_)) _ _ l0 a1 t387 t388 t389 t392 _ ?side1 A3.out).mono ?_); (case side1 => exact HO0.out); rintro e w44 ⟨v390, rfl, ho0, hb⟩; refine ⟨_, rfl, ?_⟩; have n0_ := Aside0.mk (Kd.V_below (zV HO0) hb); have n1_ := Aside0.mk (Kd.V_lower (Kd.V_mono (ok' := fun k_ => (P0_ k_ ∨ w.heap.size ≤ k_)) ho0 (fun k_ hk_ => Or.elim hk_ (fun hs_ => hs_) (fun hn_ => (.inr (Nat.le_trans (below_size (zB HB)) hn_))))) (below_size (zB HB))); have n2_ := Aside0.mk (below_step (zB HB) hb); clear HO0; clear HB; have HO0 := n0_; have HO391 := n1_; have HB := n2_; clear n0_ n1_ n2_; (try clear hb); (try clear hb2); (try clear hk); (try clear hi); (try clear ho0)) | ((with_reducible refine gate_dst (N := 7) rfl ?_); refine box_event ?hg (N := 7) ?hd (cs := #[.int .i64 0, .int .i64 0, .slice none 0 0]) (t := 33) ?hr ?_; (case hd => rfl); (case hg => rfl); (case hr => first | (go_simp; done) | (go_simp; rfl)); intro gb393 hg w45 hbox hb; have n0_ := Aside0.mk (Kd.V_below (Kd.V_elderB (zV HO0) gb393 (Nat.le_of_eq hg.symm)) hb); have n1_ := Aside0.mk (Kd.V_below (Kd.V_elderB (zV HO391) gb393 (Nat.le_of_eq hg.symm)) hb); have n2_ := Aside0.mk (below_step (zB HB) hb); have n3_ := Aside0.mk (hbox); have n4_ := Aside0.mk ((by rw [hg]; exact (below_size (zB HB)) : w.heap.size ≤ gb393)); have n5_ := Aside0.mk ((by rw [hg]; exact (below_size (zB HB)) : w.heap.size ≤ gb393)); clear HO0; clear HO391; clear HB; have HO0 := n0_; have HO391 := n1_; have HB := n2_; have BK393 := n3_; have GW393 := n4_; have GE393 := n5_; clear n0_ n1_ n2_ n3_ n4_ n5_; clear hb hbox hg; have hcz46_0 : w45.cell? ⟨gb393, 0, none⟩ = some (.int .i64 0) := (blk_cell BK393.out 0).trans rfl; have hcz46_1 : w45.cell? ⟨gb393, 1, none⟩ = some (.int .i64 0) := (blk_cell BK393.out 1).trans rfl; have hcz46_2 : w45.cell? ⟨gb393, 2, none⟩ = some (.slice none 0 0) := (blk_cell BK393.out 2).trans rfl; have hfz46_0 := blk_frozen BK393.out 0; have hfz46_1 := blk_frozen BK393.out 1; have hfz46_2 := blk_frozen BK393.out 2; obtain ⟨Ao47, co47, eo47⟩ := Kd.V_slice HO391.out; subst eo47) | ((with_reducible refine gate_store (t := 33) (p := 7) rfl ?_); refine store_event (t := 33) (p := 7) (v := ?vo_w48) (w1 := (((w45.setCell ⟨gb393, 0, none⟩ (.int .i64 t387)).setCell ⟨gb393, 1, none⟩ (.int .i64 t388)).setCell ⟨gb393, 2, none⟩ (.slice Ao47 t389.length co47))) ?hg ?ho ?hn ?hr ?_; (case ho => rfl); (case hg => rfl); (case hn => rfl); (case hr => first | (go_simp; done) | (go_simp; rfl)); intro w48 hw; have n0_ : Aside0 (Kd.V k33 33 w48 w.heap.size (fun k_ => (P0_ k_ ∨ w.heap.size ≤ k_) ∧ k_ ≠ gb393) (.slice A0 l0.length c0) l0) := ⟨(by rw [hw]; exact (by (with_reducible repeat (first | apply Kd.V_alloc | apply Kd.V_drewN | apply Kd.V_drew)); exact Kd.V_mono (Kd.V_far (p := ⟨gb393, 2, none⟩) (Kd.V_far (p := ⟨gb393, 1, none⟩) (Kd.V_far (p := ⟨gb393, 0, none⟩) (Kd.V_mono HO0.out (fun k_ hk => (⟨hk, hk.2⟩ : _ ∧ k_ ≠ gb393))) (fun _ hk => hk.2) (.int .i64 t387)) (fun _ hk => hk.2) (.int .i64 t388)) (fun _ hk => hk.2) (.slice Ao47 t389.length co47)) (fun _ hk => ⟨hk.1.1, hk.1.2⟩)))⟩; have n1_ : Aside0 (Kd.V (Kd.int .i64) 3 w48 w.heap.size (fun k_ => (P0_ k_ ∨ w.heap.size ≤ k_) ∧ k_ ≠ gb393) (.slice Ao47 t389.length co47) t389) := ⟨(by rw [hw]; exact (by (with_reducible repeat (first | apply Kd.V_alloc | apply Kd.V_drewN | apply Kd.V_drew)); exact Kd.V_mono (Kd.V_far (p := ⟨gb393, 2, none⟩) (Kd.V_far (p := ⟨gb393, 1, none⟩) (Kd.V_far (p := ⟨gb393, 0, none⟩) (Kd.V_mono HO391.out (fun k_ hk => (⟨hk, hk.2⟩ : _ ∧ k_ ≠ gb393))) (fun _ hk => hk.2) (.int .i64 t387)) (fun _ hk => hk.2) (.int .i64 t388)) (fun _ hk => hk.2) (.slice Ao47 t389.length co47)) (fun _ hk => ⟨hk.1.1, hk.1.2⟩)))⟩; have n2_ : Aside0 (w48.heap[gb393]? = some (.cells #[.int .i64 t387, .int .i64 t388, .slice Ao47 t389.length co47] 33 (0, 0))) := ⟨(by rw [hw]; exact (by (with_reducible repeat (first | refine blk_drewN ?_ _ | refine blk_drew ?_ | refine blk_alloc ?_ _)); refine blk_put (cs := #[.int .i64 t387, .int .i64 t388, .slice none 0 0]) ?_ 2 _ rfl; (with_reducible repeat (first | refine blk_drewN ?_ _ | refine blk_drew ?_ | refine blk_alloc ?_ _)); refine blk_put (cs := #[.int .i64 t387, .int .i64 0, .slice none 0 0]) ?_ 1 _ rfl; (with_reducible repeat (first | refine blk_drewN ?_ _ | refine blk_drew ?_ | refine blk_alloc ?_ _)); refine blk_put (cs := #[.int .i64 0, .int .i64 0, .slice none 0 0]) ?_ 0 _ rfl; (with_reducible repeat (first | refine blk_drewN ?_ _ | refine blk_drew ?_ | refine blk_alloc ?_ _)); exact BK393.out))⟩; have n3_ : Aside0 (Below w.heap.size w w48) := ⟨(by rw [hw]; exact (zB1 HB GE393))⟩; clear hw; clear HO0; clear HO391; clear BK393; clear HB; have HO0 := n0_; have HO391 := n1_; have BK393 := n2_; have HB := n3_; clear n0_ n1_ n2_ n3_; have hcz49_0 : w48.cell? ⟨gb393, 0, none⟩ = some (.int .i64 t387) := (blk_cell BK393.out 0).trans rfl; have hcz49_1 : w48.cell? ⟨gb393, 1, none⟩ = some (.int .i64 t388) := (blk_cell BK393.out 1).trans rfl; have hcz49_2 : w48.cell? ⟨gb393, 2, none⟩ = some (.slice Ao47 t389.length co47) := (blk_cell BK393.out 2).trans rfl; have hfz49_0 := blk_frozen BK393.out 0; have hfz49_1 := blk_frozen BK393.out 1; have hfz49_2 := blk_frozen BK393.out 2) | ((with_reducible refine gate_callee (f := 58) rfl ?_); refine goesL_ (some 24) rfl rfl Try.func58 (by kernel_rfl) rfl #[.slice Ao47 t389.length co47] rfl zP ?_; (with_reducible refine (line_Pop.calls (fun k_ => ((P0_ k_ ∨ w.heap.size ≤ k_) ∧ k_ ≠ gb393)) _ _ t389 t394 t397 t398 _ ?side1 A5.out).mono ?_); (case side1 => exact HO391.out); rintro e w50 ⟨v395, rfl, ho0, hb⟩; refine ⟨_, rfl, ?_⟩; have n0_ := Aside0.mk (Kd.V_below (zV HO0) hb); have n1_ := Aside0.mk (Kd.V_below (zV HO391) hb); have n2_ := Aside0.mk (Kd.V_lower (Kd.V_mono (ok' := fun k_ => (P0_ k_ ∨ w.heap.size ≤ k_) ∧ k_ ≠ gb393) ho0 (fun k_ hk_ => ⟨Or.elim hk_ (fun hs_ => hs_.1) (fun hn_ => (.inr (Nat.le_trans (below_size (zB1 HB GE393)) hn_))), Or.elim hk_ (fun hs_ => hs_.2) (fun hn_ => (Kd.freshB (g := gb393) (o := .cells #[.int .i64 t387, .int .i64 t388, .slice Ao47 t389.length co47] 33 (0, 0)) (zK BK393) k_ hn_))⟩)) (below_size (zB1 HB GE393))); have n3_ := Aside0.mk (blk_below (g := gb393) (o := .cells #[.int .i64 t387, .int .i64 t388, .slice Ao47 t389.length co47] 33 (0, 0)) (zK BK393) hb); have n4_ := Aside0.mk (below_step (zB1 HB GE393) hb); clear HO0; clear HO391; clear BK393; clear HB; have HO0 := n0_; have HO391 := n1_; have HO396 := n2_; have BK393 := n3_; have HB := n4_; clear n0_ n1_ n2_ n3_ n4_; (try clear hb); (try clear hb2); (try clear hk); (try clear hi); (try clear ho0); have hcz51_0 : w50.cell? ⟨gb393, 0, none⟩ = some (.int .i64 t387) := (blk_cell BK393.out 0).trans rfl; have hcz51_1 : w50.cell? ⟨gb393, 1, none⟩ = some (.int .i64 t388) := (blk_cell BK393.out 1).trans rfl; have hcz51_2 : w50.cell? ⟨gb393, 2, none⟩ = some (.slice Ao47 t389.length co47) := (blk_cell BK393.out 2).trans rfl; have hfz51_0 := blk_frozen BK393.out 0; have hfz51_1 := blk_frozen BK393.out 1; have hfz51_2 := blk_frozen BK393.out 2) | ((with_reducible refine gate_store (t := 3) (p := 31) rfl ?_); refine store_event (t := 3) (p := 31) (v := ?vo_w52) (w1 := (w50.setCell ⟨gb393, 1, none⟩ (.int .i64 (wrap64 (t388 + 1))))) ?hg ?ho ?hn ?hr ?_; (case ho => rfl); (case hg => rfl); (case hn => rfl); (case hr => first | (go_simp; done) | (go_simp; rfl)); intro w52 hw; have n0_ : Aside0 (Kd.V k33 33 w52 w.heap.size (fun k_ => (P0_ k_ ∨ w.heap.size ≤ k_) ∧ k_ ≠ gb393) (.slice A0 l0.length c0) l0) := ⟨(by rw [hw]; exact (by (with_reducible repeat (first | apply Kd.V_alloc | apply Kd.V_drewN | apply Kd.V_drew)); exact Kd.V_mono (Kd.V_far (p := ⟨gb393, 1, none⟩) (Kd.V_mono HO0.out (fun k_ hk => (⟨hk, hk.2⟩ : _ ∧ k_ ≠ gb393))) (fun _ hk => hk.2) (.int .i64 (wrap64 (t388 + 1)))) (fun _ hk => ⟨hk.1.1, hk.1.2⟩)))⟩; have n1_ : Aside0 (Kd.V (Kd.int .i64) 3 w52 w.heap.size (fun k_ => (P0_ k_ ∨ w.heap.size ≤ k_) ∧ k_ ≠ gb393) (.slice Ao47 t389.length co47) t389) := ⟨(by rw [hw]; exact (by (with_reducible repeat (first | apply Kd.V_alloc | apply Kd.V_drewN | apply Kd.V_drew)); exact Kd.V_mono (Kd.V_far (p := ⟨gb393, 1, none⟩) (Kd.V_mono HO391.out (fun k_ hk => (⟨hk, hk.2⟩ : _ ∧ k_ ≠ gb393))) (fun _ hk => hk.2) (.int .i64 (wrap64 (t388 + 1)))) (fun _ hk => ⟨hk.1.1, hk.1.2⟩)))⟩; have n2_ : Aside0 (Kd.V (Kd.int .i64) 3 w52 w.heap.size (fun k_ => (P0_ k_ ∨ w.heap.size ≤ k_) ∧ k_ ≠ gb393) v395 t394) := ⟨(by rw [hw]; exact (by (with_reducible repeat (first | apply Kd.V_alloc | apply Kd.V_drewN | apply Kd.V_drew)); exact Kd.V_mono (Kd.V_far (p := ⟨gb393, 1, none⟩) (Kd.V_mono HO396.out (fun k_ hk => (⟨hk, hk.2⟩ : _ ∧ k_ ≠ gb393))) (fun _ hk => hk.2) (.int .i64 (wrap64 (t388 + 1)))) (fun _ hk => ⟨hk.1.1, hk.1.2⟩)))⟩; have n3_ : Aside0 (w52.heap[gb393]? = some (.cells #[.int .i64 t387, .int .i64 (wrap64 (t388 + 1)), .slice Ao47 t389.length co47] 33 (0, 0))) := ⟨(by rw [hw]; exact (by (with_reducible repeat (first | refine blk_drewN ?_ _ | refine blk_drew ?_ | refine blk_alloc ?_ _)); refine blk_put (cs := #[.int .i64 t387, .int .i64 t388, .slice Ao47 t389.length co47]) ?_ 1 _ rfl; (with_reducible repeat (first | refine blk_drewN ?_ _ | refine blk_drew ?_ | refine blk_alloc ?_ _)); exact BK393.out))⟩; have n4_ : Aside0 (Below w.heap.size w w52) := ⟨(by rw [hw]; exact (zB1 HB GE393))⟩; clear hw; clear HO0; clear HO391; clear HO396; clear BK393; clear HB; have HO0 := n0_; have HO391 := n1_; have HO396 := n2_; have BK393 := n3_; have HB := n4_; clear n0_ n1_ n2_ n3_ n4_; have hcz53_0 : w52.cell? ⟨gb393, 0, none⟩ = some (.int .i64 t387) := (blk_cell BK393.out 0).trans rfl; have hcz53_1 : w52.cell? ⟨gb393, 1, none⟩ = some (.int .i64 (wrap64 (t388 + 1))) := (blk_cell BK393.out 1).trans rfl; have hcz53_2 : w52.cell? ⟨gb393, 2, none⟩ = some (.slice Ao47 t389.length co47) := (blk_cell BK393.out 2).trans rfl; have hfz53_0 := blk_frozen BK393.out 0; have hfz53_1 := blk_frozen BK393.out 1; have hfz53_2 := blk_frozen BK393.out 2) | ((with_reducible refine gate_callee (f := 17) rfl ?_); refine goesL_ (some 45) rfl rfl Try.func17 (by kernel_rfl) rfl #[.slice A0 l0.length c0, .agg #[.int .i64 t387, .int .i64 (wrap64 (t388 + 1)), .slice Ao47 t389.length co47]] rfl zP ?_; (with_reducible refine (root_Set.calls (fun k_ => ((P0_ k_ ∨ w.heap.size ≤ k_) ∧ k_ ≠ gb393)) _ _ l0 t387 (wrap64 (t388 + 1)) (fun k_ => ((P0_ k_ ∨ w.heap.size ≤ k_) ∧ k_ ≠ gb393)) _ _ t389 t403 t406 _ ?side1 ?side2 A42.out).mono ?_); (case side1 => exact HO0.out); (case side2 => exact HO391.out); rintro e w54 ⟨v404, rfl, ho0, hb⟩; refine ⟨_, rfl, ?_⟩; have n0_ := Aside0.mk (Kd.V_below (zV HO0) hb); have n1_ := Aside0.mk (Kd.V_below (zV HO391) hb); have n2_ := Aside0.mk (Kd.V_below (zV HO396) hb); have n3_ := Aside0.mk (Kd.V_lower (Kd.V_mono (ok' := fun k_ => (P0_ k_ ∨ w.heap.size ≤ k_) ∧ k_ ≠ gb393) ho0 (fun k_ hk_ => ⟨Or.elim hk_ (fun hs_ => Or.elim hs_ (fun hs_ => hs_.1) (fun hs_ => hs_.1)) (fun hn_ => (.inr (Nat.le_trans (below_size (zB1 HB GE393)) hn_))), Or.elim hk_ (fun hs_ => Or.elim hs_ (fun hs_ => hs_.2) (fun hs_ => hs_.2)) (fun hn_ => (Kd.freshB (g := gb393) (o := .cells #[.int .i64 t387, .int .i64 (wrap64 (t388 + 1)), .slice Ao47 t389.length co47] 33 (0, 0)) (zK BK393) k_ hn_))⟩)) (below_size (zB1 HB GE393))); have n4_ := Aside0.mk (blk_below (g := gb393) (o := .cells #[.int .i64 t387, .int .i64 (wrap64 (t388 + 1)), .slice Ao47 t389.length co47] 33 (0, 0)) (zK BK393) hb); have n5_ := Aside0.mk (below_step (zB1 HB GE393) hb); clear HO0; clear HO391; clear HO396; clear BK393; clear HB; have HO0 := n0_; have HO391 := n1_; have HO396 := n2_; have HO405 := n3_; have BK393 := n4_; have HB := n5_; clear n0_ n1_ n2_ n3_ n4_ n5_; (try clear hb); (try clear hb2); (try clear hk); (try clear hi); (try clear ho0)))
     go_ret3
     exact ⟨_, by first | rfl | (simp [errW_none, errW_some] <;> rfl) | (simp [*, errW_none, errW_some] <;> rfl), by (with_reducible repeat (first | apply Kd.V_alloc | apply Kd.V_drewN | apply Kd.V_drew)); exact Kd.V_mono HO405.out (fun _ hk => hk.1), zB1 HB GE393⟩
    ·rw [if_neg c43] at H
     have c43b0 : (t406 == 0) = false := beq_eq_false_iff_ne.mpr c43
     have c43b1 : (t406 != 0) = true := bne_iff_ne.mpr c43
     simp only [Option.some.injEq, Prod.mk.injEq] at H
     obtain ⟨rfl, rfl, rfl⟩ := H
     go_enter Try.func32, Try.ntmps32
     go_wp2_with (first | ((with_reducible refine gate_callee (f := 16) rfl ?_); refine goesL_ (some 16) rfl rfl Try.func16 (by kernel_rfl) rfl #[.slice A0 l0.length c0, .int .i64 a1] rfl zP ?_; (with_reducible refine (root_Get.calls (fun k_ => (P0_ k_ ∨ w.heap.size ≤ k_)) _ _ l0 a1 t387 t388 t389 t392 _ ?side1 A3.out).mono ?_); (case side1 => exact HO0.out); rintro e w55 ⟨v390, rfl, ho0, hb⟩; refine ⟨_, rfl, ?_⟩; have n0_ := Aside0.mk (Kd.V_below (zV HO0) hb); have n1_ := Aside0.mk (Kd.V_lower (Kd.V_mono (ok' := fun k_ => (P0_ k_ ∨ w.heap.size ≤ k_)) ho0 (fun k_ hk_ => Or.elim hk_ (fun hs_ => hs_) (fun hn_ => (.inr (Nat.le_trans (below_size (zB HB)) hn_))))) (below_size (zB HB))); have n2_ := Aside0.mk (below_step (zB HB) hb); clear HO0; clear HB; have HO0 := n0_; have HO391 := n1_; have HB := n2_; clear n0_ n1_ n2_; (try clear hb); (try clear hb2); (try clear hk); (try clear hi); (try clear ho0)) | ((with_reducible refine gate_dst (N := 7) rfl ?_); refine box_event ?hg (N := 7) ?hd (cs := #[.int .i64 0, .int .i64 0, .slice none 0 0]) (t := 33) ?hr ?_; (case hd => rfl); (case hg => rfl); (case hr => first | (go_simp; done) | (go_simp; rfl)); intro gb393 hg w56 hbox hb; have n0_ := Aside0.mk (Kd.V_below (Kd.V_elderB (zV HO0) gb393 (Nat.le_of_eq hg.symm)) hb); have n1_ := Aside0.mk (Kd.V_below (Kd.V_elderB (zV HO391) gb393 (Nat.le_of_eq hg.symm)) hb); have n2_ := Aside0.mk (below_step (zB HB) hb); have n3_ := Aside0.mk (hbox); have n4_ := Aside0.mk ((by rw [hg]; exact (below_size (zB HB)) : w.heap.size ≤ gb393)); have n5_ := Aside0.mk ((by rw [hg]; exact (below_size (zB HB)) : w.heap.size ≤ gb393)); clear HO0; clear HO391; clear HB; have HO0 := n0_; have HO391 := n1_; have HB := n2_; have BK393 := n3_; have GW393 := n4_; have GE393 := n5_; clear n0_ n1_ n2_ n3_ n4_ n5_; clear hb hbox hg; have hcz57_0 : w56.cell? ⟨gb393, 0, none⟩ = some (.int .i64 0) := (blk_cell BK393.out 0).trans rfl; have hcz57_1 : w56.cell? ⟨gb393, 1, none⟩ = some (.int .i64 0) := (blk_cell BK393.out 1).trans rfl; have hcz57_2 : w56.cell? ⟨gb393, 2, none⟩ = some (.slice none 0 0) := (blk_cell BK393.out 2).trans rfl; have hfz57_0 := blk_frozen BK393.out 0; have hfz57_1 := blk_frozen BK393.out 1; have hfz57_2 := blk_frozen BK393.out 2; obtain ⟨Ao58, co58, eo58⟩ := Kd.V_slice HO391.out; subst eo58) | ((with_reducible refine gate_store (t := 33) (p := 7) rfl ?_); refine store_event (t := 33) (p := 7) (v := ?vo_w59) (w1 := (((w56.setCell ⟨gb393, 0, none⟩ (.int .i64 t387)).setCell ⟨gb393, 1, none⟩ (.int .i64 t388)).setCell ⟨gb393, 2, none⟩ (.slice Ao58 t389.length co58))) ?hg ?ho ?hn ?hr ?_; (case ho => rfl); (case hg => rfl); (case hn => rfl); (case hr => first | (go_simp; done) | (go_simp; rfl)); intro w59 hw; have n0_ : Aside0 (Kd.V k33 33 w59 w.heap.size (fun k_ => (P0_ k_ ∨ w.heap.size ≤ k_) ∧ k_ ≠ gb393) (.slice A0 l0.length c0) l0) := ⟨(by rw [hw]; exact (by (with_reducible repeat (first | apply Kd.V_alloc | apply Kd.V_drewN | apply Kd.V_drew)); exact Kd.V_mono (Kd.V_far (p := ⟨gb393, 2, none⟩) (Kd.V_far (p := ⟨gb393, 1, none⟩) (Kd.V_far (p := ⟨gb393, 0, none⟩) (Kd.V_mono HO0.out (fun k_ hk => (⟨hk, hk.2⟩ : _ ∧ k_ ≠ gb393))) (fun _ hk => hk.2) (.int .i64 t387)) (fun _ hk => hk.2) (.int .i64 t388)) (fun _ hk => hk.2) (.slice Ao58 t389.length co58)) (fun _ hk => ⟨hk.1.1, hk.1.2⟩)))⟩; have n1_ : Aside0 (Kd.V (Kd.int .i64) 3 w59 w.heap.size (fun k_ => (P0_ k_ ∨ w.heap.size ≤ k_) ∧ k_ ≠ gb393) (.slice Ao58 t389.length co58) t389) := ⟨(by rw [hw]; exact (by (with_reducible repeat (first | apply Kd.V_alloc | apply Kd.V_drewN | apply Kd.V_drew)); exact Kd.V_mono (Kd.V_far (p := ⟨gb393, 2, none⟩) (Kd.V_far (p := ⟨gb393, 1, none⟩) (Kd.V_far (p := ⟨gb393, 0, none⟩) (Kd.V_mono HO391.out (fun k_ hk => (⟨hk, hk.2⟩ : _ ∧ k_ ≠ gb393))) (fun _ hk => hk.2) (.int .i64 t387)) (fun _ hk => hk.2) (.int .i64 t388)) (fun _ hk => hk.2) (.slice Ao58 t389.length co58)) (fun _ hk => ⟨hk.1.1, hk.1.2⟩)))⟩; have n2_ : Aside0 (w59.heap[gb393]? = some (.cells #[.int .i64 t387, .int .i64 t388, .slice Ao58 t389.length co58] 33 (0, 0))) := ⟨(by rw [hw]; exact (by (with_reducible repeat (first | refine blk_drewN ?_ _ | refine blk_drew ?_ | refine blk_alloc ?_ _)); refine blk_put (cs := #[.int .i64 t387, .int .i64 t388, .slice none 0 0]) ?_ 2 _ rfl; (with_reducible repeat (first | refine blk_drewN ?_ _ | refine blk_drew ?_ | refine blk_alloc ?_ _)); refine blk_put (cs := #[.int .i64 t387, .int .i64 0, .slice none 0 0]) ?_ 1 _ rfl; (with_reducible repeat (first | refine blk_drewN ?_ _ | refine blk_drew ?_ | refine blk_alloc ?_ _)); refine blk_put (cs := #[.int .i64 0, .int .i64 0, .slice none 0 0]) ?_ 0 _ rfl; (with_reducible repeat (first | refine blk_drewN ?_ _ | refine blk_drew ?_ | refine blk_alloc ?_ _)); exact BK393.out))⟩; have n3_ : Aside0 (Below w.heap.size w w59) := ⟨(by rw [hw]; exact (zB1 HB GE393))⟩; clear hw; clear HO0; clear HO391; clear BK393; clear HB; have HO0 := n0_; have HO391 := n1_; have BK393 := n2_; have HB := n3_; clear n0_ n1_ n2_ n3_; have hcz60_0 : w59.cell? ⟨gb393, 0, none⟩ = some (.int .i64 t387) := (blk_cell BK393.out 0).trans rfl; have hcz60_1 : w59.cell? ⟨gb393, 1, none⟩ = some (.int .i64 t388) := (blk_cell BK393.out 1).trans rfl; have hcz60_2 : w59.cell? ⟨gb393, 2, none⟩ = some (.slice Ao58 t389.length co58) := (blk_cell BK393.out 2).trans rfl; have hfz60_0 := blk_frozen BK393.out 0; have hfz60_1 := blk_frozen BK393.out 1; have hfz60_2 := blk_frozen BK393.out 2) | ((with_reducible refine gate_callee (f := 58) rfl ?_); refine goesL_ (some 24) rfl rfl Try.func58 (by kernel_rfl) rfl #[.slice Ao58 t389.length co58] rfl zP ?_; (with_reducible refine (line_Pop.calls (fun k_ => ((P0_ k_ ∨ w.heap.size ≤ k_) ∧ k_ ≠ gb393)) _ _ t389 t394 t397 t398 _ ?side1 A5.out).mono ?_); (case side1 => exact HO391.out); rintro e w61 ⟨v395, rfl, ho0, hb⟩; refine ⟨_, rfl, ?_⟩; have n0_ := Aside0.mk (Kd.V_below (zV HO0) hb); have n1_ := Aside0.mk (Kd.V_below (zV HO391) hb); have n2_ := Aside0.mk (Kd.V_lower (Kd.V_mono (ok' := fun k_ => (P0_ k_ ∨ w.heap.size ≤ k_) ∧ k_ ≠ gb393) ho0 (fun k_ hk_ => ⟨Or.elim hk_ (fun hs_ => hs_.1) (fun hn_ => (.inr (Nat.le_trans (below_size (zB1 HB GE393)) hn_))), Or.elim hk_ (fun hs_ => hs_.2) (fun hn_ => (Kd.freshB (g := gb393) (o := .cells #[.int .i64 t387, .int .i64 t388, .slice Ao58 t389.length co58] 33 (0, 0)) (zK BK393) k_ hn_))⟩)) (below_size (zB1 HB GE393))); have n3_ := Aside0.mk (blk_below (g := gb393) (o := .cells #[.int .i64 t387, .int .i64 t388, .slice Ao58 t389.length co58] 33 (0, 0)) (zK BK393) hb); have n4_ := Aside0.mk (below_step (zB1 HB GE393) hb); clear HO0; clear HO391; clear BK393; clear HB; have HO0 := n0_; have HO391 := n1_; have HO396 := n2_; have BK393 := n3_; have HB := n4_; clear n0_ n1_ n2_ n3_ n4_; (try clear hb); (try clear hb2); (try clear hk); (try clear hi); (try clear ho0); have hcz62_0 : w61.cell? ⟨gb393, 0, none⟩ = some (.int .i64 t387) := (blk_cell BK393.out 0).trans rfl; have hcz62_1 : w61.cell? ⟨gb393, 1, none⟩ = some (.int .i64 t388) := (blk_cell BK393.out 1).trans rfl; have hcz62_2 : w61.cell? ⟨gb393, 2, none⟩ = some (.slice Ao58 t389.length co58) := (blk_cell BK393.out 2).trans rfl; have hfz62_0 := blk_frozen BK393.out 0; have hfz62_1 := blk_frozen BK393.out 1; have hfz62_2 := blk_frozen BK393.out 2) | ((with_reducible refine gate_store (t := 3) (p := 31) rfl ?_); refine store_event (t := 3) (p := 31) (v := ?vo_w63) (w1 := (w61.setCell ⟨gb393, 1, none⟩ (.int .i64 (wrap64 (t388 + 1))))) ?hg ?ho ?hn ?hr ?_; (case ho => rfl); (case hg => rfl); (case hn => rfl); (case hr => first | (go_simp; done) | (go_simp; rfl)); intro w63 hw; have n0_ : Aside0 (Kd.V k33 33 w63 w.heap.size (fun k_ => (P0_ k_ ∨ w.heap.size ≤ k_) ∧ k_ ≠ gb393) (.slice A0 l0.length c0) l0) := ⟨(by rw [hw]; exact (by (with_reducible repeat (first | apply Kd.V_alloc | apply Kd.V_drewN | apply Kd.V_drew)); exact Kd.V_mono (Kd.V_far (p := ⟨gb393, 1, none⟩) (Kd.V_mono HO0.out (fun k_ hk => (⟨hk, hk.2⟩ : _ ∧ k_ ≠ gb393))) (fun _ hk => hk.2) (.int .i64 (wrap64 (t388 + 1)))) (fun _ hk => ⟨hk.1.1, hk.1.2⟩)))⟩; have n1_ : Aside0 (Kd.V (Kd.int .i64) 3 w63 w.heap.size (fun k_ => (P0_ k_ ∨ w.heap.size ≤ k_) ∧ k_ ≠ gb393) (.slice Ao58 t389.length co58) t389) := ⟨(by rw [hw]; exact (by (with_reducible repeat (first | apply Kd.V_alloc | apply Kd.V_drewN | apply Kd.V_drew)); exact Kd.V_mono (Kd.V_far (p := ⟨gb393, 1, none⟩) (Kd.V_mono HO391.out (fun k_ hk => (⟨hk, hk.2⟩ : _ ∧ k_ ≠ gb393))) (fun _ hk => hk.2) (.int .i64 (wrap64 (t388 + 1)))) (fun _ hk => ⟨hk.1.1, hk.1.2⟩)))⟩; have n2_ : Aside0 (Kd.V (Kd.int .i64) 3 w63 w.heap.size (fun k_ => (P0_ k_ ∨ w.heap.size ≤ k_) ∧ k_ ≠ gb393) v395 t394) := ⟨(by rw [hw]; exact (by (with_reducible repeat (first | apply Kd.V_alloc | apply Kd.V_drewN | apply Kd.V_drew)); exact Kd.V_mono (Kd.V_far (p := ⟨gb393, 1, none⟩) (Kd.V_mono HO396.out (fun k_ hk => (⟨hk, hk.2⟩ : _ ∧ k_ ≠ gb393))) (fun _ hk => hk.2) (.int .i64 (wrap64 (t388 + 1)))) (fun _ hk => ⟨hk.1.1, hk.1.2⟩)))⟩; have n3_ : Aside0 (w63.heap[gb393]? = some (.cells #[.int .i64 t387, .int .i64 (wrap64 (t388 + 1)), .slice Ao58 t389.length co58] 33 (0, 0))) := ⟨(by rw [hw]; exact (by (with_reducible repeat (first | refine blk_drewN ?_ _ | refine blk_drew ?_ | refine blk_alloc ?_ _)); refine blk_put (cs := #[.int .i64 t387, .int .i64 t388, .slice Ao58 t389.length co58]) ?_ 1 _ rfl; (with_reducible repeat (first | refine blk_drewN ?_ _ | refine blk_drew ?_ | refine blk_alloc ?_ _)); exact BK393.out))⟩; have n4_ : Aside0 (Below w.heap.size w w63) := ⟨(by rw [hw]; exact (zB1 HB GE393))⟩; clear hw; clear HO0; clear HO391; clear HO396; clear BK393; clear HB; have HO0 := n0_; have HO391 := n1_; have HO396 := n2_; have BK393 := n3_; have HB := n4_; clear n0_ n1_ n2_ n3_ n4_; have hcz64_0 : w63.cell? ⟨gb393, 0, none⟩ = some (.int .i64 t387) := (blk_cell BK393.out 0).trans rfl; have hcz64_1 : w63.cell? ⟨gb393, 1, none⟩ = some (.int .i64 (wrap64 (t388 + 1))) := (blk_cell BK393.out 1).trans rfl; have hcz64_2 : w63.cell? ⟨gb393, 2, none⟩ = some (.slice Ao58 t389.length co58) := (blk_cell BK393.out 2).trans rfl; have hfz64_0 := blk_frozen BK393.out 0; have hfz64_1 := blk_frozen BK393.out 1; have hfz64_2 := blk_frozen BK393.out 2) | ((with_reducible refine gate_callee (f := 17) rfl ?_); refine goesL_ (some 45) rfl rfl Try.func17 (by kernel_rfl) rfl #[.slice A0 l0.length c0, .agg #[.int .i64 t387, .int .i64 (wrap64 (t388 + 1)), .slice Ao58 t389.length co58]] rfl zP ?_; (with_reducible refine (root_Set.calls (fun k_ => ((P0_ k_ ∨ w.heap.size ≤ k_) ∧ k_ ≠ gb393)) _ _ l0 t387 (wrap64 (t388 + 1)) (fun k_ => ((P0_ k_ ∨ w.heap.size ≤ k_) ∧ k_ ≠ gb393)) _ _ t389 t403 t406 _ ?side1 ?side2 A42.out).mono ?_); (case side1 => exact HO0.out); (case side2 => exact HO391.out); rintro e w65 ⟨v404, rfl, ho0, hb⟩; refine ⟨_, rfl, ?_⟩; have n0_ := Aside0.mk (Kd.V_below (zV HO0) hb); have n1_ := Aside0.mk (Kd.V_below (zV HO391) hb); have n2_ := Aside0.mk (Kd.V_below (zV HO396) hb); have n3_ := Aside0.mk (Kd.V_lower (Kd.V_mono (ok' := fun k_ => (P0_ k_ ∨ w.heap.size ≤ k_) ∧ k_ ≠ gb393) ho0 (fun k_ hk_ => ⟨Or.elim hk_ (fun hs_ => Or.elim hs_ (fun hs_ => hs_.1) (fun hs_ => hs_.1)) (fun hn_ => (.inr (Nat.le_trans (below_size (zB1 HB GE393)) hn_))), Or.elim hk_ (fun hs_ => Or.elim hs_ (fun hs_ => hs_.2) (fun hs_ => hs_.2)) (fun hn_ => (Kd.freshB (g := gb393) (o := .cells #[.int .i64 t387, .int .i64 (wrap64 (t388 + 1)), .slice Ao58 t389.length co58] 33 (0, 0)) (zK BK393) k_ hn_))⟩)) (below_size (zB1 HB GE393))); have n4_ := Aside0.mk (blk_below (g := gb393) (o := .cells #[.int .i64 t387, .int .i64 (wrap64 (t388 + 1)), .slice Ao58 t389.length co58] 33 (0, 0)) (zK BK393) hb); have n5_ := Aside0.mk (below_step (zB1 HB GE393) hb); clear HO0; clear HO391; clear HO396; clear BK393; clear HB; have HO0 := n0_; have HO391 := n1_; have HO396 := n2_; have HO405 := n3_; have BK393 := n4_; have HB := n5_; clear n0_ n1_ n2_ n3_ n4_ n5_; (try clear hb); (try clear hb2); (try clear hk); (try clear hi); (try clear ho0)))
     go_ret3
     exact ⟨_, by first | rfl | (simp [errW_none, errW_some] <;> rfl) | (simp [*, errW_none, errW_some] <;> rfl), Kd.V_mono (Kd.S_V (by first | exact Kd.S_nil _ _ _ 0 (fun k_ => w.heap.size ≤ k_) | exact Kd.S_nil _ _ _ _ _ | exact Kd.N_nil _ _ _ _ _ | exact Kd.V_nil _ _ _ _ _ | exact Kd.Q_nil _ _ _ _ _ | exact Kd.R_nil _ _ _ _ _)) (fun k_ hk => by first | exact ⟨(.inr (hk.1)), hk.2⟩ | exact (.inr (hk))), zB1 HB GE393⟩
 ·rw [if_neg c4] at H
  have c4b0 : (t392 == 0) = false := beq_eq_false_iff_ne.mpr c4
  have c4b1 : (t392 != 0) = true := bne_iff_ne.mpr c4
  simp only [Option.some.injEq, Prod.mk.injEq] at H
  obtain ⟨rfl, rfl, rfl⟩ := H
  go_enter Try.func32, Try.ntmps32
  go_wp2_with (first | ((with_reducible refine gate_callee (f := 16) rfl ?_); refine goesL_ (some 16) rfl rfl Try.func16 (by kernel_rfl) rfl #[.slice A0 l0.length c0, .int .i64 a1] rfl zP ?_; (with_reducible refine (root_Get.calls (fun k_ => (P0_ k_ ∨ w.heap.size ≤ k_)) _ _ l0 a1 t387 t388 t389 t392 _ ?side1 A3.out).mono ?_); (case side1 => exact HO0.out); rintro e w66 ⟨v390, rfl, ho0, hb⟩; refine ⟨_, rfl, ?_⟩; have n0_ := Aside0.mk (Kd.V_below (zV HO0) hb); have n1_ := Aside0.mk (Kd.V_lower (Kd.V_mono (ok' := fun k_ => (P0_ k_ ∨ w.heap.size ≤ k_)) ho0 (fun k_ hk_ => Or.elim hk_ (fun hs_ => hs_) (fun hn_ => (.inr (Nat.le_trans (below_size (zB HB)) hn_))))) (below_size (zB HB))); have n2_ := Aside0.mk (below_step (zB HB) hb); clear HO0; clear HB; have HO0 := n0_; have HO391 := n1_; have HB := n2_; clear n0_ n1_ n2_; (try clear hb); (try clear hb2); (try clear hk); (try clear hi); (try clear ho0)) | ((with_reducible refine gate_dst (N := 7) rfl ?_); refine box_event ?hg (N := 7) ?hd (cs := #[.int .i64 0, .int .i64 0, .slice none 0 0]) (t := 33) ?hr ?_; (case hd => rfl); (case hg => rfl); (case hr => first | (go_simp; done) | (go_simp; rfl)); intro gb393 hg w67 hbox hb; have n0_ := Aside0.mk (Kd.V_below (Kd.V_elderB (zV HO0) gb393 (Nat.le_of_eq hg.symm)) hb); have n1_ := Aside0.mk (Kd.V_below (Kd.V_elderB (zV HO391) gb393 (Nat.le_of_eq hg.symm)) hb); have n2_ := Aside0.mk (below_step (zB HB) hb); have n3_ := Aside0.mk (hbox); have n4_ := Aside0.mk ((by rw [hg]; exact (below_size (zB HB)) : w.heap.size ≤ gb393)); have n5_ := Aside0.mk ((by rw [hg]; exact (below_size (zB HB)) : w.heap.size ≤ gb393)); clear HO0; clear HO391; clear HB; have HO0 := n0_; have HO391 := n1_; have HB := n2_; have BK393 := n3_; have GW393 := n4_; have GE393 := n5_; clear n0_ n1_ n2_ n3_ n4_ n5_; clear hb hbox hg; have hcz68_0 : w67.cell? ⟨gb393, 0, none⟩ = some (.int .i64 0) := (blk_cell BK393.out 0).trans rfl; have hcz68_1 : w67.cell? ⟨gb393, 1, none⟩ = some (.int .i64 0) := (blk_cell BK393.out 1).trans rfl; have hcz68_2 : w67.cell? ⟨gb393, 2, none⟩ = some (.slice none 0 0) := (blk_cell BK393.out 2).trans rfl; have hfz68_0 := blk_frozen BK393.out 0; have hfz68_1 := blk_frozen BK393.out 1; have hfz68_2 := blk_frozen BK393.out 2; obtain ⟨Ao69, co69, eo69⟩ := Kd.V_slice HO391.out; subst eo69))
  go_ret3
  exact ⟨_, by first | rfl | (simp [errW_none, errW_some] <;> rfl) | (simp [*, errW_none, errW_some] <;> rfl), Kd.V_mono (Kd.S_V (by first | exact Kd.S_nil _ _ _ 0 (fun k_ => w.heap.size ≤ k_) | exact Kd.S_nil _ _ _ _ _ | exact Kd.N_nil _ _ _ _ _ | exact Kd.V_nil _ _ _ _ _ | exact Kd.Q_nil _ _ _ _ _ | exact Kd.R_nil _ _ _ _ _)) (fun k_ hk => by first | exact ⟨(.inr (hk.1)), hk.2⟩ | exact (.inr (hk))), zB1 HB GE393⟩

end Go.Proofs.Ytnjnjajgpkmfhaa.PX

namespace Go.Proofs.Ytnjnjajgpkmfhaa.PX
open Go.RowKit Go.Proofs.YtnjnjajgpkmfhaaW.PrintWords Go.Proofs.YtnjnjajgpkmfhaaW.PrintLast Go.Proofs.YtnjnjajgpkmfhaaW.PrintMore
attribute [local go_sem] max2_int min2_int max_two min_two max_three min_three max_four min_four   -- for this text's walks alone
set_option linter.unusedVariables false
set_option linter.unusedSimpArgs false

/-! ### deadboltlaw10_alive: function 33 -/
def deadboltlaw10_alive.f (k : Nat)  : Option (Bool) := (sema_Acquire.f k ([] : List (S33)) 8 4 false).bind fun bt407 => ((sema_Acquire.f k bt407.1 8 2 true).bind fun bt412 => ((sema_Release.f bt412.1 8).bind fun bt417 => (if bt407.2.2 = 0 then (if bt412.2.2 = 0 then (if bt417.2.2 = 0 then (if bt407.2.1 = true then (some false) else (if bt412.2.1 = true then (some false) else (some (bt417.2.1 == 2)))) else (some false)) else (some false)) else (some false))))
theorem deadboltlaw10_alive.mono : ∀ k, LeO (deadboltlaw10_alive.f k ) (deadboltlaw10_alive.f (k + 1) ) := by
 intro  k
 unfold deadboltlaw10_alive.f
 repeat' first
   | (with_reducible exact sema_Acquire.mono _ _ _ _ _)
   | (with_reducible exact LeO.refl _)
   | (with_reducible exact LeO.none _)
   | (with_reducible refine LeO.ite ?_ ?_)
   | (with_reducible refine LeO.bind ?_ (fun _ => ?_))
   | exact sema_Acquire.mono _ _ _ _ _
   | exact LeO.none _
   | refine LeO.ite ?_ ?_
   | refine LeO.bind ?_ (fun _ => ?_)
set_option maxHeartbeats 8000000 in
set_option maxRecDepth 100000 in
theorem deadboltlaw10_alive.calls (k : Nat)  (r : Bool) (w : World) (h : deadboltlaw10_alive.f k  = some r) :
  Calls Try.prog 33 #[] w fun e w' => e = .returned (.bool r) ∧ Below w.heap.size w w' := by
 have HB := Aside0.mk (Below.refl w.heap.size w)
 have H : ((sema_Acquire.f k ([] : List (S33)) 8 4 false).bind fun bt407 => ((sema_Acquire.f k bt407.1 8 2 true).bind fun bt412 => ((sema_Release.f bt412.1 8).bind fun bt417 => (if bt407.2.2 = 0 then (if bt412.2.2 = 0 then (if bt417.2.2 = 0 then (if bt407.2.1 = true then (some false) else (if bt412.2.1 = true then (some false) else (some (bt417.2.1 == 2)))) else (some false)) else (some false)) else (some false))))) = some r := h
 clear h
 replace H := Option.bind_eq_some_iff.mp H
 obtain ⟨⟨t407, t410, t411⟩, A10, H⟩ := H
 replace H : ((sema_Acquire.f k t407 8 2 true).bind fun bt412 => ((sema_Release.f bt412.1 8).bind fun bt417 => (if t411 = 0 then (if bt412.2.2 = 0 then (if bt417.2.2 = 0 then (if t410 = true then (some false) else (if bt412.2.1 = true then (some false) else (some (bt417.2.1 == 2)))) else (some false)) else (some false)) else (some false)))) = some r := H
 have A1 := Aside0.mk A10
 clear A10
 replace H := Option.bind_eq_some_iff.mp H
 obtain ⟨⟨t412, t415, t416⟩, A20, H⟩ := H
 replace H : ((sema_Release.f t412 8).bind fun bt417 => (if t411 = 0 then (if t416 = 0 then (if bt417.2.2 = 0 then (if t410 = true then (some false) else (if t415 = true then (some false) else (some (bt417.2.1 == 2)))) else (some false)) else (some false)) else (some false))) = some r := H
 have A2 := Aside0.mk A20
 clear A20
 replace H := Option.bind_eq_some_iff.mp H
 obtain ⟨⟨t417, t420, t421⟩, A30, H⟩ := H
 replace H : (if t411 = 0 then (if t416 = 0 then (if t421 = 0 then (if t410 = true then (some false) else (if t415 = true then (some false) else (some (t420 == 2)))) else (some false)) else (some false)) else (some false)) = some r := H
 have A3 := Aside0.mk A30
 clear A30
 by_cases c4 : t411 = 0
 ·rw [if_pos c4] at H
  have c4b0 : (t411 == 0) = true := beq_iff_eq.mpr c4
  have c4b1 : (t411 != 0) = false := bne_eq_false_iff_eq.mpr c4
  clear c4
  by_cases c5 : t416 = 0
  ·rw [if_pos c5] at H
   have c5b0 : (t416 == 0) = true := beq_iff_eq.mpr c5
   have c5b1 : (t416 != 0) = false := bne_eq_false_iff_eq.mpr c5
   clear c5
   by_cases c6 : t421 = 0
   ·rw [if_pos c6] at H
    have c6b0 : (t421 == 0) = true := beq_iff_eq.mpr c6
    have c6b1 : (t421 != 0) = false := bne_eq_false_iff_eq.mpr c6
    clear c6
    by_cases c7 : t410 = true
    ·subst c7
     have H1 : (some false) = some r := by rw [if_pos rfl] at H; exact H
     clear H
     have H := H1
     clear H1
     obtain rfl := Option.some.inj H
     go_enter Try.func33, Try.ntmps33
     go_wp2_with (first | ((with_reducible refine gate_callee (f := 30) rfl ?_); refine goesL_ (some 10) rfl rfl Try.func30 (by kernel_rfl) rfl #[.slice none 0 0, .int .i64 8, .int .i64 4, .bool false] rfl zP ?_; (refine (sema_Acquire.calls k (fun k_ => False) _ _ ([] : List (S33)) 8 4 false t407 true t411 _ ?side1 A1.out).mono ?_); (case side1 => exact Kd.V_nil _ _ _ _ _); rintro e w8 ⟨v408, rfl, ho0, hb⟩; refine ⟨_, rfl, ?_⟩; have n0_ := Aside0.mk (Kd.V_lower (Kd.V_mono (ok' := fun k_ => True) ho0 (fun k_ hk_ => trivial)) (below_size (zB HB))); have n1_ := Aside0.mk (below_step (zB HB) hb); clear HB; have HO409 := n0_; have HB := n1_; clear n0_ n1_; (try clear hb); (try clear hb2); (try clear hk); (try clear hi); (try clear ho0); obtain ⟨Ao9, co9, eo9⟩ := Kd.V_slice HO409.out; subst eo9) | ((with_reducible refine gate_callee (f := 30) rfl ?_); refine goesL_ (some 16) rfl rfl Try.func30 (by kernel_rfl) rfl #[.slice Ao9 t407.length co9, .int .i64 8, .int .i64 2, .bool true] rfl zP ?_; (with_reducible refine (sema_Acquire.calls k (fun k_ => True) _ _ t407 8 2 true t412 t415 t416 _ ?side1 A2.out).mono ?_); (case side1 => exact HO409.out); rintro e w10 ⟨v413, rfl, ho0, hb⟩; refine ⟨_, rfl, ?_⟩; have n0_ := Aside0.mk (Kd.V_below (zV HO409) hb); have n1_ := Aside0.mk (Kd.V_lower (Kd.V_mono (ok' := fun k_ => True) ho0 (fun k_ hk_ => trivial)) (below_size (zB HB))); have n2_ := Aside0.mk (below_step (zB HB) hb); clear HO409; clear HB; have HO409 := n0_; have HO414 := n1_; have HB := n2_; clear n0_ n1_ n2_; (try clear hb); (try clear hb2); (try clear hk); (try clear hi); (try clear ho0); obtain ⟨Ao11, co11, eo11⟩ := Kd.V_slice HO414.out; subst eo11) | ((with_reducible refine gate_callee (f := 32) rfl ?_); refine goesL_ (some 22) rfl rfl Try.func32 (by kernel_rfl) rfl #[.slice Ao11 t412.length co11, .int .i64 8] rfl zP ?_; (with_reducible refine (sema_Release.calls (fun k_ => True) _ _ t412 8 t417 t420 t421 _ ?side1 A3.out).mono ?_); (case side1 => exact HO414.out); rintro e w12 ⟨v418, rfl, ho0, hb⟩; refine ⟨_, rfl, ?_⟩; have n0_ := Aside0.mk (Kd.V_below (zV HO409) hb); have n1_ := Aside0.mk (Kd.V_below (zV HO414) hb); have n2_ := Aside0.mk (Kd.V_lower (Kd.V_mono (ok' := fun k_ => True) ho0 (fun k_ hk_ => trivial)) (below_size (zB HB))); have n3_ := Aside0.mk (below_step (zB HB) hb); clear HO409; clear HO414; clear HB; have HO409 := n0_; have HO414 := n1_; have HO419 := n2_; have HB := n3_; clear n0_ n1_ n2_ n3_; (try clear hb); (try clear hb2); (try clear hk); (try clear hi); (try clear ho0)))
     go_ret
     exact ⟨by first | rfl | (simp [errW_none, errW_some] <;> rfl) | (simp [*, errW_none, errW_some] <;> rfl), zB HB⟩
    ·replace c7 := Bool.eq_false_iff.mpr c7
     subst c7
     have H1 : (if t415 = true then (some false) else (some (t420 == 2))) = some r := by rw [if_neg (show ¬ (false = true) by decide)] at H; exact H
     clear H
     have H := H1
     clear H1
     by_cases c13 : t415 = true
     ·subst c13
      have H1 : (some false) = some r := by rw [if_pos rfl] at H; exact H
      clear H
      have H := H1
      clear H1
      obtain rfl := Option.some.inj H
      go_enter Try.func33, Try.ntmps33
      go_wp2_with (first | ((with_reducible refine gate_callee (f := 30) rfl ?_); refine goesL_ (some 10) rfl rfl Try.func30 (by kernel_rfl) rfl #[.slice none 0 0, .int .i64 8, .int .i64 4, .bool false] rfl zP ?_; (refine (sema_Acquire.calls k (fun k_ => False) _ _ ([] : List (S33)) 8 4 false t407 false t411 _ ?side1 A1.out).mono ?_); (case side1 => exact Kd.V_nil _ _ _ _ _); rintro e w14 ⟨v408, rfl, ho0, hb⟩; refine ⟨_, rfl, ?_⟩; have n0_ := Aside0.mk (Kd.V_lower (Kd.V_mono (ok' := fun k_ => True) ho0 (fun k_ hk_ => trivial)) (below_size (zB HB))); have n1_ := Aside0.mk (below_step (zB HB) hb); clear HB; have HO409 := n0_; have HB := n1_; clear n0_ n1_; (try clear hb); (try clear hb2); (try clear hk); (try clear hi); (try clear ho0); obtain ⟨Ao15, co15, eo15⟩ := Kd.V_slice HO409.out; subst eo15) | ((with_reducible refine gate_callee (f := 30) rfl ?_); refine goesL_ (some 16) rfl rfl Try.func30 (by kernel_rfl) rfl #[.slice Ao15 t407.length co15, .int .i64 8, .int .i64 2, .bool true] rfl zP ?_; (with_reducible refine (sema_Acquire.calls k (fun k_ => True) _ _ t407 8 2 true t412 true t416 _ ?side1 A2.out).mono ?_); (case side1 => exact HO409.out); rintro e w16 ⟨v413, rfl, ho0, hb⟩; refine ⟨_, rfl, ?_⟩; have n0_ := Aside0.mk (Kd.V_below (zV HO409) hb); have n1_ := Aside0.mk (Kd.V_lower (Kd.V_mono (ok' := fun k_ => True) ho0 (fun k_ hk_ => trivial)) (below_size (zB HB))); have n2_ := Aside0.mk (below_step (zB HB) hb); clear HO409; clear HB; have HO409 := n0_; have HO414 := n1_; have HB := n2_; clear n0_ n1_ n2_; (try clear hb); (try clear hb2); (try clear hk); (try clear hi); (try clear ho0); obtain ⟨Ao17, co17, eo17⟩ := Kd.V_slice HO414.out; subst eo17) | ((with_reducible refine gate_callee (f := 32) rfl ?_); refine goesL_ (some 22) rfl rfl Try.func32 (by kernel_rfl) rfl #[.slice Ao17 t412.length co17, .int .i64 8] rfl zP ?_; (with_reducible refine (sema_Release.calls (fun k_ => True) _ _ t412 8 t417 t420 t421 _ ?side1 A3.out).mono ?_); (case side1 => exact HO414.out); rintro e w18 ⟨v418, rfl, ho0, hb⟩; refine ⟨_, rfl, ?_⟩; have n0_ := Aside0.mk (Kd.V_below (zV HO409) hb); have n1_ := Aside0.mk (Kd.V_below (zV HO414) hb); have n2_ := Aside0.mk (Kd.V_lower (Kd.V_mono (ok' := fun k_ => True) ho0 (fun k_ hk_ => trivial)) (below_size (zB HB))); have n3_ := Aside0.mk (below_step (zB HB) hb); clear HO409; clear HO414; clear HB; have HO409 := n0_; have HO414 := n1_; have HO419 := n2_; have HB := n3_; clear n0_ n1_ n2_ n3_; (try clear hb); (try clear hb2); (try clear hk); (try clear hi); (try clear ho0)))
      go_ret
      exact ⟨by first | rfl | (simp [errW_none, errW_some] <;> rfl) | (simp [*, errW_none, errW_some] <;> rfl), zB HB⟩
     ·replace c13 := Bool.eq_false_iff.mpr c13
      subst c13
      have H1 : (some (t420 == 2)) = some r := by rw [if_neg (show ¬ (false = true) by decide)] at H; exact H
      clear H
      have H := H1
      clear H1
      obtain rfl := Option.some.inj H
      go_enter Try.func33, Try.ntmps33
      go_wp2_with (first | ((with_reducible refine gate_callee (f := 30) rfl ?_); refine goesL_ (some 10) rfl rfl Try.func30 (by kernel_rfl) rfl #[.slice none 0 0, .int .i64 8, .int .i64 4, .bool false] rfl zP ?_; (refine (sema_Acquire.calls k (fun k_ => False) _ _ ([] : List (S33)) 8 4 false t407 false t411 _ ?side1 A1.out).mono ?_); (case side1 => exact Kd.V_nil _ _ _ _ _); rintro e w19 ⟨v408, rfl, ho0, hb⟩; refine ⟨_, rfl, ?_⟩; have n0_ := Aside0.mk (Kd.V_lower (Kd.V_mono (ok' := fun k_ => True) ho0 (fun k_ hk_ => trivial)) (below_size (zB HB))); have n1_ := Aside0.mk (below_step (zB HB) hb); clear HB; have HO409 := n0_; have HB := n1_; clear n0_ n1_; (try clear hb); (try clear hb2); (try clear hk); (try clear hi); (try clear ho0); obtain ⟨Ao20, co20, eo20⟩ := Kd.V_slice HO409.out; subst eo20) | ((with_reducible refine gate_callee (f := 30) rfl ?_); refine goesL_ (some 16) rfl rfl Try.func30 (by kernel_rfl) rfl #[.slice Ao20 t407.length co20, .int .i64 8, .int .i64 2, .bool true] rfl zP ?_; (with_reducible refine (sema_Acquire.calls k (fun k_ => True) _ _ t407 8 2 true t412 false t416 _ ?side1 A2.out).mono ?_); (case side1 => exact HO409.out); rintro e w21 ⟨v413, rfl, ho0, hb⟩; refine ⟨_, rfl, ?_⟩; have n0_ := Aside0.mk (Kd.V_below (zV HO409) hb); have n1_ := Aside0.mk (Kd.V_lower (Kd.V_mono (ok' := fun k_ => True) ho0 (fun k_ hk_ => trivial)) (below_size (zB HB))); have n2_ := Aside0.mk (below_step (zB HB) hb); clear HO409; clear HB; have HO409 := n0_; have HO414 := n1_; have HB := n2_; clear n0_ n1_ n2_; (try clear hb); (try clear hb2); (try clear hk); (try clear hi); (try clear ho0); obtain ⟨Ao22, co22, eo22⟩ := Kd.V_slice HO414.out; subst eo22) | ((with_reducible refine gate_callee (f := 32) rfl ?_); refine goesL_ (some 22) rfl rfl Try.func32 (by kernel_rfl) rfl #[.slice Ao22 t412.length co22, .int .i64 8] rfl zP ?_; (with_reducible refine (sema_Release.calls (fun k_ => True) _ _ t412 8 t417 t420 t421 _ ?side1 A3.out).mono ?_); (case side1 => exact HO414.out); rintro e w23 ⟨v418, rfl, ho0, hb⟩; refine ⟨_, rfl, ?_⟩; have n0_ := Aside0.mk (Kd.V_below (zV HO409) hb); have n1_ := Aside0.mk (Kd.V_below (zV HO414) hb); have n2_ := Aside0.mk (Kd.V_lower (Kd.V_mono (ok' := fun k_ => True) ho0 (fun k_ hk_ => trivial)) (below_size (zB HB))); have n3_ := Aside0.mk (below_step (zB HB) hb); clear HO409; clear HO414; clear HB; have HO409 := n0_; have HO414 := n1_; have HO419 := n2_; have HB := n3_; clear n0_ n1_ n2_ n3_; (try clear hb); (try clear hb2); (try clear hk); (try clear hi); (try clear ho0)))
      go_ret
      exact ⟨by first | rfl | (simp [errW_none, errW_some] <;> rfl) | (simp [*, errW_none, errW_some] <;> rfl), zB HB⟩
   ·rw [if_neg c6] at H
    have c6b0 : (t421 == 0) = false := beq_eq_false_iff_ne.mpr c6
    have c6b1 : (t421 != 0) = true := bne_iff_ne.mpr c6
    obtain rfl := Option.some.inj H
    go_enter Try.func33, Try.ntmps33
    go_wp2_with (first | ((with_reducible refine gate_callee (f := 30) rfl ?_); refine goesL_ (some 10) rfl rfl Try.func30 (by kernel_rfl) rfl #[.slice none 0 0, .int .i64 8, .int .i64 4, .bool false] rfl zP ?_; (refine (sema_Acquire.calls k (fun k_ => False) _ _ ([] : List (S33)) 8 4 false t407 t410 t411 _ ?side1 A1.out).mono ?_); (case side1 => exact Kd.V_nil _ _ _ _ _); rintro e w24 ⟨v408, rfl, ho0, hb⟩; refine ⟨_, rfl, ?_⟩; have n0_ := Aside0.mk (Kd.V_lower (Kd.V_mono (ok' := fun k_ => True) ho0 (fun k_ hk_ => trivial)) (below_size (zB HB))); have n1_ := Aside0.mk (below_step (zB HB) hb); clear HB; have HO409 := n0_; have HB := n1_; clear n0_ n1_; (try clear hb); (try clear hb2); (try clear hk); (try clear hi); (try clear ho0); obtain ⟨Ao25, co25, eo25⟩ := Kd.V_slice HO409.out; subst eo25) | ((with_reducible refine gate_callee (f := 30) rfl ?_); refine goesL_ (some 16) rfl rfl Try.func30 (by kernel_rfl) rfl #[.slice Ao25 t407.length co25, .int .i64 8, .int .i64 2, .bool true] rfl zP ?_; (with_reducible refine (sema_Acquire.calls k (fun k_ => True) _ _ t407 8 2 true t412 t415 t416 _ ?side1 A2.out).mono ?_); (case side1 => exact HO409.out); rintro e w26 ⟨v413, rfl, ho0, hb⟩; refine ⟨_, rfl, ?_⟩; have n0_ := Aside0.mk (Kd.V_below (zV HO409) hb); have n1_ := Aside0.mk (Kd.V_lower (Kd.V_mono (ok' := fun k_ => True) ho0 (fun k_ hk_ => trivial)) (below_size (zB HB))); have n2_ := Aside0.mk (below_step (zB HB) hb); clear HO409; clear HB; have HO409 := n0_; have HO414 := n1_; have HB := n2_; clear n0_ n1_ n2_; (try clear hb); (try clear hb2); (try clear hk); (try clear hi); (try clear ho0); obtain ⟨Ao27, co27, eo27⟩ := Kd.V_slice HO414.out; subst eo27) | ((with_reducible refine gate_callee (f := 32) rfl ?_); refine goesL_ (some 22) rfl rfl Try.func32 (by kernel_rfl) rfl #[.slice Ao27 t412.length co27, .int .i64 8] rfl zP ?_; (with_reducible refine (sema_Release.calls (fun k_ => True) _ _ t412 8 t417 t420 t421 _ ?side1 A3.out).mono ?_); (case side1 => exact HO414.out); rintro e w28 ⟨v418, rfl, ho0, hb⟩; refine ⟨_, rfl, ?_⟩; have n0_ := Aside0.mk (Kd.V_below (zV HO409) hb); have n1_ := Aside0.mk (Kd.V_below (zV HO414) hb); have n2_ := Aside0.mk (Kd.V_lower (Kd.V_mono (ok' := fun k_ => True) ho0 (fun k_ hk_ => trivial)) (below_size (zB HB))); have n3_ := Aside0.mk (below_step (zB HB) hb); clear HO409; clear HO414; clear HB; have HO409 := n0_; have HO414 := n1_; have HO419 := n2_; have HB := n3_; clear n0_ n1_ n2_ n3_; (try clear hb); (try clear hb2); (try clear hk); (try clear hi); (try clear ho0)))
    go_ret
    exact ⟨by first | rfl | (simp [errW_none, errW_some] <;> rfl) | (simp [*, errW_none, errW_some] <;> rfl), zB HB⟩
  ·rw [if_neg c5] at H
   have c5b0 : (t416 == 0) = false := beq_eq_false_iff_ne.mpr c5
   have c5b1 : (t416 != 0) = true := bne_iff_ne.mpr c5
   obtain rfl := Option.some.inj H
   go_enter Try.func33, Try.ntmps33
   go_wp2_with (first | ((with_reducible refine gate_callee (f := 30) rfl ?_); refine goesL_ (some 10) rfl rfl Try.func30 (by kernel_rfl) rfl #[.slice none 0 0, .int .i64 8, .int .i64 4, .bool false] rfl zP ?_; (refine (sema_Acquire.calls k (fun k_ => False) _ _ ([] : List (S33)) 8 4 false t407 t410 t411 _ ?side1 A1.out).mono ?_); (case side1 => exact Kd.V_nil _ _ _ _ _); rintro e w29 ⟨v408, rfl, ho0, hb⟩; refine ⟨_, rfl, ?_⟩; have n0_ := Aside0.mk (Kd.V_lower (Kd.V_mono (ok' := fun k_ => True) ho0 (fun k_ hk_ => trivial)) (below_size (zB HB))); have n1_ := Aside0.mk (below_step (zB HB) hb); clear HB; have HO409 := n0_; have HB := n1_; clear n0_ n1_; (try clear hb); (try clear hb2); (try clear hk); (try clear hi); (try clear ho0); obtain ⟨Ao30, co30, eo30⟩ := Kd.V_slice HO409.out; subst eo30) | ((with_reducible refine gate_callee (f := 30) rfl ?_); refine goesL_ (some 16) rfl rfl Try.func30 (by kernel_rfl) rfl #[.slice Ao30 t407.length co30, .int .i64 8, .int .i64 2, .bool true] rfl zP ?_; (with_reducible refine (sema_Acquire.calls k (fun k_ => True) _ _ t407 8 2 true t412 t415 t416 _ ?side1 A2.out).mono ?_); (case side1 => exact HO409.out); rintro e w31 ⟨v413, rfl, ho0, hb⟩; refine ⟨_, rfl, ?_⟩; have n0_ := Aside0.mk (Kd.V_below (zV HO409) hb); have n1_ := Aside0.mk (Kd.V_lower (Kd.V_mono (ok' := fun k_ => True) ho0 (fun k_ hk_ => trivial)) (below_size (zB HB))); have n2_ := Aside0.mk (below_step (zB HB) hb); clear HO409; clear HB; have HO409 := n0_; have HO414 := n1_; have HB := n2_; clear n0_ n1_ n2_; (try clear hb); (try clear hb2); (try clear hk); (try clear hi); (try clear ho0); obtain ⟨Ao32, co32, eo32⟩ := Kd.V_slice HO414.out; subst eo32) | ((with_reducible refine gate_callee (f := 32) rfl ?_); refine goesL_ (some 22) rfl rfl Try.func32 (by kernel_rfl) rfl #[.slice Ao32 t412.length co32, .int .i64 8] rfl zP ?_; (with_reducible refine (sema_Release.calls (fun k_ => True) _ _ t412 8 t417 t420 t421 _ ?side1 A3.out).mono ?_); (case side1 => exact HO414.out); rintro e w33 ⟨v418, rfl, ho0, hb⟩; refine ⟨_, rfl, ?_⟩; have n0_ := Aside0.mk (Kd.V_below (zV HO409) hb); have n1_ := Aside0.mk (Kd.V_below (zV HO414) hb); have n2_ := Aside0.mk (Kd.V_lower (Kd.V_mono (ok' := fun k_ => True) ho0 (fun k_ hk_ => trivial)) (below_size (zB HB))); have n3_ := Aside0.mk (below_step (zB HB) hb); clear HO409; clear HO414; clear HB; have HO409 := n0_; have HO414 := n1_; have HO419 := n2_; have HB := n3_; clear n0_ n1_ n2_ n3_; (try clear hb); (try clear hb2); (try clear hk); (try clear hi); (try clear ho0)))
   go_ret
   exact ⟨by first | rfl | (simp [errW_none, errW_some] <;> rfl) | (simp [*, errW_none, errW_some] <;> rfl), zB HB⟩
 ·rw [if_neg c4] at H
  have c4b0 : (t411 == 0) = false := beq_eq_false_iff_ne.mpr c4
  have c4b1 : (t411 != 0) = true := bne_iff_ne.mpr c4
  obtain rfl := Option.some.inj H
  go_enter Try.func33, Try.ntmps33
  go_wp2_with (first | ((with_reducible refine gate_callee (f := 30) rfl ?_); refine goesL_ (some 10) rfl rfl Try.func30 (by kernel_rfl) rfl #[.slice none 0 0, .int .i64 8, .int .i64 4, .bool false] rfl zP ?_; (refine (sema_Acquire.calls k (fun k_ => False) _ _ ([] : List (S33)) 8 4 false t407 t410 t411 _ ?side1 A1.out).mono ?_); (case side1 => exact Kd.V_nil _ _ _ _ _); rintro e w34 ⟨v408, rfl, ho0, hb⟩; refine ⟨_, rfl, ?_⟩; have n0_ := Aside0.mk (Kd.V_lower (Kd.V_mono (ok' := fun k_ => True) ho0 (fun k_ hk_ => trivial)) (below_size (zB HB))); have n1_ := Aside0.mk (below_step (zB HB) hb); clear HB; have HO409 := n0_; have HB := n1_; clear n0_ n1_; (try clear hb); (try clear hb2); (try clear hk); (try clear hi); (try clear ho0); obtain ⟨Ao35, co35, eo35⟩ := Kd.V_slice HO409.out; subst eo35) | ((with_reducible refine gate_callee (f := 30) rfl ?_); refine goesL_ (some 16) rfl rfl Try.func30 (by kernel_rfl) rfl #[.slice Ao35 t407.length co35, .int .i64 8, .int .i64 2, .bool true] rfl zP ?_; (with_reducible refine (sema_Acquire.calls k (fun k_ => True) _ _ t407 8 2 true t412 t415 t416 _ ?side1 A2.out).mono ?_); (case side1 => exact HO409.out); rintro e w36 ⟨v413, rfl, ho0, hb⟩; refine ⟨_, rfl, ?_⟩; have n0_ := Aside0.mk (Kd.V_below (zV HO409) hb); have n1_ := Aside0.mk (Kd.V_lower (Kd.V_mono (ok' := fun k_ => True) ho0 (fun k_ hk_ => trivial)) (below_size (zB HB))); have n2_ := Aside0.mk (below_step (zB HB) hb); clear HO409; clear HB; have HO409 := n0_; have HO414 := n1_; have HB := n2_; clear n0_ n1_ n2_; (try clear hb); (try clear hb2); (try clear hk); (try clear hi); (try clear ho0); obtain ⟨Ao37, co37, eo37⟩ := Kd.V_slice HO414.out; subst eo37) | ((with_reducible refine gate_callee (f := 32) rfl ?_); refine goesL_ (some 22) rfl rfl Try.func32 (by kernel_rfl) rfl #[.slice Ao37 t412.length co37, .int .i64 8] rfl zP ?_; (with_reducible refine (sema_Release.calls (fun k_ => True) _ _ t412 8 t417 t420 t421 _ ?side1 A3.out).mono ?_); (case side1 => exact HO414.out); rintro e w38 ⟨v418, rfl, ho0, hb⟩; refine ⟨_, rfl, ?_⟩; have n0_ := Aside0.mk (Kd.V_below (zV HO409) hb); have n1_ := Aside0.mk (Kd.V_below (zV HO414) hb); have n2_ := Aside0.mk (Kd.V_lower (Kd.V_mono (ok' := fun k_ => True) ho0 (fun k_ hk_ => trivial)) (below_size (zB HB))); have n3_ := Aside0.mk (below_step (zB HB) hb); clear HO409; clear HO414; clear HB; have HO409 := n0_; have HO414 := n1_; have HO419 := n2_; have HB := n3_; clear n0_ n1_ n2_ n3_; (try clear hb); (try clear hb2); (try clear hk); (try clear hi); (try clear ho0)))
  go_ret
  exact ⟨by first | rfl | (simp [errW_none, errW_some] <;> rfl) | (simp [*, errW_none, errW_some] <;> rfl), zB HB⟩

end Go.Proofs.Ytnjnjajgpkmfhaa.PX

namespace Go.Proofs.Ytnjnjajgpkmfhaa.PX
open Go.RowKit Go.Proofs.YtnjnjajgpkmfhaaW.PrintWords Go.Proofs.YtnjnjajgpkmfhaaW.PrintLast Go.Proofs.YtnjnjajgpkmfhaaW.PrintMore
attribute [local go_sem] max2_int min2_int max_two min_two max_three min_three max_four min_four   -- for this text's walks alone
set_option linter.unusedVariables false
set_option linter.unusedSimpArgs false

/-! ### deadboltlaw10_few: function 34 -/
def deadboltlaw10_few.l0 : Nat → List (S33) → List (S33) → Int → Int → Option ((List (S33)))
 | 0, _, _, _, _ => none
 | k + 1, x3, x10, x11, x12 => if x12 < x11 then (if 0 ≤ x12 then (if x12 < (x10.length : Int) then (if 0 ≤ (mn (((rd_T33 x10 x12).f2).length : Int) 70) then (if (mn (((rd_T33 x10 x12).f2).length : Int) 70) ≤ (((rd_T33 x10 x12).f2).length : Int) then (if x3.length < 3518437208883 then (deadboltlaw10_few.l0 k (x3 ++ [(⟨(rd_T33 x10 x12).f0, (rd_T33 x10 x12).f1, (((rd_T33 x10 x12).f2).take ((mn (((rd_T33 x10 x12).f2).length : Int) 70) : Int).toNat)⟩ : S33)]) x10 x11 (wrap64 (x12 + 1))) else (none)) else (none)) else (none)) else (none)) else (none)) else (some x3)
def deadboltlaw10_few.f (k : Nat) (l0 : List (S33)) : Option ((List (S33))) := if 0 ≤ (mn (l0.length : Int) 70) then (if (mn (l0.length : Int) 70) ≤ (l0.length : Int) then ((some (l0.take ((mn (l0.length : Int) 70) : Int).toNat : List (S33))).bind fun y422 => (deadboltlaw10_few.l0 k ([] : List (S33)) y422 (y422.length : Int) 0)) else (none)) else (none)
end Go.Proofs.Ytnjnjajgpkmfhaa.PX

/-
 Grants and who waits for them, told as plain functions of tables.
-/
namespace Go.Proofs.Ytnjnjajgpkmfhaa.PX
open Go.RowKit Go.Proofs.YtnjnjajgpkmfhaaW.PrintWords Go.Proofs.YtnjnjajgpkmfhaaW.PrintLast Go.Proofs.YtnjnjajgpkmfhaaW.PrintMore
theorem index_l0 (l : List Int) (a : Int) (hl : l.length ≤ 1000) : ∀ (d i k : Nat), i + d = l.length → d < k → (∀ j, j < i → l[j]? ≠ some a) → slices_Index_int_int.l0 k l a (l.length : Int) (i : Int) = some (placeI l a) := by
 intro d
 induction d with
 | zero =>
  intro i k h1 hk h
  obtain ⟨k, rfl⟩ : ∃ q, k = q + 1 := ⟨k - 1, by omega⟩
  rw [slices_Index_int_int.l0, if_neg (by omega), placeI, if_neg]
  intro hm
  obtain ⟨j, hj, rfl⟩ := List.mem_iff_getElem.1 hm
  exact h j (by omega) (List.getElem?_eq_getElem hj)
 | succ d ih =>
  intro i k h1 hk h
  obtain ⟨k, rfl⟩ : ∃ q, k = q + 1 := ⟨k - 1, by omega⟩
  have hx : l[i]? = some l[i] := List.getElem?_eq_getElem (by omega)
  rw [slices_Index_int_int.l0, if_pos (by omega), if_pos (by omega), if_pos (by omega), rd_at hx]
  by_cases he : a = l[i]
  ·have hmem : a ∈ l := by rw [he]; exact List.getElem_mem _
   have hp := place_l0 l a hl (l.length - i) i (l.length + 1) (by omega) (by omega) h
   rw [deadboltref07_Place.l0, if_pos (by omega), if_pos (by omega), if_pos (by omega), rd_at hx, if_pos he.symm] at hp
   rw [if_pos he]
   exact hp
  ·rw [if_neg he, next_i (by omega)]
   refine ih (i + 1) k (by omega) (by omega) fun j hj => ?_
   rcases Nat.lt_or_eq_of_le (Nat.le_of_lt_succ hj) with h' | h'
   ·exact h j h'
   ·rw [h', hx]
    exact fun e => he (Option.some.inj e).symm
theorem contains_f {l : List Int} (a : Int) (hl : l.length ≤ 1000) {k : Nat} (hk : l.length < k) : slices_Contains_int_int.f k l a = some (decide (a ∈ l)) := by
 unfold slices_Contains_int_int.f slices_Index_int_int.f
 rw [show (0 : Int) = ((0 : Nat) : Int) from rfl, index_l0 l a hl l.length 0 k (by omega) hk (fun j hj => absurd hj (by omega))]
 simp only [Option.bind_some]
 refine congrArg some (Bool.eq_iff_iff.2 ?_)
 rw [decide_eq_true_eq, decide_eq_true_eq]
 exact placeI_mem l a
theorem joined_f (p q : List Int) (h : p.length + q.length ≤ 1000) {k : Nat} (hk : 5 ≤ k) : line_joined.f k [p, q] = some (p ++ q) := by
 obtain ⟨k, rfl⟩ : ∃ q, k = q + 1 + 1 + 1 := ⟨k - 3, by omega⟩
 unfold line_joined.f
 rw [line_joined.l0, if_pos (by simp), if_pos (by omega), if_pos (by simp), show rd_L1 [p, q] 0 = p from rfl, if_pos (by simp; omega), show wrap64 ((0 : Int) + 1) = 1 from by unfold wrap64; omega,
  line_joined.l0, if_pos (by simp), if_pos (by omega), if_pos (by simp), show rd_L1 [p, q] 1 = q from rfl, if_pos (by simp; omega), show wrap64 ((1 : Int) + 1) = 2 from by unfold wrap64; omega,
  line_joined.l0, if_neg (by simp)]
 rfl
/-- One more in a line. -/
def pushL (l : List Int) (x : Int) (first : Bool) : List Int := if first = true then x :: l else l ++ [x]
theorem pushL_len (l : List Int) (x : Int) (b : Bool) : (pushL l x b).length = l.length + 1 := by
 unfold pushL; split <;> simp
theorem pushL_line {l : List Int} {x : Int} {b : Bool} (h : lineB l = true) (hx : 0 ≤ x) (hm : x ∉ l) (hn : l.length ≠ 64) : lineB (pushL l x b) = true := by
 obtain ⟨h1, h2, h3⟩ := (lineB_iff l).1 h
 refine (lineB_iff _).2 ⟨?_, fun y hy => ?_, by rw [pushL_len]; omega⟩
 ·unfold pushL
  split
  ·exact List.nodup_cons.2 ⟨hm, h1⟩
  ·refine List.nodup_append.2 ⟨h1, by simp, fun a ha c hc => ?_⟩
   simp at hc
   subst hc
   exact fun e => hm (e ▸ ha)
 ·unfold pushL at hy
  split at hy
  ·rcases List.mem_cons.1 hy with rfl | h
   ·exact hx
   ·exact h2 y h
  ·rcases List.mem_append.1 hy with h | h
   ·exact h2 y h
   ·simp at h; omega
theorem push_f {l : List Int} {x : Int} (b : Bool) (h : lineB l = true) (hx : 0 ≤ x) (hm : x ∉ l) {k : Nat} (hk : 200 ≤ k) : line_Push.f k l x b = some (if l.length = 64 then ([], 5) else (pushL l x b, 0)) := by
 have h3 := ((lineB_iff l).1 h).2.2
 obtain ⟨k, rfl⟩ : ∃ q, k = q + 1 := ⟨k - 1, by omega⟩
 unfold line_Push.f line_Right.f
 rw [if_pos (by omega)]
 simp only [Option.bind_some]
 rw [if_pos h, line_Push.j0, if_neg (by simp; omega), contains_f x (by omega) (by omega), decide_eq_false hm]
 simp only [Option.bind_some]
 rw [if_neg Bool.false_ne_true]
 by_cases hn : l.length = 64
 ·rw [if_pos (by omega), if_pos hn]
 ·rw [if_neg (by omega), if_neg hn]
  unfold pushL
  cases b with
  | true =>
   rw [if_pos rfl, joined_f [x] l (by simp; omega) (by omega), if_pos rfl]
   rfl
  | false =>
   rw [if_neg Bool.false_ne_true, joined_f l [x] (by simp; omega) (by omega), if_neg Bool.false_ne_true]
   rfl
/-- What setting a spot tells, with a word beside it. -/
noncomputable def setR (L : List Sp) (s : Sp) (b : Bool) : List Sp × Bool × Int := if (setT L s).length > 64 then ([], false, 5) else (setT L s, b, 0)
noncomputable def acqT (L : List Sp) (a who : Int) (first : Bool) : List Sp × Bool × Int :=
 if who ∈ (getT L a).f2 then ([], false, 7) else if (getT L a).f1 > 0 then setR L ⟨a, (getT L a).f1 - 1, (getT L a).f2⟩ true
  else if (getT L a).f2.length = 64 then ([], false, 5) else setR L ⟨a, 0, pushL (getT L a).f2 who first⟩ false
theorem less_spot {s : Sp} (h : SpotP s) (h1 : s.f1 > 0) : SpotP ⟨s.f0, s.f1 - 1, s.f2⟩ := by
 obtain ⟨p1, p2, p3, p4⟩ := h
 exact ⟨p1, ⟨by show 0 ≤ s.f1 - 1; omega, by show s.f1 - 1 ≤ _; omega⟩, p3, .inr (p4.resolve_left (by omega))⟩
theorem push_spot {s : Sp} {x : Int} {b : Bool} (h : SpotP s) (hx : 0 ≤ x) (hm : x ∉ s.f2) (hn : s.f2.length ≠ 64) : SpotP ⟨s.f0, 0, pushL s.f2 x b⟩ :=
 ⟨h.1, by simp, pushL_line h.2.2.1 hx hm hn, .inl rfl⟩
theorem acq_f {L : List Sp} (h : Tab L) {a : Int} (ha : 0 ≤ a ∧ a ≤ 4294967295) {who : Int} (hw : 0 ≤ who) (first : Bool) {k : Nat} (hk : 300 ≤ k) : sema_Acquire.f k L a who first = some (acqT L a who first) := by
 obtain ⟨hS, h0⟩ := get_spot h ha
 have h3 := ((lineB_iff _).1 hS.2.2.1).2.2
 obtain ⟨k, rfl⟩ : ∃ q, k = q + 1 := ⟨k - 1, by omega⟩
 unfold sema_Acquire.f acqT
 rw [get_f h ha]
 simp only [Option.bind_some]
 rw [if_pos trivial, sema_Acquire.j0, if_neg (by simp; omega), contains_f who (by omega) (by omega)]
 simp only [Option.bind_some]
 by_cases hm : who ∈ (getT L a).f2
 ·rw [if_pos (decide_eq_true hm), if_pos hm]
 ·rw [if_neg (by simpa using hm), if_neg hm]
  have hf1 := hS.2.1
  by_cases h1 : (getT L a).f1 > 0
  ·have hsp := less_spot hS h1
   rw [h0] at hsp
   rw [if_pos h1, if_pos h1, wrap_id (by omega) (by omega), h0, set_f h hsp, setR]
   simp only [Option.bind_some]
   split
   ·rfl
   ·rw [if_pos rfl, decide_eq_true h1]
  ·rw [if_neg h1, if_neg h1, push_f first hS.2.2.1 hw hm (by omega)]
   simp only [Option.bind_some]
   by_cases hn : (getT L a).f2.length = 64
   ·rw [if_pos hn, if_pos hn, if_neg (by simp)]
   ·have hsp := push_spot (b := first) hS hw hm hn
    rw [h0] at hsp
    rw [if_neg hn, if_neg hn]
    simp only
    rw [if_pos trivial, h0, show (getT L a).f1 = 0 by omega, set_f h hsp, setR]
    simp only [Option.bind_some]
    split
    ·rfl
    ·rw [if_pos rfl, decide_eq_false (by omega)]
noncomputable def relT (L : List Sp) (a : Int) : List Sp × Int × Int :=
 match (getT L a).f2 with
 | x :: r => (setT L ⟨a, (getT L a).f1, r⟩, x, 0)
 | [] => if (getT L a).f1 = 2147483647 then ([], 0, 10) else if (setT L ⟨a, (getT L a).f1 + 1, []⟩).length > 64 then ([], 0, 5) else (setT L ⟨a, (getT L a).f1 + 1, []⟩, -1, 0)
theorem pop_spot {s : Sp} {x : Int} {r : List Int} (h : SpotP s) (he : s.f2 = x :: r) : SpotP ⟨s.f0, s.f1, r⟩ := by
 obtain ⟨p1, p2, p3, p4⟩ := h
 refine ⟨p1, p2, ?_, ?_⟩
 ·obtain ⟨h1, h2, h3⟩ := (lineB_iff _).1 p3
  rw [he] at h1 h2 h3
  exact (lineB_iff _).2 ⟨(List.nodup_cons.1 h1).2, fun y hy => h2 y (List.mem_cons_of_mem _ hy), by simp at h3 ⊢; omega⟩
 ·rcases p4 with h | h
  ·exact .inl h
  ·rw [he] at h; cases h
theorem more_spot {s : Sp} (h : SpotP s) (_h2 : s.f2 = []) (h1 : s.f1 ≠ 2147483647) : SpotP ⟨s.f0, s.f1 + 1, []⟩ := by
 obtain ⟨p1, p2, p3, p4⟩ := h
 exact ⟨p1, ⟨by show 0 ≤ s.f1 + 1; omega, by show s.f1 + 1 ≤ _; omega⟩, by simp [lineB], .inr rfl⟩
theorem pop_room {L : List Sp} (h : Tab L) {a : Int} {x : Int} {r : List Int} {c : Int} (he : (getT L a).f2 = x :: r) {t : List Int} : (setT L ⟨a, c, t⟩).length ≤ 64 :=
 set_room h (s := ⟨a, c, t⟩) (fun hE => by have := hE.2; simp only at this; rw [he] at this; cases this)
theorem rel_f {L : List Sp} (h : Tab L) {a : Int} (ha : 0 ≤ a ∧ a ≤ 4294967295) : sema_Release.f L a = some (relT L a) := by
 obtain ⟨hS, h0⟩ := get_spot h ha
 have h3 := ((lineB_iff _).1 hS.2.2.1).2.2
 have hf1 := hS.2.1
 unfold sema_Release.f relT
 rw [get_f h ha]
 simp only [Option.bind_some]
 rw [if_pos trivial]
 unfold line_Pop.f
 rw [if_pos (by omega), if_neg (by rw [hS.2.2.1]; simp)]
 simp only [Option.bind_some]
 cases hl : (getT L a).f2 with
 | cons x r =>
  simp only
  have hsp := pop_spot hS hl
  rw [h0] at hsp
  have hroom := pop_room h hl (c := (getT L a).f1) (t := r)
  rw [if_pos trivial, h0, set_f h hsp, if_neg (by omega)]
  simp only [Option.bind_some]
  rw [if_pos trivial]
 | nil =>
  simp only
  rw [if_neg (by simp)]
  by_cases hm : (getT L a).f1 = 2147483647
  ·rw [if_pos hm, if_pos hm]
  ·have hsp := more_spot hS hl hm
   rw [h0] at hsp
   rw [if_neg hm, if_neg hm, wrap_id (by omega) (by omega), h0, set_f h hsp]
   simp only [Option.bind_some]
   split
   ·rfl
   ·rfl
theorem semalive_at : deadboltlaw10_alive.f 400 = some true := by decide +kernel
theorem semalive_ok {k : Nat} (hk : 400 ≤ k) : deadboltlaw10_alive.f k = some true := by
 obtain ⟨d, rfl⟩ : ∃ d, k = 400 + d := ⟨k - 400, by omega⟩
 clear hk
 induction d with
 | zero => exact semalive_at
 | succ d ih => exact deadboltlaw10_alive.mono _ _ ih
end Go.Proofs.Ytnjnjajgpkmfhaa.PX

namespace Go.Proofs.Ytnjnjajgpkmfhaa.PX
open Go.RowKit Go.Proofs.YtnjnjajgpkmfhaaW.PrintWords Go.Proofs.YtnjnjajgpkmfhaaW.PrintLast Go.Proofs.YtnjnjajgpkmfhaaW.PrintMore
attribute [local go_sem] max2_int min2_int max_two min_two max_three min_three max_four min_four   -- for this text's walks alone
set_option linter.unusedVariables false
set_option linter.unusedSimpArgs false

/-! ### deadboltref10_May: function 35 -/
def deadboltref10_May.f (k : Nat) (l0 : List (S33)) (a1 : Int) : Option (Bool) := (deadboltref09_Right.f k l0).bind fun t437 => (if t437 = true then ((deadboltref08_Key.f a1).bind fun t438 => (some t438)) else (some false))
end Go.Proofs.Ytnjnjajgpkmfhaa.PX

namespace Go.Proofs.Ytnjnjajgpkmfhaa.PX
open Go.RowKit Go.Proofs.YtnjnjajgpkmfhaaW.PrintWords Go.Proofs.YtnjnjajgpkmfhaaW.PrintLast Go.Proofs.YtnjnjajgpkmfhaaW.PrintMore
attribute [local go_sem] max2_int min2_int max_two min_two max_three min_three max_four min_four   -- for this text's walks alone
set_option linter.unusedVariables false
set_option linter.unusedSimpArgs false

/-! ### deadboltlaw10_SemaOrder: function 7 -/
mutual
def deadboltlaw10_SemaOrder.j0 : Nat → List (S33) → Int → List Int → Bool → Bool → Option (Bool)
 | 0, _, _, _, _, _ => none
 | k + 1, x0, x1, x2, x3, x33 => if x33 = true then ((deadboltlaw10_alive.f k).bind fun t579 => (some t579)) else (if 0 ≤ (mn (x2.length : Int) 20) then (if (mn (x2.length : Int) 20) ≤ (x2.length : Int) then (deadboltlaw10_SemaOrder.l0 k x0 x1 x3 ([] : List Int) x0 (x2.take ((mn (x2.length : Int) 20) : Int).toNat) ((x2.take ((mn (x2.length : Int) 20) : Int).toNat).length : Int) 0) else (none)) else (none))
def deadboltlaw10_SemaOrder.l0 : Nat → List (S33) → Int → Bool → List Int → List (S33) → List Int → Int → Int → Option (Bool)
 | 0, _, _, _, _, _, _, _, _ => none
 | k + 1, x0, x1, x3, x9, x10, x40, x41, x42 => if x42 < x41 then (if 0 ≤ x42 then (if x42 < (x40.length : Int) then ((sema_Acquire.f k x10 x1 (rd x40 x42) x3).bind fun bt582 => (if bt582.2.2 = 0 then (if bt582.2.1 = true then (some false) else (if (rd x40 x42) < 0 then (some false) else (if x9.length < 17592186044416 then (deadboltlaw10_SemaOrder.l0 k x0 x1 x3 (x9 ++ [rd x40 x42]) bt582.1 x40 x41 (wrap64 (x42 + 1))) else (none)))) else (deadboltlaw10_SemaOrder.l0 k x0 x1 x3 x9 x10 x40 x41 (wrap64 (x42 + 1))))) else (none)) else (none)) else (deadboltlaw10_SemaOrder.l1 k x0 x1 x3 x9 x10 (x9.length : Int) 0)
def deadboltlaw10_SemaOrder.l1 : Nat → List (S33) → Int → Bool → List Int → List (S33) → Int → Int → Option (Bool)
 | 0, _, _, _, _, _, _, _ => none
 | k + 1, x0, x1, x3, x9, x10, x69, x70 => if x70 < x69 then ((sema_Release.f x10 x1).bind fun bt592 => (if 0 ≤ x70 then (if x70 < (x9.length : Int) then (if x3 = true then (if 0 ≤ (wrap64 ((wrap64 ((x9.length : Int) - 1)) - x70)) then (if (wrap64 ((wrap64 ((x9.length : Int) - 1)) - x70)) < (x9.length : Int) then (if bt592.2.2 = 0 then (if bt592.2.1 = (rd x9 (wrap64 ((wrap64 ((x9.length : Int) - 1)) - x70))) then (deadboltlaw10_SemaOrder.l1 k x0 x1 x3 x9 bt592.1 x69 (wrap64 (x70 + 1))) else (some false)) else (some false)) else (none)) else (none)) else (if bt592.2.2 = 0 then (if bt592.2.1 = (rd x9 x70) then (deadboltlaw10_SemaOrder.l1 k x0 x1 x3 x9 bt592.1 x69 (wrap64 (x70 + 1))) else (some false)) else (some false))) else (none)) else (none))) else ((deadboltlaw10_alive.f k).bind fun t590 => (if t590 = true then ((deadboltref09_Same.f k x10 x0).bind fun t591 => (some t591)) else (some false)))
end
def deadboltlaw10_SemaOrder.f (k : Nat) (l0 : List (S33)) (a1 : Int) (l2 : List Int) (a3 : Bool) : Option (Bool) := (deadboltlaw10_few.f k l0).bind fun t569 => ((deadboltref10_May.f k t569 a1).bind fun t572 => (if t572 = true then ((deadboltref09_Get.f k t569 a1).bind fun bt573 => ((deadboltref09_Empty.f bt573.1 bt573.2.1 bt573.2.2).bind fun t578 => (deadboltlaw10_SemaOrder.j0 k t569 a1 l2 a3 (!t578)))) else (deadboltlaw10_SemaOrder.j0 k t569 a1 l2 a3 true)))
end Go.Proofs.Ytnjnjajgpkmfhaa.PX

/-
 The law SemaOrder, told of its printed form.
-/
namespace Go.Proofs.Ytnjnjajgpkmfhaa.PX
open Go.RowKit Go.Proofs.YtnjnjajgpkmfhaaW.PrintWords Go.Proofs.YtnjnjajgpkmfhaaW.PrintLast Go.Proofs.YtnjnjajgpkmfhaaW.PrintMore
section
variable {t : List Sp} {a : Int}
/-- A line at the address, in the table. -/
structure AtL (t : List Sp) (a : Int) (ln : List Int) : Prop where
 line : lineB ln = true
 room : (setT t ⟨a, 0, ln⟩).length ≤ 64
theorem AtL.spot (ha : 0 ≤ a ∧ a ≤ 4294967295) {ln : List Int} (h : AtL t a ln) : SpotP ⟨a, 0, ln⟩ := ⟨ha, by simp, h.line, .inl rfl⟩
theorem AtL.tab (hT : Tab t) (ha : 0 ≤ a ∧ a ≤ 4294967295) {ln : List Int} (h : AtL t a ln) : Tab (setT t ⟨a, 0, ln⟩) := tab_set hT (h.spot ha) h.room
theorem AtL.get (hT : Tab t) (ha : 0 ≤ a ∧ a ≤ 4294967295) {ln : List Int} (h : AtL t a ln) : getT (setT t ⟨a, 0, ln⟩) a = ⟨a, 0, ln⟩ := by
 rw [getT_set hT (h.spot ha), if_pos rfl]
/-- Who waits, when they came in this order. -/
def lnOf (b : Bool) (come : List Int) : List Int := if b = true then come.reverse else come
end
end Go.Proofs.Ytnjnjajgpkmfhaa.PX

/-
 The contract of sema.Queued: in how many lines somebody waits.
-/
namespace Go.Proofs.Ytnjnjajgpkmfhaa.PX
open Go.RowKit Go.Proofs.YtnjnjajgpkmfhaaW.PrintWords Go.Proofs.YtnjnjajgpkmfhaaW.PrintLast Go.Proofs.YtnjnjajgpkmfhaaW.PrintMore
/-- What is behind one spot that is looked at. -/
def SeeP (n₀ Bw Bn : Nat) (who n : Int) (w : World) (e : Ending) (w' : World) : Prop := (∃ v, e = .returned v) ∧ Blk w' Bw 3 #[.int .i64 who] ∧ Blk w' Bn 3 #[.int .i64 n] ∧ Below n₀ w w'
/-- In how many lines somebody waits. -/
def cntI (who : Int) (l : List S33) : Int := ((l.filter (fun s => decide (who ∈ s.f2))).length : Int)
def sema_Queued.f (l0 : List S33) (a1 : Int) : Option (Int × Int) := if l0.length ≤ 1000 ∧ (∀ s ∈ l0, s.f2.length ≤ 1000) then (root_Right.f 2000 l0).bind fun r => if r = false ∨ a1 < 0 then some (0, 1) else some (cntI a1 l0, 0) else none
def QuP (r1 r2 : Int) (w : World) (e : Ending) (w' : World) : Prop := e = .returned (.tuple #[.int .i64 r1, .int .i64 r2]) ∧ Below w.heap.size w w'
end Go.Proofs.Ytnjnjajgpkmfhaa.PX

namespace Go.Proofs.Ytnjnjajgpkmfhaa.PX
open Go.RowKit Go.Proofs.YtnjnjajgpkmfhaaW.PrintWords Go.Proofs.YtnjnjajgpkmfhaaW.PrintLast Go.Proofs.YtnjnjajgpkmfhaaW.PrintMore
attribute [local go_sem] max2_int min2_int max_two min_two max_three min_three max_four min_four   -- for this text's walks alone
set_option linter.unusedVariables false
set_option linter.unusedSimpArgs false

/-! ### deadboltref10_set: function 60 -/
def deadboltref10_set.f (k : Nat) (l0 : List (S33)) (a1_0 : Int) (a1_1 : Int) (l1_2 : List Int) : Option ((List (S33)) × Int) := (deadboltref09_Set.f k l0 a1_0 a1_1 l1_2).bind fun t443 => (if (t443.length : Int) > 64 then (some (([] : List (S33)), 5)) else (some (t443, 0)))
end Go.Proofs.Ytnjnjajgpkmfhaa.PX

namespace Go.Proofs.Ytnjnjajgpkmfhaa.PX
open Go.RowKit Go.Proofs.YtnjnjajgpkmfhaaW.PrintWords Go.Proofs.YtnjnjajgpkmfhaaW.PrintLast Go.Proofs.YtnjnjajgpkmfhaaW.PrintMore
attribute [local go_sem] max2_int min2_int max_two min_two max_three min_three max_four min_four   -- for this text's walks alone
set_option linter.unusedVariables false
set_option linter.unusedSimpArgs false

/-! ### deadboltref07_Push: function 31 -/
def deadboltref07_Push.f (l0 : List Int) (a1 : Int) (a2 : Bool) : Option (List Int) := (some (([] : List Int) : List Int)).bind fun y465 => (if a2 = true then (if y465.length < 17592186044416 then ((some (y465 ++ [a1] : List Int)).bind fun y468 => (if y468.length + l0.length < 17592186044416 then (some (y468 ++ l0)) else (none))) else (none)) else (if y465.length + l0.length < 17592186044416 then ((some (y465 ++ l0 : List Int)).bind fun y474 => (if y474.length < 17592186044416 then (some (y474 ++ [a1])) else (none))) else (none)))
set_option maxHeartbeats 8000000 in
set_option maxRecDepth 100000 in
theorem deadboltref07_Push.calls (A0 : Option Addr) (c0 : Nat) (l0 : List Int) (a1 : Int) (a2 : Bool) (r : List Int) (w : World) (hr0 : Kd.C (Kd.int .i64) w A0 l0.length l0) (hc0 : l0.length ≤ c0) (h : deadboltref07_Push.f l0 a1 a2 = some r) :
  Calls Try.prog 31 #[.slice A0 l0.length c0, .int .i64 a1, .bool a2] w fun e w' => ∃ v0_ : Value, e = .returned (v0_) ∧ Kd.R (Kd.int .i64) 3 w' w.heap.size (fun _ => True) v0_ r ∧ Below w.heap.size w w' := by
 have HR0 := Aside0.mk hr0
 have HC0 := Aside0.mk hc0
 clear hr0 hc0
 have HB := Aside0.mk (Below.refl w.heap.size w)
 have H : ((some (([] : List Int) : List Int)).bind fun y465 => (if a2 = true then (if y465.length < 17592186044416 then ((some (y465 ++ [a1] : List Int)).bind fun y468 => (if y468.length + l0.length < 17592186044416 then (some (y468 ++ l0)) else (none))) else (none)) else (if y465.length + l0.length < 17592186044416 then ((some (y465 ++ l0 : List Int)).bind fun y474 => (if y474.length < 17592186044416 then (some (y474 ++ [a1])) else (none))) else (none)))) = some r := h
 clear h
 obtain ⟨y465, hy465⟩ : ∃ y_ : List Int, y_ = (([] : List Int)) := ⟨_, rfl⟩
 replace H : (if a2 = true then (if y465.length < 17592186044416 then ((some (y465 ++ [a1] : List Int)).bind fun y468 => (if y468.length + l0.length < 17592186044416 then (some (y468 ++ l0)) else (none))) else (none)) else (if y465.length + l0.length < 17592186044416 then ((some (y465 ++ l0 : List Int)).bind fun y474 => (if y474.length < 17592186044416 then (some (y474 ++ [a1])) else (none))) else (none))) = some r := by first | (rw [hy465]; with_reducible exact H) | (have H2_ := (Option.bind_some _ _).symm.trans H; rw [hy465]; with_reducible exact H2_) | (have H2_ := (Option.bind_some _ _).symm.trans H; with_reducible exact H2_) | with_reducible exact H | (rw [hy465]; exact H) | exact H
 have Ny465 := Aside0.mk hy465
 clear hy465
 by_cases c4 : a2 = true
 ·subst c4
  have H1 : (if y465.length < 17592186044416 then ((some (y465 ++ [a1] : List Int)).bind fun y468 => (if y468.length + l0.length < 17592186044416 then (some (y468 ++ l0)) else (none))) else (none)) = some r := by rw [if_pos rfl] at H; exact H
  clear H
  have H := H1
  clear H1
  by_cases c5 : y465.length < 17592186044416
  ·rw [if_pos c5] at H
   have LMc5 := Aside0.mk c5
   clear c5
   obtain ⟨y468, hy468⟩ : ∃ y_ : List Int, y_ = (y465 ++ [a1]) := ⟨_, rfl⟩
   replace H : (if y468.length + l0.length < 17592186044416 then (some (y468 ++ l0)) else (none)) = some r := by first | (rw [hy468]; with_reducible exact H) | (have H2_ := (Option.bind_some _ _).symm.trans H; rw [hy468]; with_reducible exact H2_) | (have H2_ := (Option.bind_some _ _).symm.trans H; with_reducible exact H2_) | with_reducible exact H | (rw [hy468]; exact H) | exact H
   have Ny468 := Aside0.mk hy468
   clear hy468
   by_cases c6 : y468.length + l0.length < 17592186044416
   ·rw [if_pos c6] at H
    have LMc6 := Aside0.mk c6
    clear c6
    obtain ⟨y471, hy471⟩ : ∃ y_ : List Int, y_ = (y468 ++ l0) := ⟨_, rfl⟩
    replace H : (some y471) = some r := by first | (rw [hy471]; with_reducible exact H) | (have H2_ := (Option.bind_some _ _).symm.trans H; rw [hy471]; with_reducible exact H2_) | (have H2_ := (Option.bind_some _ _).symm.trans H; with_reducible exact H2_) | with_reducible exact H | (rw [hy471]; exact H) | exact H
    have Ny471 := Aside0.mk hy471
    clear hy471
    obtain rfl := Option.some.inj H
    go_enter Try.func31, Try.ntmps31
    go_wp2_with (first | ((with_reducible refine gate_dst (N := 8) rfl ?_); refine Kd.R_lit (Kd.int .i64) _ 3 ?hg (N := 8) ?hd (xs := ([] : List Int)) (inner := []) (ok := fun _ => True) (okp := fun _ => True) ?hr ?hp (fun _ hk => hk) trivial (Below.refl _ _) (Nat.le_refl _) (by simp) ?_; (case hd => rfl); (case hg => rfl); (case hr => first | (go_simp; done) | (go_simp; rfl)); (case hp => exact (Reps.none _ _)); intro v466 w7 ho8 hb hg_ hnew_; clear hg_ hnew_; (first | rw [← Ny465.out] at ho8 | (simp only [Int.reduceToNat] at ho8; rw [← Ny465.out] at ho8)); have n0_ := Aside0.mk (Kd.R_lower ho8 (below_size (zB HB))); have n1_ := Aside0.mk (below_step (zB HB) hb); clear HB; have HO467 := n0_; have HB := n1_; clear n0_ n1_; clear hb ho8) | ((with_reducible refine gate_builtin (b := .append) (xs := #[.tmp 10, .tmp 12]) rfl ?_); at_builtin; refine Kd.R_append (Kd.int .i64) (w0 := w) w.heap.size rfl (.tmp 10) (.tmp 12) 25 3 (.int .i64 0) 8 rfl Try.underlying25 info3 rfl (by decide) (by omega) v466 y465 a1 [.int .i64 a1] (fun _ => True) (fun _ => False) rfl rfl ?aP (fun _ hk => hk.elim) ?aF ?aO ?aB ?aS ?aL ?_; (case aP => exact rfl); (case aB => exact (zB HB)); (case aF => exact (fun _ _ => trivial)); (case aO => exact (zR HO467)); (case aS => exact (below_size (zB HB))); (case aL => have := LMc5.out; omega); intro v469 w9 ho hb hg hat; rw [← Ny468.out] at ho; have n0_ := Aside0.mk (hb); have n1_ := Aside0.mk (ho); clear HB; clear HO467; have HB := n0_; have HO470 := n1_; clear n0_ n1_; clear ho hb hg hat) | ((with_reducible refine gate_builtin (b := .append) (xs := #[.tmp 14, .tmp 15]) rfl ?_); at_builtin; refine Kd.R_append_rows (Kd.int .i64) (w0 := w) w.heap.size rfl (.tmp 14) (.tmp 15) 25 3 (.int .i64 0) 8 rfl Try.underlying25 info3 rfl (by decide) (by omega) v469 y468 l0 _ _ _ (fun _ => True) (fun _ => False) rfl rfl ?aO ?aR (fun _ _ h => h) (fun _ h => h.elim) ?aF ?aB ?aS ?aL ?_; (case aR => repeat (first | exact (Kd.C_below HR0.out HB.out) | (with_reducible refine Kd.C_alloc ?_ _) | (with_reducible refine Kd.C_drewN ?_ _) | (with_reducible refine Kd.C_drew ?_))); (case aB => exact (zB HB)); (case aF => exact (fun _ _ => trivial)); (case aO => exact (zR HO470)); (case aS => exact (below_size (zB HB))); (case aL => have := LMc6.out; omega); intro v472 w10 ho hb hg hat; rw [← Ny471.out] at ho; have n0_ := Aside0.mk (hb); have n1_ := Aside0.mk (ho); clear HB; clear HO470; have HB := n0_; have HO473 := n1_; clear n0_ n1_; clear ho hb hg hat))
    go_ret
    exact ⟨_, by first | rfl | (simp [errW_none, errW_some] <;> rfl) | (simp [*, errW_none, errW_some] <;> rfl), by (with_reducible repeat (first | apply Kd.R_alloc | apply Kd.R_drewN | apply Kd.R_drew)); exact HO473.out, zB HB⟩
   ·rw [if_neg c6] at H
    exact absurd H (by simp)
  ·rw [if_neg c5] at H
   exact absurd H (by simp)
 ·replace c4 := Bool.eq_false_iff.mpr c4
  subst c4
  have H1 : (if y465.length + l0.length < 17592186044416 then ((some (y465 ++ l0 : List Int)).bind fun y474 => (if y474.length < 17592186044416 then (some (y474 ++ [a1])) else (none))) else (none)) = some r := by rw [if_neg (show ¬ (false = true) by decide)] at H; exact H
  clear H
  have H := H1
  clear H1
  by_cases c11 : y465.length + l0.length < 17592186044416
  ·rw [if_pos c11] at H
   have LMc11 := Aside0.mk c11
   clear c11
   obtain ⟨y474, hy474⟩ : ∃ y_ : List Int, y_ = (y465 ++ l0) := ⟨_, rfl⟩
   replace H : (if y474.length < 17592186044416 then (some (y474 ++ [a1])) else (none)) = some r := by first | (rw [hy474]; with_reducible exact H) | (have H2_ := (Option.bind_some _ _).symm.trans H; rw [hy474]; with_reducible exact H2_) | (have H2_ := (Option.bind_some _ _).symm.trans H; with_reducible exact H2_) | with_reducible exact H | (rw [hy474]; exact H) | exact H
   have Ny474 := Aside0.mk hy474
   clear hy474
   by_cases c12 : y474.length < 17592186044416
   ·rw [if_pos c12] at H
    have LMc12 := Aside0.mk c12
    clear c12
    obtain ⟨y477, hy477⟩ : ∃ y_ : List Int, y_ = (y474 ++ [a1]) := ⟨_, rfl⟩
    replace H : (some y477) = some r := by first | (rw [hy477]; with_reducible exact H) | (have H2_ := (Option.bind_some _ _).symm.trans H; rw [hy477]; with_reducible exact H2_) | (have H2_ := (Option.bind_some _ _).symm.trans H; with_reducible exact H2_) | with_reducible exact H | (rw [hy477]; exact H) | exact H
    have Ny477 := Aside0.mk hy477
    clear hy477
    obtain rfl := Option.some.inj H
    go_enter Try.func31, Try.ntmps31
    go_wp2_with (first | ((with_reducible refine gate_dst (N := 8) rfl ?_); refine Kd.R_lit (Kd.int .i64) _ 3 ?hg (N := 8) ?hd (xs := ([] : List Int)) (inner := []) (ok := fun _ => True) (okp := fun _ => True) ?hr ?hp (fun _ hk => hk) trivial (Below.refl _ _) (Nat.le_refl _) (by simp) ?_; (case hd => rfl); (case hg => rfl); (case hr => first | (go_simp; done) | (go_simp; rfl)); (case hp => exact (Reps.none _ _)); intro v466 w13 ho14 hb hg_ hnew_; clear hg_ hnew_; (first | rw [← Ny465.out] at ho14 | (simp only [Int.reduceToNat] at ho14; rw [← Ny465.out] at ho14)); have n0_ := Aside0.mk (Kd.R_lower ho14 (below_size (zB HB))); have n1_ := Aside0.mk (below_step (zB HB) hb); clear HB; have HO467 := n0_; have HB := n1_; clear n0_ n1_; clear hb ho14) | ((with_reducible refine gate_builtin (b := .append) (xs := #[.tmp 14, .tmp 15]) rfl ?_); at_builtin; refine Kd.R_append_rows (Kd.int .i64) (w0 := w) w.heap.size rfl (.tmp 14) (.tmp 15) 25 3 (.int .i64 0) 8 rfl Try.underlying25 info3 rfl (by decide) (by omega) v466 y465 l0 _ _ _ (fun _ => True) (fun _ => False) rfl rfl ?aO ?aR (fun _ _ h => h) (fun _ h => h.elim) ?aF ?aB ?aS ?aL ?_; (case aR => repeat (first | exact (Kd.C_below HR0.out HB.out) | (with_reducible refine Kd.C_alloc ?_ _) | (with_reducible refine Kd.C_drewN ?_ _) | (with_reducible refine Kd.C_drew ?_))); (case aB => exact (zB HB)); (case aF => exact (fun _ _ => trivial)); (case aO => exact (zR HO467)); (case aS => exact (below_size (zB HB))); (case aL => have := LMc11.out; omega); intro v475 w15 ho hb hg hat; rw [← Ny474.out] at ho; have n0_ := Aside0.mk (hb); have n1_ := Aside0.mk (ho); clear HB; clear HO467; have HB := n0_; have HO476 := n1_; clear n0_ n1_; clear ho hb hg hat) | ((with_reducible refine gate_builtin (b := .append) (xs := #[.tmp 19, .tmp 21]) rfl ?_); at_builtin; refine Kd.R_append (Kd.int .i64) (w0 := w) w.heap.size rfl (.tmp 19) (.tmp 21) 25 3 (.int .i64 0) 8 rfl Try.underlying25 info3 rfl (by decide) (by omega) v475 y474 a1 [.int .i64 a1] (fun _ => True) (fun _ => False) rfl rfl ?aP (fun _ hk => hk.elim) ?aF ?aO ?aB ?aS ?aL ?_; (case aP => exact rfl); (case aB => exact (zB HB)); (case aF => exact (fun _ _ => trivial)); (case aO => exact (zR HO476)); (case aS => exact (below_size (zB HB))); (case aL => have := LMc12.out; omega); intro v478 w16 ho hb hg hat; rw [← Ny477.out] at ho; have n0_ := Aside0.mk (hb); have n1_ := Aside0.mk (ho); clear HB; clear HO476; have HB := n0_; have HO479 := n1_; clear n0_ n1_; clear ho hb hg hat))
    go_ret
    exact ⟨_, by first | rfl | (simp [errW_none, errW_some] <;> rfl) | (simp [*, errW_none, errW_some] <;> rfl), by (with_reducible repeat (first | apply Kd.R_alloc | apply Kd.R_drewN | apply Kd.R_drew)); exact HO479.out, zB HB⟩
   ·rw [if_neg c12] at H
    exact absurd H (by simp)
  ·rw [if_neg c11] at H
   exact absurd H (by simp)

end Go.Proofs.Ytnjnjajgpkmfhaa.PX

namespace Go.Proofs.Ytnjnjajgpkmfhaa.PX
open Go.RowKit Go.Proofs.YtnjnjajgpkmfhaaW.PrintWords Go.Proofs.YtnjnjajgpkmfhaaW.PrintLast Go.Proofs.YtnjnjajgpkmfhaaW.PrintMore
attribute [local go_sem] max2_int min2_int max_two min_two max_three min_three max_four min_four   -- for this text's walks alone
set_option linter.unusedVariables false
set_option linter.unusedSimpArgs false

/-! ### deadboltref10_Acquire: function 39 -/
def deadboltref10_Acquire.f (k : Nat) (l0 : List (S33)) (a1 : Int) (a2 : Int) (a3 : Bool) : Option ((List (S33)) × Bool × Int) := (deadboltref09_Get.f k l0 a1).bind fun bt480 => ((deadboltref07_Place.f k bt480.2.2 a2).bind fun t486 => (if t486 ≥ 0 then (some (([] : List (S33)), false, 7)) else (if bt480.2.1 > 0 then ((deadboltref10_set.f k l0 bt480.1 (wrap64 (bt480.2.1 - 1)) bt480.2.2).bind fun bt487 => (some (bt487.1, true, bt487.2))) else (if (bt480.2.2.length : Int) = 64 then (some (([] : List (S33)), false, 5)) else ((deadboltref07_Push.f bt480.2.2 a2 a3).bind fun t491 => ((deadboltref10_set.f k l0 bt480.1 bt480.2.1 t491).bind fun bt494 => (some (bt494.1, false, bt494.2))))))))
end Go.Proofs.Ytnjnjajgpkmfhaa.PX

namespace Go.Proofs.Ytnjnjajgpkmfhaa.PX
open Go.RowKit Go.Proofs.YtnjnjajgpkmfhaaW.PrintWords Go.Proofs.YtnjnjajgpkmfhaaW.PrintLast Go.Proofs.YtnjnjajgpkmfhaaW.PrintMore
attribute [local go_sem] max2_int min2_int max_two min_two max_three min_three max_four min_four   -- for this text's walks alone
set_option linter.unusedVariables false
set_option linter.unusedSimpArgs false

/-! ### deadboltref10_Release: function 38 -/
def deadboltref10_Release.f (k : Nat) (l0 : List (S33)) (a1 : Int) : Option ((List (S33)) × Int × Int) := (deadboltref09_Get.f k l0 a1).bind fun bt446 => (if (bt446.2.2.length : Int) > 0 then (if 0 < (bt446.2.2.length : Int) then (if 1 ≤ (bt446.2.2.length : Int) then ((deadboltref09_Set.f k l0 bt446.1 bt446.2.1 (bt446.2.2.drop 1)).bind fun t458 => (some (t458, rd bt446.2.2 0, 0))) else (none)) else (none)) else (if bt446.2.1 = 2147483647 then (some (([] : List (S33)), 0, 10)) else ((deadboltref10_set.f k l0 bt446.1 (wrap64 (bt446.2.1 + 1)) bt446.2.2).bind fun bt461 => (if bt461.2 = 0 then (some (bt461.1, (-1), 0)) else (some (([] : List (S33)), 0, bt461.2))))))
end Go.Proofs.Ytnjnjajgpkmfhaa.PX

namespace Go.Proofs.Ytnjnjajgpkmfhaa.PX
open Go.RowKit Go.Proofs.YtnjnjajgpkmfhaaW.PrintWords Go.Proofs.YtnjnjajgpkmfhaaW.PrintLast Go.Proofs.YtnjnjajgpkmfhaaW.PrintMore
attribute [local go_sem] max2_int min2_int max_two min_two max_three min_three max_four min_four   -- for this text's walks alone
set_option linter.unusedVariables false
set_option linter.unusedSimpArgs false

/-! ### deadboltref10_Queued: function 37 -/
def deadboltref10_Queued.l0 : Nat → Int → Int → List (S33) → Int → Int → Option (Int)
 | 0, _, _, _, _, _ => none
 | k + 1, x1, x5, x8, x9, x10 => if x10 < x9 then (if 0 ≤ x10 then (if x10 < (x8.length : Int) then ((deadboltref07_Place.f k ((rd_T33 x8 x10).f2) x1).bind fun t441 => (if t441 ≥ 0 then (deadboltref10_Queued.l0 k x1 (wrap64 (x5 + 1)) x8 x9 (wrap64 (x10 + 1))) else (deadboltref10_Queued.l0 k x1 x5 x8 x9 (wrap64 (x10 + 1))))) else (none)) else (none)) else (some x5)
def deadboltref10_Queued.f (k : Nat) (l0 : List (S33)) (a1 : Int) : Option (Int) := deadboltref10_Queued.l0 k a1 0 l0 (l0.length : Int) 0
end Go.Proofs.Ytnjnjajgpkmfhaa.PX

/-
 The document's answers on grants; in how many lines somebody waits.
-/
namespace Go.Proofs.Ytnjnjajgpkmfhaa.PX
open Go.RowKit Go.Proofs.YtnjnjajgpkmfhaaW.PrintWords Go.Proofs.YtnjnjajgpkmfhaaW.PrintLast Go.Proofs.YtnjnjajgpkmfhaaW.PrintMore
theorem refpush_f (l : List Int) (x : Int) (b : Bool) (hl : l.length ≤ 1000) : deadboltref07_Push.f l x b = some (pushL l x b) := by
 unfold deadboltref07_Push.f pushL
 simp only [Option.bind_some]
 cases b with
 | true =>
  rw [if_pos rfl, if_pos (by simp), if_pos (by simp; omega), if_pos rfl]
  rfl
 | false =>
  rw [if_neg Bool.false_ne_true, if_pos (by simp; omega), if_pos (by simp; omega), if_neg Bool.false_ne_true]
  rfl
/-- A table that is small enough to be compared. -/
def Small (l : List Sp) : Prop := l.length ≤ 1000 ∧ ∀ s ∈ l, s.f2.length ≤ 1000
end Go.Proofs.Ytnjnjajgpkmfhaa.PX

/-
  Three addresses of an empty table, whatever is asked for and granted: what the table tells.
-/
namespace Go.Proofs.Ytnjnjajgpkmfhaa.PX
open Go.RowKit Go.Proofs.YtnjnjajgpkmfhaaW.PrintWords Go.Proofs.YtnjnjajgpkmfhaaW.PrintLast Go.Proofs.YtnjnjajgpkmfhaaW.PrintMore
theorem pigeon : ∀ (n : Nat) (l : List Int), l.Nodup → (∀ x ∈ l, 0 ≤ x ∧ x < n) → l.length ≤ n
  | 0, [], _, _ => Nat.le_refl _
  | 0, x :: l, _, h => by have := h x (by simp); omega
  | n + 1, l, hd, h => by
    have hq : (l.erase (n : Int)).length ≤ n := pigeon n _ (hd.erase _) fun x hx => by
      have h1 := (hd.mem_erase_iff).1 hx
      have h2 := h x h1.2
      have h3 := h1.1
      omega
    by_cases hm : (n : Int) ∈ l
    · rw [List.length_erase_of_mem hm] at hq
      omega
    · rw [List.erase_of_not_mem hm] at hq
      omega
theorem len_off (a : Int) : ∀ {l : List Sp}, UpL l → l.length ≤ (offS l a).length + 1
  | [], _ => by simp
  | x :: l, h => by
    obtain ⟨h1, h2⟩ := List.pairwise_cons.1 h
    have ih := len_off a h2
    rw [offS_cons]
    by_cases he : x.f0 = a
    · have ho : offS l a = l := List.filter_eq_self.2 fun y hy => by
        have := h1 y hy
        have hne : y.f0 ≠ a := fun e => by rw [he, e] at this; exact less_irrefl _ this
        simpa using hne
      rw [if_pos he, ho, List.length_cons]
      exact Nat.le_refl _
    · rw [if_neg he, List.length_cons, List.length_cons]
      omega
def At3 (T : List Sp) : Prop := ∀ x ∈ T, ∃ k : Nat, k < 3 ∧ x.f0 = 2008 * (k : Int)
theorem len3 {T : List Sp} (h : UpL T) (hk : At3 T) : T.length ≤ 3 := by
  have u1 : UpL (offS T 0) := h.sublist List.filter_sublist
  have u2 : UpL (offS (offS T 0) 2008) := u1.sublist List.filter_sublist
  have a1 := len_off 0 h
  have a2 := len_off 2008 u1
  have a3 := len_off 4016 u2
  have hn : offS (offS (offS T 0) 2008) 4016 = [] := by
    refine List.eq_nil_iff_forall_not_mem.2 fun x hx => ?_
    obtain ⟨h1, e3⟩ := mem_offS.1 hx
    obtain ⟨h2, e2⟩ := mem_offS.1 h1
    obtain ⟨h3, e1⟩ := mem_offS.1 h2
    obtain ⟨k, hk3, e⟩ := hk x h3
    rcases k with _ | _ | _ | k <;> omega
  rw [hn] at a3
  simp only [List.length_nil] at a3
  omega
def upd {α : Type} (f : Nat → α) (k : Nat) (v : α) : Nat → α := fun j => if j = k then v else f j
theorem upd_same {α : Type} (f : Nat → α) (k : Nat) (v : α) : upd f k v k = v := by simp [upd]
theorem upd_other {α : Type} (f : Nat → α) {k j : Nat} (v : α) (h : j ≠ k) : upd f k v j = f j := by simp [upd, h]
/-- What the table tells behind i askings and grants. -/
structure GInv (i : Nat) (T : List Sp) (ln : Nat → List Int) (lf : Nat → Int) : Prop where
  tab : Tab T
  keys : At3 T
  get : ∀ k : Nat, k < 3 → getT T (2008 * (k : Int)) = ⟨2008 * (k : Int), lf k, ln k⟩
  small : ∀ k : Nat, k < 3 → ∀ y ∈ ln k, 0 ≤ y ∧ y < 20
  low : ∀ k : Nat, k < 3 → lf k ≤ i
theorem addr3 {k : Nat} (hk : k < 3) : (0 : Int) ≤ 2008 * (k : Int) ∧ 2008 * (k : Int) ≤ 4294967295 := by omega
theorem ginv0 : GInv 0 [] (fun _ => []) (fun _ => 0) := ⟨⟨by simp, by simp, by simp⟩, by simp [At3], fun k _ => rfl, by simp, by simp⟩
section
variable {i : Nat} {T : List Sp} {ln : Nat → List Int} {lf : Nat → Int} {k : Nat}
theorem GInv.more (h : GInv i T ln lf) : GInv (i + 1) T ln lf := ⟨h.tab, h.keys, h.get, h.small, fun k hk => by have := h.low k hk; omega⟩
theorem GInv.spot (h : GInv i T ln lf) (hk : k < 3) : SpotP ⟨2008 * (k : Int), lf k, ln k⟩ := by
  have := (get_spot h.tab (addr3 hk)).1
  rw [h.get k hk] at this
  exact this
theorem GInv.len (h : GInv i T ln lf) (hk : k < 3) : (ln k).length ≤ 20 :=
  pigeon 20 _ ((lineB_iff _).1 (h.spot hk).2.2.1).1 fun x hx => by have := h.small k hk x hx; omega
theorem GInv.set (h : GInv i T ln lf) (hk : k < 3) {c : Int} {m : List Int} (hs : SpotP ⟨2008 * (k : Int), c, m⟩) (hc : c ≤ i + 1) (hm : ∀ y ∈ m, 0 ≤ y ∧ y < 20) :
    (setT T ⟨2008 * (k : Int), c, m⟩).length ≤ 64 ∧ GInv (i + 1) (setT T ⟨2008 * (k : Int), c, m⟩) (upd ln k m) (upd lf k c) := by
  have hkeys : At3 (setT T ⟨2008 * (k : Int), c, m⟩) := fun x hx => by
    rcases mem_setT.1 hx with ⟨rfl, _⟩ | ⟨h1, _⟩
    · exact ⟨k, hk, rfl⟩
    · exact h.keys x h1
  have h3 := len3 (up_setT h.tab hs) hkeys
  refine ⟨by omega, tab_set h.tab hs (by omega), hkeys, fun j hj => ?_, fun j hj y hy => ?_, fun j hj => ?_⟩
  · rw [getT_set h.tab hs]
    by_cases e : j = k
    · subst e
      rw [if_pos rfl, upd_same, upd_same]
    · rw [if_neg (show ¬ 2008 * (j : Int) = 2008 * (k : Int) by omega), h.get j hj, upd_other _ _ e, upd_other _ _ e]
  · by_cases e : j = k
    · subst e
      rw [upd_same] at hy
      exact hm y hy
    · rw [upd_other _ _ e] at hy
      exact h.small j hj y hy
  · by_cases e : j = k
    · subst e
      rw [upd_same]
      omega
    · rw [upd_other _ _ e]
      have := h.low j hj
      omega
/-- What asking tells. -/
theorem GInv.acq (h : GInv i T ln lf) (hk : k < 3) {who : Int} (hw : 0 ≤ who ∧ who < 20) (first : Bool) {f : Nat} (hf : 300 ≤ f) :
    (who ∈ ln k ∧ sema_Acquire.f f T (2008 * (k : Int)) who first = some ([], false, 7)) ∨
    (who ∉ ln k ∧ 0 < lf k ∧ ∃ T', sema_Acquire.f f T (2008 * (k : Int)) who first = some (T', true, 0) ∧ GInv (i + 1) T' ln (upd lf k (lf k - 1))) ∨
    (who ∉ ln k ∧ ¬ 0 < lf k ∧ ∃ T', sema_Acquire.f f T (2008 * (k : Int)) who first = some (T', false, 0) ∧ GInv (i + 1) T' (upd ln k (pushL (ln k) who first)) lf) := by
  have ha := addr3 hk
  have hsp := h.spot hk
  have hl := h.len hk
  have hlow := h.low k hk
  rw [acq_f h.tab ha hw.1 first hf, acqT, h.get k hk]
  simp only
  by_cases hm : who ∈ ln k
  · exact .inl ⟨hm, by rw [if_pos hm]⟩
  · refine .inr ?_
    rw [if_neg hm]
    by_cases h1 : lf k > 0
    · refine .inl ⟨hm, h1, ?_⟩
      obtain ⟨n1, n2⟩ := h.set hk (c := lf k - 1) (m := ln k) (less_spot hsp h1) (show lf k - 1 ≤ i + 1 by omega) (h.small k hk)
      refine ⟨_, by rw [if_pos h1, setR, if_neg (by omega)], ?_⟩
      have e : upd ln k (ln k) = ln := by funext j; by_cases e : j = k; · rw [e, upd_same]
                                          · rw [upd_other _ _ e]
      rw [e] at n2
      exact n2
    · refine .inr ⟨hm, h1, ?_⟩
      have h0 : lf k = 0 := by have := hsp.2.1.1; simp only at this; omega
      have hps : ∀ y ∈ pushL (ln k) who first, 0 ≤ y ∧ y < 20 := fun y hy => by
        unfold pushL at hy
        split at hy
        · rcases List.mem_cons.1 hy with rfl | h2
          · exact hw
          · exact h.small k hk y h2
        · rcases List.mem_append.1 hy with h2 | h2
          · exact h.small k hk y h2
          · simp at h2; omega
      obtain ⟨n1, n2⟩ := h.set hk (c := 0) (m := pushL (ln k) who first) (push_spot (b := first) hsp hw.1 hm (by show (ln k).length ≠ 64; omega)) (show (0 : Int) ≤ i + 1 by omega) hps
      refine ⟨_, by rw [if_neg h1, if_neg (by omega), setR, if_neg (by omega)], ?_⟩
      have e : upd lf k 0 = lf := by funext j; by_cases e : j = k; · rw [e, upd_same, h0]
                                     · rw [upd_other _ _ e]
      rw [e] at n2
      exact n2
/-- What a grant tells. -/
theorem GInv.rel (h : GInv i T ln lf) (hi : i ≤ 1000) (hk : k < 3) :
    (ln k = [] ∧ ∃ T', sema_Release.f T (2008 * (k : Int)) = some (T', -1, 0) ∧ GInv (i + 1) T' ln (upd lf k (lf k + 1))) ∨
    (∃ x r T', ln k = x :: r ∧ 0 ≤ x ∧ sema_Release.f T (2008 * (k : Int)) = some (T', x, 0) ∧ GInv (i + 1) T' (upd ln k r) lf) := by
  have ha := addr3 hk
  have hsp := h.spot hk
  have hlow := h.low k hk
  rw [rel_f h.tab ha, relT, h.get k hk]
  simp only
  cases hl : ln k with
  | nil =>
    refine .inl ⟨rfl, ?_⟩
    have hmo := more_spot hsp hl (by show lf k ≠ 2147483647; omega)
    obtain ⟨n1, n2⟩ := h.set hk (c := lf k + 1) (m := []) hmo (show lf k + 1 ≤ i + 1 by omega) (by simp)
    refine ⟨_, by simp only; rw [if_neg (by omega), if_neg (by omega)], ?_⟩
    have e : upd ln k [] = ln := by funext j; by_cases e : j = k; · rw [e, upd_same, hl]
                                    · rw [upd_other _ _ e]
    rw [e] at n2
    exact n2
  | cons x r =>
    have hx := h.small k hk x (by rw [hl]; simp)
    obtain ⟨n1, n2⟩ := h.set hk (c := lf k) (m := r) (pop_spot hsp hl) (show lf k ≤ i + 1 by omega) (fun y hy => h.small k hk y (by rw [hl]; exact List.mem_cons_of_mem _ hy))
    refine .inr ⟨x, r, _, rfl, hx.1, rfl, ?_⟩
    have e : upd lf k (lf k) = lf := by funext j; by_cases e : j = k; · rw [e, upd_same]
                                        · rw [upd_other _ _ e]
    rw [e] at n2
    exact n2
end
end Go.Proofs.Ytnjnjajgpkmfhaa.PX

/-
 SemaGrants: the walk.
-/
namespace Go.Proofs.Ytnjnjajgpkmfhaa.PX
open Go.RowKit Go.Proofs.YtnjnjajgpkmfhaaW.PrintWords Go.Proofs.YtnjnjajgpkmfhaaW.PrintLast Go.Proofs.YtnjnjajgpkmfhaaW.PrintMore
theorem min2_mn (k k' : IntKind) (x y : Int) : Builtin.min2 (.int k x) (.int k' y) = pure (.int k (mn x y)) := by simp only [Builtin.min2]; rfl
attribute [local go_sem] min2_mn min_two
def gcells (p : Int × Int × Int) : List Value := [.int .i64 p.1, .int .i64 p.2.1, .int .i64 p.2.2]
theorem gcells3 (p : Int × Int × Int) : (gcells p).length = 3 := rfl
theorem trip_at {w : World} {B n k : Nat} {A : Option Addr} {ps : List (Int × Int × Int)} (h : Reads w B 3 A n (ps.flatMap gcells)) (hk : k < n) : ∃ (ad : Addr) (a b c : Int), A = some ad ∧ ad.block < B ∧ w.cell? (ad.add (k * 3)) = some (.int .i64 a) ∧
  w.cell? ⟨(ad.add (k * 3)).block, (ad.add (k * 3)).off + 1, none⟩ = some (.int .i64 b) ∧ w.cell? ⟨(ad.add (k * 3)).block, (ad.add (k * 3)).off + 2, none⟩ = some (.int .i64 c) := by
 obtain ⟨ad, hA, hb, hc⟩ := h.2 (by omega)
 have hl : k < ps.length := by have := h.1; rw [flat_len gcells 3 gcells3] at this; omega
 have hx : ps[k]? = some ps[k] := List.getElem?_eq_getElem hl
 have hf : ∀ j, j < 3 → (ps.flatMap gcells)[k * 3 + j]? = (gcells ps[k])[j]? := fun j hj => flat_at gcells 3 gcells3 ps k j _ hx hj
 refine ⟨ad, ps[k].1, ps[k].2.1, ps[k].2.2, hA, hb, hc _ _ (by rw [← Nat.add_zero (k * 3), hf 0 (by omega)]; rfl), ?_, ?_⟩
 ·rw [← add_field _ _ 1 (by omega)]; exact hc _ _ (by rw [hf 1 (by omega)]; rfl)
 ·rw [← add_field _ _ 2 (by omega)]; exact hc _ _ (by rw [hf 2 (by omega)]; rfl)
def GOk (w : World) (b : Nat) : Prop := b ≠ w.heap.size ∧ b ≠ w.heap.size + 1
/-- The memory ahead of each round. -/
structure GMem (w : World) (v : Value) (wr : World) (T : List S33) (ln : Nat → List Int) (lf : Nat → Int) (sl : Nat → Value) : Prop where
 bl : Blk wr w.heap.size 52 #[sl 0, sl 1, sl 2]
 bf : Blk wr (w.heap.size + 1) 53 #[.int .i64 (lf 0), .int .i64 (lf 1), .int .i64 (lf 2)]
 tab : Kd.V k33 33 wr 0 (GOk w) v T
 line : ∀ k, k < 3 → Kd.V (Kd.int .i64) 3 wr 0 (GOk w) (sl k) (ln k)
 below : Below w.heap.size w wr
section
variable {w wr w' : World} {k : Nat} {v : Value} {T T' : List S33} {ln : Nat → List Int} {lf : Nat → Int} {sl : Nat → Value}
theorem upd3 (f : Nat → Value) (i : Nat) (hi : i < 3) (u : Value) : #[f 0, f 1, f 2].setIfInBounds i u = #[upd f i u 0, upd f i u 1, upd f i u 2] := by
 rcases i with _ | _ | _ | i
 ·rfl
 ·rfl
 ·rfl
 ·omega
theorem updInt (f : Nat → Int) (i : Nat) (z : Int) (j : Nat) : Value.int .i64 (upd f i z j) = upd (fun j => Value.int .i64 (f j)) i (.int .i64 z) j := by
 unfold upd
 split <;> rfl
theorem GMem.step (h : GMem w v wr T ln lf sl) (hb : Below wr.heap.size wr w') : GMem w v w' T ln lf sl :=
 ⟨h.bl.below hb h.bl.lt, h.bf.below hb h.bf.lt, Kd.V_below h.tab hb, fun k hk => Kd.V_below (h.line k hk) hb, h.below.trans (hb.mono h.below.size)⟩
theorem GMem.slot (h : GMem w v wr T ln lf sl) (hk : k < 3) : wr.cell? ⟨w.heap.size, k, none⟩ = some (sl k) := by
 obtain ⟨q0, q1, q2⟩ := h.bl.at3
 rcases k with _ | _ | _ | k
 ·exact q0
 ·exact q1
 ·exact q2
 ·omega
theorem GMem.free (h : GMem w v wr T ln lf sl) (hk : k < 3) : wr.cell? ⟨w.heap.size + 1, k, none⟩ = some (.int .i64 (lf k)) := by
 obtain ⟨q0, q1, q2⟩ := h.bf.at3
 rcases k with _ | _ | _ | k
 ·exact q0
 ·exact q1
 ·exact q2
 ·omega
theorem GMem.tells (h : GMem w v wr T ln lf sl) {v' : Value} (hV : Kd.V k33 33 w' wr.heap.size (fun k_ => (GOk w k_ ∨ wr.heap.size ≤ k_)) v' T') (hb : Below wr.heap.size wr w') : GMem w v' w' T' ln lf sl := by
 have h' := h.step hb
 have h1 := h.bf.lt
 exact ⟨h'.bl, h'.bf, Kd.V_map hV fun _ hf => Kd.F_mono hf fun b hb => hb.elim id fun hb => ⟨by omega, by omega⟩, h'.line, h'.below⟩
theorem GMem.setF (h : GMem w v wr T ln lf sl) (hk : k < 3) (z : Int) : GMem w v (wr.setCell ⟨w.heap.size + 1, k, none⟩ (.int .i64 z)) T ln (upd lf k z) sl := by
 have h2 := h.bf.set_ k (.int .i64 z)
 rw [upd3 (fun j => Value.int .i64 (lf j)) k hk, ← updInt, ← updInt, ← updInt] at h2
 exact ⟨h.bl.far (by simp) _, h2, Kd.V_far h.tab (fun b hb => hb.2) _, fun j hj => Kd.V_far (h.line j hj) (fun b hb => hb.2) _, h.below.setCell (by simp) _⟩
theorem GMem.setL (h : GMem w v wr T ln lf sl) (hk : k < 3) {u : Value} {m : List Int} (hu : Kd.V (Kd.int .i64) 3 wr 0 (GOk w) u m) : GMem w v (wr.setCell ⟨w.heap.size, k, none⟩ u) T (upd ln k m) lf (upd sl k u) := by
 have h2 := h.bl.set_ k u
 rw [upd3 sl k hk] at h2
 refine ⟨h2, h.bf.far (by simp) _, Kd.V_far h.tab (fun b hb => hb.1) _, fun j hj => ?_, h.below.setCell (by simp) _⟩
 by_cases e : j = k
 ·subst e
  rw [upd_same, upd_same]
  exact Kd.V_far hu (fun b hb => hb.1) _
 ·rw [upd_other _ _ e, upd_other _ _ e]
  exact Kd.V_far (h.line j hj) (fun b hb => hb.1) _
theorem newV (h : GMem w v wr T ln lf sl) {u : Value} {m : List Int} (hu : Kd.R (Kd.int .i64) 3 w' wr.heap.size (fun _ => True) u m) : Kd.V (Kd.int .i64) 3 w' 0 (GOk w) u m := by
 have h1 := h.bf.lt
 exact Kd.R_V (Kd.R_mono (Kd.R_bound hu) fun b hb => ⟨by have := hb.2.1; omega, by have := hb.2.1; omega⟩)
theorem tailV {A : Option Addr} {c : Nat} {ok : Nat → Prop} {l r : List Int} {x : Int} (h : Kd.V (Kd.int .i64) 3 w' 0 ok (.slice A l.length c) l) (hl : l = x :: r) : Kd.V (Kd.int .i64) 3 w' 0 ok (.slice (if c = 1 then A else A.map (·.add 1)) r.length (c - 1)) r := by
 subst hl
 obtain ⟨h1, h2, h3⟩ := Kd.V_at h
 have h4 := Kd.F_cut h3 (m := 1) (by simp) h2
 have hz : (Kd.int .i64).sz = 1 := rfl
 exact Kd.V_mk (by simp at h2; omega) (by simpa [hz] using h4)
end
theorem mod_k (x : Int) : ∃ k : Nat, k < 3 ∧ (wrap64 (x.tmod 3 + 3)).tmod 3 = (k : Int) := by
 have h1 := Int.tmod_lt_of_pos x (show (0 : Int) < 3 by decide)
 have h2 : -3 < x.tmod 3 := by have := Int.tmod_lt_of_pos (-x) (show (0 : Int) < 3 by decide); rw [Int.neg_tmod] at this; omega
 rw [wrap_id (by omega) (by omega)]
 have h3 := Int.tmod_nonneg 3 (show 0 ≤ x.tmod 3 + 3 by omega)
 have h4 := Int.tmod_lt_of_pos (x.tmod 3 + 3) (show (0 : Int) < 3 by decide)
 exact ⟨((x.tmod 3 + 3).tmod 3).toNat, by omega, by omega⟩
theorem mod_who (x : Int) : ∃ who : Int, (0 ≤ who ∧ who < 20) ∧ (wrap64 (x.tmod 20 + 20)).tmod 20 = who := by
 have h1 := Int.tmod_lt_of_pos x (show (0 : Int) < 20 by decide)
 have h2 : -20 < x.tmod 20 := by have := Int.tmod_lt_of_pos (-x) (show (0 : Int) < 20 by decide); rw [Int.neg_tmod] at this; omega
 rw [wrap_id (by omega) (by omega)]
 exact ⟨_, ⟨Int.tmod_nonneg 20 (show 0 ≤ x.tmod 20 + 20 by omega), Int.tmod_lt_of_pos _ (by decide)⟩, rfl⟩
set_option maxRecDepth 100000 in
set_option maxHeartbeats 4000000 in
theorem grants_any (A : Option Addr) (n c : Nat) (ps : List (Int × Int × Int)) (w : World) (hr : Reads w w.heap.size 3 A n (ps.flatMap gcells)) (hc : n ≤ c) :
  Calls Try.prog 6 #[.slice A n c] w fun e w' => e = .returned (.bool true) ∧ Below w.heap.size w w' := by
 have HR := Lib.hid hr
 have HC := Lib.hid hc
 clear hr hc
 have HM : ∃ m : Nat, mn (n : Int) 150 = (m : Int) ∧ m ≤ n ∧ m ≤ 150 := ⟨min n 150, by unfold mn; split <;> omega, by omega, by omega⟩
 obtain ⟨m, hm, hmn, hm1⟩ := HM
 have hmc : (m : Int) ≤ c := by have := HC.out; omega
 go_enter Try.func6, Try.ntmps6
 go_wp2_with fail
 go_loopw [3, 23] (fun v i wr => ∃ (k : Nat) (T : List S33) (ln : Nat → List Int) (lf : Nat → Int) (sl : Nat → Value), k ≤ m ∧ i = .int .i64 k ∧ GInv k T ln lf ∧ GMem w v wr T ln lf sl) (fun _ i _ => m - (intOf i).toNat)
 case atStart =>
  refine ⟨0, [], fun _ => [], fun _ => 0, fun _ => .slice none 0 0, Nat.zero_le _, rfl, ginv0, ⟨(Blk.new w _ _).alloc _, ?_, Kd.V_nil _ _ _ _ _, fun _ _ => Kd.V_nil _ _ _ _ _, ((Below.refl _ _).alloc (Nat.le_refl _) _).alloc (by simp) _⟩⟩
  have := Blk.new (w.alloc (.cells #[.slice none 0 0, .slice none 0 0, .slice none 0 0] 52)) 53 #[.int .i64 0, .int .i64 0, .int .i64 0]
  simpa using this
 case round =>
  obtain ⟨i, T, ln, lf, sl, hi, rfl, hI, hG⟩ := hrel
  have HI := Lib.hid hI
  clear hI
  have HG := Lib.hid hG
  clear hG
  by_cases hlt : i < m
  ·obtain ⟨ad, x0, x1, x2, rfl, hb, q0, q1, q2⟩ := trip_at (HR.out.below HG.out.below) (show i < n by omega)
   have him : ((i : Int) < (m : Int)) = True := by simp; omega
   go_wp2_with fail
   have hG1 := HG.out.step ((Below.refl _ _).alloc (Nat.le_refl _) (.cells #[.int .i64 x0, .int .i64 x1, .int .i64 x2] 53))
   have hX := Blk.new wr 53 #[.int .i64 x0, .int .i64 x1, .int .i64 x2]
   obtain ⟨gx, hgx⟩ : ∃ gx, wr.heap.size = gx := ⟨_, rfl⟩
   obtain ⟨W, hW⟩ : ∃ W, wr.alloc (.cells #[.int .i64 x0, .int .i64 x1, .int .i64 x2] 53) = W := ⟨_, rfl⟩
   rw [hW] at hG1 hX ⊢
   rw [hgx] at hX ⊢
   have HG1 := Lib.hid hG1
   have HX := Lib.hid hX
   clear hW HG hG1 hX q0 q1 q2 hb
   obtain ⟨y0, y1, y2⟩ := HX.out.at3
   go_quiet (fail)
   obtain ⟨k, hk, ek⟩ : ∃ k : Nat, k < 3 ∧ (wrap64 (x1.tmod 3 + 3)).tmod 3 = (k : Int) := mod_k x1
   obtain ⟨who, hwho, ew⟩ : ∃ who : Int, (0 ≤ who ∧ who < 20) ∧ (wrap64 (x2.tmod 20 + 20)).tmod 20 = who := mod_who x2
   have hGd := HG1.out.step (pw_below_drewN (Below.refl _ W) nq)
   have y : (W.drewN nq).cell? ⟨gx, 0, none⟩ = some (.int .i64 x0) := y0
   rw [ek, ew]
   obtain ⟨W1, hW1⟩ : ∃ W1, W.drewN nq = W1 := ⟨_, rfl⟩
   rw [hW1] at hGd y ⊢
   clear y0 y1 y2 hW1 HG1 HX W
   have HG1 := Lib.hid hGd
   clear hGd
   have e2008 : wrap64 (2008 * (k : Int)) = 2008 * (k : Int) := wrap_id (by omega) (by omega)
   clear ek ew
   obtain ⟨A3, c3, rfl⟩ := Kd.V_slice HG1.out.tab
   have HTab := Lib.hid HG1.out.tab
   have hlf := HI.out.low k hk
   have hlf0 : 0 ≤ lf k := (HI.out.spot hk).2.1.1
   have hlen := HI.out.len hk
   by_cases hp : x0.tmod 2 = 0
   ·have dp : (x0.tmod 2 == 0) = true := by simp [hp]
    clear hp
    obtain ⟨first, hfirst⟩ : ∃ first, (x0.tmod 4 == 0) = first := ⟨_, rfl⟩
    rcases HI.out.acq hk hwho first (Nat.le_refl 300) with ⟨hin, hf⟩ | ⟨hin, hleft, T', hf, hI2⟩ | ⟨hin, hleft, T', hf, hI2⟩
    ·have HF := Lib.hid hf
     clear hf
     have HP := Lib.hid ((placeI_mem (ln k) who).2 hin)
     have HPF := Lib.hid (place_f who (show (ln k).length ≤ 1000 by omega) (show (ln k).length < 300 by omega))
     clear hin
     go_wp2_with fail
     refine (sema_Acquire.calls 300 (GOk w) _ _ T _ _ _ _ _ _ _ HTab.out HF.out).mono ?_
     rintro e w2 ⟨v, rfl, hV, hB⟩
     have HG2 := Lib.hid (HG1.out.step hB)
     clear HG1 HF HTab hV hB y
     have qk : w2.cell? ⟨w.heap.size, k, none⟩ = some (sl k) := HG2.out.slot hk
     have HVk := Lib.hid (HG2.out.line k hk)
     obtain ⟨Ak, ck, hs⟩ := Kd.V_slice HVk.out
     rw [hs] at HVk qk
     clear hs
     go_wp2_with fail
     refine (deadboltref07_Place.calls 300 _ _ (ln k) who _ _ (Kd.V_reads' HVk.out).2.2 (Kd.V_reads' HVk.out).2.1 HPF.out).mono ?_
     rintro e w3 ⟨rfl, ⟨dn, rfl⟩⟩
     have dge : decide (0 ≤ placeI (ln k) who) = true := decide_eq_true HP.out
     have HG3 := Lib.hid (HG2.out.step (pw_below_drewN (Below.refl _ _) dn))
     clear HG2 HVk qk
     go_wp2_with fail
     go_roundw
     case rel => exact ⟨i + 1, T, ln, lf, sl, by omega, by go_num, HI.out.more, HG3.out⟩
     case measure => simp [intOf]; omega
    ·have HF := Lib.hid hf
     have HI2 := Lib.hid hI2
     have HP : ¬ 0 ≤ placeI (ln k) who := fun h => hin ((placeI_mem (ln k) who).1 h)
     have dge : decide (0 ≤ placeI (ln k) who) = false := decide_eq_false HP
     have HPF := Lib.hid (place_f who (show (ln k).length ≤ 1000 by omega) (show (ln k).length < 300 by omega))
     have eleft : (0 < lf k) = True := eq_true hleft
     clear hf hI2 HP hin
     go_wp2_with fail
     refine (sema_Acquire.calls 300 (GOk w) _ _ T _ _ _ _ _ _ _ HTab.out HF.out).mono ?_
     rintro e w2 ⟨v, rfl, hV, hB⟩
     have HG2 := Lib.hid (HG1.out.tells hV hB)
     clear HG1 HF HTab hV hB y
     have qk : w2.cell? ⟨w.heap.size, k, none⟩ = some (sl k) := HG2.out.slot hk
     have HVk := Lib.hid (HG2.out.line k hk)
     obtain ⟨Ak, ck, hs⟩ := Kd.V_slice HVk.out
     rw [hs] at HVk qk
     have HS := Lib.hid hs
     clear hs
     go_wp2_with fail
     refine (deadboltref07_Place.calls 300 _ _ (ln k) who _ _ (Kd.V_reads' HVk.out).2.2 (Kd.V_reads' HVk.out).2.1 HPF.out).mono ?_
     rintro e w3 ⟨rfl, ⟨dn, rfl⟩⟩
     have HG3 := Lib.hid (HG2.out.step (pw_below_drewN (Below.refl _ _) dn))
     clear HG2 HVk qk
     obtain ⟨w3, hw3⟩ : ∃ w3, w2.drewN dn = w3 := ⟨_, rfl⟩
     rw [hw3] at HG3 ⊢
     clear hw3
     have qf : w3.cell? ⟨w.heap.size + 1, k, none⟩ = some (.int .i64 (lf k)) := HG3.out.free hk
     have qz : w3.frozen? ⟨w.heap.size + 1, k, none⟩ = false := HG3.out.bf.frozen k
     have eL : wrap64 (lf k - 1) = lf k - 1 := wrap_id (by omega) (by omega)
     go_wp2_with fail
     go_roundw
     case rel => exact ⟨i + 1, T', ln, upd lf k (lf k - 1), sl, by omega, by go_num, HI2.out, HG3.out.setF hk _⟩
     case measure => simp [intOf]; omega
    ·have HF := Lib.hid hf
     have HI2 := Lib.hid hI2
     have HP : ¬ 0 ≤ placeI (ln k) who := fun h => hin ((placeI_mem (ln k) who).1 h)
     have dge : decide (0 ≤ placeI (ln k) who) = false := decide_eq_false HP
     have HPF := Lib.hid (place_f who (show (ln k).length ≤ 1000 by omega) (show (ln k).length < 300 by omega))
     have eleft : (0 < lf k) = False := eq_false hleft
     clear hf hI2 HP hin
     go_wp2_with fail
     refine (sema_Acquire.calls 300 (GOk w) _ _ T _ _ _ _ _ _ _ HTab.out HF.out).mono ?_
     rintro e w2 ⟨v, rfl, hV, hB⟩
     have HG2 := Lib.hid (HG1.out.tells hV hB)
     clear HG1 HF HTab hV hB y
     have qk : w2.cell? ⟨w.heap.size, k, none⟩ = some (sl k) := HG2.out.slot hk
     have HVk := Lib.hid (HG2.out.line k hk)
     obtain ⟨Ak, ck, hs⟩ := Kd.V_slice HVk.out
     rw [hs] at HVk qk
     have HS := Lib.hid hs
     clear hs
     go_wp2_with fail
     refine (deadboltref07_Place.calls 300 _ _ (ln k) who _ _ (Kd.V_reads' HVk.out).2.2 (Kd.V_reads' HVk.out).2.1 HPF.out).mono ?_
     rintro e w3 ⟨rfl, ⟨dn, rfl⟩⟩
     have HG3 := Lib.hid (HG2.out.step (pw_below_drewN (Below.refl _ _) dn))
     clear HG2 HVk qk
     obtain ⟨w3, hw3⟩ : ∃ w3, w2.drewN dn = w3 := ⟨_, rfl⟩
     rw [hw3] at HG3 ⊢
     clear hw3
     have qf : w3.cell? ⟨w.heap.size + 1, k, none⟩ = some (.int .i64 (lf k)) := HG3.out.free hk
     have qz : w3.frozen? ⟨w.heap.size + 1, k, none⟩ = false := HG3.out.bf.frozen k
     have ql : w3.cell? ⟨w.heap.size, k, none⟩ = some (sl k) := HG3.out.slot hk
     have HVl := Lib.hid (HG3.out.line k hk)
     rw [HS.out] at HVl ql
     have HPU := Lib.hid (refpush_f (ln k) who first (by omega))
     go_wp2_with fail
     refine (deadboltref07_Push.calls _ _ (ln k) who first _ _ (Kd.V_reads' HVl.out).2.2 (Kd.V_reads' HVl.out).2.1 HPU.out).mono ?_
     rintro e w4 ⟨u, rfl, hR, hB⟩
     have HG4 := Lib.hid (HG3.out.step hB)
     have HR4 := Lib.hid (newV HG3.out hR)
     clear HG3 hR hB HVl ql qf qz HPU
     obtain ⟨Au, cu, rfl⟩ := Kd.V_slice HR4.out
     have qz : w4.frozen? ⟨w.heap.size, k, none⟩ = false := HG4.out.bl.frozen k
     have q4 : w4.cell? ⟨w.heap.size, k, none⟩ = some (sl k) := HG4.out.slot hk
     go_wp2_with fail
     go_roundw
     case rel => exact ⟨i + 1, T', upd ln k (pushL (ln k) who first), lf, upd sl k (.slice Au (pushL (ln k) who first).length cu), by omega, by go_num, HI2.out, HG4.out.setL hk HR4.out⟩
     case measure => simp [intOf]; omega
   ·have dp : (x0.tmod 2 == 0) = false := by simp [hp]
    clear hp
    rcases HI.out.rel (by omega) hk with ⟨hl, T', hf, hI2⟩ | ⟨x, r, T', hl, hx, hf, hI2⟩
    ·have HF := Lib.hid hf
     have HI2 := Lib.hid hI2
     clear hf hI2
     go_wp2_with fail
     refine (sema_Release.calls (GOk w) _ _ T _ _ _ _ _ HTab.out HF.out).mono ?_
     rintro e w2 ⟨v, rfl, hV, hB⟩
     have HG2 := Lib.hid (HG1.out.tells hV hB)
     clear HG1 HF HTab hV hB y
     have qk : w2.cell? ⟨w.heap.size, k, none⟩ = some (sl k) := HG2.out.slot hk
     have HVk := Lib.hid (HG2.out.line k hk)
     obtain ⟨Ak, ck, hs⟩ := Kd.V_slice HVk.out
     rw [hs] at HVk qk
     have HS := Lib.hid hs
     clear hs
     rw [hl] at qk
     simp only [List.length_nil] at qk
     have qf : w2.cell? ⟨w.heap.size + 1, k, none⟩ = some (.int .i64 (lf k)) := HG2.out.free hk
     have qz : w2.frozen? ⟨w.heap.size + 1, k, none⟩ = false := HG2.out.bf.frozen k
     have eL : wrap64 (lf k + 1) = lf k + 1 := wrap_id (by omega) (by omega)
     go_wp2_with fail
     go_roundw
     case rel => exact ⟨i + 1, T', ln, upd lf k (lf k + 1), sl, by omega, by go_num, HI2.out, HG2.out.setF hk _⟩
     case measure => simp [intOf]; omega
    ·have HF := Lib.hid hf
     have HI2 := Lib.hid hI2
     clear hf hI2
     go_wp2_with fail
     refine (sema_Release.calls (GOk w) _ _ T _ _ _ _ _ HTab.out HF.out).mono ?_
     rintro e w2 ⟨v, rfl, hV, hB⟩
     have HG2 := Lib.hid (HG1.out.tells hV hB)
     clear HG1 HF HTab hV hB y
     have qk : w2.cell? ⟨w.heap.size, k, none⟩ = some (sl k) := HG2.out.slot hk
     have HVk := Lib.hid (HG2.out.line k hk)
     obtain ⟨Ak, ck, hs⟩ := Kd.V_slice HVk.out
     rw [hs] at HVk qk
     have HS := Lib.hid hs
     clear hs
     have hnl : (ln k).length = r.length + 1 := by rw [hl]; rfl
     have hrl := (Kd.V_reads' HVk.out).2.1
     obtain ⟨ad0, had, q0⟩ := Kd.at_int (Kd.V_reads' HVk.out).2.2 0 (Int.le_refl _) (by omega)
     subst had
     rw [hl] at q0
     have q0' : w2.cell? ad0 = some (.int .i64 x) := by simpa [rd, Addr.add] using q0
     have HT := Lib.hid (tailV HVk.out hl)
     rw [hnl] at qk
     clear q0
     have qz : w2.frozen? ⟨w.heap.size, k, none⟩ = false := HG2.out.bl.frozen k
     go_wp2_with fail
     go_roundw
     case rel => exact ⟨i + 1, T', upd ln k r, lf, upd sl k _, by omega, by go_num, HI2.out, HG2.out.setL hk HT.out⟩
     case measure => simp [intOf]; omega
  ·have HB := Lib.hid HG.out.below
   clear HG HI
   go_wp2_with fail
   refine (deadboltlaw10_alive.calls 400 true wr (semalive_ok (Nat.le_refl _))).mono ?_
   rintro e w2 ⟨rfl, hb2⟩
   have HB2 := Lib.hid (bthen HB.out hb2)
   clear hb2 HB
   go_wp2_with fail
   go_ret
   exact ⟨rfl, HB2.out⟩
end Go.Proofs.Ytnjnjajgpkmfhaa.PX

/-
 The statement on SemaGrants, out of the walk: for every input the call returns true, and each argument reads behind it as it read before.
-/
namespace Go.Proofs.Ytnjnjajgpkmfhaa.semaGrants
open Go.ChangeShapes Go.WideShapes Go.ChangeAt Go.RowKit Go.Proofs.YtnjnjajgpkmfhaaW.PrintWords Go.Proofs.Ytnjnjajgpkmfhaa.PX
set_option linter.unusedVariables false
theorem own : ownKnob Try.prog.godebug = none := by kernel_rfl
def kTrip : Kd (Int × Int × Int) := Kd.pair (Kd.int .i64) (Kd.pair (Kd.int .i64) (Kd.int .i64))
theorem trip_K {w : World} {p : Int × Int × Int} {cs : List Value} (h : kTrip.K w p cs) : cs = gcells p := by
 obtain ⟨c0, c1, rfl, h0, c2, c3, rfl, h1, h2⟩ := h
 rw [show c0 = [.int .i64 p.1] from h0, show c2 = [.int .i64 p.2.1] from h1, show c3 = [.int .i64 p.2.2] from h2]
 rfl
theorem len_three : ∀ {cs : List Value}, cs.length = 3 → ∃ a b c, cs = [a, b, c]
 | [], h => by cases h
 | [_], h => by cases h
 | [_, _], h => by cases h
 | [a, b, c], _ => ⟨a, b, c, rfl⟩
 | _ :: _ :: _ :: _ :: l, h => by simp only [List.length_cons] at h; omega
theorem opens3 {H : Type} {enc : TypeId × Value → H} {w : World} : Opens enc Try.prog w 53 kTrip (fun _ => True) := by
 intro fuel cs x h
 obtain ⟨xs, m, rfl, rfl, hl, hn, hi⟩ := DataW.trod_array (n := 3) (e := 3) (by kernel_rfl) h
 rw [show Try.prog.cellsOf 53 = 3 by kernel_rfl] at hl
 rw [show Try.prog.cellsOf 3 = 1 by kernel_rfl] at hi
 have each : ∀ i, i < 3 → ∃ z : Int, (cs.drop i).take 1 = [.int .i64 z] := fun i h3 => by
  have := hi i h3
  rw [List.getElem?_eq_getElem (by omega), Nat.mul_one] at this
  obtain ⟨z, hz, _⟩ := DataW.trod_int Try.underlying3 this
  exact ⟨z, hz⟩
 obtain ⟨a, ha⟩ := each 0 (by omega)
 obtain ⟨b, hb⟩ := each 1 (by omega)
 obtain ⟨c, hc⟩ := each 2 (by omega)
 clear hi h hn
 obtain ⟨u0, u1, u2, rfl⟩ := len_three hl
 simp only [List.drop_zero, List.drop_succ_cons, List.take_succ_cons, List.take_zero, List.cons.injEq, and_true] at ha hb hc
 subst ha; subst hb; subst hc
 exact ⟨(a, b, c), ⟨[.int .i64 a], [.int .i64 b, .int .i64 c], rfl, rfl, [.int .i64 b], [.int .i64 c], rfl, rfl, rfl⟩, trivial⟩
set_option maxRecDepth 100000 in
theorem lifted (os : Os) (started : os.Started) (H : Type) (enc : TypeId × Value → H) :
  ReturnsInHanded {} Try.checked os 6 .any (Rows.semaGrantsSpec.pre6 enc Try.prog Try.f6 Rows.semaGrantsRow.domain false) (Rows.semaGrantsSpec.post enc Try.prog Try.f6 false true false false) := by
 refine returnsInHanded_of_change (C := Try.checked) own started (by kernel_rfl) Try.func6
  (ChangeSpec.witness6 (enc := enc) (C := Try.checked) false ⟨#[], #[.slice none 0 0], []⟩ 8 (by kernel_rfl) (by kernel_rfl) (by kernel_rfl) (by kernel_rfl)) ?_
 intro W base args ds gs before hval0 hW hcnd _
 have hval : ∀ (j : Nat) t v, Try.f6.params[j]? = some t → args[j]? = some v → Value.okWide Try.prog W .any base t v := hval0
 have hW' := hW
 obtain ⟨p, q, hA0, hV, hpq, hfz, hnd⟩ := hW
 have hA : DataW.TrodAll enc Try.prog W 0 (fun _ => true) true Try.f6.params.toList args.toList ds p := hA0
 rw [Try.params6] at hA hval
 obtain ⟨v0, vs0, d0, ds0, p0, q0, hargs, rfl, hp0, h0, r0⟩ := trodAll_cons hA
 obtain ⟨rfl, rfl, _⟩ := trodAll_nil r0
 obtain rfl : args = #[v0] := by cases args; simp_all
 obtain ⟨rfl, _⟩ := trodVars_none hV
 obtain ⟨A0, c0, l0, rfl, hl0, hC0, hw0⟩ := open_C (e := 53) (by kernel_rfl) (by kernel_rfl) opens3 (hval 0 51 v0 rfl rfl) h0
 have hR := reads_of_rows (size := 3) gcells gcells3 (by decide) (fun _ _ h => trip_K h) hC0
 refine (grants_any A0 l0.length c0 l0 W hR hl0).mono fun e W' ⟨he, hb⟩ => ?_
 subst he
 exact ⟨_, rfl, law_post (by kernel_rfl) (by kernel_rfl) (by kernel_rfl) Try.underlying4 rfl hW' rfl hb⟩

theorem rowOver : Rows.semaGrantsRow.holds Try.pinned (OpenSpec.ofChange Rows.semaGrantsSpec) :=
 OpenClaim.holds_of_wide 6 Try.f6 rfl rfl rfl rfl rfl rfl rfl ⟨rfl, rfl, rfl, rfl, rfl⟩ rfl rfl rfl rfl rfl (by kernel_rfl) Try.func6 (by kernel_rfl)
  (of_decide_eq_true (by kernel_rfl)) (by unfold Func.isWrapper; first | (rw [if_pos (by decide +kernel)]; kernel_rfl) | (rw [if_neg (by decide +kernel)]; exact ⟨rfl, rfl⟩))
  (fun os started H enc _ => lifted os started H enc)

theorem proved : Rows.SemaGrantsSaid := rowOver
#print axioms proved
end Go.Proofs.Ytnjnjajgpkmfhaa.semaGrants
