/-
  The contracts of package script: Read, and the iterator over a script's numbers.
-/
import Derived.Test.YteejgejeggackaaBase
import Derived.Test.YteejgejeggackaaWords
import Derived.Test.YteejgejeggackaaWords2
import Derived.RangeFuncNested
import Derived.RangeFuncBound
import Derived.RangeFuncCalls
import Derived.RangeFuncLeaves
import Derived.RangeFuncBox
import Derived.Shelf.Abstract
import Derived.Shelf.RegionOpen
import Derived.OwnWalkIn
import Derived.TacticsInMore
import Derived.LoopNIn
import Derived.LoopIn
namespace Go.Proofs.Yteejgejeggackaa
open Go.RowKit Go.Shelf

namespace Script
/-- The pick of a number. -/
def pick (v : Int) : Int × Int := if 0 ≤ v then (0, v % 16) else (1, min (-v) 4611686018427387904)
def val (p : Int × Int) : Value := .agg #[.int .i64 p.1, .int .i64 p.2]
def cells (p : Int × Int) : List Value := [.int .i64 p.1, .int .i64 p.2]

theorem read_any (v : Int) (h0 : -9223372036854775808 ≤ v) (h1 : v ≤ 9223372036854775807) (w : World) :
    Calls Try.prog 53 #[.int .i64 v] w fun e w' => e = .returned (val (pick v)) ∧ Below w.heap.size w w' := by
  by_cases h : 0 ≤ v
  · have e1 : v.tmod 16 = v % 16 := Int.tmod_eq_emod_of_nonneg h
    have hp : Hid (pick v = (0, v % 16)) := by unfold Hid; rw [pick, if_pos h]
    go_enter Try.func53, Try.ntmps53
    go_wp2_with fail
    refine bodyPost_ret (v := val (0, v % 16)) (by simp [results, Try.results53, val, go_sem]) rfl ⟨by rw [hp.out], (Below.refl _ _).alloc (Nat.le_refl _) _⟩
  · by_cases h2 : v < -4611686018427387904
    · have hp : Hid (pick v = (1, 4611686018427387904)) := by unfold Hid; rw [pick, if_neg h]; simp; omega
      go_enter Try.func53, Try.ntmps53
      go_wp2_with fail
      refine bodyPost_ret (v := val (1, 4611686018427387904)) (by simp [results, Try.results53, val, go_sem]) rfl ⟨by rw [hp.out], (Below.refl _ _).alloc (Nat.le_refl _) _⟩
    · have hp : Hid (pick v = (1, -v)) := by unfold Hid; rw [pick, if_neg h]; simp; omega
      go_enter Try.func53, Try.ntmps53
      go_wp2_with fail
      refine bodyPost_ret (v := val (1, -v)) (by simp [results, Try.results53, val, go_sem]) rfl ⟨by rw [hp.out], (Below.refl _ _).alloc (Nat.le_refl _) _⟩

theorem below_grown {w w' : World} (h : Below w.heap.size w w') : w.grownBy w' none := ⟨h.os, h.tape, h.output, h.size, fun k hk _ => h.block k hk⟩

attribute [local go_sem] Oper.semAt_some

/-- picks(l): the row is boxed; the function value captures the box. -/
theorem picks_in (F : Fence) (n : Nat) (hf : F.fn 87) (hro : F.round = none) (a : Option Addr) (len cap : Nat) (w : World) :
    CallsIn F n Try.prog 87 #[.slice a len cap] w fun e w' => e = .returned (.func (.func 94) #[] #[.pointer (some ⟨w.heap.size, 0, none⟩)]) ∧ w' = w.alloc (.cells #[.slice a len cap] 30) := by
  refine callsIn_of_wp Try.func87 rfl hf ?_ hro
  simp only [Try.ntmps87, List.size_toArray, List.length_cons, List.length_nil, Nat.reduceAdd, Nat.reduceSub, Array.replicate_succ, Array.replicate_zero, List.push_toArray, List.append_toArray, List.nil_append, List.cons_append]
  gi_wp2
  go_ret
  exact ⟨rfl, rfl⟩

/-- The iterator over a row of numbers: their picks, one by one. -/
theorem picks1_in (l Bs n₀ len cap : Nat) (A : Option Addr) (zs : List Int) (hlen : len ≤ 1000000) (J Jx : List Int → World → Prop) (W : World)
    (hJ : AbidesFrom W.heap.size J)
    (hY : ∀ pre x W1, J pre W1 → pre.length < len → YieldAt Fence.wide 2 Try.prog l #[val (pick x)] W1 fun e W' =>
      (e = .returned (.bool true) ∧ J (pre ++ [x]) W' ∧ Below n₀ W1 W') ∨ (e = .returned (.bool false) ∧ Jx (pre ++ [x]) W'))
    (hBs : W.cell? ⟨Bs, 0, none⟩ = some (.slice A len cap)) (hr : Reads W n₀ 1 A len (zs.map (Value.int .i64))) (hz : ∀ z ∈ zs, -9223372036854775808 ≤ z ∧ z ≤ 9223372036854775807) (hn₀ : n₀ ≤ W.heap.size) (h0 : J [] W) :
    CallsIn Fence.wide 3 Try.prog 94 #[.func (.yield l) #[] #[], .pointer (some ⟨Bs, 0, none⟩)] W fun e W' => (∃ v, e = .returned v) ∧
      ((∃ ys, ys = zs ∧ J ys W') ∨ (∃ pre, pre <+: zs ∧ Jx pre W')) := by
  have hl := hr.int_len
  refine callsIn_of_wp Try.func94 rfl trivial ?_ rfl
  simp only [Try.ntmps94, List.size_toArray, List.length_cons, List.length_nil, Nat.reduceAdd, Nat.reduceSub, Array.replicate_succ, Array.replicate_zero, List.push_toArray, List.append_toArray, List.nil_append, List.cons_append]
  gi_wp2
  gi_loopw [7] (fun i wr => ∃ k : Nat, k ≤ len ∧ i = .int .i64 k ∧ J (zs.take k) wr ∧ Below n₀ W wr)
    (fun i _ => len - (intOf i).toNat)
  case atStart => exact ⟨0, Nat.zero_le _, rfl, h0, Below.refl _ _⟩
  case round =>
    obtain ⟨k, hk, rfl, hJs, hnx⟩ := hrel
    have hsz := hnx.size
    by_cases hlt : k < len
    · obtain ⟨ad, z, rfl, _, hzk, hcx⟩ := (hr.below hnx).int_at hlt
      have hzb := hz z (List.mem_of_getElem? hzk)
      have htk : zs.take (k + 1) = zs.take k ++ [z] := by rw [List.take_add_one, hzk]; rfl
      have HZ := Lib.hid hzk
      have HT := Lib.hid htk
      clear hzk htk
      gi_wp2_with fail
      refine ⟨trivial, (callsIn_wide.2 (read_any z hzb.1 hzb.2 _)).mono ?_⟩
      rintro e w1 ⟨rfl, hb1⟩
      have hJ1 := hJ _ _ _ none hJs (below_grown hb1) (fun r e => by cases e)
      have hn1 := hnx.trans (hb1.mono (Nat.le_trans hn₀ hsz))
      obtain ⟨fn, tmps, assign, body, hy, hR⟩ := hY _ z w1 hJ1 (by rw [List.length_take]; omega)
      clear hb1
      gi_wp2
      refine hR.mono ?_
      rintro e W3 (⟨rfl, hJ3, hk3⟩ | ⟨rfl, hJx3⟩)
      · gi_wp2
        go_roundw
        case rel => exact ⟨k + 1, by omega, by go_num, by rw [HT.out]; exact hJ3, hn1.trans hk3⟩
        case measure => simp [intOf]; omega
      · gi_wp2
        refine bodyPost_ret (results_none rfl _ _ _) rfl ?_
        exact ⟨⟨_, rfl⟩, .inr ⟨_, by rw [← HT.out]; exact List.take_prefix _ _, hJx3⟩⟩
    · obtain rfl : k = len := by omega
      gi_wp2
      go_end0
      exact ⟨⟨_, rfl⟩, .inl ⟨_, rfl, by rw [← hl, List.take_length] at hJs; exact hJs⟩⟩

/-- picks(l) hands back a value that goes through all picks in order, or up to where a round says 'no more'. -/
theorem picks_stops (Bs n₀ len cap : Nat) (A : Option Addr) (zs : List Int) (hlen : len ≤ 1000000) (w : World) (hBs : Bs < w.heap.size) (hn₀ : n₀ ≤ w.heap.size)
    (hc : w.cell? ⟨Bs, 0, none⟩ = some (.slice A len cap)) (hr : Reads w n₀ 1 A len (zs.map (Value.int .i64))) (hz : ∀ z ∈ zs, -9223372036854775808 ≤ z ∧ z ≤ 9223372036854775807) :
    SeqStopsK Fence.wide 3 Try.prog 94 #[.pointer (some ⟨Bs, 0, none⟩)] (fun x : Int => #[val (pick x)]) (Below n₀) (fun ys => ys = zs) (fun pre => pre <+: zs) len w := fun l J Jx W hW hJ _ hY h0 =>
  picks1_in l Bs n₀ len cap A zs hlen J Jx W hJ hY ((hW.cell (p := ⟨Bs, 0, none⟩) hBs).trans hc) (hr.below (hW.mono hn₀)) hz (Nat.le_trans hn₀ hW.size) h0

/-! All -/
theorem infoPick : (Try.prog.info? 69).map (fun i => (i.zero, i.size, i.bytes)) = some (some (.agg #[.int .i64 0, .int .i64 0]), 2, 16) := by kernel_rfl
def pcells (v : Int) : List Value := cells (pick v)

theorem blk_own (B : Nat) (t : TypeId) (cs : Array Value) : Own (fun (_ : Unit) W => Blk W B t cs) := fun _ X Y row hs hg hrow => Blk.grown hs hg (fun e' => by
  obtain ⟨o, ho, hc⟩ := hrow B e'.symm
  rw [show X.heap[B]? = _ from hs] at ho
  cases ho
  cases hc)

set_option maxRecDepth 100000 in
set_option maxHeartbeats 4000000 in
theorem all_in (A : Option Addr) (len cap : Nat) (zs : List Int) (hlen : len ≤ 1000000) (w : World) (hr : Reads w w.heap.size 1 A len (zs.map (Value.int .i64))) (hz : ∀ z ∈ zs, -9223372036854775808 ≤ z ∧ z ≤ 9223372036854775807) :
    CallsIn Fence.wide 4 Try.prog 51 #[.slice A len cap] w fun e W' => ∃ v, e = .returned v ∧ W'.ownsRow w.heap.size 69 2 v len (zs.flatMap pcells) ∧ Below w.heap.size w W' := by
  obtain ⟨i0, hi, hz0, hz1, hz2⟩ := info_parts infoPick
  have hl := hr.int_len
  refine callsIn_of_wp_marks Try.func51 rfl trivial ?_ rfl
  simp only [Try.ntmps51, List.size_toArray, List.length_cons, List.length_nil, Nat.reduceAdd, Nat.reduceSub, Array.replicate_succ, Array.replicate_zero, List.push_toArray, List.append_toArray, List.nil_append, List.cons_append]
  gi_wp2_with fail
  refine ⟨trivial, (picks_in Fence.wide 3 trivial rfl _ _ _ _).mono ?_⟩
  rintro e w' ⟨rfl, rfl⟩
  have bO := Boxed.new w 72 (.slice none 0 0)
  have bN := Boxed.new (w.alloc (.cells #[.slice none 0 0] 72)) 30 (.slice A len cap)
  rw [World.size_alloc] at bN
  have hB0 : Below w.heap.size w ((w.alloc (.cells #[.slice none 0 0] 72)).alloc (.cells #[.slice A len cap] 30)) := ((Below.refl _ w).alloc (Nat.le_refl _) _).alloc (by simp) _
  gi_wp2
  refine wpIn_rangeFunc_ownH rfl (by omega) (gf := 94) (lb := #[.pointer (some ⟨w.heap.size + 1, 0, none⟩)]) rfl trivial (enters_of Try.func94 (by kernel_rfl) rfl)
    (picks_stops (w.heap.size + 1) w.heap.size len cap A zs hlen _ (by simp) (by simp; omega) bN.cell (hr.below hB0) hz) belowK_t (belowK_b (by simp; omega)) (Below.refl _ _) (fun _ => rfl)
    (fun pre W => (∃ v, Boxed W w.heap.size 72 v ∧ W.ownsRow w.heap.size 69 2 v pre.length (pre.flatMap pcells) ∧ True) ∧ Below w.heap.size w W)
    (fun _ _ _ => False)
    (OwnFrom.and (Own.from (holdsRow_own w.heap.size w.heap.size 72 69 2 (fun pre : List Int => pre.length) (fun pre => pre.flatMap pcells) (fun _ _ => True)) _) (ownFrom_below (Nat.le_refl _) (by simp; omega)))
    (fun _ _ _ _ _ hs _ _ => hs)
    ⟨⟨_, bO.alloc _, World.ownsRow_nil _ _ _ _, trivial⟩, hB0⟩
    (fun x a' W => ∃ Bx, Blk W Bx 69 #[.int .i64 (pick x).1, .int .i64 (pick x).2] ∧ a' = { tmps := #[.slice A len cap, undef, .slice none 0 0, .pointer (some ⟨w.heap.size, 0, none⟩), .pointer (some ⟨Bx, 0, none⟩), .slice A len cap, .func (.func 94) #[] #[.pointer (some ⟨w.heap.size + 1, 0, none⟩)], .agg #[.int .i64 (pick x).1, .int .i64 (pick x).2], undef, undef, undef, undef, undef], defers := [] })
    (fun x a' _ X Y row hs hg hr => by obtain ⟨Bx, h2, h3⟩ := hs; exact ⟨Bx, blk_own Bx 69 _ () X Y row h2 hg (fun r e => (hr r e).2), h3⟩)
    ?assign ?body ?done ?stop
  case assign =>
    rintro l pre x W K ⟨⟨v, hv, hrow, _⟩, hB⟩ hK
    simp only [val]
    gi_wp2
    exact hK _ _ ((KeepsOthers.alloc _ _).from _) ((Below.refl _ W).alloc hB.size _) ⟨⟨v, hv.alloc _, hrow.alloc _, trivial⟩, hB.alloc hB.size _⟩ ⟨W.heap.size, Blk.new W _ _, rfl⟩
  case body =>
    rintro l pre x a' W hl _ ⟨⟨v, hv, hrow, _⟩, hB⟩ ⟨Bx, hbx, rfl⟩ hlt
    have hc := hv.cell
    have hx0 : W.cell? ⟨Bx, 0, none⟩ = some (.int .i64 (pick x).1) := by rw [hbx.cell]; rfl
    have hx1 : W.cell? ⟨Bx, 1, none⟩ = some (.int .i64 (pick x).2) := by rw [hbx.cell]; rfl
    have h1c : ∀ u ∈ pcells x, u.oneCell' = true := by intro u hu; simp [pcells, cells] at hu; rcases hu with rfl | rfl <;> rfl
    have hn2 : ∀ j u, (pcells x)[j]? = some u → (W.alloc (.cells #[.int .i64 (pick x).1, .int .i64 (pick x).2] 69)).cell? ((⟨W.heap.size, 0, none⟩ : Addr).add j) = some u := by
      intro j u hu
      have hb := Blk.new W 69 #[.int .i64 (pick x).1, .int .i64 (pick x).2]
      have e : ((⟨W.heap.size, 0, none⟩ : Addr).add j) = ⟨W.heap.size, j, none⟩ := by unfold Addr.add; by_cases hj : j = 0 <;> simp [hj]
      rw [e, hb.cell, ← hu]
      simp [pcells, cells]
    gi_wp2_with (gi_at_builtin; refine wpListIn_append_own _ rfl _ _ 72 rfl w.heap.size 69 i0 (.agg #[.int .i64 0, .int .i64 0]) 2 16 Try.underlying72 hi hz0 hz1 hz2 rfl (by decide) _ _ _ rfl (hrow.alloc _) ⟨W.heap.size, 0, none⟩ 1 1 (pcells x) rfl rfl hn2 h1c (by simp [maxLen]; omega) (by omega) (by have := hB.size; simp; omega) ?_; intro v' w1 hown' hgrow _; obtain ⟨g', cap', rfl⟩ := ownsRow_succ hown'; obtain ⟨hv1, hv2, hr2, hk2, hb2⟩ := hv.appended (by decide) hrow hB.size (Nat.le_refl _) hown' hgrow; have hc1 := hv1.cell; have hf1 := hv1.frozen)
    exact ⟨hk2.from _, hb2, ⟨_, hv2, by simpa using hr2, trivial⟩, hB.trans hb2⟩
  case done =>
    rintro D ys W hD rfl ⟨⟨v, hv, hrow, _⟩, hB⟩ hK
    have hc := hv.cell
    gi_wp2
    refine ⟨by simp, .inl ⟨_, _, rfl, run_takeDeferred hK, ?_⟩⟩
    exact ⟨_, results_tmp rfl _ _ _, v, rfl, by rw [← hl]; exact ownsRow_putObj hrow _ hK rfl, hB.trans (belowK_b (w := w) (Nat.le_refl _) W D _ _ (by simp at hD; omega) hK rfl rfl)⟩
  case stop =>
    rintro D c pre W _ _ h _
    exact h.elim
end Script
end Go.Proofs.Yteejgejeggackaa
