/-
  The document's own functions for layer 11: Right, Why, With, Park, Ready, End, Runnable, and Same of numbers.
-/
import Derived.Test.YteejgejeggackaaParkSame
namespace Go.Proofs.Yteejgejeggackaa
open Go.RowKit
namespace Park

theorem own_reads2 {w : World} {B n size : Nat} {e : TypeId} {v : Value} {xs : List Value} (h : w.ownsRow B e size v n xs) : ∃ A c, v = .slice A n c ∧ Reads w w.heap.size size A n xs := by
  rcases h.2 with ⟨rfl, rfl⟩ | ⟨g, cap, cur, rfl, _⟩
  · have hx : xs = [] := List.eq_nil_of_length_eq_zero (by simpa using h.1)
    subst hx
    exact ⟨none, 0, rfl, Reads.none_⟩
  · exact ⟨_, _, rfl, Reads.of_own h⟩
theorem own_empty (w : World) (B : Nat) (e : TypeId) (size : Nat) (hB : B ≤ w.heap.size) : (w.alloc (.cells #[] e)).ownsRow B e size (.slice (some ⟨w.heap.size, 0, none⟩) 0 0) 0 [] :=
  ⟨by simp, Or.inr ⟨w.heap.size, 0, #[], rfl, hB, heap_alloc_new w _, Nat.le_refl _, by simp [maxLen], by simp, by simp⟩⟩

theorem new_cells (w : World) (t : TypeId) (xs : List Value) (j : Nat) (u : Value) (h : xs[j]? = some u) : (w.alloc (.cells xs.toArray t)).cell? ((⟨w.heap.size, 0, none⟩ : Addr).add j) = some u := by
  have e : (⟨w.heap.size, 0, none⟩ : Addr).add j = ⟨w.heap.size, j, none⟩ := by unfold Addr.add; by_cases hj : j = 0 <;> simp [hj]
  rw [e, (Blk.new w t xs.toArray).cell j]
  simpa using h
theorem take_set {gs : List G} {j k : Nat} {g x : G} (hg : gs[k]? = some x) : (gs.set j g).take (k + 1) = (gs.set j g).take k ++ [if k = j then g else x] := by
  rw [List.take_add_one]
  congr 1
  by_cases h : k = j
  · subst h
    have : k < gs.length := (List.getElem?_eq_some_iff.1 hg).1
    rw [List.getElem?_set_self (by simpa using this), if_pos rfl]; rfl
  · rw [List.getElem?_set_ne (Ne.symm h), hg, if_neg h]; rfl

set_option maxHeartbeats 1000000 in
theorem with_any (A : Option Addr) (n c j : Nat) (gs : List G) (s : Int) (p : Bool) (w : World) (hr : Reads w w.heap.size 2 A n (gs.flatMap cells)) (hn : n ≤ 12) :
    Calls Try.prog 86 #[.slice A n c, .int .i64 j, .agg #[.int .i64 s, .bool p]] w fun e w' => (∃ a cap, e = .returned (.slice a n cap) ∧ Reads w' w'.heap.size 2 a n ((gs.set j (s, p)).flatMap cells)) ∧ Below w.heap.size w w' := by
  have hl := len_ hr
  have HL := Lib.hid hl
  clear hl
  obtain ⟨i0, hi, hz0, hz1, hz2⟩ := info_parts info
  have hB0 : Blk (w.alloc (.cells #[.int .i64 s, .bool p] 55)) w.heap.size 55 #[.int .i64 s, .bool p] := Blk.new w _ _
  have HB0 := Lib.hid hB0
  have hr0 := hr.alloc (Nat.le_refl _) (.cells #[.int .i64 s, .bool p] 55)
  clear hB0 hr
  go_enter Try.func86, Try.ntmps86
  go_wp2_with fail
  go_loopw [7, 13] (fun v i wr => ∃ k : Nat, k ≤ n ∧ i = .int .i64 k ∧ wr.ownsRow (w.heap.size + 1) 55 2 v k (((gs.set j (s, p)).take k).flatMap cells) ∧ Below (w.heap.size + 1) (w.alloc (.cells #[.int .i64 s, .bool p] 55)) wr) (fun _ i _ => n - (intOf i).toNat)
  case atStart =>
    refine ⟨0, Nat.zero_le _, rfl, ?_, (Below.refl _ _).alloc (by simp) _⟩
    have := own_empty (w.alloc (.cells #[.int .i64 s, .bool p] 55)) (w.heap.size + 1) 55 2 (by simp)
    simpa using this
  case round =>
    obtain ⟨k, hk, rfl, hown, hbw⟩ := hrel
    have hrr := (hr0.more (Nat.le_succ _)).below hbw
    have hBr := HB0.out.below hbw (by omega)
    have hx0 := hBr.cell 0
    have hx1 := hBr.cell 1
    simp at hx0 hx1
    have hlt0 := hBr.lt
    by_cases hlt : k < n
    · obtain ⟨ad, s1, p1, rfl, hb, hg, hc0, hc1⟩ := at_ hrr hlt
      have HG := Lib.hid hg
      have HB := Lib.hid hbw
      have HO := Lib.hid hown
      have hsz := hbw.size
      simp at hsz
      clear hrr hg hbw hown hBr
      by_cases hs : k = j
      · have hs' : ((k : Int) == j) = true := by simp [hs]
        have HS := Lib.hid hs
        clear hs
        go_wp2_with (first
          | (at_builtin; refine wpList_append_own _ rfl _ _ 50 rfl (w.heap.size + 1) 55 i0 (.agg #[.int .i64 0, .bool false]) 2 16 Try.underlying50 hi hz0 hz1 hz2 rfl (by decide) _ _ _ rfl ((HO.out.alloc _).alloc _) ⟨wr.heap.size + 1, 0, none⟩ 1 1 [.int .i64 s, .bool p] rfl rfl ?c1 ?c2 ?c3 ?c4 ?c5 ?_)
          | go_in)
        case c1 => exact fun j u hu => by simpa using new_cells (wr.alloc (.cells #[.int .i64 s, .bool p] 55)) 55 [.int .i64 s, .bool p] j u hu
        case c2 => intro u hu; simp at hu; rcases hu with rfl | rfl <;> rfl
        case c3 => simp [maxLen]; omega
        case c4 => omega
        case c5 => simp; omega
        intro v' w' hown' hgrow _
        have hgb : ∀ g, u7.ownBlock = some g → w.heap.size + 1 ≤ g := fun g hg => (HO.out.lt g hg).1
        have hb2 := ((HB.out.alloc (by omega) (.cells #[.int .i64 s, .bool p] 55)).alloc (by simp; omega) (.cells #[.int .i64 s, .bool p] 55)).grown hgrow (by simp; omega) hgb
        have HO2 := Lib.hid hown'
        have HB2 := Lib.hid hb2
        clear hgrow hgb hown' hb2
        go_wp2
        go_roundw
        case rel =>
          refine ⟨k + 1, by omega, by go_num, ?_, HB2.out⟩
          rw [take_set HG.out, if_pos HS.out, List.flatMap_append]
          simpa [cells] using HO2.out
        case measure => simp [intOf]; omega
      · have hs' : ((k : Int) == j) = false := by simp; omega
        have HS := Lib.hid hs
        clear hs
        go_wp2_with (first
          | (at_builtin; refine wpList_append_own _ rfl _ _ 50 rfl (w.heap.size + 1) 55 i0 (.agg #[.int .i64 0, .bool false]) 2 16 Try.underlying50 hi hz0 hz1 hz2 rfl (by decide) _ _ _ rfl ((HO.out.alloc _).alloc _) ⟨wr.heap.size + 1, 0, none⟩ 1 1 [.int .i64 s1, .bool p1] rfl rfl ?c1 ?c2 ?c3 ?c4 ?c5 ?_)
          | go_in)
        case c1 => exact fun j u hu => by simpa using new_cells (wr.alloc (.cells #[.int .i64 s1, .bool p1] 55)) 55 [.int .i64 s1, .bool p1] j u hu
        case c2 => intro u hu; simp at hu; rcases hu with rfl | rfl <;> rfl
        case c3 => simp [maxLen]; omega
        case c4 => omega
        case c5 => simp; omega
        intro v' w' hown' hgrow _
        have hgb : ∀ g, u7.ownBlock = some g → w.heap.size + 1 ≤ g := fun g hg => (HO.out.lt g hg).1
        have hb2 := ((HB.out.alloc (by omega) (.cells #[.int .i64 s1, .bool p1] 55)).alloc (by simp; omega) (.cells #[.int .i64 s1, .bool p1] 55)).grown hgrow (by simp; omega) hgb
        have HO2 := Lib.hid hown'
        have HB2 := Lib.hid hb2
        clear hgrow hgb hown' hb2
        go_wp2
        go_roundw
        case rel =>
          refine ⟨k + 1, by omega, by go_num, ?_, HB2.out⟩
          rw [take_set HG.out, if_neg HS.out, List.flatMap_append]
          simpa [cells] using HO2.out
        case measure => simp [intOf]; omega
    · have HB := Lib.hid hbw
      obtain ⟨A', c', rfl, hrd⟩ := own_reads2 hown
      have hk' : k = n := by omega
      subst hk'
      rw [List.take_of_length_le (by rw [List.length_set, HL.out]; exact Nat.le_refl _)] at hrd
      have HRD := Lib.hid hrd
      clear hbw hrr hown hrd hBr hx0 hx1
      go_wp2
      go_ret
      exact ⟨⟨A', c', rfl, HRD.out⟩, ((Below.refl w.heap.size w).alloc (Nat.le_refl _) _).trans (HB.out.mono (by omega))⟩
end Park
end Go.Proofs.Yteejgejeggackaa
