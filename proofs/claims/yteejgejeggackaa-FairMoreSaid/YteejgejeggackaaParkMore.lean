/-
  More contracts of package park (layer 11): Runnable; and of the document's own functions for it.
-/
import Derived.Test.YteejgejeggackaaParkAny
import Derived.BigQuiet
import Derived.Deep.QuietTactic
namespace Go.Proofs.Yteejgejeggackaa
open Go.RowKit
namespace Park

/-- Who runs, of the first k. -/
def runsTo (gs : List G) (k : Nat) : List Int := ((List.range k).filter (fun (i : Nat) => decide ((gs[i]?).map Prod.fst = some 0))).map Int.ofNat
def runs (gs : List G) : List Int := runsTo gs gs.length
theorem runsTo_succ (gs : List G) (k : Nat) (s : Int) (p : Bool) (h : gs[k]? = some (s, p)) : runsTo gs (k + 1) = runsTo gs k ++ (if s = 0 then [(k : Int)] else []) := by
  unfold runsTo
  rw [List.range_succ, List.filter_append, List.map_append]
  congr 1
  by_cases hs : s = 0 <;> simp [h, hs]
theorem runsTo_len (gs : List G) (k : Nat) : (runsTo gs k).length ≤ k := by
  unfold runsTo
  rw [List.length_map]
  have := List.length_filter_le (fun (i : Nat) => decide ((gs[i]?).map Prod.fst = some 0)) (List.range k)
  rwa [List.length_range] at this

theorem infoInt : (Try.prog.info? 3).map (fun i => (i.zero, i.size, i.bytes)) = some (some (.int .i64 0), 1, 8) := by kernel_rfl

/-- What Runnable leaves. -/
def Ran (gs : List G) (w : World) (e : Ending) (w' : World) : Prop :=
  ∃ (A : Option Addr) (m c : Nat), e = .returned (.tuple #[.slice A m c, .int .i64 0]) ∧ Reads w' w'.heap.size 1 A m ((runs gs).map (Value.int .i64)) ∧ Below w.heap.size w w'

theorem runnable_no (A : Option Addr) (n c : Nat) (gs : List G) (w : World) (hr : Reads w w.heap.size 2 A n (gs.flatMap cells)) (hn : n ≤ maxLen) (h : right gs = false) :
    Calls Try.prog 39 #[.slice A n c] w fun e w' => e = .returned (.tuple #[.slice none 0 0, .int .i64 1]) ∧ Below w.heap.size w w' := by
  go_enter Try.func39, Try.ntmps39
  go_wp2_with fail
  refine (right_any A n c gs _ hr hn).mono ?_
  rintro e w1 ⟨rfl, hb⟩
  rw [h]
  go_wp2_with fail
  go_ret2
  exact ⟨rfl, hb⟩

theorem own_reads {w : World} {B n : Nat} {e : TypeId} {v : Value} {xs : List Value} (h : w.ownsRow B e 1 v n xs) : ∃ A c, v = .slice A n c ∧ Reads w w.heap.size 1 A n xs := by
  rcases h.2 with ⟨rfl, rfl⟩ | ⟨g, cap, cur, rfl, _⟩
  · have hx : xs = [] := List.eq_nil_of_length_eq_zero (by simpa using h.1)
    subst hx
    exact ⟨none, 0, rfl, Reads.none_⟩
  · exact ⟨_, _, rfl, Reads.of_own h⟩

set_option maxHeartbeats 1000000 in
theorem runnable_yes (A : Option Addr) (n c : Nat) (gs : List G) (w : World) (hr : Reads w w.heap.size 2 A n (gs.flatMap cells)) (h : right gs = true) :
    Calls Try.prog 39 #[.slice A n c] w (Ran gs w) := by
  have hl := len_ hr
  have hn8 : n ≤ 8 := by unfold right at h; simp at h; omega
  have hn : n ≤ maxLen := by simp [maxLen]; omega
  have HL := Lib.hid hl
  clear hl
  obtain ⟨i0, hi, hz0, hz1, hz2⟩ := info_parts infoInt
  go_enter Try.func39, Try.ntmps39
  go_wp2_with fail
  refine (right_any A n c gs _ hr hn).mono ?_
  rintro e w1 ⟨rfl, hb1⟩
  rw [h]
  have HB1 := Lib.hid hb1
  have hr1 := (hr.below hb1).more hb1.size
  clear hb1 hn hr
  go_wp2_with fail
  go_loopw [4, 12] (fun v i wr => ∃ k : Nat, k ≤ n ∧ i = .int .i64 k ∧ wr.ownsRow w1.heap.size 3 1 v (runsTo gs k).length ((runsTo gs k).map (Value.int .i64)) ∧ Below w1.heap.size w1 wr) (fun _ i _ => n - (intOf i).toNat)
  case atStart => exact ⟨0, Nat.zero_le _, rfl, (show w1.ownsRow w1.heap.size 3 1 (.slice none 0 0) (runsTo gs 0).length ((runsTo gs 0).map (Value.int .i64)) from World.ownsRow_nil _ _ _ _), Below.refl _ _⟩
  case round =>
    obtain ⟨k, hk, rfl, hown, hbw⟩ := hrel
    have hrr := hr1.below hbw
    by_cases hlt : k < n
    · obtain ⟨ad, s, p, rfl, hb, hg, hc0, hc1⟩ := at_ hrr hlt
      have hsucc := runsTo_succ gs k s p hg
      have hlen := runsTo_len gs k
      have hsz := hbw.size
      have HS := Lib.hid hsucc
      have HB := Lib.hid hbw
      have HO := Lib.hid hown
      clear hsucc hrr hg hbw hown
      by_cases hs : s = 0
      · subst hs
        go_wp2_with (first
          | (at_builtin; refine wpList_append_own _ rfl _ _ 30 rfl w1.heap.size 3 i0 (.int .i64 0) 1 8 Try.underlying30 hi hz0 hz1 hz2 rfl (by decide) _ _ _ rfl ((HO.out.alloc _).alloc _) ⟨wr.heap.size + 1, 0, none⟩ 1 1 [.int .i64 k] rfl rfl ?c1 ?c2 ?c3 ?c4 ?c5 ?_)
          | go_in)
        case c2 => rfl
        case c3 => simp [maxLen]; omega
        case c4 => omega
        case c5 => omega
        intro v' w' hown' hgrow _
        have hgb : ∀ g, u4.ownBlock = some g → w1.heap.size ≤ g := fun g hg => (HO.out.lt g hg).1
        have hb2 := ((HB.out.alloc HB.out.size (.cells #[.int .i64 0, .bool p] 55)).alloc (by simp; omega) (.cells #[.int .i64 k] 3)).grown hgrow (by simp; omega) hgb
        have HO2 := Lib.hid hown'
        have HB2 := Lib.hid hb2
        clear hgrow hgb hown' hb2
        go_wp2
        go_roundw
        case rel =>
          refine ⟨k + 1, by omega, by go_num, ?_, HB2.out⟩
          rw [HS.out]
          simpa using HO2.out
        case measure => simp [intOf]; omega
      · have hs' : (s == 0) = false := by simpa using hs
        have HS2 := Lib.hid hs
        clear hs
        have hb2 := HB.out.alloc HB.out.size (.cells #[.int .i64 s, .bool p] 55)
        have HB2 := Lib.hid hb2
        clear hb2
        go_wp2_with fail
        go_roundw
        case rel =>
          refine ⟨k + 1, by omega, by go_num, ?_, HB2.out⟩
          rw [HS.out, if_neg HS2.out, List.append_nil]
          exact HO.out.alloc _
        case measure => simp [intOf]; omega
    · have HB := Lib.hid hbw
      obtain ⟨A', c', rfl, hrd⟩ := own_reads hown
      have HRD := Lib.hid hrd
      clear hbw hrr hown hrd
      go_wp2
      go_ret2
      have hk' : k = gs.length := by rw [HL.out]; omega
      exact ⟨A', _, c', rfl, by rw [show runs gs = runsTo gs k by rw [hk']; rfl]; exact HRD.out, bthen HB1.out HB.out⟩
end Park
end Go.Proofs.Yteejgejeggackaa
