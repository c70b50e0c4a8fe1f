/-
  The document's own Right, Why and Runnable (layer 11), and Same of numbers (layer 7).
-/
import Derived.Test.YteejgejeggackaaParkRefs
namespace Go.Proofs.Yteejgejeggackaa
open Go.RowKit
namespace Park

/-- One that may be, as the document has it. -/
theorem refRight_any (A : Option Addr) (n c : Nat) (gs : List G) (w : World) (hr : Reads w w.heap.size 2 A n (gs.flatMap cells)) (hn : n ≤ 12) :
    Calls Try.prog 42 #[.slice A n c] w fun e w' => e = .returned (.bool (right gs)) ∧ Below w.heap.size w w' := by
  have hl := len_ hr
  have HL := Lib.hid hl
  clear hl
  go_enter Try.func42, Try.ntmps42
  go_wp2_with fail
  go_loopw [7] (fun i wr => ∃ k : Nat, k ≤ n ∧ i = .int .i64 k ∧ (∀ g ∈ gs.take k, odd g = false) ∧ Below w.heap.size w wr) (fun i _ => n - (intOf i).toNat)
  case atStart => exact ⟨0, Nat.zero_le _, rfl, by simp, Below.refl _ _⟩
  case round =>
    obtain ⟨k, hk, rfl, hall, hbw⟩ := hrel
    have HALL := Lib.hid hall
    have hrr := hr.below hbw
    have hsz := hbw.size
    have HB := Lib.hid hbw
    clear hall hbw
    by_cases hlt : k < n
    · obtain ⟨ad, s, p, rfl, hb, hg, hc0, hc1⟩ := at_ hrr hlt
      have HG := Lib.hid hg
      have hb2 := HB.out.alloc hsz (.cells #[.int .i64 s, .bool p] 55)
      have HB2 := Lib.hid hb2
      clear hg hrr hb2
      have hcase : (s < 0) ∨ (¬ s < 0 ∧ 2 < s) ∨ (¬ s < 0 ∧ ¬ 2 < s ∧ s = 0) ∨ (¬ s < 0 ∧ ¬ 2 < s ∧ s ≠ 0 ∧ p = false) ∨ (¬ s < 0 ∧ ¬ 2 < s ∧ s ≠ 0 ∧ p = true) := by cases p <;> simp <;> omega
      have bad : ∀ (_ : odd (s, p) = true), right gs = false := fun ho => by
        unfold right
        rw [show gs.all (fun g => !odd g) = false by rw [List.all_eq_false]; exact ⟨(s, p), List.mem_of_getElem? HG.out, by rw [ho]; simp⟩]
        simp
      have good : ∀ (_ : odd (s, p) = false), ∀ g ∈ gs.take (k + 1), odd g = false := fun ho g hg => by
        rw [List.take_add_one, HG.out] at hg
        simp at hg
        rcases hg with hg | rfl
        · exact HALL.out g hg
        · exact ho
      have BAD := Lib.hid bad
      have GOOD := Lib.hid good
      clear bad good
      rcases hcase with h | ⟨h, h2⟩ | ⟨h, h2, h3⟩ | ⟨h, h2, h3, rfl⟩ | ⟨h, h2, h3, rfl⟩
      · go_wp2
        go_ret
        exact ⟨ret_bool (by rw [BAD.out (by simp [odd, h])]), HB2.out⟩
      · go_wp2
        go_ret
        exact ⟨ret_bool (by rw [BAD.out (by simp [odd, h2])]), HB2.out⟩
      · subst h3
        go_wp2
        go_roundw
        case rel => exact ⟨k + 1, by omega, by go_num, GOOD.out (by simp [odd]), HB2.out⟩
        case measure => simp [intOf]; omega
      · have h4 : (s != 0) = true := by simpa using h3
        have H3 := Lib.hid h3
        clear h3
        go_wp2
        go_roundw
        case rel => exact ⟨k + 1, by omega, by go_num, GOOD.out (by simp [odd]; omega), HB2.out⟩
        case measure => simp [intOf]; omega
      · have h4 : (s != 0) = true := by simpa using h3
        have H3 := Lib.hid h3
        clear h3
        go_wp2
        go_ret
        exact ⟨ret_bool (by rw [BAD.out (by simp [odd, H3.out])]), HB2.out⟩
    · clear hrr
      go_wp2
      go_ret
      refine ⟨ret_bool ?_, HB.out⟩
      have hk' : k = n := by omega
      have h1 := HALL.out
      rw [hk', ← HL.out, List.take_length] at h1
      unfold right
      rw [show gs.all (fun g => !odd g) = true by rw [List.all_eq_true]; intro g hg; rw [h1 g hg]; rfl, HL.out]
      by_cases h8 : n ≤ 8
      · rw [decide_eq_true h8, decide_eq_true (by omega)]; rfl
      · rw [decide_eq_false h8, decide_eq_false (by omega)]; rfl

theorem refWhy_arg (A : Option Addr) (n c : Nat) (gs : List G) (i : Int) (w : World) (hr : Reads w w.heap.size 2 A n (gs.flatMap cells)) (hn : n ≤ 12) (h : right gs = false) :
    Calls Try.prog 45 #[.slice A n c, .int .i64 i] w fun e w' => e = .returned (.int .i64 1) ∧ Below w.heap.size w w' := by
  go_enter Try.func45, Try.ntmps45
  go_wp2_with fail
  refine (refRight_any A n c gs _ hr hn).mono ?_
  rintro e w1 ⟨rfl, hb⟩
  rw [h]
  go_wp2_with fail
  go_ret
  exact ⟨rfl, hb⟩
theorem refWhy_range (A : Option Addr) (n c : Nat) (gs : List G) (i : Int) (w : World) (hr : Reads w w.heap.size 2 A n (gs.flatMap cells)) (hn : n ≤ 12) (h : right gs = true) (hi : i < 0 ∨ n ≤ i) :
    Calls Try.prog 45 #[.slice A n c, .int .i64 i] w fun e w' => e = .returned (.int .i64 3) ∧ Below w.heap.size w w' := by
  rcases (show i < 0 ∨ (¬ i < 0 ∧ (n : Int) ≤ i) by omega) with hd | ⟨hd, hd2⟩
  all_goals
    go_enter Try.func45, Try.ntmps45
    go_wp2_with fail
    refine (refRight_any A n c gs _ hr hn).mono ?_
    rintro e w1 ⟨rfl, hb⟩
    rw [h]
    go_wp2_with fail
    go_ret
    exact ⟨rfl, hb⟩
theorem refWhy_in (A : Option Addr) (n c k : Nat) (gs : List G) (w : World) (hr : Reads w w.heap.size 2 A n (gs.flatMap cells)) (hn : n ≤ 12) (h : right gs = true) (hk : k < n) :
    Calls Try.prog 45 #[.slice A n c, .int .i64 k] w fun e w' => e = .returned (.int .i64 0) ∧ Below w.heap.size w w' := by
  have hd : decide ((k : Int) < 0) = false := by simp
  have hd2 : decide ((n : Int) ≤ k) = false := by simp; omega
  go_enter Try.func45, Try.ntmps45
  go_wp2_with fail
  refine (refRight_any A n c gs _ hr hn).mono ?_
  rintro e w1 ⟨rfl, hb⟩
  rw [h]
  go_wp2_with fail
  go_ret
  exact ⟨rfl, hb⟩

theorem own_empty1 (w : World) (B : Nat) (e : TypeId) (hB : B ≤ w.heap.size) : (w.alloc (.cells #[] e)).ownsRow B e 1 (.slice (some ⟨w.heap.size, 0, none⟩) 0 0) 0 [] := own_empty w B e 1 hB

set_option maxHeartbeats 1000000 in
theorem refRunnable_any (A : Option Addr) (n c : Nat) (gs : List G) (w : World) (hr : Reads w w.heap.size 2 A n (gs.flatMap cells)) (hn : n ≤ 12) :
    Calls Try.prog 44 #[.slice A n c] w fun e w' => (∃ a m cap, e = .returned (.slice a m cap) ∧ Reads w' w'.heap.size 1 a m ((runs gs).map (Value.int .i64))) ∧ Below w.heap.size w w' := by
  have hl := len_ hr
  have HL := Lib.hid hl
  clear hl
  obtain ⟨i0, hi, hz0, hz1, hz2⟩ := info_parts infoInt
  go_enter Try.func44, Try.ntmps44
  go_wp2_with fail
  go_loopw [3, 9] (fun v i wr => ∃ k : Nat, k ≤ n ∧ i = .int .i64 k ∧ wr.ownsRow w.heap.size 3 1 v (runsTo gs k).length ((runsTo gs k).map (Value.int .i64)) ∧ Below w.heap.size w wr) (fun _ i _ => n - (intOf i).toNat)
  case atStart =>
    refine ⟨0, Nat.zero_le _, rfl, ?_, (Below.refl _ _).alloc (Nat.le_refl _) _⟩
    exact own_empty1 w w.heap.size 3 (Nat.le_refl _)
  case round =>
    obtain ⟨k, hk, rfl, hown, hbw⟩ := hrel
    have hrr := hr.below hbw
    by_cases hlt : k < n
    · obtain ⟨ad, s, p, rfl, hb, hg, hc0, hc1⟩ := at_ hrr hlt
      have hsucc := runsTo_succ gs k s p hg
      have hlen := runsTo_len gs k
      have hsz := hbw.size
      have HS := Lib.hid hsucc
      have HB := Lib.hid hbw
      have HO := Lib.hid hown
      clear hsucc hrr hg hbw hown
      by_cases hs : s = 0
      · subst hs
        go_wp2_with (first
          | (at_builtin; refine wpList_append_own _ rfl _ _ 30 rfl w.heap.size 3 i0 (.int .i64 0) 1 8 Try.underlying30 hi hz0 hz1 hz2 rfl (by decide) _ _ _ rfl ((HO.out.alloc _).alloc _) ⟨wr.heap.size + 1, 0, none⟩ 1 1 [.int .i64 k] rfl rfl ?c1 ?c2 ?c3 ?c4 ?c5 ?_)
          | go_in)
        case c2 => rfl
        case c3 => simp [maxLen]; omega
        case c4 => omega
        case c5 => omega
        intro v' w' hown' hgrow _
        have hgb : ∀ g, u3.ownBlock = some g → w.heap.size ≤ g := fun g hg => (HO.out.lt g hg).1
        have hb2 := ((HB.out.alloc HB.out.size (.cells #[.int .i64 0, .bool p] 55)).alloc (by simp; omega) (.cells #[.int .i64 k] 3)).grown hgrow (by simp; omega) hgb
        have HO2 := Lib.hid hown'
        have HB2 := Lib.hid hb2
        clear hgrow hgb hown' hb2
        go_wp2
        go_roundw
        case rel =>
          refine ⟨k + 1, by omega, by go_num, ?_, HB2.out⟩
          rw [HS.out]
          simpa using HO2.out
        case measure => simp [intOf]; omega
      · have hs' : (s == 0) = false := by simpa using hs
        have HS2 := Lib.hid hs
        clear hs
        have hb2 := HB.out.alloc HB.out.size (.cells #[.int .i64 s, .bool p] 55)
        have HB2 := Lib.hid hb2
        clear hb2
        go_wp2_with fail
        go_roundw
        case rel =>
          refine ⟨k + 1, by omega, by go_num, ?_, HB2.out⟩
          rw [HS.out, if_neg HS2.out, List.append_nil]
          exact HO.out.alloc _
        case measure => simp [intOf]; omega
    · have HB := Lib.hid hbw
      obtain ⟨A', c', rfl, hrd⟩ := own_reads hown
      have HRD := Lib.hid hrd
      clear hbw hrr hown hrd
      go_wp2
      go_ret
      have hk' : k = gs.length := by rw [HL.out]; omega
      exact ⟨⟨A', _, c', rfl, by rw [show runs gs = runsTo gs k by rw [hk']; rfl]; exact HRD.out⟩, HB.out⟩

theorem sameInt_any (A B : Option Addr) (n c m c' : Nat) (xs : List Int) (w : World) (hx : Reads w w.heap.size 1 A n (xs.map (Value.int .i64))) (hy : Reads w w.heap.size 1 B m (xs.map (Value.int .i64))) (hn : n ≤ maxLen) :
    Calls Try.prog 43 #[.slice A n c, .slice B m c'] w fun e w' => e = .returned (.bool true) ∧ Below w.heap.size w w' := by
  unfold maxLen at hn
  have hlx := hx.int_len
  have hly := hy.int_len
  obtain rfl : n = m := by omega
  clear hlx hly
  have hne : ((n : Int) != n) = false := by simp
  go_enter Try.func43, Try.ntmps43
  go_wp2_with fail
  go_loopw [13] (fun i wr => ∃ k : Nat, k ≤ n ∧ i = .int .i64 k ∧ Below w.heap.size w wr) (fun i _ => n - (intOf i).toNat)
  case atStart => exact ⟨0, Nat.zero_le _, rfl, Below.refl _ _⟩
  case round =>
    obtain ⟨k, hk, rfl, hbw⟩ := hrel
    have hxr := hx.below hbw
    have hyr := hy.below hbw
    have HB := Lib.hid hbw
    clear hbw
    by_cases hlt : k < n
    · obtain ⟨ad, z, rfl, _, hz, hc0⟩ := hxr.int_at hlt
      obtain ⟨ad', z', rfl, _, hz', hc0'⟩ := hyr.int_at hlt
      rw [hz] at hz'
      obtain rfl := Option.some.inj hz'
      clear hz hz' hxr hyr
      have hzz : (z != z) = false := by simp
      go_wp2_with fail
      go_quiet (fail)
      go_wp2
      go_roundw
      case rel => exact ⟨k + 1, by omega, by go_num, below_drewN HB.out _⟩
      case measure => simp [intOf]; omega
    · clear hxr hyr
      go_wp2
      go_ret
      exact ⟨rfl, HB.out⟩
end Park
end Go.Proofs.Yteejgejeggackaa
