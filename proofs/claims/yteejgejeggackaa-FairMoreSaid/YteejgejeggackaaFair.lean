/-
  The contracts of package fair: the masks' own test, who has steps, and the plain words of what is fair and live.
-/
import Derived.Test.YteejgejeggackaaLScriptTells
import Derived.Test.YteejgejeggackaaFlags
namespace Go.Proofs.Yteejgejeggackaa
open Go.RowKit
namespace Fair
open Script
def mok (m : Int) : Bool := decide (0 ≤ m ∧ m ≤ 255)
theorem odd_any (t : Int) (w : World) : Calls Try.prog 88 #[.int .i64 t] w fun e w' => e = .returned (.bool (!mok t)) ∧ w = w' := by
  by_cases h : t < 0
  · have hm : Hid (mok t = false) := by unfold Hid; simp [mok]; omega
    go_enter Try.func88, Try.ntmps88
    go_wp2_with fail
    go_ret
    exact ⟨ret_bool (by rw [hm.out]; rfl), rfl⟩
  · by_cases h2 : 255 < t
    · have hm : Hid (mok t = false) := by unfold Hid; simp [mok]; omega
      go_enter Try.func88, Try.ntmps88
      go_wp2_with fail
      go_ret
      exact ⟨ret_bool (by rw [hm.out]; rfl), rfl⟩
    · have hm : Hid (mok t = true) := by unfold Hid; simp [mok]; omega
      go_enter Try.func88, Try.ntmps88
      go_wp2_with fail
      go_ret
      exact ⟨ret_bool (by rw [hm.out]; rfl), rfl⟩
theorem idx_any (A : Option Addr) (n c : Nat) (zs : List Int) (w : World) (hr : Reads w w.heap.size 1 A n (zs.map (Value.int .i64))) (hn : n ≤ maxLen) :
    Calls Try.prog 90 #[.slice A n c, .func (.func 88) #[] #[]] w fun e w' => (∃ i : Int, -1 ≤ i ∧ e = .returned (.int .i64 i) ∧ (0 ≤ i ↔ ∃ z ∈ zs, mok z = false)) ∧ w = w' := by
  unfold maxLen at hn
  have hl := hr.int_len
  have HL := Lib.hid hl
  clear hl
  go_enter Try.func90, Try.ntmps90
  go_wp2_with fail
  go_loop [8] (fun i => ∃ k : Nat, k ≤ n ∧ i = .int .i64 k ∧ ∀ z ∈ zs.take k, mok z = true) (fun i => n - (intOf i).toNat)
  case atStart => exact ⟨0, Nat.zero_le _, rfl, by simp⟩
  case round =>
    obtain ⟨k, hk, rfl, hall⟩ := hrel
    have HALL := Lib.hid hall
    clear hall
    by_cases hlt : k < n
    · obtain ⟨ad, z, rfl, hb, hz, hc⟩ := hr.int_at hlt
      have HZ := Lib.hid hz
      clear hz
      go_wp2_with fail
      refine (odd_any z _).mono ?_
      rintro e w' ⟨rfl, rfl⟩
      cases hrz : mok z with
      | true =>
        have HR := Lib.hid hrz
        clear hrz
        go_wp2
        go_round
        case rel =>
          refine ⟨k + 1, by omega, by go_num, fun y hy => ?_⟩
          rw [List.take_add_one, HZ.out] at hy
          simp at hy
          rcases hy with hy | rfl
          · exact HALL.out y hy
          · exact HR.out
        case measure => simp [intOf]; omega
      | false =>
        have HR := Lib.hid hrz
        clear hrz
        go_wp2
        go_ret
        exact ⟨⟨k, by omega, rfl, fun _ => ⟨z, List.mem_of_getElem? HZ.out, HR.out⟩, fun _ => by omega⟩, rfl⟩
    · go_wp2
      go_ret
      refine ⟨⟨-1, by omega, rfl, fun h => absurd h (by omega), fun ⟨z, hz, hzf⟩ => ?_⟩, rfl⟩
      have hk' : k = n := by omega
      have h2 := HALL.out z (by rw [hk', ← HL.out, List.take_length]; exact hz)
      rw [h2] at hzf
      cases hzf
theorem contains_any (A : Option Addr) (n c : Nat) (zs : List Int) (w : World) (hr : Reads w w.heap.size 1 A n (zs.map (Value.int .i64))) (hn : n ≤ maxLen) :
    Calls Try.prog 67 #[.slice A n c, .func (.func 88) #[] #[]] w fun e w' => e = .returned (.bool (!zs.all mok)) ∧ w = w' := by
  go_enter Try.func67, Try.ntmps67
  go_wp2_with fail
  refine (idx_any A n c zs _ hr hn).mono ?_
  rintro e w' ⟨⟨i, hi, rfl, hiff⟩, rfl⟩
  have HI := Lib.hid hiff
  clear hiff
  go_wp2_with fail
  go_ret
  refine ⟨ret_bool ?_, rfl⟩
  rw [Bool.eq_iff_iff]
  simp [HI.out]


/-- Is somebody stepped q times in a row, n times being behind already? -/
def run (who q : Int) : Int → List Int → Bool
  | _, [] => false
  | n, z :: zs => if ((pick z).1 == 0 && (pick z).2 == who) = true then if q ≤ n + 1 then true else run who q (n + 1) zs else run who q 0 zs

theorem has_any (A : Option Addr) (n c : Nat) (zs : List Int) (who q : Int) (hn : n ≤ 1000000) (w : World) (hr : Reads w w.heap.size 2 A n (zs.flatMap pcells)) :
    Calls Try.prog 89 #[.slice A n c, .int .i64 who, .int .i64 q] w fun e w' => e = .returned (.bool (run who q 0 zs)) ∧ Below w.heap.size w w' := by
  have hl : zs.length = n := by have := hr.1; rw [flat_len pcells 2 (fun _ => rfl)] at this; omega
  have HL := Lib.hid hl
  have HR := Lib.hid hr
  clear hl hr
  go_enter Try.func89, Try.ntmps89
  go_wp2_with fail
  go_loopw [7, 12] (fun m i wr => ∃ (k : Nat) (a : Int), k ≤ n ∧ i = .int .i64 k ∧ m = .int .i64 a ∧ 0 ≤ a ∧ a ≤ k ∧ run who q 0 zs = run who q a (zs.drop k) ∧ Below w.heap.size w wr) (fun _ i _ => n - (intOf i).toNat)
  case atStart => exact ⟨0, 0, Nat.zero_le _, rfl, rfl, by omega, by omega, rfl, Below.refl _ _⟩
  case round =>
    obtain ⟨k, a, hk, rfl, rfl, ha0, hak, hrun, hb⟩ := hrel
    have HB := Lib.hid hb
    have HRUN := Lib.hid hrun
    clear hb hrun
    by_cases hlt : k < n
    · obtain ⟨z, hz⟩ : ∃ z, zs[k]? = some z := ⟨_, List.getElem?_eq_getElem (by rw [HL.out]; exact hlt)⟩
      have hdrop : Hid (zs.drop k = z :: zs.drop (k + 1)) := by
        unfold Hid
        obtain ⟨h1, h2⟩ := List.getElem?_eq_some_iff.1 hz
        rw [List.drop_eq_getElem_cons h1, h2]
      obtain ⟨ad, rfl, hbl, hd0, hd1⟩ := Script.pair_at (HR.out.below HB.out) hlt hz
      have hst : Hid (run who q a (zs.drop k) = if ((pick z).1 == 0 && (pick z).2 == who) = true then if q ≤ a + 1 then true else run who q (a + 1) (zs.drop (k + 1)) else run who q 0 (zs.drop (k + 1))) := by
        unfold Hid; rw [hdrop.out]; rfl
      obtain ⟨p2, hp⟩ : ∃ p, (pick z).1 = p := ⟨_, rfl⟩
      obtain ⟨q2, hq⟩ : ∃ q, (pick z).2 = q := ⟨_, rfl⟩
      rw [hp] at hd0 hst
      rw [hq] at hd1 hst
      have nq := pick_neq p2 q2 0 who
      have gq := fun x y w => pick_guard .neq x y p2 q2 0 who w
      have hk0 : (0 : Int) ≤ k := by omega
      have hk1 : (k : Int) < n := by omega
      clear hp hq hz hdrop
      cases ht : (p2 == 0 && q2 == who)
      · rw [ht] at nq hst
        have hs2 : Hid (run who q a (zs.drop k) = run who q 0 (zs.drop (k + 1))) := by unfold Hid; rw [hst.out]; rfl
        clear hst
        go_wp2_with fail
        go_roundw
        case rel => exact ⟨k + 1, 0, by omega, by go_num, rfl, by omega, by omega, HRUN.out.trans hs2.out, HB.out.alloc HB.out.size _⟩
        case measure => simp [intOf]; omega
      · rw [ht] at nq hst
        by_cases hge : q ≤ a + 1
        · have hs2 : Hid (run who q a (zs.drop k) = true) := by unfold Hid; rw [hst.out, if_pos rfl, if_pos hge]
          clear hst
          go_wp2_with fail
          go_ret
          exact ⟨ret_bool (HRUN.out.trans hs2.out).symm, HB.out.alloc HB.out.size _⟩
        · have hs2 : Hid (run who q a (zs.drop k) = run who q (a + 1) (zs.drop (k + 1))) := by unfold Hid; rw [hst.out, if_pos rfl, if_neg hge]
          clear hst
          go_wp2_with fail
          go_roundw
          case rel => exact ⟨k + 1, a + 1, by omega, by go_num, rfl, by omega, by omega, HRUN.out.trans hs2.out, HB.out.alloc HB.out.size _⟩
          case measure => simp [intOf]; omega
    · have hk' : k = n := by omega
      have hs2 : Hid (run who q a (zs.drop k) = false) := by unfold Hid; rw [hk', ← HL.out, List.drop_length]; rfl
      go_wp2_with fail
      go_ret
      exact ⟨ret_bool (HRUN.out.trans hs2.out).symm, HB.out⟩
end Fair
end Go.Proofs.Yteejgejeggackaa
