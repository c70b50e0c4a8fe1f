/-
  The contracts that Spread (layer 4) leans on: slices.ContainsFunc, Max and Min over ints, and Spread itself.
-/
import Derived.Test.YteejgejeggackaaWords
import Derived.Test.YteejgejeggackaaClock
namespace Go.Proofs.Yteejgejeggackaa
open Go.RowKit
namespace Clock

/-- Spread's own test. -/
theorem odd_any (t : Int) (w : World) : Calls Try.prog 68 #[.int .i64 t] w fun e w' => e = .returned (.bool (!right t)) ∧ w = w' := by
  go_enter Try.func68, Try.ntmps68
  go_wp2_with fail
  refine (right_any t _).mono ?_
  rintro e w' ⟨rfl, rfl⟩
  go_wp2_with fail
  go_ret
  exact ⟨rfl, rfl⟩

theorem idx_any (A : Option Addr) (n c : Nat) (zs : List Int) (w : World) (hr : Reads w w.heap.size 1 A n (zs.map (Value.int .i64))) (hn : n ≤ maxLen) :
    Calls Try.prog 90 #[.slice A n c, .func (.func 68) #[] #[]] w fun e w' => (∃ i : Int, -1 ≤ i ∧ e = .returned (.int .i64 i) ∧ (0 ≤ i ↔ ∃ z ∈ zs, right z = false)) ∧ w = w' := by
  unfold maxLen at hn
  have hl := hr.int_len
  have HL := Lib.hid hl
  clear hl
  go_enter Try.func90, Try.ntmps90
  go_wp2_with fail
  go_loop [8] (fun i => ∃ k : Nat, k ≤ n ∧ i = .int .i64 k ∧ ∀ z ∈ zs.take k, right z = true) (fun i => n - (intOf i).toNat)
  case atStart => exact ⟨0, Nat.zero_le _, rfl, by simp⟩
  case round =>
    obtain ⟨k, hk, rfl, hall⟩ := hrel
    have HALL := Lib.hid hall
    clear hall
    by_cases hlt : k < n
    · obtain ⟨ad, z, rfl, hb, hz, hc⟩ := hr.int_at hlt
      have HZ := Lib.hid hz
      clear hz
      go_wp2_with fail
      refine (odd_any z _).mono ?_
      rintro e w' ⟨rfl, rfl⟩
      cases hrz : right z with
      | true =>
        have HR := Lib.hid hrz
        clear hrz
        go_wp2
        go_round
        case rel =>
          refine ⟨k + 1, by omega, by go_num, fun y hy => ?_⟩
          rw [List.take_add_one, HZ.out] at hy
          simp at hy
          rcases hy with hy | rfl
          · exact HALL.out y hy
          · exact HR.out
        case measure => simp [intOf]; omega
      | false =>
        have HR := Lib.hid hrz
        clear hrz
        go_wp2
        go_ret
        exact ⟨⟨k, by omega, rfl, fun _ => ⟨z, List.mem_of_getElem? HZ.out, HR.out⟩, fun _ => by omega⟩, rfl⟩
    · go_wp2
      go_ret
      refine ⟨⟨-1, by omega, rfl, fun h => absurd h (by omega), fun ⟨z, hz, hzf⟩ => ?_⟩, rfl⟩
      have hk' : k = n := by omega
      have h2 := HALL.out z (by rw [hk', ← HL.out, List.take_length]; exact hz)
      rw [h2] at hzf
      cases hzf
theorem contains_any (A : Option Addr) (n c : Nat) (zs : List Int) (w : World) (hr : Reads w w.heap.size 1 A n (zs.map (Value.int .i64))) (hn : n ≤ maxLen) :
    Calls Try.prog 67 #[.slice A n c, .func (.func 68) #[] #[]] w fun e w' => e = .returned (.bool (!zs.all right)) ∧ w = w' := by
  go_enter Try.func67, Try.ntmps67
  go_wp2_with fail
  refine (idx_any A n c zs _ hr hn).mono ?_
  rintro e w' ⟨⟨i, hi, rfl, hiff⟩, rfl⟩
  have HI := Lib.hid hiff
  clear hiff
  go_wp2_with fail
  go_ret
  refine ⟨ret_bool ?_, rfl⟩
  rw [Bool.eq_iff_iff]
  simp [HI.out]

theorem max_any (A : Option Addr) (n c : Nat) (zs : List Int) (w : World) (hr : Reads w w.heap.size 1 A n (zs.map (Value.int .i64))) (h0 : 0 < n) (hn : n ≤ maxLen) :
    Calls Try.prog 69 #[.slice A n c] w fun e w' => (∃ m : Int, e = .returned (.int .i64 m) ∧ m ∈ zs ∧ ∀ z ∈ zs, z ≤ m) ∧ w = w' := by
  unfold maxLen at hn
  have hl := hr.int_len
  have HL := Lib.hid hl
  clear hl
  obtain ⟨ad, z0, rfl, _, hz0, hc0⟩ := hr.int_at h0
  have HZ0 := Lib.hid hz0
  clear hz0
  have hc0' : w.cell? ad = some (.int .i64 z0) := by simpa [Addr.add] using hc0
  go_enter Try.func69, Try.ntmps69
  go_wp2_with fail
  go_loop [3, 4] (fun m i => ∃ (k : Nat) (q : Int), 1 ≤ k ∧ k ≤ n ∧ i = .int .i64 k ∧ m = .int .i64 q ∧ q ∈ zs.take k ∧ ∀ z ∈ zs.take k, z ≤ q) (fun _ i => n - (intOf i).toNat)
  case atStart =>
    refine ⟨1, z0, by omega, by omega, rfl, rfl, ?_, ?_⟩
    · rw [List.take_add_one, HZ0.out]; simp
    · rw [List.take_add_one, HZ0.out]; simp
  case round =>
    obtain ⟨k, q, hk1, hk, rfl, rfl, hq, hle⟩ := hrel
    have HQ := Lib.hid hq
    have HLE := Lib.hid hle
    clear hq hle
    by_cases hlt : k < n
    · obtain ⟨ad', z, hA, _, hz, hc⟩ := hr.int_at hlt
      obtain rfl : ad = ad' := by injection hA
      have HZ := Lib.hid hz
      clear hz hA
      by_cases hqz : z ≤ q
      · go_wp2
        go_round
        case rel =>
          refine ⟨k + 1, q, by omega, by omega, by go_num, rfl, ?_, ?_⟩
          · rw [List.take_add_one]; exact List.mem_append_left _ HQ.out
          · rw [List.take_add_one, HZ.out]
            intro y hy
            simp at hy
            rcases hy with hy | rfl
            · exact HLE.out y hy
            · exact hqz
        case measure => simp [intOf]; omega
      · go_wp2
        go_round
        case rel =>
          refine ⟨k + 1, z, by omega, by omega, by go_num, rfl, ?_, ?_⟩
          · rw [List.take_add_one, HZ.out]; simp
          · rw [List.take_add_one, HZ.out]
            intro y hy
            simp at hy
            rcases hy with hy | rfl
            · have := HLE.out y hy; omega
            · exact Int.le_refl _
        case measure => simp [intOf]; omega
    · go_wp2
      go_ret
      have hk' : k = n := by omega
      have e : zs.take k = zs := by rw [hk', ← HL.out, List.take_length]
      exact ⟨⟨q, rfl, e ▸ HQ.out, e ▸ HLE.out⟩, rfl⟩

theorem min_any (A : Option Addr) (n c : Nat) (zs : List Int) (w : World) (hr : Reads w w.heap.size 1 A n (zs.map (Value.int .i64))) (h0 : 0 < n) (hn : n ≤ maxLen) :
    Calls Try.prog 70 #[.slice A n c] w fun e w' => (∃ m : Int, e = .returned (.int .i64 m) ∧ m ∈ zs ∧ ∀ z ∈ zs, m ≤ z) ∧ w = w' := by
  unfold maxLen at hn
  have hl := hr.int_len
  have HL := Lib.hid hl
  clear hl
  obtain ⟨ad, z0, rfl, _, hz0, hc0⟩ := hr.int_at h0
  have HZ0 := Lib.hid hz0
  clear hz0
  have hc0' : w.cell? ad = some (.int .i64 z0) := by simpa [Addr.add] using hc0
  go_enter Try.func70, Try.ntmps70
  go_wp2_with fail
  go_loop [3, 4] (fun m i => ∃ (k : Nat) (q : Int), 1 ≤ k ∧ k ≤ n ∧ i = .int .i64 k ∧ m = .int .i64 q ∧ q ∈ zs.take k ∧ ∀ z ∈ zs.take k, q ≤ z) (fun _ i => n - (intOf i).toNat)
  case atStart =>
    refine ⟨1, z0, by omega, by omega, rfl, rfl, ?_, ?_⟩
    · rw [List.take_add_one, HZ0.out]; simp
    · rw [List.take_add_one, HZ0.out]; simp
  case round =>
    obtain ⟨k, q, hk1, hk, rfl, rfl, hq, hle⟩ := hrel
    have HQ := Lib.hid hq
    have HLE := Lib.hid hle
    clear hq hle
    by_cases hlt : k < n
    · obtain ⟨ad', z, hA, _, hz, hc⟩ := hr.int_at hlt
      obtain rfl : ad = ad' := by injection hA
      have HZ := Lib.hid hz
      clear hz hA
      by_cases hzq : ¬ z < q
      · have hqz : q ≤ z := by omega
        go_wp2
        go_round
        case rel =>
          refine ⟨k + 1, q, by omega, by omega, by go_num, rfl, ?_, ?_⟩
          · rw [List.take_add_one]; exact List.mem_append_left _ HQ.out
          · rw [List.take_add_one, HZ.out]
            intro y hy
            simp at hy
            rcases hy with hy | rfl
            · exact HLE.out y hy
            · exact hqz
        case measure => simp [intOf]; omega
      · have hzq : z < q := by omega
        go_wp2
        go_round
        case rel =>
          refine ⟨k + 1, z, by omega, by omega, by go_num, rfl, ?_, ?_⟩
          · rw [List.take_add_one, HZ.out]; simp
          · rw [List.take_add_one, HZ.out]
            intro y hy
            simp at hy
            rcases hy with hy | rfl
            · have := HLE.out y hy; omega
            · exact Int.le_refl _
        case measure => simp [intOf]; omega
    · go_wp2
      go_ret
      have hk' : k = n := by omega
      have e : zs.take k = zs := by rw [hk', ← HL.out, List.take_length]
      exact ⟨⟨q, rfl, e ▸ HQ.out, e ▸ HLE.out⟩, rfl⟩

theorem spread_no (A : Option Addr) (n c : Nat) (zs : List Int) (w : World) (hr : Reads w w.heap.size 1 A n (zs.map (Value.int .i64))) (hn : n ≤ maxLen) (h : zs.all right = false) :
    Calls Try.prog 19 #[.slice A n c] w fun e w' => e = .returned (.tuple #[.int .i64 0, .int .i64 1]) ∧ w = w' := by
  go_enter Try.func19, Try.ntmps19
  go_wp2_with fail
  refine (contains_any A n c zs _ hr hn).mono ?_
  rintro e w' ⟨rfl, rfl⟩
  rw [h]
  go_wp2_with fail
  go_ret2
  exact ⟨rfl, rfl⟩

/-- What the spread of some times is. -/
def IsSpread (zs : List Int) (s : Int) : Prop := (zs = [] ∧ s = 0) ∨ ∃ a ∈ zs, ∃ b ∈ zs, s = a - b ∧ ∀ z ∈ zs, b ≤ z ∧ z ≤ a

theorem spread_yes (A : Option Addr) (n c : Nat) (zs : List Int) (w : World) (hr : Reads w w.heap.size 1 A n (zs.map (Value.int .i64))) (hn : n ≤ maxLen) (h : zs.all right = true) :
    Calls Try.prog 19 #[.slice A n c] w fun e w' => (∃ s : Int, e = .returned (.tuple #[.int .i64 s, .int .i64 0]) ∧ IsSpread zs s) ∧ w = w' := by
  have hl := hr.int_len
  by_cases h0 : 0 < n
  · have hn0 : ((n : Int) == 0) = false := by simp; omega
    have HL := Lib.hid hl
    clear hl
    go_enter Try.func19, Try.ntmps19
    go_wp2_with fail
    refine (contains_any A n c zs _ hr hn).mono ?_
    rintro e w' ⟨rfl, rfl⟩
    rw [h]
    go_wp2_with fail
    refine (max_any A n c zs _ hr h0 hn).mono ?_
    rintro e w' ⟨⟨a, rfl, ha1, ha2⟩, rfl⟩
    go_wp2_with fail
    refine (min_any A n c zs _ hr h0 hn).mono ?_
    rintro e w' ⟨⟨b, rfl, hb1, hb2⟩, rfl⟩
    have ha := right_bd (List.all_eq_true.1 h a ha1)
    have hb := right_bd (List.all_eq_true.1 h b hb1)
    obtain ⟨ha3, ha4⟩ := ha
    obtain ⟨hb3, hb4⟩ := hb
    have HA := Lib.hid ha2
    have HB := Lib.hid hb2
    clear ha2 hb2
    go_wp2_with fail
    go_ret2
    exact ⟨⟨a - b, rfl, Or.inr ⟨a, ha1, b, hb1, rfl, fun z hz => ⟨HB.out z hz, HA.out z hz⟩⟩⟩, rfl⟩
  · obtain rfl : n = 0 := by omega
    have hz := List.eq_nil_of_length_eq_zero hl
    have HZ := Lib.hid hz
    clear hz hl
    go_enter Try.func19, Try.ntmps19
    go_wp2_with fail
    refine (contains_any A 0 c zs _ hr hn).mono ?_
    rintro e w' ⟨rfl, rfl⟩
    rw [h]
    go_wp2_with fail
    go_ret2
    exact ⟨⟨0, rfl, Or.inl ⟨HZ.out, rfl⟩⟩, rfl⟩
end Clock
end Go.Proofs.Yteejgejeggackaa
