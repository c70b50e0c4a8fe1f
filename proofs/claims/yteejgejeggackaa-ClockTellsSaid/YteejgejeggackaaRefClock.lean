/-
  The walks of ClockTells and ClockGoes (layer 4), and the document's own functions that they go through.
-/
import Derived.Test.YteejgejeggackaaLClock
import Derived.Test.YteejgejeggackaaSpread
namespace Go.Proofs.Yteejgejeggackaa
open Go.RowKit
namespace Clock

theorem refRight_any (t : Int) (w : World) : Calls Try.prog 21 #[.int .i64 t] w fun e w' => e = .returned (.bool (right t)) ∧ w = w' := by
  unfold right
  by_cases h0 : 0 ≤ t
  · have h2 : decide (0 ≤ t) = true := by simpa using h0
    by_cases h1 : t ≤ 4611686018427387904
    · have h3 : decide (t ≤ 4611686018427387904) = true := by simpa using h1
      rw [decide_eq_true (show 0 ≤ t ∧ t ≤ 4611686018427387904 from ⟨h0, h1⟩)]
      go_enter Try.func21, Try.ntmps21
      go_wp2
      go_ret
      exact ⟨rfl, rfl⟩
    · have h3 : decide (t ≤ 4611686018427387904) = false := by simpa using h1
      rw [decide_eq_false (show ¬ (0 ≤ t ∧ t ≤ 4611686018427387904) from fun h => h1 h.2)]
      go_enter Try.func21, Try.ntmps21
      go_wp2
      go_ret
      exact ⟨rfl, rfl⟩
  · have h2 : decide (0 ≤ t) = false := by simpa using h0
    rw [decide_eq_false (show ¬ (0 ≤ t ∧ t ≤ 4611686018427387904) from fun h => h0 h.1)]
    go_enter Try.func21, Try.ntmps21
    go_wp2
    go_ret
    exact ⟨rfl, rfl⟩

theorem refAll_any (A : Option Addr) (n c : Nat) (zs : List Int) (w : World) (hr : Reads w w.heap.size 1 A n (zs.map (Value.int .i64))) (hn : n ≤ maxLen) :
    Calls Try.prog 22 #[.slice A n c] w fun e w' => e = .returned (.bool (zs.all right)) ∧ w = w' := by
  unfold maxLen at hn
  have hl := hr.int_len
  have HL := Lib.hid hl
  clear hl
  go_enter Try.func22, Try.ntmps22
  go_wp2_with fail
  go_loop [7] (fun i => ∃ k : Nat, k ≤ n ∧ i = .int .i64 k ∧ ∀ z ∈ zs.take k, right z = true) (fun i => n - (intOf i).toNat)
  case atStart => exact ⟨0, Nat.zero_le _, rfl, by simp⟩
  case round =>
    obtain ⟨k, hk, rfl, hall⟩ := hrel
    have HALL := Lib.hid hall
    clear hall
    by_cases hlt : k < n
    · obtain ⟨ad, z, rfl, hb, hz, hc⟩ := hr.int_at hlt
      have HZ := Lib.hid hz
      clear hz
      go_wp2_with fail
      refine (refRight_any z _).mono ?_
      rintro e w' ⟨rfl, rfl⟩
      cases hrz : right z with
      | true =>
        have HR := Lib.hid hrz
        clear hrz
        go_wp2
        go_round
        case rel =>
          refine ⟨k + 1, by omega, by go_num, fun y hy => ?_⟩
          rw [List.take_add_one, HZ.out] at hy
          simp at hy
          rcases hy with hy | rfl
          · exact HALL.out y hy
          · exact HR.out
        case measure => simp [intOf]; omega
      | false =>
        have HR := Lib.hid hrz
        clear hrz
        go_wp2
        go_ret
        exact ⟨ret_bool (by rw [eq_comm, List.all_eq_false]; exact ⟨z, List.mem_of_getElem? HZ.out, by rw [HR.out]; simp⟩), rfl⟩
    · go_wp2
      go_ret
      have hk' : k = n := by omega
      exact ⟨ret_bool (by rw [eq_comm, List.all_eq_true]; intro z hz; exact HALL.out z (by rw [hk', ← HL.out, List.take_length]; exact hz)), rfl⟩

theorem refSince_any (a b : Int) (ha : right a = true) (hb : right b = true) (w : World) :
    Calls Try.prog 24 #[.int .i64 a, .int .i64 b] w fun e w' => e = .returned (.int .i64 (max (a - b) 0)) ∧ w = w' := by
  obtain ⟨a0, a1⟩ := right_bd ha
  obtain ⟨b0, b1⟩ := right_bd hb
  by_cases h2 : 0 ≤ a - b
  all_goals
    go_enter Try.func24, Try.ntmps24
    go_wp2_with fail
    go_ret
    refine ⟨?_, rfl⟩
    first | (rw [Int.max_eq_left (by omega)]; rfl) | (rw [Int.max_eq_right (by omega)]; rfl)

theorem refLate_any (a b : Int) (ha : right a = true) (hb : right b = true) (w : World) :
    Calls Try.prog 25 #[.int .i64 a, .int .i64 b] w fun e w' => e = .returned (.bool (decide (1000000 < max (a - b) 0))) ∧ w = w' := by
  go_enter Try.func25, Try.ntmps25
  go_wp2_with fail
  refine (refSince_any a b ha hb _).mono ?_
  rintro e w' ⟨rfl, rfl⟩
  go_wp2_with fail
  go_ret
  exact ⟨rfl, rfl⟩

theorem refSpread_any (A : Option Addr) (n c : Nat) (zs : List Int) (w : World) (hr : Reads w w.heap.size 1 A n (zs.map (Value.int .i64))) (hn : n ≤ maxLen) (h : zs.all right = true) :
    Calls Try.prog 23 #[.slice A n c] w fun e w' => (∃ s : Int, e = .returned (.int .i64 s) ∧ (∀ a ∈ zs, ∀ b ∈ zs, a - b ≤ s) ∧ (s = 0 ∨ ∃ a ∈ zs, ∃ b ∈ zs, s = a - b)) ∧ w = w' := by
  unfold maxLen at hn
  have hl := hr.int_len
  have HL := Lib.hid hl
  have H := Lib.hid h
  clear hl h
  go_enter Try.func23, Try.ntmps23
  go_wp2_with fail
  go_loop [3, 10] (fun o i => ∃ (k : Nat) (s : Int), k ≤ n ∧ 0 ≤ s ∧ s ≤ 4611686018427387904 ∧ i = .int .i64 k ∧ o = .int .i64 s ∧ (∀ a ∈ zs.take k, ∀ b ∈ zs, a - b ≤ s) ∧ (s = 0 ∨ ∃ a ∈ zs, ∃ b ∈ zs, s = a - b)) (fun _ i => n - (intOf i).toNat)
  case atStart => exact ⟨0, 0, Nat.zero_le _, by omega, by omega, rfl, rfl, by simp, Or.inl rfl⟩
  case round =>
    obtain ⟨k, s, hk, hs0, hs1, rfl, rfl, hle, hor⟩ := hrel
    have HLE := Lib.hid hle
    have HOR := Lib.hid hor
    clear hle hor
    by_cases hlt : k < n
    · obtain ⟨ad, z, rfl, hb, hz, hc⟩ := hr.int_at hlt
      have hz' := List.mem_of_getElem? hz
      obtain ⟨z0, z1⟩ := right_bd (List.all_eq_true.1 H.out z hz')
      have HZ := Lib.hid hz
      have HZ' := Lib.hid hz'
      clear hz hz'
      go_wp2_with fail
      go_loop [3, 16] (fun o i => ∃ (j : Nat) (s : Int), j ≤ n ∧ 0 ≤ s ∧ s ≤ 4611686018427387904 ∧ i = .int .i64 j ∧ o = .int .i64 s ∧ (∀ a ∈ zs.take k, ∀ b ∈ zs, a - b ≤ s) ∧ (∀ b ∈ zs.take j, z - b ≤ s) ∧ (s = 0 ∨ ∃ a ∈ zs, ∃ b ∈ zs, s = a - b)) (fun _ i => n - (intOf i).toNat)
      case atStart => exact ⟨0, s, Nat.zero_le _, hs0, hs1, rfl, rfl, HLE.out, by simp, HOR.out⟩
      case round =>
        clear HLE HOR hs0 hs1
        obtain ⟨j, s', hj, hs0, hs1, rfl, rfl, hle, hle2, hor⟩ := hrel
        have HLE := Lib.hid hle
        have HLE2 := Lib.hid hle2
        have HOR := Lib.hid hor
        clear hle hor hle2
        by_cases hjlt : j < n
        · obtain ⟨ad', y, hA, _, hy, hcy⟩ := hr.int_at hjlt
          obtain rfl : ad = ad' := by injection hA
          have hy' := List.mem_of_getElem? hy
          obtain ⟨y0, y1⟩ := right_bd (List.all_eq_true.1 H.out y hy')
          have HY := Lib.hid hy
          have HY' := Lib.hid hy'
          clear hy hy' hA
          by_cases hqz : z - y ≤ s'
          · go_wp2
            go_round
            case rel =>
              refine ⟨j + 1, s', by omega, by omega, by omega, by go_num, rfl, HLE.out, ?_, HOR.out⟩
              rw [List.take_add_one, HY.out]
              intro x hx
              simp at hx
              rcases hx with hx | rfl
              · exact HLE2.out x hx
              · exact hqz
            case measure => simp [intOf]; omega
          · go_wp2
            go_round
            case rel =>
              refine ⟨j + 1, z - y, by omega, by omega, by omega, by go_num, rfl, ?_, ?_, Or.inr ⟨z, HZ'.out, y, HY'.out, rfl⟩⟩
              · intro a ha b hb
                have := HLE.out a ha b hb
                omega
              · rw [List.take_add_one, HY.out]
                intro x hx
                simp at hx
                rcases hx with hx | rfl
                · have := HLE2.out x hx; omega
                · exact Int.le_refl _
            case measure => simp [intOf]; omega
        · go_wp2
          go_round
          case rel =>
            have hj' : j = n := by omega
            refine ⟨k + 1, s', by omega, by omega, by omega, by go_num, rfl, ?_, HOR.out⟩
            rw [List.take_add_one, HZ.out]
            intro a ha b hb
            simp at ha
            rcases ha with ha | rfl
            · exact HLE.out a ha b hb
            · exact HLE2.out b (by rw [hj', ← HL.out, List.take_length]; exact hb)
          case measure => simp [intOf]; omega
    · go_wp2
      go_ret
      have hk' : k = n := by omega
      have e : zs.take k = zs := by rw [hk', ← HL.out, List.take_length]
      exact ⟨⟨s, rfl, by have h := HLE.out; rwa [e] at h, HOR.out⟩, rfl⟩

/-- The two ways to say what a spread is agree. -/
theorem spread_same {zs : List Int} {s t : Int} (h : IsSpread zs s) (h1 : ∀ a ∈ zs, ∀ b ∈ zs, a - b ≤ t) (h2 : t = 0 ∨ ∃ a ∈ zs, ∃ b ∈ zs, t = a - b) : s = t := by
  rcases h with ⟨rfl, rfl⟩ | ⟨a, ha, b, hb, rfl, hall⟩
  · rcases h2 with rfl | ⟨a, ha, _⟩
    · rfl
    · cases ha
  · have h3 := h1 a ha b hb
    have h4 := hall b hb
    rcases h2 with rfl | ⟨x, hx, y, hy, rfl⟩
    · omega
    · have h5 := hall x hx
      have h6 := hall y hy
      omega
end Clock
end Go.Proofs.Yteejgejeggackaa
