/-
  The contract of fair.Live.
-/
import Derived.Test.YteejgejeggackaaFair2
namespace Go.Proofs.Yteejgejeggackaa
open Go.RowKit
namespace Fair
open Script Clock
def totFrom : Int → List Int → Int
  | n, [] => n
  | n, z :: zs => if (pick z).1 = 1 then totFrom (min (n + (pick z).2) 4611686018427387904) zs else totFrom n zs
def live (zs : List Int) (K : Nat) (least : Int) : Bool := (List.range (zs.length + 1 - K)).all fun i => decide (least < totFrom 0 ((zs.drop i).take K))
theorem pick_nonneg (z : Int) : 0 ≤ (pick z).2 ∧ (pick z).2 ≤ 4611686018427387904 ∧ ((pick z).1 = 0 ∨ (pick z).1 = 1) := by
  unfold pick
  split
  · exact ⟨by simp only; omega, by simp only; omega, .inl rfl⟩
  · exact ⟨by simp only; omega, by simp only; omega, .inr rfl⟩
theorem tot_snoc (xs : List Int) (z : Int) : ∀ n, totFrom n (xs ++ [z]) = if (pick z).1 = 1 then min (totFrom n xs + (pick z).2) 4611686018427387904 else totFrom n xs := by
  induction xs with
  | nil => intro n; rw [List.nil_append]; unfold totFrom; split <;> rfl
  | cons x xs ih =>
    intro n
    rw [List.cons_append]
    unfold totFrom
    split <;> exact ih _
theorem tot_bd (zs : List Int) : ∀ (n : Int), 0 ≤ n → n ≤ 4611686018427387904 → 0 ≤ totFrom n zs ∧ totFrom n zs ≤ 4611686018427387904 := by
  induction zs with
  | nil => exact fun n h0 h => ⟨h0, h⟩
  | cons z zs ih =>
    intro n h0 h
    have h2 := pick_nonneg z
    unfold totFrom
    split
    · exact ih _ (by omega) (by omega)
    · exact ih n h0 h

set_option maxRecDepth 100000 in
set_option maxHeartbeats 8000000 in
theorem live_yes (A : Option Addr) (n c K : Nat) (least : Int) (zs : List Int) (hn : n ≤ 1000) (hnc : n ≤ c) (hcm : c ≤ maxLen) (hK : 1 ≤ K) (hK2 : K ≤ 1000000000) (hq : 0 ≤ least) (w : World)
    (hr : Reads w w.heap.size 1 A n (zs.map (Value.int .i64))) (hz : ∀ z ∈ zs, -9223372036854775808 ≤ z ∧ z ≤ 9223372036854775807) :
    Calls Try.prog 63 #[.slice A n c, .int .i64 K, .int .i64 least] w fun e w' => e = .returned (.tuple #[.bool (live zs K least), .int .i64 0]) ∧ Below w.heap.size w w' := by
  have HR := Lib.hid hr
  have HZ := Lib.hid hz
  have HL := Lib.hid hr.int_len
  have hKi : (1 : Int) ≤ K := by omega
  have hK1 : decide ((K : Int) < 1) = false := decide_eq_false (by omega)
  have hq1 : decide (least < 0) = false := decide_eq_false (by omega)
  have hc63 : (c : Int) ≤ 9223372036854775807 := by unfold maxLen at hcm; omega
  clear hr hz hcm
  go_enter Try.func63, Try.ntmps63
  by_cases hbig : n + 1 ≤ K
  · have hN : Hid (live zs K least = true) := by unfold Hid live; rw [HL.out, show n + 1 - K = 0 by omega]; rfl
    go_wp2_with fail
    go_loopw [26] (fun i wr => i = .int .i64 0 ∧ wr = w) (fun _ _ => 0)
    case atStart => exact ⟨rfl, rfl⟩
    case round =>
      obtain ⟨rfl, rfl⟩ := hrel
      go_wp2
      go_ret2
      exact ⟨by rw [hN.out]; rfl, Below.refl _ _⟩
  · obtain ⟨N, hN⟩ : ∃ N, n + 1 - K = N := ⟨_, rfl⟩
    have hNi : (n : Int) - K + 1 = N := by omega
    have hmax : max (0 : Int) N = N := by omega
    go_wp2_with fail
    go_loopw [26] (fun i wr => ∃ k : Nat, k ≤ N ∧ i = .int .i64 k ∧ (∀ j, j < k → least < totFrom 0 ((zs.drop j).take K)) ∧ Below w.heap.size w wr) (fun i _ => N - (intOf i).toNat)
    case atStart => exact ⟨0, Nat.zero_le _, rfl, fun j hj => absurd hj (by omega), Below.refl _ _⟩
    case round =>
      obtain ⟨k, hk, rfl, hall, hbr⟩ := hrel
      have HALL := Lib.hid hall
      have HBR := Lib.hid hbr
      clear hall hbr
      by_cases hlt : k < N
      · have hkK : k + K ≤ n := by omega
        obtain ⟨ad0, rfl, _, _⟩ := HR.out.2 (by omega)
        have HW := Lib.hid (win_ints (HR.out.below HBR.out) hkK (by omega))
        rw [Nat.add_sub_cancel_left] at HW
        obtain ⟨zw, hzw⟩ : ∃ zw, (zs.drop k).take K = zw := ⟨_, rfl⟩
        rw [hzw] at HW
        have HZW := Lib.hid hzw
        have HLW := Lib.hid HW.out.int_len
        have HZ2 : Hid (∀ z ∈ zw, -9223372036854775808 ≤ z ∧ z ≤ 9223372036854775807) := by
          unfold Hid
          rw [← hzw]
          exact fun z h => HZ.out z (List.mem_of_mem_drop (List.mem_of_mem_take h))
        clear hzw
        go_wp2_with fail
        simp only [Nat.add_sub_cancel_left]
        refine (all_any _ K _ zw (by omega) _ (HW.out.more HBR.out.size) HZ2.out).mono ?_
        rintro e w2 ⟨⟨D, c3, rfl, hp, hpc, hpm, _⟩, hb1⟩
        rw [HLW.out] at hp hpc ⊢
        obtain ⟨ad1, rfl, _, _⟩ := hp.2 (by omega)
        have HP := Lib.hid hp
        have HB1 := Lib.hid (bthen HBR.out hb1)
        have hc63'' : (c3 : Int) ≤ 9223372036854775807 := by unfold maxLen at hpm; omega
        clear hp hb1 hpm
        go_wp2_with fail
        obtain ⟨wo, rfl⟩ : ∃ wo : World, wo = w2 := ⟨_, rfl⟩
        go_loopw [9, 37] (fun a i wr' => ∃ j : Nat, j ≤ K ∧ i = .int .i64 j ∧ a = .int .i64 (totFrom 0 (zw.take j)) ∧ Below wo.heap.size wo wr') (fun _ i _ => K - (intOf i).toNat)
        case atStart => exact ⟨0, by omega, rfl, rfl, Below.refl _ _⟩
        case round =>
          obtain ⟨j, hj, rfl, rfl, hbr2⟩ := hrel
          have HBR2 := Lib.hid hbr2
          clear hbr2
          have hbd := tot_bd (zw.take j) 0 (by omega) (by omega)
          obtain ⟨T, hT⟩ : ∃ T, totFrom 0 (zw.take j) = T := ⟨_, rfl⟩
          by_cases hlt2 : j < K
          · obtain ⟨z, hz⟩ : ∃ z, zw[j]? = some z := ⟨_, List.getElem?_eq_getElem (by rw [HLW.out]; exact hlt2)⟩
            have hnx : Hid (totFrom 0 (zw.take (j + 1)) = if (pick z).1 = 1 then min (T + (pick z).2) 4611686018427387904 else T) := by
              unfold Hid; rw [List.take_add_one, hz, ← hT]; exact tot_snoc _ _ _
            rw [hT] at hbd ⊢
            obtain ⟨ad2, hA2, hbl, hd0, hd1⟩ := Script.pair_at (HP.out.below HBR2.out) hlt2 hz
            obtain rfl := Option.some.inj hA2
            have hpk := pick_nonneg z
            obtain ⟨p2, hp⟩ : ∃ p, (pick z).1 = p := ⟨_, rfl⟩
            obtain ⟨q2, hq⟩ : ∃ q, (pick z).2 = q := ⟨_, rfl⟩
            rw [hp] at hd0 hnx hpk
            rw [hq] at hd1 hnx hpk
            clear hA2 hz hp hq hT
            obtain ⟨hq0, hq9, hpp⟩ := hpk
            rcases hpp with rfl | rfl
            · have hn2 : Hid (totFrom 0 (zw.take (j + 1)) = T) := by unfold Hid; rw [hnx.out, if_neg (by omega)]
              clear hnx
              go_wp2_with fail
              exact ⟨⟨j + 1, by omega, by go_num, by rw [hn2.out], HBR2.out.alloc HBR2.out.size _⟩, by simp [intOf]; omega⟩
            · have hn2 : Hid (totFrom 0 (zw.take (j + 1)) = min (T + q2) 4611686018427387904) := by unfold Hid; rw [hnx.out, if_pos rfl]
              clear hnx
              have hrT : Hid (Clock.right T = true) := by unfold Hid Clock.right; exact decide_eq_true ⟨hbd.1, hbd.2⟩
              have hrq : Hid (Clock.right q2 = true) := by unfold Hid Clock.right; exact decide_eq_true ⟨hq0, hq9⟩
              go_wp2_with fail
              by_cases hov : T + q2 ≤ 4611686018427387904
              · refine (tick_yes T q2 hrT.out hrq.out hov _).mono ?_
                rintro e w3 ⟨rfl, hb3⟩
                have HB3 := Lib.hid (bthen (HBR2.out.alloc HBR2.out.size _) (hb3.mono (Nat.le_refl _)))
                clear hb3
                go_wp2_with fail
                exact ⟨⟨j + 1, by omega, by go_num, by rw [hn2.out, Int.min_eq_left hov], HB3.out⟩, by simp [intOf]; omega⟩
              · refine (tick_over T q2 hrT.out hrq.out (by omega) _).mono ?_
                rintro e w3 ⟨rfl, hb3⟩
                have HB3 := Lib.hid (bthen (HBR2.out.alloc HBR2.out.size _) (hb3.mono (Nat.le_refl _)))
                clear hb3
                go_wp2_with fail
                exact ⟨⟨j + 1, by omega, by go_num, by rw [hn2.out, Int.min_eq_right (by omega)], HB3.out⟩, by simp [intOf]; omega⟩
          · obtain rfl : j = K := by omega
            rw [hT] at hbd ⊢
            have HT : Hid (totFrom 0 zw = T) := by unfold Hid; rw [← hT, ← HLW.out, List.take_length]
            clear hT
            by_cases hle : T ≤ least
            · have hf : Hid (live zs j least = false) := by
                unfold Hid live
                rw [HL.out, hN, List.all_eq_false]
                exact ⟨k, List.mem_range.2 hlt, by rw [HZW.out, HT.out]; simp; omega⟩
              go_wp2_with fail
              go_ret2
              exact ⟨by rw [hf.out]; rfl, bthen HB1.out HBR2.out⟩
            · go_wp2_with fail
              refine ⟨⟨k + 1, by omega, by go_num, fun j' hj' => ?_, bthen HB1.out HBR2.out⟩, by simp [intOf]; omega⟩
              by_cases hjk : j' < k
              · exact HALL.out j' hjk
              · obtain rfl : j' = k := by omega
                rw [HZW.out, HT.out]
                omega
      · go_wp2_with fail
        go_ret2
        have hf : live zs K least = true := by
          unfold live
          rw [HL.out, hN, List.all_eq_true]
          intro j hj
          exact decide_eq_true (HALL.out j (by have := List.mem_range.1 hj; omega))
        exact ⟨by rw [hf]; rfl, HBR.out⟩
end Fair
end Go.Proofs.Yteejgejeggackaa
