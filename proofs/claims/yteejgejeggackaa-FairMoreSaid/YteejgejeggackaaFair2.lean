/-
  The contract of fair.Fair.
-/
import Derived.Test.YteejgejeggackaaFair
import Derived.WalkMore
import Derived.Deep.LoopGhost
namespace Go.Proofs.Yteejgejeggackaa
open Go.RowKit
namespace Fair
open Script
def allOf (ms : List Int) : Nat := ms.foldl (fun a m => a &&& m.toNat) 255
def okAt (ms zs : List Int) (K : Nat) (q : Int) (i : Nat) : Bool := (List.range 8).all fun who => !((allOf ((ms.drop i).take K)).testBit who) || run who q 0 ((zs.drop i).take K)
def fair (ms zs : List Int) (K : Nat) (q : Int) : Bool := (List.range (zs.length + 1 - K)).all (okAt ms zs K q)
theorem allOf_le (ms : List Int) : allOf ms ≤ 255 := by
  unfold allOf
  suffices h : ∀ (a : Nat), a ≤ 255 → ms.foldl (fun a m => a &&& m.toNat) a ≤ 255 from h 255 (Nat.le_refl _)
  induction ms with
  | nil => exact fun a h => h
  | cons m ms ih => exact fun a h => ih _ (Nat.le_trans Nat.and_le_left h)
theorem allOf_snoc (ms : List Int) (m : Int) : allOf (ms ++ [m]) = allOf ms &&& m.toNat := by simp [allOf]
theorem and_i64 (a : Nat) (m : Int) (ha : a ≤ 255) (h0 : 0 ≤ m) (h1 : m ≤ 255) : bits .and .i64 (a : Int) m = ((a &&& m.toNat : Nat) : Int) := by
  obtain ⟨b, rfl⟩ := Int.eq_ofNat_of_zero_le h0
  have ea : (BitVec.ofInt 64 (a : Int)).toNat = a := by rw [BitVec.ofInt_natCast, BitVec.toNat_ofNat]; exact Nat.mod_eq_of_lt (by omega)
  have eb : (BitVec.ofInt 64 (b : Int)).toNat = b := by rw [BitVec.ofInt_natCast, BitVec.toNat_ofNat]; exact Nat.mod_eq_of_lt (by omega)
  show IntKind.i64.wrap ((BitVec.ofInt 64 (a : Int) &&& BitVec.ofInt 64 (b : Int)).toNat : Int) = _
  rw [BitVec.toNat_and, ea, eb, IntKind.wrap_i64]
  have : a &&& b ≤ a := Nat.and_le_left
  simp only [Int.toNat_natCast]
  omega
theorem fold_zero (ms : List Int) : ms.foldl (fun a m => a &&& m.toNat) 0 = 0 := by
  induction ms with
  | nil => rfl
  | cons m ms ih => rw [List.foldl_cons, Nat.zero_and]; exact ih
theorem allOf_zero {xs ys : List Int} (h : allOf xs = 0) : allOf (xs ++ ys) = 0 := by
  unfold allOf at h ⊢
  rw [List.foldl_append, h, fold_zero]

theorem win_any {w : World} {B size n k K : Nat} {A : Option Addr} {xs : List Value} (h : Reads w B size A n xs) (hk : k + K ≤ n) (hK : 0 < K) : Reads w B size (A.map fun x => x.add (k * size)) (k + K - k) ((xs.drop (k * size)).take (K * size)) := by
  have h1 := (h.cut (k := k) (cap := n) (by omega) (Nat.le_refl _)).take_ (k := K) (by omega)
  rw [if_neg (by omega)] at h1
  rw [show k + K - k = K by omega]
  exact h1
theorem win_ints {w : World} {B n k K : Nat} {A : Option Addr} {zs : List Int} (h : Reads w B 1 A n (zs.map (Value.int .i64))) (hk : k + K ≤ n) (hK : 0 < K) : Reads w B 1 (A.map fun x => x.add k) (k + K - k) (((zs.drop k).take K).map (Value.int .i64)) := by
  have h1 := win_any h hk hK
  simp only [Nat.mul_one] at h1
  rwa [List.map_take, List.map_drop]
theorem flat_drop {α : Type} (c : α → List Value) (m : Nat) (hm : ∀ x, (c x).length = m) : ∀ (l : List α) (k : Nat), (l.flatMap c).drop (k * m) = (l.drop k).flatMap c
  | [], k => by simp
  | y :: l, 0 => by simp
  | y :: l, k + 1 => by
    have hy : (c y).length = m := hm y
    rw [List.drop_succ_cons, List.flatMap_cons, ← flat_drop c m hm l k, Nat.succ_mul, List.drop_append, hy, List.drop_eq_nil_of_le (by omega), Nat.add_sub_cancel, List.nil_append]
theorem flat_take' {α : Type} (c : α → List Value) (m : Nat) (hm : ∀ x, (c x).length = m) : ∀ (l : List α) (k : Nat), (l.flatMap c).take (k * m) = (l.take k).flatMap c
  | [], k => by simp
  | y :: l, 0 => by simp
  | y :: l, k + 1 => by
    have hy : (c y).length = m := hm y
    rw [List.take_succ_cons, List.flatMap_cons, List.flatMap_cons, ← flat_take' c m hm l k, Nat.succ_mul, List.take_append, hy, List.take_of_length_le (by omega), Nat.add_sub_cancel]
theorem win_picks {w : World} {B n k K : Nat} {A : Option Addr} {zs : List Int} (h : Reads w B 2 A n (zs.flatMap pcells)) (hk : k + K ≤ n) (hK : 0 < K) : Reads w B 2 (A.map fun x => x.add (k * 2)) (k + K - k) (((zs.drop k).take K).flatMap pcells) := by
  have h1 := win_any h hk hK
  rwa [flat_drop pcells 2 (fun _ => rfl), flat_take' pcells 2 (fun _ => rfl)] at h1

theorem okAt_zero {ms zs : List Int} {K i : Nat} {q : Int} (h : allOf ((ms.drop i).take K) = 0) : okAt ms zs K q i = true := by
  unfold okAt
  rw [h]
  simp
theorem bits_next {f : Nat → Bool} {b : Nat} (h : ∀ who, who < b → f who = true) (hb : f b = true) : ∀ who, who < b + 1 → f who = true := fun who hw => by
  rcases Nat.lt_succ_iff_lt_or_eq.1 hw with h1 | rfl
  · exact h who h1
  · exact hb
theorem bit_i64 (P b : Nat) (hP : P ≤ 255) : (bits .and .i64 ((P : Int) / 2 ^ b) 1 == 1) = P.testBit b := by
  have h : P / 2 ^ b ≤ P := Nat.div_le_self _ _
  have e : ((P : Int) / 2 ^ b) = ((P / 2 ^ b : Nat) : Int) := by simp [Int.natCast_ediv]
  rw [e, and_i64 _ 1 (by omega) (by omega) (by omega), Nat.testBit_eq_decide_div_mod_eq, show (1 : Int).toNat = 1 from rfl, Nat.and_one_is_mod, Bool.eq_iff_iff]
  simp
  omega

set_option pp.deepTerms true in
set_option maxRecDepth 100000 in
set_option maxHeartbeats 8000000 in
theorem fair_yes (A B : Option Addr) (n c c2 K : Nat) (q : Int) (ms zs : List Int) (hn : n ≤ 1000) (hnc : n ≤ c) (hcm : c ≤ maxLen) (hcm2 : c2 ≤ maxLen) (hK : 1 ≤ K) (hK2 : K ≤ 1000000000) (hq : 1 ≤ q) (w : World)
    (hm : Reads w w.heap.size 1 A n (ms.map (Value.int .i64))) (hr : Reads w w.heap.size 1 B n (zs.map (Value.int .i64))) (hz : ∀ z ∈ zs, -9223372036854775808 ≤ z ∧ z ≤ 9223372036854775807) (hok : ms.all mok = true) :
    Calls Try.prog 62 #[.slice A n c, .slice B n c2, .int .i64 K, .int .i64 q] w fun e w' => e = .returned (.tuple #[.bool (fair ms zs K q), .int .i64 0]) ∧ Below w.heap.size w w' := by
  have HM := Lib.hid hm
  have HR := Lib.hid hr
  have HZ := Lib.hid hz
  have HL := Lib.hid hr.int_len
  have HLM := Lib.hid hm.int_len
  have HOK := Lib.hid hok
  have hKi : (1 : Int) ≤ K := by omega
  have hK1 : decide ((K : Int) < 1) = false := decide_eq_false (by omega)
  have hq1 : decide (q < 1) = false := decide_eq_false (by omega)
  have HC := Lib.hid hcm
  have HC2 := Lib.hid hcm2
  have hc63 : (c : Int) ≤ 9223372036854775807 := by unfold maxLen at hcm; omega
  have hc63' : (c2 : Int) ≤ 9223372036854775807 := by unfold maxLen at hcm2; omega
  clear hm hr hz hok hcm hcm2
  go_enter Try.func62, Try.ntmps62
  go_wp2
  go_step3
  go_wp2_with fail
  refine (contains_any A n c ms _ HM.out (by unfold maxLen; omega)).mono ?_
  rintro e w1 ⟨rfl, rfl⟩
  rw [HOK.out]
  go_wp2_with fail
  refine (all_any B n c2 zs (by omega) _ HR.out HZ.out).mono ?_
  rintro e w1 ⟨⟨D, c3, rfl, hp, hpc, hpm, _⟩, hb1⟩
  rw [HL.out] at hp hpc ⊢
  have HP := Lib.hid hp
  have HB1 := Lib.hid hb1
  have HPM := Lib.hid hpm
  have hM1 := Lib.hid ((HM.out.below hb1).more hb1.size)
  have hc63'' : (c3 : Int) ≤ 9223372036854775807 := by unfold maxLen at hpm; omega
  clear hp hb1 hpm
  by_cases hbig : n + 1 ≤ K
  · have hN : Hid (fair ms zs K q = true) := by unfold Hid fair; rw [HL.out, show n + 1 - K = 0 by omega]; rfl
    go_wp2_with fail
    go_step3
    go_wp2_with fail
    go_loopw [43] (fun i wr => i = .int .i64 0 ∧ wr = w1) (fun _ _ => 0)
    case atStart => exact ⟨rfl, rfl⟩
    case round =>
      obtain ⟨rfl, rfl⟩ := hrel
      go_wp2
      try rw [Exit.noGoto_ret]
      go_ret2
      exact ⟨by rw [hN.out]; rfl, HB1.out⟩
  · obtain ⟨N, hN⟩ : ∃ N, n + 1 - K = N := ⟨_, rfl⟩
    have hNi : (n : Int) - K + 1 = N := by omega
    have hmax : max (0 : Int) N = N := by omega
    go_wp2_with fail
    go_step3
    go_wp2_with fail
    go_loopw [43] (fun i wr => ∃ k : Nat, k ≤ N ∧ i = .int .i64 k ∧ (∀ j, j < k → okAt ms zs K q j = true) ∧ Below w1.heap.size w1 wr) (fun i _ => N - (intOf i).toNat)
    case atStart => exact ⟨0, Nat.zero_le _, rfl, fun j hj => absurd hj (by omega), Below.refl _ _⟩
    case round =>
      obtain ⟨k, hk, rfl, hall, hbr⟩ := hrel
      have HALL := Lib.hid hall
      have HBR := Lib.hid hbr
      clear hall hbr
      by_cases hlt : k < N
      · have hkK : k + K ≤ n := by omega
        obtain ⟨ad0, rfl, _, _⟩ := HM.out.2 (by omega)
        obtain ⟨ad1, rfl, _, _⟩ := HP.out.2 (by omega)
        have HWM := Lib.hid (win_ints (hM1.out.below HBR.out) hkK (by omega))
        have HWP := Lib.hid (win_picks ((HP.out.below HBR.out)) hkK (by omega))
        rw [Nat.add_sub_cancel_left] at HWM HWP
        go_wp2_with fail
        simp only [Nat.add_sub_cancel_left]
        obtain ⟨wo, rfl⟩ : ∃ wo : World, wo = wr := ⟨_, rfl⟩
        go_loopw [13, 53] (fun a i wr => ∃ j : Nat, j ≤ K ∧ i = .int .i64 j ∧ a = .int .i64 (allOf (((ms.drop k).take K).take j)) ∧ wr = wo) (fun _ i _ => K - (intOf i).toNat)
        case atStart => exact ⟨0, Nat.zero_le _, rfl, rfl, rfl⟩
        case round =>
          obtain ⟨j, hj, rfl, rfl, rfl⟩ := hrel
          have hPle := allOf_le (((ms.drop k).take K).take j)
          by_cases hlt2 : j < K
          · obtain ⟨ad2, z, hA2, _, hz2, hc2⟩ := HWM.out.int_at (k := j) (by omega)
            obtain rfl := Option.some.inj hA2
            have hzm : mok z = true := by
              have := List.mem_of_getElem? hz2
              exact List.all_eq_true.1 HOK.out z (List.mem_of_mem_drop (List.mem_of_mem_take this))
            have hzb : 0 ≤ z ∧ z ≤ 255 := by simpa [mok] using hzm
            have hnext : Hid (allOf (((ms.drop k).take K).take (j + 1)) = allOf (((ms.drop k).take K).take j) &&& z.toNat) := by
              unfold Hid; rw [List.take_add_one, hz2]; exact allOf_snoc _ _
            obtain ⟨P, hP⟩ : ∃ P, allOf (((ms.drop k).take K).take j) = P := ⟨_, rfl⟩
            rw [hP] at hPle hnext ⊢
            have hand := and_i64 P z hPle hzb.1 hzb.2
            have HZ2 := Lib.hid hz2
            clear hA2 hz2 hzm hP
            by_cases h0 : P &&& z.toNat = 0
            · have hb0 : (((P &&& z.toNat : Nat) : Int) == 0) = true := by simp [h0]
              have hH0 := Lib.hid h0
              clear h0
              go_wp2_with fail
              refine ⟨⟨k + 1, by omega, by go_num, fun j' hj' => ?_, HBR.out⟩, by simp [intOf]; omega⟩
              by_cases hjk : j' < k
              · exact HALL.out j' hjk
              · obtain rfl : j' = k := by omega
                refine okAt_zero ?_
                have e : (ms.drop j').take K = ((ms.drop j').take K).take (j + 1) ++ ((ms.drop j').take K).drop (j + 1) := (List.take_append_drop _ _).symm
                rw [e]
                exact allOf_zero (hnext.out.trans hH0.out)
            · have hb0 : (((P &&& z.toNat : Nat) : Int) == 0) = false := by simp [h0]
              clear h0
              go_wp2_with fail
              exact ⟨⟨j + 1, by omega, by go_num, by rw [hnext.out], trivial⟩, by simp [intOf]; omega⟩
          · obtain rfl : j = K := by omega
            have htt : Hid (((ms.drop k).take j).take j = (ms.drop k).take j) := by unfold Hid; rw [List.take_take, Nat.min_self]
            obtain ⟨P, hP⟩ : ∃ P, allOf (((ms.drop k).take j).take j) = P := ⟨_, rfl⟩
            rw [hP] at hPle ⊢
            have HP2 : Hid (allOf ((ms.drop k).take j) = P) := by unfold Hid; rw [← hP, htt.out]
            clear hP
            go_wp2_with fail
            obtain ⟨wo, rfl⟩ : ∃ wo : World, wo = wr := ⟨_, rfl⟩
            go_loopw [63] (fun i wr' => ∃ b : Nat, b ≤ 8 ∧ i = .int .i64 b ∧ (∀ who, who < b → (!(P.testBit who) || run who q 0 ((zs.drop k).take j)) = true) ∧ Below wo.heap.size wo wr') (fun i _ => 8 - (intOf i).toNat)
            case atStart => exact ⟨0, by omega, rfl, fun _ h => absurd h (by omega), Below.refl _ _⟩
            case round =>
              obtain ⟨b, hb, rfl, hbits, hbr2⟩ := hrel
              have HBITS := Lib.hid hbits
              have HBR2 := Lib.hid hbr2
              clear hbits hbr2
              by_cases hb8 : b < 8
              · have hs1 := bit_i64 P b hPle
                cases hT : P.testBit b with
                | false =>
                  rw [hT] at hs1
                  have HT := Lib.hid hT
                  clear hT
                  go_wp2_with fail
                  exact ⟨⟨b + 1, by omega, by go_num, bits_next HBITS.out (by rw [HT.out]; rfl), HBR2.out⟩, by simp [intOf]; omega⟩
                | true =>
                  rw [hT] at hs1
                  have HT := Lib.hid hT
                  clear hT
                  go_wp2_with fail
                  refine (has_any _ j _ _ b q (by omega) _ ((HWP.out.below (HBR2.out.mono HBR.out.size)).more (Nat.le_trans HBR.out.size HBR2.out.size))).mono ?_
                  rintro e w4 ⟨rfl, hb4⟩
                  have HB4 := Lib.hid (bthen HBR2.out hb4)
                  clear hb4
                  cases hrn : run (b : Int) q 0 ((zs.drop k).take j) with
                  | true =>
                    have HRN := Lib.hid hrn
                    clear hrn
                    go_wp2_with fail
                    exact ⟨⟨b + 1, by omega, by go_num, bits_next HBITS.out (by rw [HRN.out, Bool.or_true]), HB4.out⟩, by simp [intOf]; omega⟩
                  | false =>
                    have HRN := Lib.hid hrn
                    clear hrn
                    have hf : Hid (fair ms zs j q = false) := by
                      unfold Hid fair
                      rw [HL.out, hN, List.all_eq_false]
                      refine ⟨k, List.mem_range.2 hlt, ?_⟩
                      unfold okAt
                      rw [HP2.out]
                      simp only [Bool.not_eq_true, List.all_eq_false]
                      exact ⟨b, List.mem_range.2 hb8, by rw [HT.out, HRN.out]; simp⟩
                    go_wp2_with fail
                    try rw [Exit.noGoto_ret]
                    go_ret2
                    exact ⟨by rw [hf.out]; rfl, bthen HB1.out (bthen HBR.out HB4.out)⟩
              · obtain rfl : b = 8 := by omega
                go_wp2_with fail
                refine ⟨⟨k + 1, by omega, by go_num, fun j' hj' => ?_, bthen HBR.out HBR2.out⟩, by simp [intOf]; omega⟩
                by_cases hjk : j' < k
                · exact HALL.out j' hjk
                · obtain rfl : j' = k := by omega
                  unfold okAt
                  rw [HP2.out, List.all_eq_true]
                  exact fun who hw => HBITS.out who (List.mem_range.1 hw)
      · go_wp2_with fail
        try rw [Exit.noGoto_ret]
        go_ret2
        refine ⟨?_, bthen HB1.out HBR.out⟩
        have hf : fair ms zs K q = true := by
          unfold fair
          rw [HL.out, hN, List.all_eq_true]
          intro j hj
          exact HALL.out j (by have := List.mem_range.1 hj; omega)
        rw [hf]; rfl
end Fair
end Go.Proofs.Yteejgejeggackaa
