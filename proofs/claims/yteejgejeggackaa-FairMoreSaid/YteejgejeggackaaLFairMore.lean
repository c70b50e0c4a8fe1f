/-
  The walk of FairMore.
-/
import Derived.Test.YteejgejeggackaaFairLaw
import Derived.Test.YteejgejeggackaaCut
import Derived.Deep.QuietTactic
import Derived.BigQuiet
import Derived.RegionCalls
import Derived.Deep.RegionWith
import Derived.Deep.RegionHeld3
namespace Go.Proofs.Yteejgejeggackaa
open Go.RowKit
namespace fairMore
open Script Go.Proofs.Yteejgejeggackaa.Fair

theorem infoI : (Try.prog.info? 3).map (fun i => (i.zero, i.size, i.bytes)) = some (some (.int .i64 0), 1, 8) := by kernel_rfl
theorem one_cell (w : World) (t : TypeId) (v : Value) : ∀ j u, [v][j]? = some u → (w.alloc (.cells #[v] t)).cell? ((⟨w.heap.size, 0, none⟩ : Addr).add j) = some u := fun j u hu => by
  obtain ⟨hj, rfl⟩ := List.getElem?_eq_some_iff.1 hu
  simp at hj
  subst hj
  simp [Addr.add, (Blk.new w t #[v]).cell]
theorem tmod_bd (a m : Int) (hm : 0 < m) : -m < a.tmod m ∧ a.tmod m < m := by
  have h1 := Int.tmod_lt_of_pos a hm
  have h2 := Int.tmod_lt_of_pos (-a) hm
  rw [Int.neg_tmod] at h2
  omega
theorem turn_bd (a m : Int) (hm : 0 < m) (hm2 : m ≤ 1000000) : ∃ r : Nat, (wrap64 (a.tmod m + m)).tmod m = r ∧ (r : Int) < m := by
  have h1 := tmod_bd a m hm
  have h2 : wrap64 (a.tmod m + m) = a.tmod m + m := by unfold wrap64; omega
  rw [h2]
  have h3 : (a.tmod m + m).tmod m = (a.tmod m + m) % m := Int.tmod_eq_emod_of_nonneg (by omega)
  rw [h3]
  have h4 := Int.emod_nonneg (a.tmod m + m) (show m ≠ 0 by omega)
  have h5 := Int.emod_lt_of_pos (a.tmod m + m) hm
  exact ⟨((a.tmod m + m) % m).toNat, by omega, by omega⟩
theorem turn_one (a m : Int) (hm : 0 < m) (hm2 : m ≤ 1000000) : ∃ r : Nat, wrap64 (1 + (wrap64 (a.tmod m + m)).tmod m) = r ∧ 1 ≤ r ∧ (r : Int) ≤ m := by
  obtain ⟨r, h, hr⟩ := turn_bd a m hm hm2
  rw [h]
  exact ⟨r + 1, by unfold wrap64; omega, by omega, by omega⟩
theorem turn_at (a : Int) (n : Nat) (hn : n ≤ 1000) : ∃ r : Nat, (wrap64 (wrap64 (a.tmod ((n : Int) + 1) + n) + 1)).tmod ((n : Int) + 1) = r ∧ r ≤ n := by
  have h1 := tmod_bd a ((n : Int) + 1) (by omega)
  have h2 : wrap64 (a.tmod ((n : Int) + 1) + n) = a.tmod ((n : Int) + 1) + n := by unfold wrap64; omega
  have h3 : wrap64 (a.tmod ((n : Int) + 1) + n + 1) = a.tmod ((n : Int) + 1) + n + 1 := by unfold wrap64; omega
  rw [h2, h3]
  have h4 := Int.emod_nonneg (a.tmod ((n : Int) + 1) + n + 1) (show (n : Int) + 1 ≠ 0 by omega)
  have h5 := Int.emod_lt_of_pos (a.tmod ((n : Int) + 1) + n + 1) (show 0 < (n : Int) + 1 by omega)
  rw [Int.tmod_eq_emod_of_nonneg (by omega)]
  exact ⟨((a.tmod ((n : Int) + 1) + n + 1) % ((n : Int) + 1)).toNat, by omega, by omega⟩
def byte (m : Int) : Int := (wrap64 (m.tmod 256 + 256)).tmod 256
theorem byte_ok (m : Int) : mok (byte m) = true := by
  obtain ⟨r, h, hr⟩ := turn_bd m 256 (by omega) (by omega)
  unfold byte mok
  rw [h]
  exact decide_eq_true (by omega)
theorem fair_int (A B : Option Addr) (n c c2 : Nat) (k q : Int) (K : Nat) (hk : k = K) (ms zs : List Int) (hn : n ≤ 1000) (hnc : n ≤ c) (hcm : c ≤ maxLen) (hcm2 : c2 ≤ maxLen) (hK : 1 ≤ K) (hK2 : K ≤ 1000000000) (hq : 1 ≤ q) (w : World)
    (hm : Reads w w.heap.size 1 A n (ms.map (Value.int .i64))) (hr : Reads w w.heap.size 1 B n (zs.map (Value.int .i64))) (hz : ∀ z ∈ zs, -9223372036854775808 ≤ z ∧ z ≤ 9223372036854775807) (hok : ms.all mok = true) :
    Calls Try.prog 62 #[.slice A n c, .slice B n c2, .int .i64 k, .int .i64 q] w fun e w' => e = .returned (.tuple #[.bool (fair ms zs K q), .int .i64 0]) ∧ Below w.heap.size w w' := by
  subst hk
  exact fair_yes A B n c c2 K q ms zs hn hnc hcm hcm2 hK hK2 hq w hm hr hz hok
theorem live_int (A : Option Addr) (n c : Nat) (k least : Int) (K : Nat) (hk : k = K) (zs : List Int) (hn : n ≤ 1000) (hnc : n ≤ c) (hcm : c ≤ maxLen) (hK : 1 ≤ K) (hK2 : K ≤ 1000000000) (hq : 0 ≤ least) (w : World)
    (hr : Reads w w.heap.size 1 A n (zs.map (Value.int .i64))) (hz : ∀ z ∈ zs, -9223372036854775808 ≤ z ∧ z ≤ 9223372036854775807) :
    Calls Try.prog 63 #[.slice A n c, .int .i64 k, .int .i64 least] w fun e w' => e = .returned (.tuple #[.bool (live zs K least), .int .i64 0]) ∧ Below w.heap.size w w' := by
  subst hk
  exact live_yes A n c K least zs hn hnc hcm hK hK2 hq w hr hz

set_option maxRecDepth 100000 in
theorem alive_any (w : World) : Calls Try.prog 64 #[] w fun e w' => e = .returned (.bool true) ∧ Below w.heap.size w w' := by
  have two : ∀ w : World, Hid (∃ W, W = (w.alloc (.cells #[.int .i64 3, .int .i64 3, .int .i64 3, .int .i64 3] 3)).alloc (.cells #[.int .i64 0, .int .i64 0, .int .i64 1, .int .i64 1] 3) ∧ Below w.heap.size w W ∧
      Reads W W.heap.size 1 (some ⟨w.heap.size, 0, none⟩) 4 (([3, 3, 3, 3] : List Int).map (Value.int .i64)) ∧ Reads W W.heap.size 1 (some ⟨w.heap.size + 1, 0, none⟩) 4 (([0, 0, 1, 1] : List Int).map (Value.int .i64))) := fun w =>
    ⟨_, rfl, ((Below.refl _ w).alloc (Nat.le_refl _) _).alloc (by simp) _, (Reads.of_blk (Blk.new w _ #[.int .i64 3, .int .i64 3, .int .i64 3, .int .i64 3]) rfl).alloc (Nat.le_refl _) _ |>.more (by simp),
      by have h := Reads.of_blk (n := 4) (size := 1) (Blk.new (w.alloc (.cells #[.int .i64 3, .int .i64 3, .int .i64 3, .int .i64 3] 3)) 3 #[.int .i64 0, .int .i64 0, .int .i64 1, .int .i64 1]) rfl
         simpa using h⟩
  have TWO := Lib.hid two
  clear two
  obtain ⟨W, rfl, hb, h1, h2⟩ := (TWO.out w).out
  have H1 := Lib.hid h1
  have H2 := Lib.hid h2
  have HB := Lib.hid hb
  clear h1 h2 hb
  go_enter Try.func64, Try.ntmps64
  go_wp2_with fail
  refine (fair_int _ _ 4 4 4 3 1 3 rfl [3, 3, 3, 3] [0, 0, 1, 1] (by omega) (by omega) (by simp [maxLen]) (by simp [maxLen]) (by omega) (by omega) (by omega) _ H1.out H2.out (by simp) rfl).mono ?_
  rintro e w1 ⟨rfl, hb1⟩
  rw [show fair [3, 3, 3, 3] [0, 0, 1, 1] 3 1 = true by decide]
  have HB1 := Lib.hid (HB.out.trans (hb1.mono HB.out.size))
  clear hb1 HB H1 H2
  obtain ⟨W, rfl, hb, h1, h2⟩ := (TWO.out w1).out
  have H1 := Lib.hid h1
  have H2 := Lib.hid h2
  have HB := Lib.hid (bthen HB1.out hb)
  clear h1 h2 hb
  go_wp2_with fail
  refine (fair_int _ _ 4 4 4 2 1 2 rfl [3, 3, 3, 3] [0, 0, 1, 1] (by omega) (by omega) (by simp [maxLen]) (by simp [maxLen]) (by omega) (by omega) (by omega) _ H1.out H2.out (by simp) rfl).mono ?_
  rintro e w2 ⟨rfl, hb2⟩
  rw [show fair [3, 3, 3, 3] [0, 0, 1, 1] 2 1 = false by decide]
  have HB2 := Lib.hid (bthen HB.out hb2)
  clear hb2
  go_wp2_with fail
  go_ret
  exact ⟨rfl, HB2.out⟩

set_option maxRecDepth 100000 in
set_option maxHeartbeats 16000000 in
theorem walk1 (A B : Option Addr) (n0 c0 m0 c1 n : Nat) (xs zs : List Int) (k q least a : Int) (w : World) (hn : n = min (min n0 m0) 100) (hc0 : n0 ≤ c0) (hx0 : c0 ≤ maxLen) (hc1 : m0 ≤ c1) (hx1 : c1 ≤ maxLen)
    (hrx : Reads w w.heap.size 1 A n (xs.map (Value.int .i64))) (hrz : Reads w w.heap.size 1 B n (zs.map (Value.int .i64))) (hz : ∀ z ∈ zs, -9223372036854775808 ≤ z ∧ z ≤ 9223372036854775807) :
    Calls Try.prog 14 #[.slice A n0 c0, .slice B m0 c1, .int .i64 k, .int .i64 q, .int .i64 least, .int .i64 a] w fun e w' => e = .returned (.bool true) ∧ Below w.heap.size w w' := by
  have HRX := Lib.hid hrx
  have HRZ := Lib.hid hrz
  have HZ := Lib.hid hz
  have HLX := Lib.hid hrx.int_len
  have HLZ := Lib.hid hrz.int_len
  obtain ⟨i0, hi, hz0, hz1, hz2⟩ := info_parts infoI
  have hmn : ∀ (ts : Array TypeId) (t : TypeId) (w : World), (Builtin.min_ ts t #[.int .i64 n0, .int .i64 m0, .int .i64 100]).run Try.prog w = .ok (.int .i64 n) w := fun ts t w => by
    rw [run_min_int3]
    congr 2
    split <;> split at * <;> omega
  have hn100 : n ≤ 100 := by omega
  have hnn0 : n ≤ n0 := by omega
  have hnm0 : n ≤ m0 := by omega
  have HX1 := Lib.hid hx1
  have hx0' : (c0 : Int) ≤ 9223372036854775807 := by unfold maxLen at hx0; omega
  have hx1' : (c1 : Int) ≤ 9223372036854775807 := by unfold maxLen at hx1; omega
  clear hrx hrz hz hn hx0 hx1
  go_enter Try.func14, Try.ntmps14
  go_wp2_with fail
  have hn1 : IntKind.i64.wrap ((n : Int) + 1) = n + 1 := IntWalk.i64_in _ (by omega)
  go_quiet (fail)
  clear hn1
  obtain ⟨K, hK, hK1, hK20⟩ := turn_one k 20 (by omega) (by omega)
  obtain ⟨Q, hQ, hQ1, hQ5⟩ := turn_one q 5 (by omega) (by omega)
  obtain ⟨L, hL, hL1⟩ := turn_bd least 1000 (by omega) (by omega)
  obtain ⟨a', ha, hat⟩ := turn_at a n (by omega)
  have hbd : Below w.heap.size w (w.drewN nq) := below_drewN (Below.refl _ _) nq
  have HRX1 := Lib.hid (HRX.out.below hbd)
  have HRZ1 := Lib.hid (HRZ.out.below hbd)
  have hsw : w.heap.size = (w.drewN nq).heap.size := rfl
  rw [hsw] at HRX1 HRZ1
  have HBD := Lib.hid hbd
  clear hbd hsw
  rw [hK, hQ, hL, ha]
  obtain ⟨w1, hw1⟩ : ∃ w1, w.drewN nq = w1 := ⟨_, rfl⟩
  rw [hw1] at HRX1 HRZ1 HBD ⊢
  clear hK hQ hL ha hw1
  go_wp2_with fail
  obtain ⟨wo, rfl⟩ : ∃ wo : World, wo = w1 := ⟨_, rfl⟩
  go_loopw [14, 69] (fun v i wr => ∃ j : Nat, j ≤ n ∧ i = .int .i64 j ∧ wr.ownsRow wo.heap.size 3 1 v j (((xs.take j).map byte).map (Value.int .i64)) ∧ Below wo.heap.size wo wr) (fun _ i _ => n - (intOf i).toNat)
  case atStart => exact ⟨0, Nat.zero_le _, rfl, World.ownsRow_nil _ _ _ _, Below.refl _ _⟩
  case round =>
    obtain ⟨j, hj, rfl, hown, hbw⟩ := hrel
    by_cases hlt : j < n
    · obtain ⟨ad, x, rfl, hb, hx, hc0⟩ := (HRX1.out.below hbw).int_at hlt
      have HB := Lib.hid hbw
      have HO := Lib.hid hown
      have HX := Lib.hid hx
      have hsz := hbw.size
      clear hbw hown hx
      go_wp2_with (first
        | (at_builtin; refine wpList_append_own _ rfl _ _ 30 rfl wo.heap.size 3 i0 (.int .i64 0) 1 8 Try.underlying30 hi hz0 hz1 hz2 rfl (by decide) _ _ _ rfl (HO.out.alloc _) ⟨wr.heap.size, 0, none⟩ 1 1 [.int .i64 ((wrap64 (x.tmod 256 + 256)).tmod 256)] rfl rfl ?c1 ?c2 ?c3 ?c4 ?c5 ?_)
        | go_in)
      case c1 => exact one_cell _ _ _
      case c2 => intro u hu; simp at hu; subst hu; rfl
      case c3 => simp [maxLen]; omega
      case c4 => omega
      case c5 => simp; omega
      intro v' w' hown' hgrow _
      have hgb : ∀ g, u14.ownBlock = some g → wo.heap.size ≤ g := fun g hg => (HO.out.lt g hg).1
      have hb2 := (HB.out.alloc HB.out.size (.cells #[.int .i64 ((wrap64 (x.tmod 256 + 256)).tmod 256)] 3)).grown hgrow (by simp; omega) hgb
      have HO2 := Lib.hid hown'
      have HB2 := Lib.hid hb2
      clear hgrow hgb hown' hb2
      go_wp2
      go_roundw
      case rel =>
        refine ⟨j + 1, by omega, by go_num, ?_, HB2.out⟩
        rw [List.take_add_one, HX.out]
        simpa [byte] using HO2.out
      case measure => simp [intOf]; omega
    · obtain rfl : j = n := by omega
      obtain ⟨C, cc, rfl, hcc, hcm, hrd⟩ := own_reads3 hown
      have hms : ∃ ms, ms = (xs.take j).map byte ∧ ms.length = j := ⟨_, rfl, by rw [List.length_map, ← HLX.out, List.take_length]⟩
      obtain ⟨ms, hms, hml⟩ := hms
      rw [← hms] at hrd
      have hmo : ms.all mok = true := by
        rw [hms, List.all_eq_true]
        intro m hm
        obtain ⟨x, _, rfl⟩ := List.mem_map.1 hm
        exact byte_ok x
      have HRM := Lib.hid hrd
      have HMO := Lib.hid hmo
      have HML := Lib.hid hml
      have HB := Lib.hid hbw
      clear hown hrd hms hmo hml
      have HB1 := Lib.hid (bthen HBD.out HB.out)
      have HRM1 := HRM
      have HRZ2 := Lib.hid ((HRZ1.out.below HB.out).more HB.out.size)
      have HCM := Lib.hid hcm
      have hcc63 : (cc : Int) ≤ 9223372036854775807 := by unfold maxLen at hcm; omega
      have fr1 := fun w => run_from_ints C j cc a' hat w
      have fr2 := fun w => run_from_ints B j c1 a' hat w
      obtain ⟨C2, hC2⟩ : ∃ C2, cutA C cc a' 1 = C2 := ⟨_, rfl⟩
      obtain ⟨B2, hB2⟩ : ∃ B2, cutA B c1 a' 1 = B2 := ⟨_, rfl⟩
      rw [hC2] at fr1
      rw [hB2] at fr2
      have HC2 := Lib.hid hC2
      have HB2 := Lib.hid hB2
      clear hcm HRZ1 HRX1 HRM HB hC2 hB2
      go_wp2_with fail
      refine (fair_int C B j cc c1 _ _ K (by omega) ms zs (by omega) (by omega) (by have := HCM.out; omega) (by have := HX1.out; omega) (by omega) (by omega) (by omega) _ HRM1.out HRZ2.out HZ.out HMO.out).mono ?_
      rintro e w' ⟨rfl, hb'⟩
      obtain ⟨fa, hfa⟩ : ∃ b, fair ms zs K Q = b := ⟨_, rfl⟩
      rw [hfa]
      have HN := Lib.hid (bthen HB1.out hb')
      have HM := Lib.hid ((HRM1.out.below hb').more hb'.size)
      have HZ' := Lib.hid ((HRZ2.out.below hb').more hb'.size)
      have Hfa := Lib.hid hfa
      clear hb' HB1 HRM1 HRZ2 hfa
      obtain ⟨HB1, HRM1, HRZ2⟩ : Hid _ ∧ Hid _ ∧ Hid _ := ⟨HN, HM, HZ'⟩
      clear HN HM HZ'
      go_wp2_with fail
      refine (fair_int C B j cc c1 _ _ (K + 1) (by omega) ms zs (by omega) (by omega) (by have := HCM.out; omega) (by have := HX1.out; omega) (by omega) (by omega) (by omega) _ HRM1.out HRZ2.out HZ.out HMO.out).mono ?_
      rintro e w' ⟨rfl, hb'⟩
      obtain ⟨fb, hfb⟩ : ∃ b, fair ms zs (K + 1) Q = b := ⟨_, rfl⟩
      rw [hfb]
      have HN := Lib.hid (bthen HB1.out hb')
      have HM := Lib.hid ((HRM1.out.below hb').more hb'.size)
      have HZ' := Lib.hid ((HRZ2.out.below hb').more hb'.size)
      have Hfb := Lib.hid hfb
      clear hb' HB1 HRM1 HRZ2 hfb
      obtain ⟨HB1, HRM1, HRZ2⟩ : Hid _ ∧ Hid _ ∧ Hid _ := ⟨HN, HM, HZ'⟩
      clear HN HM HZ'
      go_wp2_with fail
      refine (fair_int C B j cc c1 _ _ K (by omega) ms zs (by omega) (by omega) (by have := HCM.out; omega) (by have := HX1.out; omega) (by omega) (by omega) (by omega) _ HRM1.out HRZ2.out HZ.out HMO.out).mono ?_
      rintro e w' ⟨rfl, hb'⟩
      obtain ⟨fc, hfc⟩ : ∃ b, fair ms zs K (Q + 1) = b := ⟨_, rfl⟩
      rw [hfc]
      have HN := Lib.hid (bthen HB1.out hb')
      have HM := Lib.hid ((HRM1.out.below hb').more hb'.size)
      have HZ' := Lib.hid ((HRZ2.out.below hb').more hb'.size)
      have Hfc := Lib.hid hfc
      clear hb' HB1 HRM1 HRZ2 hfc
      obtain ⟨HB1, HRM1, HRZ2⟩ : Hid _ ∧ Hid _ ∧ Hid _ := ⟨HN, HM, HZ'⟩
      clear HN HM HZ'
      have HMT : Hid ((ms.take a').all mok = true) := by
        unfold Hid
        rw [List.all_eq_true]
        exact fun m hm => List.all_eq_true.1 HMO.out m (List.mem_of_mem_take hm)
      have HMD : Hid ((ms.drop a').all mok = true) := by
        unfold Hid
        rw [List.all_eq_true]
        exact fun m hm => List.all_eq_true.1 HMO.out m (List.mem_of_mem_drop hm)
      have HZT : Hid (∀ z ∈ zs.take a', -9223372036854775808 ≤ z ∧ z ≤ 9223372036854775807) := fun z hz => HZ.out z (List.mem_of_mem_take hz)
      have HZD : Hid (∀ z ∈ zs.drop a', -9223372036854775808 ≤ z ∧ z ≤ 9223372036854775807) := fun z hz => HZ.out z (List.mem_of_mem_drop hz)
      go_wp2_with fail
      have HT1 := Lib.hid (HRM1.out.int_take hat)
      have HT2 := Lib.hid (HRZ2.out.int_take hat)
      have ha0 : (0 : Int) ≤ a' := by omega
      have ha1 : (a' : Int) ≤ cc := by omega
      have ha2 : (a' : Int) ≤ c1 := by omega
      have hD0 := (Below.refl w'.heap.size w').drew
      go_region_held3 (fun w5 => Below w'.heap.size w' w5) (first | exact hD0 | assumption | go_keep) ((go_at_call 62; refine (fair_int C B a' cc c1 _ _ K (by omega) (ms.take a') (zs.take a') (by omega) (by omega) (by have := HCM.out; omega) (by have := HX1.out; omega) (by omega) (by omega) (by omega) _ HT1.out.drew HT2.out.drew HZT.out HMT.out).mono ?_; rintro e w5 ⟨rfl, hb'⟩; have hB' := bthen hD0 hb'; clear hb'))
      obtain ⟨fx, hfx⟩ : ∃ b, fair (ms.take a') (zs.take a') K Q = b := ⟨_, rfl⟩
      rw [hfx]
      have HN := Lib.hid (bthen HB1.out hB')
      have HM := Lib.hid ((HRM1.out.below hB').more hB'.size)
      have HZ' := Lib.hid ((HRZ2.out.below hB').more hB'.size)
      have Hfx := Lib.hid hfx
      clear hB' HB1 HRM1 HRZ2 hfx
      obtain ⟨HB1, HRM1, HRZ2⟩ : Hid _ ∧ Hid _ ∧ Hid _ := ⟨HN, HM, HZ'⟩
      clear HN HM HZ'
      have HJL : Hid (j - a' ≤ 1000) := by unfold Hid; omega
      have HJC : Hid (j - a' ≤ cc - a') := by unfold Hid; omega
      have HCX : Hid (cc - a' ≤ maxLen) := by unfold Hid; have := HCM.out; omega
      have HCX1 : Hid (c1 - a' ≤ maxLen) := by unfold Hid; have := HX1.out; omega
      have HT3 := Lib.hid (HRM1.out.int_drop (c := cc) hat hcc)
      have HT4 := Lib.hid (HRZ2.out.int_drop (c := c1) hat (Nat.le_trans hnm0 hc1))
      rw [HC2.out] at HT3
      rw [HB2.out] at HT4
      clear hD0
      go_wp2_with fail
      have hD0 := (Below.refl w5.heap.size w5).drew
      go_region_held3 (fun w6 => Below w5.heap.size w5 w6) (first | exact hD0 | assumption | go_keep) ((go_at_call 62; refine (fair_int C2 B2 (j - a') (cc - a') (c1 - a') _ _ K (by omega) (ms.drop a') (zs.drop a') HJL.out HJC.out HCX.out HCX1.out (by omega) (by omega) (by omega) _ HT3.out.drew HT4.out.drew HZD.out HMD.out).mono ?_; rintro e w6 ⟨rfl, hb'⟩; have hB' := bthen hD0 hb'; clear hb'))
      obtain ⟨fy, hfy⟩ : ∃ b, fair (ms.drop a') (zs.drop a') K Q = b := ⟨_, rfl⟩
      rw [hfy]
      have HN := Lib.hid (bthen HB1.out hB')
      have HM := Lib.hid ((HRM1.out.below hB').more hB'.size)
      have HZ' := Lib.hid ((HRZ2.out.below hB').more hB'.size)
      have Hfy := Lib.hid hfy
      clear hB' HB1 HRM1 HRZ2 hfy
      obtain ⟨HB1, HRM1, HRZ2⟩ : Hid _ ∧ Hid _ ∧ Hid _ := ⟨HN, HM, HZ'⟩
      clear HN HM HZ'
      clear hD0 HT1 HT2 HT3 HT4 fr1 fr2 hcc
      go_wp2_with fail
      refine (live_int B j c1 _ L K (by omega) zs (by omega) (by omega) (by have := HX1.out; omega) (by omega) (by omega) (by omega) _ HRZ2.out HZ.out).mono ?_
      rintro e w7 ⟨rfl, hb'⟩
      obtain ⟨lp, hlp⟩ : ∃ b, live zs K L = b := ⟨_, rfl⟩
      rw [hlp]
      have HN := Lib.hid (bthen HB1.out hb')
      have HM := Lib.hid ((HRM1.out.below hb').more hb'.size)
      have HZ' := Lib.hid ((HRZ2.out.below hb').more hb'.size)
      have Hlp := Lib.hid hlp
      clear hb' HB1 HRM1 HRZ2 hlp
      obtain ⟨HB1, HRM1, HRZ2⟩ : Hid _ ∧ Hid _ ∧ Hid _ := ⟨HN, HM, HZ'⟩
      clear HN HM HZ'
      go_wp2_with fail
      refine (live_int B j c1 _ L (K + 1) (by omega) zs (by omega) (by omega) (by have := HX1.out; omega) (by omega) (by omega) (by omega) _ HRZ2.out HZ.out).mono ?_
      rintro e w7 ⟨rfl, hb'⟩
      obtain ⟨lr, hlr⟩ : ∃ b, live zs (K + 1) L = b := ⟨_, rfl⟩
      rw [hlr]
      have HN := Lib.hid (bthen HB1.out hb')
      have HM := Lib.hid ((HRM1.out.below hb').more hb'.size)
      have HZ' := Lib.hid ((HRZ2.out.below hb').more hb'.size)
      have Hlr := Lib.hid hlr
      clear hb' HB1 HRM1 HRZ2 hlr
      obtain ⟨HB1, HRM1, HRZ2⟩ : Hid _ ∧ Hid _ ∧ Hid _ := ⟨HN, HM, HZ'⟩
      clear HN HM HZ'
      go_wp2_with fail
      refine (live_int B j c1 _ (L + 1) K (by omega) zs (by omega) (by omega) (by have := HX1.out; omega) (by omega) (by omega) (by omega) _ HRZ2.out HZ.out).mono ?_
      rintro e w7 ⟨rfl, hb'⟩
      obtain ⟨ls, hls⟩ : ∃ b, live zs K (L + 1) = b := ⟨_, rfl⟩
      rw [hls]
      have HN := Lib.hid (bthen HB1.out hb')
      have HM := Lib.hid ((HRM1.out.below hb').more hb'.size)
      have HZ' := Lib.hid ((HRZ2.out.below hb').more hb'.size)
      have Hls := Lib.hid hls
      clear hb' HB1 HRM1 HRZ2 hls
      obtain ⟨HB1, HRM1, HRZ2⟩ : Hid _ ∧ Hid _ ∧ Hid _ := ⟨HN, HM, HZ'⟩
      clear HN HM HZ'
      go_wp2_with fail
      refine (alive_any _).mono ?_
      rintro e w8 ⟨rfl, hb8⟩
      have HE := Lib.hid (bthen HB1.out hb8)
      clear hb8
      have k1 : Hid (fa = true → fb = true ∧ fx = true ∧ fy = true) := fun h => ⟨Hfb.out ▸ fair_more (Hfa.out.trans h), Hfx.out ▸ fair_take (Hfa.out.trans h), Hfy.out ▸ fair_drop (by have := HLZ.out; omega) (Hfa.out.trans h)⟩
      have k2 : Hid (fc = true → fa = true) := fun h => Hfa.out ▸ fair_less (by omega) (Hfc.out.trans h)
      have k3 : Hid (lp = true → lr = true) := fun h => Hlr.out ▸ live_more (Hlp.out.trans h)
      have k4 : Hid (ls = true → lp = true) := fun h => Hlp.out ▸ live_less (Hls.out.trans h)
      clear Hfa Hfb Hfc Hfx Hfy Hlp Hlr Hls
      cases fa
      · obtain rfl : fc = false := by cases fc with | false => rfl | true => exact absurd (k2.out rfl) (by simp)
        cases lp
        · obtain rfl : ls = false := by cases ls with | false => rfl | true => exact absurd (k4.out rfl) (by simp)
          go_wp2_with fail
          go_ret
          exact ⟨rfl, HE.out⟩
        · obtain rfl := k3.out rfl
          cases ls
          · go_wp2_with fail
            go_ret
            exact ⟨rfl, HE.out⟩
          · go_wp2_with fail
            go_ret
            exact ⟨rfl, HE.out⟩
      · obtain ⟨rfl, rfl, rfl⟩ := k1.out rfl
        cases lp
        · obtain rfl : ls = false := by cases ls with | false => rfl | true => exact absurd (k4.out rfl) (by simp)
          cases fc
          · go_wp2_with fail
            go_ret
            exact ⟨rfl, HE.out⟩
          · go_wp2_with fail
            go_ret
            exact ⟨rfl, HE.out⟩
        · obtain rfl := k3.out rfl
          cases ls
          · cases fc
            · go_wp2_with fail
              go_ret
              exact ⟨rfl, HE.out⟩
            · go_wp2_with fail
              go_ret
              exact ⟨rfl, HE.out⟩
          · cases fc
            · go_wp2_with fail
              go_ret
              exact ⟨rfl, HE.out⟩
            · go_wp2_with fail
              go_ret
              exact ⟨rfl, HE.out⟩
theorem walk (A : Option Addr) (n c : Nat) (xs : List Int) (B : Option Addr) (m c1 : Nat) (zs : List Int) (k q least a : Int) (w : World) (_ : ∀ z ∈ xs, (Lit.int .i64 z).wf = true)
    (hr : Reads w w.heap.size 1 A n (xs.map (Value.int .i64))) (hc : n ≤ c ∧ c ≤ maxLen) (wz : ∀ z ∈ zs, (Lit.int .i64 z).wf = true) (hr2 : Reads w w.heap.size 1 B m (zs.map (Value.int .i64))) (hc1 : m ≤ c1 ∧ c1 ≤ maxLen)
    (_ : (Lit.int .i64 k).wf = true) (_ : (Lit.int .i64 q).wf = true) (_ : (Lit.int .i64 least).wf = true) (_ : (Lit.int .i64 a).wf = true) :
    Calls Try.prog 14 #[.slice A n c, .slice B m c1, .int .i64 k, .int .i64 q, .int .i64 least, .int .i64 a] w fun e w' => e = .returned (.bool true) ∧ Below w.heap.size w w' :=
  walk1 A B n c m c1 (min (min n m) 100) (xs.take (min (min n m) 100)) (zs.take (min (min n m) 100)) k q least a w rfl hc.1 hc.2 hc1.1 hc1.2 (hr.int_take (by omega)) (hr2.int_take (by omega)) (fun z hz => wf_bd (wz z (List.mem_of_mem_take hz)))
end fairMore
end Go.Proofs.Yteejgejeggackaa
