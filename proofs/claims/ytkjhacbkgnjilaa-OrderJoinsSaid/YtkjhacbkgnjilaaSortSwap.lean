/-
  The contracts of slices.swapRangeCmpFunc and slices.rotateCmpFunc over floats.
-/
import Derived.Test.YtkjhacbkgnjilaaSortRow
import Derived.Test.YtkjhacbkgnjilaaSortRot
import Derived.Deep.QuietTactic
import Derived.BigQuiet
import Derived.Deep.RegionHeld3
import Derived.RegionTactic
import Derived.StillTailTactics
namespace Go.Proofs.Ytkjhacbkgnjilaa
open Go.RowKit
namespace Sorts
@[go_sem] theorem run_store_float {P : Program} {w : World} {a : Addr} {m : Mode} (k : FloatKind) (n : Nat) : (store a (.float k n) m).run P w = stored P w a (.float k n) m := run_store P w a _ m rfl
set_option maxRecDepth 100000 in
set_option maxHeartbeats 2000000 in
theorem swap_any (cmp : Value) (g N c a b k : Nat) (L : List Nat) (hN : N ≤ 1000) (hak : a + k ≤ N) (hbk : b + k ≤ N) (hab : a ≠ b) (w : World) (hr : RowF w g N c L) :
    Calls Try.prog 90 #[.slice (some ⟨g, 0, none⟩) N c, .int .i64 a, .int .i64 b, .int .i64 k, cmp] w fun e w' => e = .returned (.tuple #[]) ∧ RowF w' g N c (swaps L a b k) ∧ Kp (fun q => q = g) w w' := by
  have HR := Lib.hid hr
  clear hr
  go_enter Try.func90, Try.ntmps90
  go_wp2_with fail
  go_loopw [10] (fun v wr => ∃ i : Nat, i ≤ k ∧ v = .int .i64 i ∧ RowF wr g N c (swaps L a b i) ∧ Kp (fun q => q = g) w wr) (fun v _ => k - (intOf v).toNat)
  case atStart => exact ⟨0, Nat.zero_le _, rfl, HR.out, Kp.refl _ _⟩
  case round =>
    obtain ⟨i, hi, rfl, hrow, hkp⟩ := hrel
    have HROW := Lib.hid hrow
    have HKP := Lib.hid hkp
    by_cases hlt : i < k
    · have d0 : decide ((i : Int) < k) = true := decide_eq_true (by omega)
      have ca := hrow.get (i := a + i) (by omega)
      have cb := hrow.get (i := b + i) (by omega)
      have fa := hrow.fr (a + i)
      have fb := hrow.fr (b + i)
      have hne : a + i ≠ b + i := by omega
      have hne2 : b + i ≠ a + i := by omega
      have HSW := Lib.hid (hrow.swap (i := a + i) (j := b + i) (by omega) (by omega))
      obtain ⟨va, hva⟩ : ∃ x, (swaps L a b i).getD (a + i) 0 = x := ⟨_, rfl⟩
      obtain ⟨vb, hvb⟩ : ∃ x, (swaps L a b i).getD (b + i) 0 = x := ⟨_, rfl⟩
      rw [hva] at ca HSW
      rw [hvb] at cb HSW
      clear hrow hkp hva hvb
      go_wp2_with fail
      go_region
      have hkp2 := ((HKP.out.setCell (p := ⟨g, a + i, none⟩) (.inl rfl) (.float .f64 vb)).setCell (p := ⟨g, b + i, none⟩) (.inl rfl) (.float .f64 va)).drew
      have hrow2 : RowF ((wr.setCell ⟨g, a + i, none⟩ (.float .f64 vb)).setCell ⟨g, b + i, none⟩ (.float .f64 va)).drew g N c (swaps L a b (i + 1)) := by rw [swaps_succ]; exact HSW.out
      obtain ⟨W, hW⟩ : ∃ W, ((wr.setCell ⟨g, a + i, none⟩ (.float .f64 vb)).setCell ⟨g, b + i, none⟩ (.float .f64 va)).drew = W := ⟨_, rfl⟩
      rw [hW] at hkp2 hrow2 ⊢
      have HROW2 := Lib.hid hrow2
      have HKP2 := Lib.hid hkp2
      clear hW hrow2 hkp2 ca cb fa fb
      go_wp2_with fail
      exact ⟨⟨i + 1, by omega, rfl, HROW2.out, HKP2.out⟩, by simp only [intOf]; omega⟩
    · have d0 : decide ((i : Int) < k) = false := decide_eq_false (by omega)
      obtain rfl : i = k := by omega
      clear hrow hkp
      go_wp2_with fail
      go_end0
      exact ⟨rfl, HROW.out, HKP.out⟩
set_option maxRecDepth 100000 in
set_option maxHeartbeats 2000000 in
/-- Two runs, one behind the other, change their places. -/
theorem rotate_any (cmp : Value) (g N c a m b : Nat) (T L : List Nat) (hN : N ≤ 1000) (ham : a < m) (hmb : m < b) (w : World) (hr : RowF w g N c L) (hrot : Rot T (m - a) (b - m) m L) :
    Calls Try.prog 89 #[.slice (some ⟨g, 0, none⟩) N c, .int .i64 a, .int .i64 m, .int .i64 b, cmp] w fun e w' => e = .returned (.tuple #[]) ∧ RowF w' g N c T ∧ Kp (fun q => q = g) w w' := by
  have hb1000 : b ≤ 1000 := by have := hrot.le; have := hr.len; omega
  have HR := Lib.hid hr
  have HROT := Lib.hid hrot
  have ei : (m : Int) - a = ((m - a : Nat) : Int) := by omega
  have ej : (b : Int) - m = ((b - m : Nat) : Int) := by omega
  obtain ⟨i0, hi0⟩ : ∃ q, m - a = q := ⟨_, rfl⟩
  obtain ⟨j0, hj0⟩ : ∃ q, b - m = q := ⟨_, rfl⟩
  have h1 : 0 < i0 := by omega
  have h2 : 0 < j0 := by omega
  rw [hi0] at ei HROT
  rw [hj0] at ej HROT
  clear hr hrot hi0 hj0
  go_enter Try.func89, Try.ntmps89
  go_wp2_with fail
  go_loopw [10, 11] (fun v10 v11 wr => ∃ (i j : Nat) (D : List Nat), 0 < i ∧ 0 < j ∧ i + j ≤ 1000 ∧ v10 = .int .i64 i ∧ v11 = .int .i64 j ∧ Rot T i j m D ∧ RowF wr g N c D ∧ Kp (fun q => q = g) w wr) (fun v10 v11 _ => (intOf v10).toNat + (intOf v11).toNat)
  case atStart => exact ⟨i0, j0, L, h1, h2, by have := HROT.out.le; have := HR.out.len; omega, by first | rfl | rw [ei], by first | rfl | rw [ej], HROT.out, HR.out, Kp.refl _ _⟩
  case round =>
    obtain ⟨i, j, D, hi, hj, hij, rfl, rfl, hro, hrow, hkp⟩ := hrel
    have hle := hro.le
    have hlen := hrow.len
    have HRO := Lib.hid hro
    have HROW := Lib.hid hrow
    have HKP := Lib.hid hkp
    have e1 : (m : Int) - i = ((m - i : Nat) : Int) := by omega
    have hmi : i ≤ m := hle.1
    have hmN : m + j ≤ N := by omega
    clear hro hrow hkp hle hlen ei ej
    by_cases he : i = j
    · subst he
      have d0 : ((i : Int) != i) = false := by simp
      go_wp2_with fail
      refine (swap_any cmp g N c (m - i) m i D hN (by omega) (by omega) (by omega) wr HROW.out).mono ?_
      rintro e w2 ⟨rfl, hrow2, hkp2⟩
      rw [rot_eq HRO.out] at hrow2
      have HROW2 := Lib.hid hrow2
      have HKP2 := Lib.hid (HKP.out.trans hkp2 (fun _ h => .inl h))
      clear hrow2 hkp2
      go_wp2_with fail
      go_end0
      exact ⟨rfl, HROW2.out, HKP2.out⟩
    · have d0 : ((i : Int) != j) = true := bne_iff_ne.2 (by omega)
      by_cases hgt : j < i
      · have d1 : decide ((j : Int) < i) = true := decide_eq_true (by omega)
        have e2 : (i : Int) - j = ((i - j : Nat) : Int) := by omega
        go_wp2_with fail
        refine (swap_any cmp g N c (m - i) m j D hN (by omega) (by omega) (by omega) wr HROW.out).mono ?_
        rintro e w2 ⟨rfl, hrow2, hkp2⟩
        have HRO2 := Lib.hid (rot_gt HRO.out hgt)
        have HROW2 := Lib.hid hrow2
        have HKP2 := Lib.hid (HKP.out.trans hkp2 (fun _ h => .inl h))
        clear hrow2 hkp2
        go_wp2_with fail
        exact ⟨⟨i - j, j, _, by omega, hj, by omega, rfl, rfl, HRO2.out, HROW2.out, HKP2.out⟩, by simp only [intOf]; omega⟩
      · have d1 : decide ((j : Int) < i) = false := decide_eq_false (by omega)
        have e2 : (m : Int) + j - i = ((m + j - i : Nat) : Int) := by omega
        have e3 : (j : Int) - i = ((j - i : Nat) : Int) := by omega
        go_wp2_with fail
        refine (swap_any cmp g N c (m - i) (m + j - i) i D hN (by omega) (by omega) (by omega) wr HROW.out).mono ?_
        rintro e w2 ⟨rfl, hrow2, hkp2⟩
        have HRO2 := Lib.hid (rot_lt HRO.out (by omega))
        have HROW2 := Lib.hid hrow2
        have HKP2 := Lib.hid (HKP.out.trans hkp2 (fun _ h => .inl h))
        clear hrow2 hkp2
        go_wp2_with fail
        exact ⟨⟨i, j - i, _, hi, by omega, by omega, rfl, rfl, HRO2.out, HROW2.out, HKP2.out⟩, by simp only [intOf]; omega⟩
end Sorts
end Go.Proofs.Ytkjhacbkgnjilaa
