/-
  What a share of two ints is (plain law).
-/
import Derived.Test.YtkjhacbkgnjilaaFloat3
namespace Go.Proofs.Ytkjhacbkgnjilaa
namespace Fl
open Ieee
/-- The rung of a share of two whole numbers that are not 0. -/
@[irreducible] def sr (m n : Nat) : Nat := qr (fr m / 4503599627370496) (fr m % 4503599627370496) (fr n / 4503599627370496) (fr n % 4503599627370496)

theorem sr_bd {m n : Nat} (hm : m ≠ 0) (hn : n ≠ 0) (hm2 : m ≤ 9223372036854775808) (hn2 : n ≤ 9223372036854775808) : 0 < sr m n ∧ sr m n < 9218868437227405312 := by
  have h1 := fr_bd hm hm2
  have h2 := fr_bd hn hn2
  unfold sr
  exact qr_bd (by omega) (by omega) (by omega) (by omega) (by omega) (by omega)
theorem sr_mono {m k n : Nat} (hm : m ≠ 0) (h : m ≤ k) (hn : n ≠ 0) (hk2 : k ≤ 9223372036854775808) (hn2 : n ≤ 9223372036854775808) : sr m n ≤ sr k n := by
  have h1 := fr_bd hm (by omega)
  have h2 := fr_bd hn hn2
  have h3 := fr_bd (n := k) (by omega) hk2
  have h4 := fr_mono hm h
  unfold sr
  exact qr_mono (by omega) (by omega) (by omega) (by omega) (by omega) (by omega)
theorem quo_self {m : Nat} (h : 0 < m) : quo m m = 36028797018963968 := by
  unfold quo
  rw [Nat.mul_div_cancel_left _ h, Nat.mul_mod_right]
  rfl
theorem kept_one : kept 36028797018963968 = 4503599627370496 := by
  have h : Nat.log2 36028797018963968 = 55 := (Nat.log2_eq_iff (by omega)).2 ⟨by decide, by decide⟩
  unfold kept
  rw [h, if_neg (by omega)]
  unfold rnd
  decide
theorem sr_self (n : Nat) : sr n n = 4607182418800017408 := by
  have h : Nat.log2 36028797018963968 = 55 := (Nat.log2_eq_iff (by omega)).2 ⟨by decide, by decide⟩
  unfold sr qr
  rw [quo_self (Nat.add_pos_left (by decide) _), kept_one, h]
  rw [show ((fr n / 4503599627370496 : Nat) : Int) - ((fr n / 4503599627370496 : Nat) : Int) + 967 + ((55 : Nat) : Int) = 1022 by omega]
  decide

theorem div_ints {m n : Nat} (s z : Bool) (hm : m ≠ 0) (hn : n ≠ 0) (hm2 : m ≤ 9223372036854775808) (hn2 : n ≤ 9223372036854775808) : double.div (double.word s (fr m)) (double.word z (fr n)) = some (double.word (s ^^ z) (sr m n)) := by
  have h1 := fr_bd hm hm2
  have h2 := fr_bd hn hn2
  have e1 : fr m = fr m / 4503599627370496 * 4503599627370496 + fr m % 4503599627370496 := by omega
  have e2 : fr n = fr n / 4503599627370496 * 4503599627370496 + fr n % 4503599627370496 := by omega
  have := div_norm s z (q := fr m / 4503599627370496) (t := fr m % 4503599627370496) (p := fr n / 4503599627370496) (u := fr n % 4503599627370496) (by omega) (by omega) (by omega) (by omega) (by omega) (by omega)
  rw [← e1, ← e2] at this
  rw [this]
  unfold sr
  rfl

theorem read_zero : double.read 0 = .number false 0 (-1074) := by decide
theorem div_zero_ {m : Nat} (s : Bool) (hm : m ≠ 0) (hm2 : m ≤ 9223372036854775808) : double.div (double.word s (fr m)) 0 = some (double.word s 9218868437227405312) := by
  have h1 := fr_bd hm hm2
  have e1 : fr m = fr m / 4503599627370496 * 4503599627370496 + fr m % 4503599627370496 := by omega
  unfold Format.div
  rw [e1, read_norm s (by omega) (by omega) (by omega), read_zero]
  simp only [Datum.quotient]
  rw [if_pos trivial, if_neg (by omega)]
  simp [Format.write, dinf]
theorem zero_div_ {m : Nat} (s : Bool) (hm : m ≠ 0) (hm2 : m ≤ 9223372036854775808) : double.div 0 (double.word s (fr m)) = some (double.word s 0) := by
  have h1 := fr_bd hm hm2
  have e1 : fr m = fr m / 4503599627370496 * 4503599627370496 + fr m % 4503599627370496 := by omega
  unfold Format.div
  rw [e1, read_norm s (by omega) (by omega) (by omega), read_zero]
  simp only [Datum.quotient]
  rw [if_neg (by omega)]
  simp [Format.write, Format.nearest]

/-- What a share is. -/
theorem share_is {a b : Int} {r : Nat} (h : isShare a b r) (ha : a.natAbs ≤ 9223372036854775808) (hb : b.natAbs ≤ 9223372036854775808) :
    (a = 0 ∧ b = 0 ∧ nan r = true) ∨ (a ≠ 0 ∧ b = 0 ∧ r = double.word (decide (a < 0)) 9218868437227405312) ∨ (a = 0 ∧ b ≠ 0 ∧ r = double.word (decide (b < 0)) 0) ∨
    (a ≠ 0 ∧ b ≠ 0 ∧ r = double.word (decide (a < 0) ^^ decide (b < 0)) (sr a.natAbs b.natAbs)) := by
  by_cases h0 : a = 0
  · subst h0
    by_cases h1 : b = 0
    · subst h1
      exact .inl ⟨rfl, rfl, h.2.2 (by decide)⟩
    · refine .inr (.inr (.inl ⟨rfl, h1, h.2.1 _ ?_⟩))
      show double.div _ _ = _
      rw [float_zero, float_int h1 hb]
      exact zero_div_ _ (by omega) hb
  · by_cases h1 : b = 0
    · subst h1
      refine .inr (.inl ⟨h0, rfl, h.2.1 _ ?_⟩)
      show double.div _ _ = _
      rw [float_zero, float_int h0 ha]
      exact div_zero_ _ (by omega) ha
    · refine .inr (.inr (.inr ⟨h0, h1, h.2.1 _ ?_⟩))
      show double.div _ _ = _
      rw [float_int h0 ha, float_int h1 hb]
      exact div_ints _ _ (by omega) (by omega) ha hb

theorem nan_sr (s : Bool) {m n : Nat} (hm : m ≠ 0) (hn : n ≠ 0) (hm2 : m ≤ 9223372036854775808) (hn2 : n ≤ 9223372036854775808) : nan (double.word s (sr m n)) = false := nan_word s (by have := sr_bd hm hn hm2 hn2; omega)
theorem key_sr (s : Bool) {m n : Nat} (hm : m ≠ 0) (hn : n ≠ 0) (hm2 : m ≤ 9223372036854775808) (hn2 : n ≤ 9223372036854775808) : key (double.word s (sr m n)) = sg s (sr m n) := key_word s (by have := sr_bd hm hn hm2 hn2; omega)
end Fl
end Go.Proofs.Ytkjhacbkgnjilaa
