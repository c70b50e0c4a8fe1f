/-
  More on floats: a float halved, one over nought, the sign turned (plain laws on Ieee's words).
-/
import Derived.Test.YtkjhacbkgnjilaaFloat
namespace Go.Proofs.Ytkjhacbkgnjilaa
namespace Fl
open Ieee

theorem sgn_word (s : Bool) {r : Nat} (h : r < 9223372036854775808) : sgn (double.word s r) = s ∧ rung (double.word s r) = r ∧ double.word s r < 18446744073709551616 := by
  unfold Format.word
  rw [dsw]
  cases s
  · simp [sgn, rung]; omega
  · simp [sgn, rung]; omega

theorem nan_word (s : Bool) {r : Nat} (h : r ≤ 9218868437227405312) : nan (double.word s r) = false := by
  simp only [nan, (sgn_word s (r := r) (by omega)).2.1]
  simp; omega
theorem key_word (s : Bool) {r : Nat} (h : r ≤ 9218868437227405312) : key (double.word s r) = sg s r := by
  have := sgn_word s (r := r) (by omega)
  rw [key_eq, this.1, this.2.1]

theorem neg_eq (b : Nat) (h : b < 18446744073709551616) : sgn (Op.negFloat .f64 b) = !sgn b ∧ rung (Op.negFloat .f64 b) = rung b ∧ Op.negFloat .f64 b < 18446744073709551616 := by
  have e : Op.negFloat .f64 b = b ^^^ 2 ^ 63 := rfl
  rw [e]
  have h1 : (b ^^^ 2 ^ 63) % 2 ^ 63 = b % 2 ^ 63 := by rw [Nat.xor_mod_two_pow]; simp
  have h2 : (b ^^^ 2 ^ 63) / 2 ^ 63 = b / 2 ^ 63 ^^^ 1 := by rw [Nat.xor_div_two_pow]
  have h3 : (b ^^^ 2 ^ 63) < 2 ^ 64 := Nat.xor_lt_two_pow h (by omega)
  refine ⟨?_, h1, h3⟩
  unfold sgn
  show ((b ^^^ 2 ^ 63) / 2 ^ 63 % 2 == 1) = !(b / 2 ^ 63 % 2 == 1)
  rw [h2]
  have : b / 2 ^ 63 = 0 ∨ b / 2 ^ 63 = 1 := by omega
  rcases this with h | h <;> rw [h] <;> rfl

theorem neg_nan (b : Nat) (h : b < 18446744073709551616) : nan (Op.negFloat .f64 b) = nan b := by simp only [nan, (neg_eq b h).2.1]
theorem neg_key (b : Nat) (h : b < 18446744073709551616) : key (Op.negFloat .f64 b) = - key b := by
  obtain ⟨h1, h2, _⟩ := neg_eq b h
  unfold key
  rw [h1, h2]
  cases sgn b <;> simp

theorem read_one : double.read 4607182418800017408 = .number false 4503599627370496 (-52) := by decide
theorem read_two : double.read 4611686018427387904 = .number false 4503599627370496 (-51) := by decide
theorem log_b : Nat.log2 4503599627370496 = 52 := by decide +kernel

theorem div_one_zero {x : Nat} (h : rung x = 0) : double.div 4607182418800017408 x = some (double.word (sgn x) 9218868437227405312) := by
  have h1 : double.read x = .number (sgn x) 0 (-1074) := by
    unfold Format.read
    rw [dsw, dbin, dinf, dlp]
    simp only [rung] at h
    simp [h, sgn]
  unfold Format.div
  rw [h1, read_one]
  simp [Datum.quotient, Format.write, dinf]

theorem div_two_inf {x : Nat} (h : rung x = 9218868437227405312) : double.div x 4611686018427387904 = some (double.word (sgn x) 9218868437227405312) := by
  unfold Format.div
  rw [read_inf h, read_two]
  simp [Datum.quotient, Format.write, dinf]

theorem fin_word (q t B inf : Nat) (hq : 2 ≤ q) (h : (q - 1) * B + t ≤ inf) : min ((q - 2) * B + (B + t)) inf = (q - 1) * B + t := by
  have e : (q - 1) * B = (q - 2) * B + B := by
    rw [show q - 1 = (q - 2) + 1 by omega, Nat.succ_mul]
  omega
theorem log_of {m : Nat} (h1 : 4503599627370496 ≤ m) (h2 : m < 9007199254740992) : m.log2 = 52 := (Nat.log2_eq_iff (by omega)).2 ⟨by simpa using h1, by simpa using h2⟩

theorem div_two_fin {x : Nat} (h : rung x < 9218868437227405312) : ∃ r, double.div x 4611686018427387904 = some r ∧ (4607182418800017408 < rung x → nan r = false ∧ key r ≠ key x) := by
  by_cases hb : 4607182418800017408 < rung x
  · obtain ⟨q, t, hr, ht, hq, hq2⟩ : ∃ q t, rung x = q * 4503599627370496 + t ∧ t < 4503599627370496 ∧ 1023 ≤ q ∧ q < 2047 := ⟨rung x / 4503599627370496, rung x % 4503599627370496, by omega, by omega, by omega, by omega⟩
    have e1 : double.read x = .number (sgn x) (4503599627370496 + t) (-1074 + (q - 1 : Nat)) := by
      unfold Format.read
      rw [dsw, dbin, dinf, dlp]
      simp only [rung] at hr h
      have hd : (q * 4503599627370496 + t) % 4503599627370496 = t := by omega
      have hd2 : (q * 4503599627370496 + t) / 4503599627370496 = q := by omega
      dsimp only
      rw [hr, hd, hd2, if_neg (by omega), if_pos (by omega)]
      rfl
    refine ⟨double.word (sgn x) ((q - 1) * 4503599627370496 + t), ?_, fun _ => ?_⟩
    · unfold Format.div
      rw [e1, read_two]
      have hm : (4503599627370496 + t).log2 = 52 := log_of (by omega) (by omega)
      simp only [Datum.quotient, log_b, hm]
      rw [if_neg (by omega)]
      have hf : double.fractionBits = 52 := rfl
      rw [hf]
      simp only [Option.map_some, Option.some.injEq, Format.write]
      have e3 : (4503599627370496 + t) <<< (52 + 2 + 52 - 52) = (4503599627370496 + t) * 4 * 4503599627370496 := by
        rw [Nat.shiftLeft_eq, show 2 ^ (52 + 2 + 52 - 52) = 4 * 4503599627370496 by decide, Nat.mul_assoc]
      rw [e3, Nat.mul_div_cancel _ (by omega), Nat.mul_mod_left]
      unfold Format.nearest
      have hl : (2 * ((4503599627370496 + t) * 4) + ((0 : Nat) != 0).toNat) = 8 * (4503599627370496 + t) := by
        simp; omega
      rw [hl, if_neg (by omega), dlp, dbin, dinf, hf]
      have hlog : (8 * (4503599627370496 + t)).log2 = 55 := (Nat.log2_eq_iff (by omega)).2 ⟨by omega, by omega⟩
      rw [hlog]
      have hplace : (-1074 + ((q - 1 : Nat) : Int) - -51 - ((52 + 2 + 52 - 52 : Nat) : Int) - 1) = (q : Int) - 1079 := by omega
      rw [hplace]
      have hlast : max ((q : Int) - 1079 + ((55 : Nat) : Int) - ((52 : Nat) : Int)) (-1074) = (q : Int) - 1076 := by omega
      rw [hlast]
      dsimp only
      have h0 : ((q : Int) - 1079 - ((q : Int) - 1076)).toNat = 0 := by omega
      have h3 : ((q : Int) - 1076 - ((q : Int) - 1079)).toNat = 3 := by omega
      have hk : ((q : Int) - 1076 - -1074).toNat = q - 2 := by omega
      rw [h0, h3, hk]
      have hc : Toward.even.cut (sgn x ^^ false) ((8 * (4503599627370496 + t)) <<< 0) 3 = 4503599627370496 + t := by
        unfold Toward.cut
        simp only [Nat.shiftLeft_zero, hlog]
        have : (1 <<< min 3 (55 + 2)) = 8 := by decide
        rw [this]
        have e5 : 8 * (4503599627370496 + t) / 8 = 4503599627370496 + t := by omega
        have e6 : 8 * (4503599627370496 + t) % 8 = 0 := by omega
        rw [e5, e6]
        simp
      rw [hc, Bool.xor_false]
      exact congrArg _ (fin_word q t _ _ (by omega) (by omega))
    · have hl : (q - 1) * 4503599627370496 + t ≤ 9218868437227405312 := by omega
      refine ⟨nan_word _ hl, ?_⟩
      rw [key_word _ hl, key_eq, hr]
      unfold sg
      split <;> omega
  · obtain ⟨m, i, e1, _, _⟩ := read_fin h
    obtain ⟨r, hr⟩ : ∃ r, double.div x 4611686018427387904 = some r := by
      unfold Format.div
      rw [e1, read_two]
      simp only [Datum.quotient]
      rw [if_neg (by omega)]
      exact ⟨_, rfl⟩
    exact ⟨r, hr, fun hc => absurd hc hb⟩
end Fl
end Go.Proofs.Ytkjhacbkgnjilaa
