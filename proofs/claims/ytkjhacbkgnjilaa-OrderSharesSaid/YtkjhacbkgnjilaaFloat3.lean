/-
  Shares: an int over an int, as floats: signs, bounds, and that more is no less (plain laws on Ieee's words).
-/
import Derived.Test.YtkjhacbkgnjilaaOrderShare
namespace Go.Proofs.Ytkjhacbkgnjilaa
namespace Fl
open Ieee

@[irreducible] def rnd (n d : Nat) : Nat := n / 2 ^ d + (if 2 ^ d < 2 * (n % 2 ^ d) ∨ (2 ^ d = 2 * (n % 2 ^ d) ∧ n / 2 ^ d % 2 = 1) then 1 else 0)

theorem cut_eq (s : Bool) (n d : Nat) (h : d ≤ n.log2 + 2) : Toward.even.cut s n d = rnd n d := by
  have hm : min d (n.log2 + 2) = d := by omega
  unfold Toward.cut rnd
  simp only [hm, Nat.shiftLeft_eq, Nat.one_mul]
  by_cases h1 : 2 ^ d < 2 * (n % 2 ^ d)
  · simp [h1]
  · by_cases h2 : 2 ^ d = 2 * (n % 2 ^ d)
    · by_cases h3 : n / 2 ^ d % 2 = 1
      · rw [if_pos (.inr ⟨h2, h3⟩)]
        simp [← h2, h3]
      · rw [if_neg (by omega)]
        simp [← h2, h3]
    · rw [if_neg (by omega)]
      simp [h1, h2]

theorem rnd_mono {n m : Nat} (d : Nat) (h : n ≤ m) : rnd n d ≤ rnd m d := by
  unfold rnd
  have hd : 0 < 2 ^ d := Nat.two_pow_pos d
  generalize 2 ^ d = g at hd
  have h1 : n / g ≤ m / g := Nat.div_le_div_right h
  by_cases he : n / g = m / g
  · have e1 := Nat.div_add_mod n g
    have e2 := Nat.div_add_mod m g
    rw [he] at e1
    have h2 : n % g ≤ m % g := by omega
    rw [he]
    split <;> split <;> omega
  · split <;> split <;> omega

@[irreducible] def kept (n : Nat) : Nat := if n.log2 ≤ 52 then n * 2 ^ (52 - n.log2) else rnd n (n.log2 - 52)

theorem pow52 : (2 : Nat) ^ 52 = 4503599627370496 := by decide
theorem pow53 : (2 : Nat) ^ 53 = 9007199254740992 := by decide

theorem kept_bd {n : Nat} (h : n ≠ 0) : 4503599627370496 ≤ kept n ∧ kept n ≤ 9007199254740992 := by
  have h1 : 2 ^ n.log2 ≤ n := Nat.log2_self_le h
  have h2 : n < 2 ^ (n.log2 + 1) := Nat.lt_log2_self
  unfold kept
  generalize hk : n.log2 = k at h1 h2
  by_cases hs : k ≤ 52
  · rw [if_pos hs]
    have e1 : 2 ^ k * 2 ^ (52 - k) = 4503599627370496 := by rw [← Nat.pow_add, show k + (52 - k) = 52 by omega, pow52]
    have e2 : 2 ^ (k + 1) * 2 ^ (52 - k) = 9007199254740992 := by rw [← Nat.pow_add, show k + 1 + (52 - k) = 53 by omega, pow53]
    have l1 := Nat.mul_le_mul_right (2 ^ (52 - k)) h1
    have l2 := Nat.mul_le_mul_right (2 ^ (52 - k)) (Nat.le_of_lt h2)
    omega
  · rw [if_neg hs]
    have e1 : 2 ^ k = 2 ^ (k - 52) * 4503599627370496 := by rw [← pow52, ← Nat.pow_add, show k - 52 + 52 = k by omega]
    have e2 : 2 ^ (k + 1) = 2 ^ (k - 52) * 9007199254740992 := by rw [← pow53, ← Nat.pow_add, show k - 52 + 53 = k + 1 by omega]
    have hd : 0 < 2 ^ (k - 52) := Nat.two_pow_pos _
    rw [e1] at h1
    rw [e2] at h2
    have l1 : 4503599627370496 ≤ n / 2 ^ (k - 52) := (Nat.le_div_iff_mul_le hd).2 (by rw [Nat.mul_comm]; exact h1)
    have l2 : n / 2 ^ (k - 52) < 9007199254740992 := (Nat.div_lt_iff_lt_mul hd).2 (by rw [Nat.mul_comm]; exact h2)
    unfold rnd
    split <;> omega

theorem kept_mono {n m : Nat} (h : n ≤ m) (hl : n.log2 = m.log2) : kept n ≤ kept m := by
  unfold kept
  rw [hl]
  split
  · exact Nat.mul_le_mul_right _ h
  · exact rnd_mono _ h

theorem min_fit {x k : Nat} (hx : x ≤ 2044) (hk : k ≤ 9007199254740992) : min (x * 4503599627370496 + k) 9218868437227405312 = x * 4503599627370496 + k := by omega
theorem step_up {x y : Int} {k l : Nat} (h : x < y) (hy : 0 ≤ x) (hk : k ≤ 9007199254740992) (hl : 4503599627370496 ≤ l) : x.toNat * 4503599627370496 + k ≤ y.toNat * 4503599627370496 + l := by
  have : x.toNat + 1 ≤ y.toNat := by omega
  generalize x.toNat = a at *
  generalize y.toNat = b at *
  omega
theorem word_congr (s : Bool) {r q : Nat} (h : r = q) : double.word s r = double.word s q := by rw [h]
theorem nearest_eq (s : Bool) {n : Nat} (p : Int) (hn : n ≠ 0) (h1 : -1022 ≤ p + n.log2) (h2 : p + n.log2 ≤ 1022) : double.nearest s n p = double.word s ((p + n.log2 + 1022).toNat * 4503599627370496 + kept n) := by
  have hk := kept_bd hn
  unfold Format.nearest
  rw [if_neg hn, dlp, dbin, dinf]
  have hf : double.fractionBits = 52 := rfl
  rw [hf]
  have hl : max (p + (n.log2 : Int) - ((52 : Nat) : Int)) (-1074) = p + (n.log2 : Int) - 52 := by omega
  rw [hl]
  dsimp only
  refine word_congr s ?_
  have e1 : (p + (n.log2 : Int) - 52 - -1074).toNat = (p + n.log2 + 1022).toNat := by omega
  rw [e1]
  have hc : Toward.even.cut s (n <<< (p - (p + (n.log2 : Int) - 52)).toNat) (p + (n.log2 : Int) - 52 - p).toNat = kept n := by
    unfold kept
    by_cases hs : n.log2 ≤ 52
    · rw [if_pos hs, show (p + (n.log2 : Int) - 52 - p).toNat = 0 by omega, show (p - (p + (n.log2 : Int) - 52)).toNat = 52 - n.log2 by omega, cut_eq _ _ _ (by omega), Nat.shiftLeft_eq]
      simp only [rnd, Nat.pow_zero, Nat.div_one, Nat.mod_one]
      simp
    · rw [if_neg hs, show (p + (n.log2 : Int) - 52 - p).toNat = n.log2 - 52 by omega, show (p - (p + (n.log2 : Int) - 52)).toNat = 0 by omega, Nat.shiftLeft_zero, cut_eq _ _ _ (by omega)]
  rw [hc]
  have hx : (p + (n.log2 : Int) + 1022).toNat ≤ 2044 := by omega
  exact min_fit hx hk.2

/-- The rung of a whole number that is not 0. -/
@[irreducible] def fr (n : Nat) : Nat := (n.log2 + 1022) * 4503599627370496 + kept n

theorem log_lt {n : Nat} (h0 : n ≠ 0) (h : n ≤ 9223372036854775808) : n.log2 ≤ 63 := by
  rcases Nat.lt_or_ge 63 n.log2 with h1 | h1
  · have h2 := Nat.log2_self_le h0
    have h3 : 2 ^ 64 ≤ 2 ^ n.log2 := Nat.pow_le_pow_right (by omega) h1
    omega
  · exact h1

theorem fr_bd {n : Nat} (h0 : n ≠ 0) (h : n ≤ 9223372036854775808) : 1023 * 4503599627370496 ≤ fr n ∧ fr n ≤ 1087 * 4503599627370496 := by
  have h1 := log_lt h0 h
  have h2 := kept_bd h0
  unfold fr
  omega

theorem fr_mono {n m : Nat} (h0 : n ≠ 0) (h : n ≤ m) : fr n ≤ fr m := by
  have hm : m ≠ 0 := by omega
  have k1 := kept_bd h0
  have k2 := kept_bd hm
  have hl : n.log2 ≤ m.log2 := by
    have h1 : 2 ^ n.log2 ≤ m := Nat.le_trans (Nat.log2_self_le h0) h
    exact (Nat.le_log2 hm).2 h1
  unfold fr
  by_cases he : n.log2 = m.log2
  · have := kept_mono h he
    rw [he]
    omega
  · omega

theorem float_int {a : Int} (h : a ≠ 0) (h2 : a.natAbs ≤ 9223372036854775808) : floatOfInt .f64 a = double.word (decide (a < 0)) (fr a.natAbs) := by
  have h0 : a.natAbs ≠ 0 := by omega
  have hl := log_lt h0 h2
  show double.nearest _ _ _ = _
  rw [nearest_eq _ 0 h0 (by omega) (by omega)]
  refine word_congr _ ?_
  unfold fr
  rw [show ((0 : Int) + (a.natAbs.log2 : Int) + 1022).toNat = a.natAbs.log2 + 1022 by omega]
theorem float_zero : floatOfInt .f64 0 = 0 := by decide

theorem read_norm (s : Bool) {q t : Nat} (h1 : 1 ≤ q) (h2 : q < 2047) (ht : t < 4503599627370496) : double.read (double.word s (q * 4503599627370496 + t)) = .number s (4503599627370496 + t) ((q : Int) - 1075) := by
  have hlt : q * 4503599627370496 + t < 9223372036854775808 := by omega
  obtain ⟨e1, e2, _⟩ := sgn_word s hlt
  unfold Format.read
  rw [dsw, dbin, dinf, dlp]
  simp only [rung] at e2
  have e3 : (double.word s (q * 4503599627370496 + t) / 9223372036854775808 % 2 == 1) = s := e1
  dsimp only
  rw [e2, e3]
  have hd : (q * 4503599627370496 + t) % 4503599627370496 = t := by omega
  have hd2 : (q * 4503599627370496 + t) / 4503599627370496 = q := by omega
  rw [hd, hd2, if_neg (by omega), if_pos (by omega)]
  congr 1
  omega

/-- The quotient's digits. -/
@[irreducible] def quo (m n : Nat) : Nat := 2 * (m * 18014398509481984 / n) + (if m * 18014398509481984 % n = 0 then 0 else 1)

theorem quo_bd {m n : Nat} (h1 : 4503599627370496 ≤ m) (h2 : m < 9007199254740992) (k1 : 4503599627370496 ≤ n) (k2 : n < 9007199254740992) : 18014398509481984 ≤ quo m n ∧ quo m n < 72057594037927936 := by
  have hd : 0 < n := by omega
  have l1 : 9007199254740992 ≤ m * 18014398509481984 / n := (Nat.le_div_iff_mul_le hd).2 (by omega)
  have l2 : m * 18014398509481984 / n < 36028797018963968 := (Nat.div_lt_iff_lt_mul hd).2 (by omega)
  unfold quo
  split <;> omega

theorem quo_log {m n : Nat} (h1 : 4503599627370496 ≤ m) (h2 : m < 9007199254740992) (k1 : 4503599627370496 ≤ n) (k2 : n < 9007199254740992) : (quo m n).log2 = 54 ∧ quo m n < 36028797018963968 ∨ (quo m n).log2 = 55 ∧ 36028797018963968 ≤ quo m n := by
  obtain ⟨b1, b2⟩ := quo_bd h1 h2 k1 k2
  by_cases h : quo m n < 36028797018963968
  · exact .inl ⟨(Nat.log2_eq_iff (by omega)).2 ⟨by omega, by omega⟩, h⟩
  · exact .inr ⟨(Nat.log2_eq_iff (by omega)).2 ⟨by omega, by omega⟩, by omega⟩

/-- The rung of a quotient. -/
@[irreducible] def qr (q t p u : Nat) : Nat := ((q : Int) - p + 967 + (quo (4503599627370496 + t) (4503599627370496 + u)).log2).toNat * 4503599627370496 + kept (quo (4503599627370496 + t) (4503599627370496 + u))

theorem div_norm (s z : Bool) {q t p u : Nat} (h1 : 1000 ≤ q) (h2 : q < 1100) (ht : t < 4503599627370496) (k1 : 1000 ≤ p) (k2 : p < 1100) (hu : u < 4503599627370496) :
    double.div (double.word s (q * 4503599627370496 + t)) (double.word z (p * 4503599627370496 + u)) = some (double.word (s ^^ z) (qr q t p u)) := by
  unfold Format.div
  rw [read_norm s (by omega) (by omega) ht, read_norm z (by omega) (by omega) hu]
  simp only [Datum.quotient]
  rw [if_neg (by omega), log_of (m := 4503599627370496 + t) (by omega) (by omega), log_of (m := 4503599627370496 + u) (by omega) (by omega)]
  have hf : double.fractionBits = 52 := rfl
  rw [hf]
  have e1 : (4503599627370496 + t) <<< (52 + 2 + 52 - 52) = (4503599627370496 + t) * 18014398509481984 := by rw [Nat.shiftLeft_eq]
  rw [e1]
  have e2 : 2 * ((4503599627370496 + t) * 18014398509481984 / (4503599627370496 + u)) + ((4503599627370496 + t) * 18014398509481984 % (4503599627370496 + u) != 0).toNat = quo (4503599627370496 + t) (4503599627370496 + u) := by
    unfold quo
    by_cases h : (4503599627370496 + t) * 18014398509481984 % (4503599627370496 + u) = 0
    · rw [if_pos h, h]; rfl
    · rw [if_neg h]
      have : ((4503599627370496 + t) * 18014398509481984 % (4503599627370496 + u) != 0) = true := by simpa using h
      rw [this]; rfl
  rw [e2]
  have hl := quo_log (m := 4503599627370496 + t) (n := 4503599627370496 + u) (by omega) (by omega) (by omega) (by omega)
  have hb := quo_bd (m := 4503599627370496 + t) (n := 4503599627370496 + u) (by omega) (by omega) (by omega) (by omega)
  simp only [Option.map_some, Format.write]
  rw [show ((q : Int) - 1075 - ((p : Int) - 1075) - ((52 + 2 + 52 - 52 : Nat) : Int) - 1) = (q : Int) - p - 55 by omega]
  rw [nearest_eq _ _ (by omega) (by omega) (by omega)]
  refine congrArg some (word_congr _ ?_)
  unfold qr
  rw [show (q : Int) - p - 55 + ((quo (4503599627370496 + t) (4503599627370496 + u)).log2 : Int) + 1022 = (q : Int) - p + 967 + ((quo (4503599627370496 + t) (4503599627370496 + u)).log2 : Int) by omega]

theorem qr_bd {q t p u : Nat} (h1 : 1000 ≤ q) (h2 : q < 1100) (ht : t < 4503599627370496) (k1 : 1000 ≤ p) (k2 : p < 1100) (hu : u < 4503599627370496) : 0 < qr q t p u ∧ qr q t p u < 9218868437227405312 := by
  have hl := quo_log (m := 4503599627370496 + t) (n := 4503599627370496 + u) (by omega) (by omega) (by omega) (by omega)
  have hb := quo_bd (m := 4503599627370496 + t) (n := 4503599627370496 + u) (by omega) (by omega) (by omega) (by omega)
  have hk := kept_bd (n := quo (4503599627370496 + t) (4503599627370496 + u)) (by omega)
  unfold qr
  omega

theorem floor_two {D E n : Nat} (hn : 0 < n) (h : D ≤ 2 * E) : D / n ≤ 2 * (E / n) + 1 ∧ (D / n = 2 * (E / n) + 1 → E % n ≠ 0) ∧ (D / n = 2 * (E / n) → D % n ≠ 0 → E % n ≠ 0) := by
  have e1 := Nat.div_add_mod D n
  have e2 := Nat.div_add_mod E n
  have l1 := Nat.mod_lt D hn
  have l2 := Nat.mod_lt E hn
  generalize D / n = X at *
  generalize E / n = Y at *
  generalize D % n = R at *
  generalize E % n = S at *
  have h0 : n * (2 * Y) = 2 * (n * Y) := by rw [Nat.mul_left_comm]
  refine ⟨?_, fun hx => ?_, fun hx hr => ?_⟩
  · rcases Nat.lt_or_ge (2 * Y + 1) X with hc | hc
    · have h3 : n * (2 * Y + 2) ≤ n * X := Nat.mul_le_mul_left _ hc
      rw [Nat.mul_add] at h3
      omega
    · exact hc
  · rw [hx, Nat.mul_add] at e1
    omega
  · rw [hx] at e1
    omega

theorem sticky_mono {D E n : Nat} (h1 : D ≤ E) : 2 * (D / n) + (if D % n = 0 then 0 else 1) ≤ 2 * (E / n) + (if E % n = 0 then 0 else 1) := by
  have h2 : D / n ≤ E / n := Nat.div_le_div_right h1
  by_cases he : D / n = E / n
  · have e1 := Nat.div_add_mod D n
    have e2 := Nat.div_add_mod E n
    rw [he] at e1
    rw [he]
    split <;> split <;> omega
  · split <;> split <;> omega
theorem quo_mono {m k n : Nat} (h : m ≤ k) : quo m n ≤ quo k n := by
  unfold quo
  exact sticky_mono (Nat.mul_le_mul_right _ h)

theorem ite_le (c : Prop) [Decidable c] : (if c then 0 else 1 : Nat) ≤ 1 := by split <;> omega
theorem rnd_two {X Y r s : Nat} (hr : r ≤ 1) (hs : s ≤ 1) (h1 : X ≤ 2 * Y + 1) (h2 : X = 2 * Y + 1 → s = 1) (h3 : X = 2 * Y → r = 1 → s = 1) : rnd (2 * X + r) 3 ≤ rnd (2 * Y + s) 2 := by
  unfold rnd
  simp only [Nat.reducePow]
  split <;> split <;> omega

theorem qr_mono {q t q2 t2 p u : Nat} (h : q * 4503599627370496 + t ≤ q2 * 4503599627370496 + t2) (h1 : 1000 ≤ q) (ht : t < 4503599627370496) (ht2 : t2 < 4503599627370496) (k2 : p < 1100) (hu : u < 4503599627370496) :
    qr q t p u ≤ qr q2 t2 p u := by
  have hl := quo_log (m := 4503599627370496 + t) (n := 4503599627370496 + u) (by omega) (by omega) (by omega) (by omega)
  have hb := quo_bd (m := 4503599627370496 + t) (n := 4503599627370496 + u) (by omega) (by omega) (by omega) (by omega)
  have hk := kept_bd (n := quo (4503599627370496 + t) (4503599627370496 + u)) (by omega)
  have gl := quo_log (m := 4503599627370496 + t2) (n := 4503599627370496 + u) (by omega) (by omega) (by omega) (by omega)
  have gb := quo_bd (m := 4503599627370496 + t2) (n := 4503599627370496 + u) (by omega) (by omega) (by omega) (by omega)
  have gk := kept_bd (n := quo (4503599627370496 + t2) (4503599627370496 + u)) (by omega)
  have hqq : q < q2 ∨ q = q2 ∧ t ≤ t2 := by omega
  clear h
  have hL : (quo (4503599627370496 + t) (4503599627370496 + u)).log2 = 54 ∨ (quo (4503599627370496 + t) (4503599627370496 + u)).log2 = 55 := hl.imp (·.1) (·.1)
  have gL : (quo (4503599627370496 + t2) (4503599627370496 + u)).log2 = 54 ∨ (quo (4503599627370496 + t2) (4503599627370496 + u)).log2 = 55 := gl.imp (·.1) (·.1)
  unfold qr
  rcases hqq with hq | ⟨rfl, htt⟩
  · by_cases hs : (q : Int) + (quo (4503599627370496 + t) (4503599627370496 + u)).log2 < q2 + (quo (4503599627370496 + t2) (4503599627370496 + u)).log2
    · clear hl gl hb gb
      exact step_up (by omega) (by omega) hk.2 gk.1
    · have c1 : (quo (4503599627370496 + t) (4503599627370496 + u)).log2 = 55 := by clear hl gl hb gb hk gk; omega
      have c2 : (quo (4503599627370496 + t2) (4503599627370496 + u)).log2 = 54 := by clear hl gl hb gb hk gk; omega
      have hkk : kept (quo (4503599627370496 + t) (4503599627370496 + u)) ≤ kept (quo (4503599627370496 + t2) (4503599627370496 + u)) := by
        unfold kept
        rw [c1, c2, if_neg (by omega), if_neg (by omega)]
        have hle : 4503599627370496 + t ≤ 2 * (4503599627370496 + t2) := by clear hl gl hb gb hk gk c1 c2 hL gL hs; omega
        have hf := floor_two (D := (4503599627370496 + t) * 18014398509481984) (E := (4503599627370496 + t2) * 18014398509481984) (n := 4503599627370496 + u) (Nat.add_pos_left (by decide) _) (by rw [← Nat.mul_assoc]; exact Nat.mul_le_mul_right _ hle)
        unfold quo
        refine rnd_two (ite_le _) (ite_le _) hf.1 (fun hx => ?_) (fun hx hr => ?_)
        · rw [if_neg (hf.2.1 hx)]
        · rw [if_neg (hf.2.2 hx (fun h0 => by rw [if_pos h0] at hr; cases hr))]
      have hqq : q2 = q + 1 := by clear hl gl hb gb hk gk hkk; omega
      rw [c1, c2, hqq, show ((q : Int) - p + 967 + ((55 : Nat) : Int)) = ((q + 1 : Nat) : Int) - p + 967 + ((54 : Nat) : Int) by omega]
      exact Nat.add_le_add_left hkk _
  · have hm := quo_mono (m := 4503599627370496 + t) (k := 4503599627370496 + t2) (n := 4503599627370496 + u) (Nat.add_le_add_left htt _)
    by_cases he : (quo (4503599627370496 + t) (4503599627370496 + u)).log2 = (quo (4503599627370496 + t2) (4503599627370496 + u)).log2
    · rw [he]
      exact Nat.add_le_add_left (kept_mono hm he) _
    · have hlt : (quo (4503599627370496 + t) (4503599627370496 + u)).log2 < (quo (4503599627370496 + t2) (4503599627370496 + u)).log2 := by omega
      clear hl gl hb gb
      exact step_up (by omega) (by omega) hk.2 gk.1
end Fl
end Go.Proofs.Ytkjhacbkgnjilaa
