/-
  Floats (64 bits), read as whole numbers in their order: a plain law on Ieee's words.
-/
import Derived.Test.YtkjhacbkgnjilaaBase
import Derived.Laws.FloatBits
namespace Go.Proofs.Ytkjhacbkgnjilaa
namespace Fl
open Ieee

def rung (b : Nat) : Nat := b % 9223372036854775808
def sgn (b : Nat) : Bool := b / 9223372036854775808 % 2 == 1
def nan (b : Nat) : Bool := decide (9218868437227405312 < rung b)
def key (b : Nat) : Int := if sgn b then -(rung b : Int) else rung b
def val (r : Nat) : Nat := if r < 4503599627370496 then r else (4503599627370496 + r % 4503599627370496) * 2 ^ (r / 4503599627370496 - 1)

theorem val_lt {r s : Nat} (h : r < s) : val r < val s := by
  unfold val
  by_cases hr : r < 4503599627370496
  · rw [if_pos hr]
    by_cases hs : s < 4503599627370496
    · rw [if_pos hs]; exact h
    · rw [if_neg hs]
      have : 4503599627370496 + s % 4503599627370496 ≤ (4503599627370496 + s % 4503599627370496) * 2 ^ (s / 4503599627370496 - 1) := Nat.le_mul_of_pos_right _ (Nat.two_pow_pos _)
      omega
  · have hs : ¬ s < 4503599627370496 := by omega
    rw [if_neg hr, if_neg hs]
    have ht : r % 4503599627370496 < 4503599627370496 := Nat.mod_lt _ (by omega)
    have hq : r / 4503599627370496 ≤ s / 4503599627370496 := Nat.div_le_div_right (by omega)
    have hq1 : 1 ≤ r / 4503599627370496 := by omega
    by_cases he : r / 4503599627370496 = s / 4503599627370496
    · rw [he]
      exact Nat.mul_lt_mul_of_pos_right (by omega) (Nat.two_pow_pos _)
    · have h1 : (4503599627370496 + r % 4503599627370496) * 2 ^ (r / 4503599627370496 - 1) < (4503599627370496 * 2) * 2 ^ (r / 4503599627370496 - 1) := Nat.mul_lt_mul_of_pos_right (by omega) (Nat.two_pow_pos _)
      have h2 : (4503599627370496 * 2) * 2 ^ (r / 4503599627370496 - 1) = 4503599627370496 * 2 ^ (r / 4503599627370496) := by
        rw [Nat.mul_assoc, Nat.mul_comm 2, ← Nat.pow_succ]
        congr 2
        omega
      have h3 : 4503599627370496 * 2 ^ (r / 4503599627370496) ≤ 4503599627370496 * 2 ^ (s / 4503599627370496 - 1) := Nat.mul_le_mul_left _ (Nat.pow_le_pow_right (by omega) (by omega))
      have h4 : 4503599627370496 * 2 ^ (s / 4503599627370496 - 1) ≤ (4503599627370496 + s % 4503599627370496) * 2 ^ (s / 4503599627370496 - 1) := Nat.mul_le_mul_right _ (by omega)
      omega

theorem val_inj {r s : Nat} (h : val r = val s) : r = s := by
  rcases Nat.lt_trichotomy r s with h1 | h1 | h1
  · have := val_lt h1; omega
  · exact h1
  · have := val_lt h1; omega

theorem val_zero : val 0 = 0 := rfl

theorem dsw : double.signWeight = 9223372036854775808 := by decide
theorem dbin : double.binade = 4503599627370496 := by decide
theorem dinf : double.infRung = 9218868437227405312 := by decide
theorem dlp : double.leastPlace = -1074 := by decide

theorem read_fin {b : Nat} (h : rung b < 9218868437227405312) : ∃ m i, double.read b = .number (sgn b) m i ∧ -1074 ≤ i ∧ m * 2 ^ (i + 1074).toNat = val (rung b) := by
  unfold Format.read
  rw [dsw, dbin, dinf, dlp]
  by_cases h1 : rung b < 4503599627370496
  · refine ⟨rung b, -1074, ?_, by omega, ?_⟩
    · simp only [rung] at h1 ⊢
      simp [h1, sgn]
    · simp [val, h1]
  · refine ⟨4503599627370496 + rung b % 4503599627370496, -1074 + (rung b / 4503599627370496 - 1 : Nat), ?_, by omega, ?_⟩
    · simp only [rung] at h1 h ⊢
      simp [h1, h, sgn]
    · simp only [val, if_neg h1]
      congr 2
      omega

theorem read_inf {b : Nat} (h : rung b = 9218868437227405312) : double.read b = .infinity (sgn b) := by
  unfold Format.read
  rw [dsw, dbin, dinf]
  simp only [rung] at h
  simp [h, sgn]

theorem read_nan {b : Nat} (h : 9218868437227405312 < rung b) : ∃ f, double.read b = .nan (sgn b) f := by
  unfold Format.read
  rw [dsw, dbin, dinf]
  simp only [rung] at h
  exact ⟨_, by rw [if_neg (by omega), if_neg (by omega), if_neg (by omega)]; rfl⟩

def sg (s : Bool) (v : Nat) : Int := if s then -(v : Int) else v

theorem cmp_mul (a b : Int) (c : Nat) (hc : 0 < c) : compare (a * c) (b * c) = compare a b := by
  have hc' : (0 : Int) < c := by omega
  simp only [compare, compareOfLessAndEq, Int.mul_lt_mul_right hc']
  by_cases h : a < b
  · simp [h]
  · by_cases h2 : a = b
    · simp [h2]
    · have : a * c ≠ b * c := by
        intro e
        exact h2 (Int.eq_of_mul_eq_mul_right (by omega) e)
      simp [h, h2, this]

theorem order_num (s t : Bool) (m n : Nat) (i j : Int) (hi : -1074 ≤ i) (hj : -1074 ≤ j) :
    Datum.order (.number s m i) (.number t n j) = some (compare (sg s (m * 2 ^ (i + 1074).toNat)) (sg t (n * 2 ^ (j + 1074).toNat))) := by
  have key : ∀ (s : Bool) (m : Nat) (i : Int), min (α := Int) 0 0 = 0 → ∀ base : Int, -1074 ≤ base → base ≤ i → signed s m (i - base).toNat * ((2 ^ (base + 1074).toNat : Nat) : Int) = sg s (m * 2 ^ (i + 1074).toNat) := by
    intro s m i _ base h1 h2
    unfold signed sg
    rw [Nat.shiftLeft_eq]
    have e : m * 2 ^ (i - base).toNat * 2 ^ (base + 1074).toNat = m * 2 ^ (i + 1074).toNat := by
      rw [Nat.mul_assoc, ← Nat.pow_add]
      congr 2
      omega
    cases s
    · simp only [Bool.false_eq_true, if_false]
      rw [← Int.natCast_mul, e]
    · simp only [if_true]
      rw [Int.neg_mul, ← Int.natCast_mul, e]
  have hb : -1074 ≤ min i j := by omega
  unfold Datum.order
  simp only
  rw [← key s m i rfl (min i j) hb (by omega), ← key t n j rfl (min i j) hb (by omega), cmp_mul _ _ _ (Nat.two_pow_pos _)]

theorem cmp_val (s t : Bool) (r q : Nat) : compare (sg s (val r)) (sg t (val q)) = compare (sg s r) (sg t q) := by
  have z : ∀ r, 0 < r → 0 < val r := fun r h => by have := val_lt h; rw [val_zero] at this; omega
  have lt : (sg s (val r) < sg t (val q)) ↔ (sg s r < sg t q) := by
    have h1 : r < q ↔ val r < val q := ⟨val_lt, fun h => by
      rcases Nat.lt_trichotomy r q with h1 | h1 | h1
      · exact h1
      · subst h1; omega
      · have := val_lt h1; omega⟩
    have h2 : q < r ↔ val q < val r := ⟨val_lt, fun h => by
      rcases Nat.lt_trichotomy q r with h1 | h1 | h1
      · exact h1
      · subst h1; omega
      · have := val_lt h1; omega⟩
    have h3 : 0 < r ↔ 0 < val r := ⟨z r, fun h => by
      rcases Nat.eq_zero_or_pos r with h1 | h1
      · subst h1; rw [val_zero] at h; omega
      · exact h1⟩
    have h4 : 0 < q ↔ 0 < val q := ⟨z q, fun h => by
      rcases Nat.eq_zero_or_pos q with h1 | h1
      · subst h1; rw [val_zero] at h; omega
      · exact h1⟩
    cases s <;> cases t <;> simp [sg] <;> omega
  have eq : (sg s (val r) = sg t (val q)) ↔ (sg s r = sg t q) := by
    have h1 : r = q ↔ val r = val q := ⟨fun h => by rw [h], val_inj⟩
    have h3 : r = 0 ↔ val r = 0 := ⟨fun h => by rw [h]; rfl, fun h => val_inj (h.trans val_zero.symm)⟩
    have h4 : q = 0 ↔ val q = 0 := ⟨fun h => by rw [h]; rfl, fun h => val_inj (h.trans val_zero.symm)⟩
    cases s <;> cases t <;> simp [sg] <;> omega
  simp only [compare, compareOfLessAndEq, lt, eq]

theorem cmp_lt {a b : Int} (h : a < b) : compare a b = .lt := by simp [compare, compareOfLessAndEq, h]
theorem cmp_gt {a b : Int} (h : b < a) : compare a b = .gt := by
  have h1 : ¬ a < b := by omega
  have h2 : ¬ a = b := by omega
  simp [compare, compareOfLessAndEq, h1, h2]
theorem cmp_eq (a : Int) : compare a a = .eq := by simp [compare, compareOfLessAndEq]
theorem key_eq (b : Nat) : key b = sg (sgn b) (rung b) := rfl

/-- How two floats stand to each other. -/
theorem order_eq (x y : Nat) : double.order x y = if nan x || nan y then none else some (compare (key x) (key y)) := by
  unfold Format.order
  by_cases hx : 9218868437227405312 < rung x
  · obtain ⟨f, hf⟩ := read_nan hx
    rw [hf]
    simp [Datum.order, nan, hx]
  · by_cases hy : 9218868437227405312 < rung y
    · obtain ⟨f, hf⟩ := read_nan hy
      rw [hf]
      have : nan y = true := by simp [nan, hy]
      rw [this, Bool.or_true, if_pos rfl]
      cases double.read x <;> simp [Datum.order]
    · have n1 : (nan x || nan y) = false := by simp [nan, hx, hy]
      rw [n1]
      simp only [Bool.false_eq_true, if_false]
      rw [key_eq, key_eq]
      by_cases hx1 : rung x = 9218868437227405312
      · rw [read_inf hx1]
        by_cases hy1 : rung y = 9218868437227405312
        · rw [read_inf hy1]
          rw [hx1, hy1]
          cases sgn x <;> cases sgn y <;> rfl
        · obtain ⟨n, j, e2, _, _⟩ := read_fin (b := y) (by omega)
          rw [e2, hx1]
          have : rung y < 9218868437227405312 := by omega
          cases sgn x <;> cases sgn y <;> simp only [Datum.order, sg, if_true, Bool.false_eq_true, if_false] <;> first | rw [cmp_lt (by omega)] | rw [cmp_gt (by omega)]
      · obtain ⟨m, i, e1, hi, hv⟩ := read_fin (b := x) (by omega)
        by_cases hy1 : rung y = 9218868437227405312
        · rw [e1, read_inf hy1, hy1]
          have : rung x < 9218868437227405312 := by omega
          cases sgn x <;> cases sgn y <;> simp only [Datum.order, sg, if_true, Bool.false_eq_true, if_false] <;> first | rw [cmp_lt (by omega)] | rw [cmp_gt (by omega)]
        · obtain ⟨n, j, e2, hj, hv2⟩ := read_fin (b := y) (by omega)
          rw [e1, e2, order_num _ _ _ _ _ _ hi hj, hv, hv2, cmp_val]
def lt (x y : Nat) : Bool := !nan x && !nan y && decide (key x < key y)
def eq (x y : Nat) : Bool := !nan x && !nan y && decide (key x = key y)
theorem order_lt (x y : Nat) : (double.order x y == some .lt) = lt x y := by
  rw [order_eq, lt]
  cases nan x <;> cases nan y <;> simp
  rcases Int.lt_trichotomy (key x) (key y) with h | h | h
  · simp [cmp_lt h, h]
  · simp [h]
  · rw [cmp_gt h]; simp; omega
theorem order_gt (x y : Nat) : (double.order x y == some .gt) = lt y x := by
  rw [order_eq, lt]
  cases nan x <;> cases nan y <;> simp
  rcases Int.lt_trichotomy (key x) (key y) with h | h | h
  · rw [cmp_lt h]; simp; omega
  · simp [h]
  · simp [cmp_gt h, h]
theorem order_is (x y : Nat) : (double.order x y == some .eq) = eq x y := by
  rw [order_eq, eq]
  cases nan x <;> cases nan y <;> simp
  rcases Int.lt_trichotomy (key x) (key y) with h | h | h
  · rw [cmp_lt h]; simp; omega
  · simp [h]
  · rw [cmp_gt h]; simp; omega
theorem order_ne (x y : Nat) : (double.order x y != some .eq) = !eq x y := by
  rw [← order_is]; rfl

/-- The class of a float. -/
def cls (b : Nat) : Int := if nan b then 6 else if key b = -9218868437227405312 then 0 else if key b = 9218868437227405312 then 5 else if key b < 0 then 1 else if 0 < key b then 4 else if sgn b then 2 else 3
/-- Where a float stands among all: what is no number comes last. -/
def rank (b : Nat) : Int := if nan b then 100000000000000000000 else if 0 < key b then 2 * key b + 1 else if key b = 0 then if sgn b then 0 else 1 else 2 * key b
def ahead (a b : Nat) : Bool := decide (rank a < rank b)
theorem key_bd {b : Nat} (h : nan b = false) : -9218868437227405312 ≤ key b ∧ key b ≤ 9218868437227405312 := by
  simp [nan] at h
  unfold key
  split <;> omega
theorem cls_bd (b : Nat) : 0 ≤ cls b ∧ cls b ≤ 6 := by
  unfold cls
  repeat' split
  all_goals omega
theorem ahead_eq (a b : Nat) : ahead a b = (decide (cls a < cls b) || decide (cls a = cls b) && lt a b) := by
  rw [Bool.eq_iff_iff]
  simp only [ahead, lt, Bool.or_eq_true, Bool.and_eq_true, decide_eq_true_eq, Bool.not_eq_true']
  cases ha : nan a <;> cases hb : nan b
  · have h1 := key_bd ha
    have h2 := key_bd hb
    simp only [rank, cls, ha, hb, Bool.false_eq_true, if_false, true_and]
    repeat' split
    all_goals omega
  · have h1 := key_bd ha
    have h2 := cls_bd a
    have h3 : cls a ≠ 6 := by
      simp only [cls, ha, Bool.false_eq_true, if_false]
      repeat' split
      all_goals omega
    simp only [rank, ha, hb, cls, Bool.false_eq_true, if_false, if_true]
    simp only [cls, ha, Bool.false_eq_true, if_false] at h2 h3
    repeat' split
    all_goals simp_all
    all_goals omega
  · have h1 := key_bd hb
    have h2 := cls_bd b
    simp only [rank, ha, hb, cls, Bool.false_eq_true, if_false, if_true]
    simp only [cls, hb, Bool.false_eq_true, if_false] at h2
    repeat' split
    all_goals simp_all
    all_goals omega
  · simp [rank, cls, ha, hb]
end Fl
end Go.Proofs.Ytkjhacbkgnjilaa
