/-
  The contracts of package flags (layer 3): isWord, Unpack, Pack.
-/
import Derived.Test.YtkjhacbkgnjilaaWords
import Derived.Deep.RegionHeld3
import Derived.Laws.BitsAllLaws
import Derived.Laws.BitsLemmas
import Derived.Laws.Shifts
import Derived.StillTailTactics
namespace Go.Proofs.Ytkjhacbkgnjilaa
open Go.RowKit
namespace Flags

def isWord (t : Int) : Bool := decide (0 ≤ t ∧ t < 2147483648)
def has (t i : Int) : Bool := decide (t / 2 ^ i.toNat % 2 = 1)

theorem isWord_any (t : Int) (w : World) : Calls Try.prog 61 #[.int .i64 t] w fun e w' => e = .returned (.bool (isWord t)) ∧ w = w' := by
  unfold isWord
  by_cases h0 : 0 ≤ t
  · have h2 : decide (0 ≤ t) = true := by simpa using h0
    by_cases h1 : t / 8 ≤ 268435455
    · rw [decide_eq_true (show 0 ≤ t ∧ t < 2147483648 by omega)]
      go_enter Try.func61, Try.ntmps61
      go_wp2
      go_ret
      exact ⟨rfl, rfl⟩
    · rw [decide_eq_false (show ¬ (0 ≤ t ∧ t < 2147483648) by omega)]
      go_enter Try.func61, Try.ntmps61
      go_wp2
      go_ret
      exact ⟨rfl, rfl⟩
  · have h2 : decide (0 ≤ t) = false := by simpa using h0
    rw [decide_eq_false (show ¬ (0 ≤ t ∧ t < 2147483648) from fun h => h0 h.1)]
    go_enter Try.func61, Try.ntmps61
    go_wp2
    go_ret
    exact ⟨rfl, rfl⟩

theorem and_one (x : Int) (h0 : 0 ≤ x) (h1 : x < 9223372036854775808) : bits .and .i64 x 1 = x % 2 := by
  obtain ⟨n, rfl⟩ := Int.eq_ofNat_of_zero_le h0
  have hx : n &&& 1 = n % 2 := Nat.and_one_is_mod n
  have e : (BitVec.ofInt 64 (n : Int)).toNat = n := by
    rw [BitVec.ofInt_natCast, BitVec.toNat_ofNat]; exact Nat.mod_eq_of_lt (by omega)
  show IntKind.i64.wrap ((BitVec.ofInt 64 (n : Int) &&& BitVec.ofInt 64 (1 : Int)).toNat : Int) = _
  rw [BitVec.toNat_and, e, show (BitVec.ofInt 64 (1 : Int)).toNat = 1 from rfl, hx, IntKind.wrap_i64]
  omega

theorem has_any (t i : Int) (a : Addr) (w : World) (h0 : 0 ≤ t) (h1 : t < 2147483648) (hi0 : 0 ≤ i) (hi : i ≤ 2) (hc : w.cell? a = some (.int .i64 t)) :
    Calls Try.prog 62 #[.int .i64 i, .pointer (some a)] w fun e w' => e = .returned (.bool (has t i)) ∧ w = w' := by
  go_enter Try.func62, Try.ntmps62
  go_wp2
  go_ret
  refine ⟨ret_bool ?_, rfl⟩
  have hd : 0 ≤ t / 2 ^ i.toNat ∧ t / 2 ^ i.toNat < 9223372036854775808 := by
    rcases (show i = 0 ∨ i = 1 ∨ i = 2 by omega) with rfl | rfl | rfl <;> simp <;> omega
  rw [and_one _ hd.1 hd.2]
  unfold has
  cases h : decide (t / 2 ^ i.toNat % 2 = 1) <;> simp_all

/-- A word's flags. -/
def val (l k s : Bool) (n : Int) : Value := .agg #[.bool l, .bool k, .bool s, .int .i64 n]

theorem unpack_yes (t : Int) (h0 : 0 ≤ t) (h1 : t < 2147483648) (w : World) :
    Calls Try.prog 30 #[.int .i64 t] w fun e w' => e = .returned (.tuple #[.agg #[.bool (has t 0), .bool (has t 1), .bool (has t 2), .int .i64 (t / 8)], .int .i64 0]) ∧ Below w.heap.size w w' := by
  have hw : isWord t = true := decide_eq_true ⟨h0, h1⟩
  have hmf : ∀ (fn : Fn) (first cap : Array Value) (w : World), (Instr.makeFunc fn first cap).run Try.prog w = .ok (.func fn first cap) w := fun _ _ _ _ => rfl
  go_enter Try.func30, Try.ntmps30
  go_wp2_with fail
  refine (isWord_any t _).mono ?_
  rintro e w' ⟨rfl, rfl⟩
  go_wp2_with fail
  go_region_held3 (fun w' => w'.cell? ⟨w.heap.size, 0, none⟩ = some (.int .i64 t)) (go_keep)
    (first | (go_at_call 62; refine (has_any t _ _ _ h0 h1 (by omega) (by omega) ?_).mono ?_; (simp [*]); rintro e w' ⟨rfl, rfl⟩))
  go_wp2
  refine bodyPost_ret (v := .tuple #[.agg #[.bool (has t 0), .bool (has t 1), .bool (has t 2), .int .i64 (t / 8)], .int .i64 0]) (by simp [results, Try.results30, go_sem]) rfl ⟨rfl, ?_⟩
  exact (((Below.refl _ _).alloc (Nat.le_refl _) _).alloc (by simp) _).drew

theorem unpack_no (t : Int) (h : t < 0 ∨ 2147483648 ≤ t) (w : World) :
    Calls Try.prog 30 #[.int .i64 t] w fun e w' => e = .returned (.tuple #[.agg #[.bool false, .bool false, .bool false, .int .i64 0], .int .i64 1]) ∧ Below w.heap.size w w' := by
  have hw : isWord t = false := decide_eq_false (by omega)
  go_enter Try.func30, Try.ntmps30
  go_wp2_with fail
  refine (isWord_any t _).mono ?_
  rintro e w' ⟨rfl, rfl⟩
  go_wp2_with fail
  refine bodyPost_ret (v := .tuple #[.agg #[.bool false, .bool false, .bool false, .int .i64 0], .int .i64 1]) (by simp [results, Try.results30, go_sem]) rfl ⟨rfl, ?_⟩
  exact ((Below.refl _ _).alloc (Nat.le_refl _) _).alloc (by simp) _

/-- The word of some flags. -/
def word (l k s : Bool) (n : Int) : Int := (if l then 1 else 0) + (if k then 2 else 0) + (if s then 4 else 0) + 8 * n

/-- The word of some of the flags, from the first on. -/
def upTo (l k s : Bool) (n : Int) (j : Nat) : Int := 8 * n + (if l && decide (0 < j) then 1 else 0) + (if k && decide (1 < j) then 2 else 0) + (if s && decide (2 < j) then 4 else 0)

theorem or_i64 (a b : Nat) (ha : a < 9223372036854775808) (hb : b < 9223372036854775808) : bits .or .i64 (a : Int) (b : Int) = ((a ||| b : Nat) : Int) := by
  have e : ∀ n : Nat, n < 9223372036854775808 → (BitVec.ofInt 64 (n : Int)).toNat = n := fun n h => by
    rw [BitVec.ofInt_natCast, BitVec.toNat_ofNat]; exact Nat.mod_eq_of_lt (by omega)
  have hx : a ||| b < 2 ^ 63 := Nat.or_lt_two_pow (by omega) (by omega)
  show IntKind.i64.wrap ((BitVec.ofInt 64 (a : Int) ||| BitVec.ofInt 64 (b : Int)).toNat : Int) = _
  rw [BitVec.toNat_or, e a ha, e b hb, IntKind.wrap_i64]
  omega

theorem or_pow (i : Nat) (q r : Nat) (hr : r < 2 ^ i) : (q * 2 ^ (i + 1) + r) ||| 2 ^ i = q * 2 ^ (i + 1) + r + 2 ^ i := by
  have h1 : q * 2 ^ (i + 1) + r = 2 ^ (i + 1) * q + r := by rw [Nat.mul_comm]
  have hlt : r + 2 ^ i < 2 ^ (i + 1) := by rw [Nat.pow_succ]; omega
  have h2 : r ||| 2 ^ i = r + 2 ^ i := by
    have := Nat.two_pow_add_eq_or_of_lt hr 1
    rw [Nat.mul_one] at this
    rw [Nat.or_comm, ← this, Nat.add_comm]
  have e : 2 ^ (i + 1) * q + r = 2 ^ (i + 1) * q ||| r := Nat.two_pow_add_eq_or_of_lt (by rw [Nat.pow_succ]; omega) q
  rw [h1, e, Nat.or_assoc, h2, ← Nat.two_pow_add_eq_or_of_lt hlt q, ← e]
  omega

theorem or_at (i : Nat) (x : Int) (h0 : 0 ≤ x) (h1 : x < 2147483648) (hi : i ≤ 2) (hm : x % 2 ^ (i + 1) < 2 ^ i) : bits .or .i64 x (2 ^ i) = x + 2 ^ i := by
  obtain ⟨n, rfl⟩ := Int.eq_ofNat_of_zero_le h0
  rw [show ((2 : Int) ^ i) = ((2 ^ i : Nat) : Int) by simp, or_i64 n (2 ^ i) (by omega) (by rcases (show i = 0 ∨ i = 1 ∨ i = 2 by omega) with rfl | rfl | rfl <;> decide)]
  have hm' : n % 2 ^ (i + 1) < 2 ^ i := by
    rw [show ((n : Nat) : Int) % 2 ^ (i + 1) = ((n % 2 ^ (i + 1) : Nat) : Int) by simp, show ((2 : Int) ^ i) = ((2 ^ i : Nat) : Int) by simp] at hm
    exact Int.ofNat_lt.1 hm
  have := or_pow i (n / 2 ^ (i + 1)) (n % 2 ^ (i + 1)) hm'
  rw [Nat.mul_comm, Nat.div_add_mod] at this
  rw [this]
  simp

theorem pack_yes (l k s : Bool) (n : Int) (h0 : 0 ≤ n) (h1 : n ≤ 268435455) (w : World) :
    Calls Try.prog 58 #[.agg #[.bool l, .bool k, .bool s, .int .i64 n]] w fun e w' => e = .returned (.tuple #[.int .i64 (word l k s n), .int .i64 0]) ∧ Below w.heap.size w w' := by
  have i0 : ∀ w, (Instr.index 87 (.agg #[.bool l, .bool k, .bool s]) (.int .i64 0)).run Try.prog w = .ok (.bool l) w := fun _ => by kernel_rfl
  have i1 : ∀ w, (Instr.index 87 (.agg #[.bool l, .bool k, .bool s]) (.int .i64 1)).run Try.prog w = .ok (.bool k) w := fun _ => by kernel_rfl
  have i2 : ∀ w, (Instr.index 87 (.agg #[.bool l, .bool k, .bool s]) (.int .i64 2)).run Try.prog w = .ok (.bool s) w := fun _ => by kernel_rfl
  go_enter Try.func58, Try.ntmps58
  go_wp2_with fail
  go_loop [4, 25] (fun a i => ∃ j : Nat, j ≤ 3 ∧ i = .int .i64 j ∧ a = .int .i64 (upTo l k s n j)) (fun _ i => 3 - (intOf i).toNat)
  case atStart => exact ⟨0, by omega, rfl, by simp [upTo]; omega⟩
  case round =>
    obtain ⟨j, hj, rfl, rfl⟩ := hrel
    rcases (show j = 0 ∨ j = 1 ∨ j = 2 ∨ j = 3 by omega) with rfl | rfl | rfl | rfl
    · obtain ⟨u, hu, hu0, hu1, hu2⟩ : ∃ u, upTo l k s n 0 = u ∧ 0 ≤ u ∧ u < 2147483640 + 8 ∧ u % 2 ^ (0 + 1) < 2 ^ 0 := by
        refine ⟨_, rfl, ?_⟩
        cases l <;> cases k <;> simp [upTo] <;> omega
      have ho : bits .or .i64 u 1 = u + 1 := or_at 0 u hu0 hu1 (by omega) hu2
      rw [hu]
      have HU := Lib.hid hu
      clear hu hu2
      cases l
      all_goals
        go_wp2
        go_round
        case rel => exact ⟨1, by omega, by go_num, by rw [← HU.out]; simp [upTo]⟩
        case measure => simp [intOf]
    · obtain ⟨u, hu, hu0, hu1, hu2⟩ : ∃ u, upTo l k s n 1 = u ∧ 0 ≤ u ∧ u < 2147483640 + 8 ∧ u % 2 ^ (1 + 1) < 2 ^ 1 := by
        refine ⟨_, rfl, ?_⟩
        cases l <;> cases k <;> simp [upTo] <;> omega
      have ho : bits .or .i64 u 2 = u + 2 := or_at 1 u hu0 hu1 (by omega) hu2
      rw [hu]
      have HU := Lib.hid hu
      clear hu hu2
      cases k
      all_goals
        go_wp2
        go_round
        case rel => exact ⟨2, by omega, by go_num, by rw [← HU.out]; simp [upTo]⟩
        case measure => simp [intOf]
    · obtain ⟨u, hu, hu0, hu1, hu2⟩ : ∃ u, upTo l k s n 2 = u ∧ 0 ≤ u ∧ u < 2147483640 + 8 ∧ u % 2 ^ (2 + 1) < 2 ^ 2 := by
        refine ⟨_, rfl, ?_⟩
        cases l <;> cases k <;> simp [upTo] <;> omega
      have ho : bits .or .i64 u 4 = u + 4 := or_at 2 u hu0 hu1 (by omega) hu2
      rw [hu]
      have HU := Lib.hid hu
      clear hu hu2
      cases s
      all_goals
        go_wp2
        go_round
        case rel => exact ⟨3, by omega, by go_num, by rw [← HU.out]; simp [upTo]⟩
        case measure => simp [intOf]
    · go_wp2
      go_ret2
      refine ⟨?_, (Below.refl _ _).alloc (Nat.le_refl _) _⟩
      have : upTo l k s n 3 = word l k s n := by simp [upTo, word]; omega
      rw [← this]
      rfl
end Flags
end Go.Proofs.Ytkjhacbkgnjilaa
