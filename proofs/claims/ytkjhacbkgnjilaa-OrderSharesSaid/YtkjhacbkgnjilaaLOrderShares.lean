/-
  The walk of OrderShares.
-/
import Derived.Test.YtkjhacbkgnjilaaFloat4
namespace Go.Proofs.Ytkjhacbkgnjilaa
open Go.RowKit
attribute [local go_sem] Fl.order_lt Fl.order_gt Fl.order_is Fl.order_ne
namespace Fl
theorem rank_of {x y : Nat} (h1 : sgn x = sgn y) (h2 : rung x = rung y) : rank x = rank y := by
  unfold rank nan key
  rw [h1, h2]
theorem cls_word_inf (s : Bool) : cls (Ieee.double.word s 9218868437227405312) = if s then 0 else 5 := by cases s <;> decide
theorem cls_word_zero (s : Bool) : cls (Ieee.double.word s 0) = if s then 2 else 3 := by cases s <;> decide
theorem cls_word_mid (s : Bool) {x : Nat} (h0 : 0 < x) (h1 : x < 9218868437227405312) : cls (Ieee.double.word s x) = if s then 1 else 4 := by
  unfold cls
  rw [nan_word s (by omega), key_word s (by omega)]
  cases s
  · simp only [sg, Bool.false_eq_true, if_false]
    rw [if_neg (by omega), if_neg (by omega), if_neg (by omega), if_pos (by omega)]
  · simp only [sg, if_true, Bool.false_eq_true, if_false]
    rw [if_neg (by omega), if_neg (by omega), if_pos (by omega)]
theorem neg_share {a b : Int} {r q : Nat} (h : isShare a b r) (k : isShare (-a) b q) (h0 : a ≠ 0) (ha : a.natAbs ≤ 9223372036854775808) (hb : b.natAbs ≤ 9223372036854775808) : alike q (Op.negFloat .f64 r) = true := by
  have hs : decide (-a < 0) = !decide (a < 0) := by
    rw [Bool.eq_iff_iff]; simp; omega
  have core : ∀ (s : Bool) (x : Nat), x < 9223372036854775808 → r = Ieee.double.word s x → q = Ieee.double.word (!s) x → alike q (Op.negFloat .f64 r) = true := by
    rintro s x hx rfl rfl
    obtain ⟨e1, e2, e3⟩ := sgn_word s hx
    obtain ⟨f1, f2, _⟩ := sgn_word (!s) hx
    obtain ⟨g1, g2, _⟩ := neg_eq _ e3
    exact decide_eq_true (rank_of (by rw [f1, g1, e1]) (by rw [f2, g2, e2]))
  rcases share_is h ha hb with ⟨h1, _, _⟩ | ⟨_, rfl, h2⟩ | ⟨h1, _, _⟩ | ⟨_, h1, h2⟩
  · omega
  · rcases share_is k (by omega) hb with ⟨k1, _, _⟩ | ⟨_, _, k2⟩ | ⟨k1, _, _⟩ | ⟨_, k1, k2⟩
    · omega
    · exact core _ _ (by omega) h2 (by rw [k2, hs])
    · omega
    · exact absurd rfl k1
  · omega
  · rcases share_is k (by omega) hb with ⟨k1, _, _⟩ | ⟨_, k1, k2⟩ | ⟨k1, _, _⟩ | ⟨_, k1, k2⟩
    · omega
    · exact absurd k1 h1
    · omega
    · have hbd := sr_bd (m := a.natAbs) (n := b.natAbs) (by omega) (by omega) ha hb
      refine core _ _ (by omega) h2 ?_
      rw [k2, hs, Int.natAbs_neg]
      cases decide (a < 0) <;> cases decide (b < 0) <;> rfl
/-- What the statement says of a share, by the ints. -/
def wants (a b k : Int) : Prop := ∀ r, isShare a b r → cls r = k
theorem wants_of {a b : Int} (ha : a.natAbs ≤ 9223372036854775808) (hb : b.natAbs ≤ 9223372036854775808) :
    (a = 0 → b = 0 → wants a b 6) ∧ (b = 0 → 0 < a → wants a b 5) ∧ (b = 0 → a < 0 → wants a b 0) ∧ (a = 0 → 0 < b → wants a b 3) ∧ (a = 0 → b < 0 → wants a b 2) ∧
    (a ≠ 0 → b ≠ 0 → (decide (a < 0) ^^ decide (b < 0)) = true → wants a b 1) ∧ (a ≠ 0 → b ≠ 0 → (decide (a < 0) ^^ decide (b < 0)) = false → wants a b 4) := by
  refine ⟨fun h1 h2 r hr => ?_, fun h1 h2 r hr => ?_, fun h1 h2 r hr => ?_, fun h1 h2 r hr => ?_, fun h1 h2 r hr => ?_, fun h1 h2 h3 r hr => ?_, fun h1 h2 h3 r hr => ?_⟩ <;>
    rcases share_is hr ha hb with ⟨k1, k2, k3⟩ | ⟨k1, k2, k3⟩ | ⟨k1, k2, k3⟩ | ⟨k1, k2, k3⟩
  all_goals first
    | (exfalso; omega)
    | (simp [cls, k3]; done)
    | (rw [k3, cls_word_inf, decide_eq_true (by omega)]; rfl)
    | (rw [k3, cls_word_inf, decide_eq_false (by omega)]; rfl)
    | (rw [k3, cls_word_zero, decide_eq_true (by omega)]; rfl)
    | (rw [k3, cls_word_zero, decide_eq_false (by omega)]; rfl)
    | (obtain ⟨b1, b2⟩ := sr_bd (m := a.natAbs) (n := b.natAbs) (by omega) (by omega) ha hb; rw [k3, cls_word_mid _ b1 b2, h3]; rfl)
/-- A share of a part: from 0 to 1. -/
theorem part_of {a b : Int} (ha : a.natAbs ≤ 9223372036854775808) (hb : b.natAbs ≤ 9223372036854775808) (h0 : 0 ≤ a) (h1 : 0 < b) (h2 : a ≤ b) {r : Nat} (hr : isShare a b r) :
    (lt 0 r || eq r 0) = true ∧ (lt r 4607182418800017408 || eq r 4607182418800017408) = true := by
  rcases share_is hr ha hb with ⟨k1, k2, k3⟩ | ⟨k1, k2, k3⟩ | ⟨k1, k2, k3⟩ | ⟨k1, k2, k3⟩
  · omega
  · omega
  · rw [k3, decide_eq_false (by omega)]
    decide
  · obtain ⟨b1, b2⟩ := sr_bd (m := a.natAbs) (n := b.natAbs) (by omega) (by omega) ha hb
    rw [decide_eq_false (by omega : ¬ a < 0), decide_eq_false (by omega : ¬ b < 0)] at k3
    have hn : nan r = false := by rw [k3]; exact nan_word _ (by omega)
    have hk : key r = sr a.natAbs b.natAbs := by rw [k3]; exact key_word _ (by omega)
    have hle := sr_mono (m := a.natAbs) (k := b.natAbs) (n := b.natAbs) (by omega) (by omega) (by omega) hb hb
    rw [sr_self] at hle
    refine ⟨?_, ?_⟩
    · rw [zero_lt hn, hk, decide_eq_true (by omega)]; rfl
    · rw [lt, eq, hn, nan_c1, key_c1, hk]
      rcases Nat.lt_or_eq_of_le hle with h | h
      · rw [decide_eq_true (by omega : ((sr a.natAbs b.natAbs : Nat) : Int) < 4607182418800017408)]; rfl
      · rw [h]; rfl
end Fl
namespace orderShares

set_option maxHeartbeats 8000000 in
theorem walk_zz (a b : Int) (w : World) (ha : a.natAbs ≤ 9223372036854775808) (hb : b.natAbs ≤ 9223372036854775808) (hmin : -9223372036854775808 ≤ a) (hmax : a ≤ 9223372036854775807) (a0 : a = 0) (b0 : b = 0) (hw : Hid (Fl.wants a b 6)) :
    Calls Try.prog 3 #[.int .i64 a, .int .i64 b] w fun e w' => e = .returned (.bool true) ∧ Below w.heap.size w w' := by
  have _ := hb
  subst a0
  subst b0
  go_enter Try.func3, Try.ntmps3
  go_wp2_with fail
  refine (Order.share _ _ _).mono ?_
  rintro e w1 ⟨⟨r, rfl, hr⟩, hb1⟩
  have HR := Lib.hid hr
  have hlt := hr.1
  clear hr
  have HW := Lib.hid (hw.out r HR.out)
  go_wp2_with fail
  refine (Order.class_ r hlt _).mono ?_
  rintro e w2 ⟨rfl, rfl⟩
  rw [HW.out]
  go_wp2_with fail
  refine (Order.alive _).mono ?_
  rintro e w2 ⟨rfl, hb2⟩
  go_wp2_with fail
  go_ret
  exact ⟨rfl, bthen hb1 hb2⟩
set_option maxHeartbeats 8000000 in
theorem walk_pz (a b : Int) (w : World) (ha : a.natAbs ≤ 9223372036854775808) (hb : b.natAbs ≤ 9223372036854775808) (hmin : -9223372036854775808 ≤ a) (hmax : a ≤ 9223372036854775807) (a0 : 0 < a) (b0 : b = 0) (hw : Hid (Fl.wants a b 5)) :
    Calls Try.prog 3 #[.int .i64 a, .int .i64 b] w fun e w' => e = .returned (.bool true) ∧ Below w.heap.size w w' := by
  have _ := hb
  subst b0
  go_enter Try.func3, Try.ntmps3
  go_wp2_with fail
  refine (Order.share _ _ _).mono ?_
  rintro e w1 ⟨⟨r, rfl, hr⟩, hb1⟩
  have HR := Lib.hid hr
  have hlt := hr.1
  clear hr
  have HW := Lib.hid (hw.out r HR.out)
  go_wp2_with fail
  refine (Order.class_ r hlt _).mono ?_
  rintro e w2 ⟨rfl, rfl⟩
  rw [HW.out]
  go_wp2_with fail
  refine (Order.alive _).mono ?_
  rintro e w2 ⟨rfl, hb2⟩
  go_wp2_with fail
  refine (Order.share _ _ _).mono ?_
  rintro e w3 ⟨⟨q, rfl, hq⟩, hb3⟩
  have HN := Lib.hid (Fl.neg_share HR.out hq (by omega) (by omega) (by omega))
  clear hq
  go_wp2_with fail
  refine (OrderRef.alike_ _ _ _).mono ?_
  rintro e w4 ⟨rfl, rfl⟩
  rw [HN.out]
  go_wp2_with fail
  go_ret
  exact ⟨rfl, bthen (bthen hb1 hb2) hb3⟩
set_option maxHeartbeats 8000000 in
theorem walk_nz (a b : Int) (w : World) (ha : a.natAbs ≤ 9223372036854775808) (hb : b.natAbs ≤ 9223372036854775808) (hmin : -9223372036854775808 ≤ a) (hmax : a ≤ 9223372036854775807) (a0 : a < 0) (b0 : b = 0) (hw : Hid (Fl.wants a b 0)) :
    Calls Try.prog 3 #[.int .i64 a, .int .i64 b] w fun e w' => e = .returned (.bool true) ∧ Below w.heap.size w w' := by
  have _ := hb
  subst b0
  by_cases hm : a = -9223372036854775808
  · have hm2 := hm
    subst hm
    go_enter Try.func3, Try.ntmps3
    go_wp2_with fail
    refine (Order.share _ _ _).mono ?_
    rintro e w1 ⟨⟨r, rfl, hr⟩, hb1⟩
    have HR := Lib.hid hr
    have hlt := hr.1
    clear hr
    have HW := Lib.hid (hw.out r HR.out)
    go_wp2_with fail
    refine (Order.class_ r hlt _).mono ?_
    rintro e w2 ⟨rfl, rfl⟩
    rw [HW.out]
    go_wp2_with fail
    refine (Order.alive _).mono ?_
    rintro e w2 ⟨rfl, hb2⟩
    go_wp2_with fail
    go_ret
    exact ⟨rfl, bthen hb1 hb2⟩
  · skip
    go_enter Try.func3, Try.ntmps3
    go_wp2_with fail
    refine (Order.share _ _ _).mono ?_
    rintro e w1 ⟨⟨r, rfl, hr⟩, hb1⟩
    have HR := Lib.hid hr
    have hlt := hr.1
    clear hr
    have HW := Lib.hid (hw.out r HR.out)
    go_wp2_with fail
    refine (Order.class_ r hlt _).mono ?_
    rintro e w2 ⟨rfl, rfl⟩
    rw [HW.out]
    go_wp2_with fail
    refine (Order.alive _).mono ?_
    rintro e w2 ⟨rfl, hb2⟩
    go_wp2_with fail
    refine (Order.share _ _ _).mono ?_
    rintro e w3 ⟨⟨q, rfl, hq⟩, hb3⟩
    have HN := Lib.hid (Fl.neg_share HR.out hq (by omega) (by omega) (by omega))
    clear hq
    go_wp2_with fail
    refine (OrderRef.alike_ _ _ _).mono ?_
    rintro e w4 ⟨rfl, rfl⟩
    rw [HN.out]
    go_wp2_with fail
    go_ret
    exact ⟨rfl, bthen (bthen hb1 hb2) hb3⟩
set_option maxHeartbeats 8000000 in
theorem walk_zp (a b : Int) (w : World) (ha : a.natAbs ≤ 9223372036854775808) (hb : b.natAbs ≤ 9223372036854775808) (hmin : -9223372036854775808 ≤ a) (hmax : a ≤ 9223372036854775807) (a0 : a = 0) (b0 : 0 < b) (hw : Hid (Fl.wants a b 3)) :
    Calls Try.prog 3 #[.int .i64 a, .int .i64 b] w fun e w' => e = .returned (.bool true) ∧ Below w.heap.size w w' := by
  have _ := hb
  subst a0
  have hpart : Hid (∀ r, Fl.isShare 0 b r → (Fl.lt 0 r || Fl.eq r 0) = true ∧ (Fl.lt r 4607182418800017408 || Fl.eq r 4607182418800017408) = true) := fun r hr => Fl.part_of ha hb (by omega) (by omega) (by omega) hr
  go_enter Try.func3, Try.ntmps3
  go_wp2_with fail
  refine (Order.share _ _ _).mono ?_
  rintro e w1 ⟨⟨r, rfl, hr⟩, hb1⟩
  have HR := Lib.hid hr
  have hlt := hr.1
  clear hr
  have HW := Lib.hid (hw.out r HR.out)
  go_wp2_with fail
  refine (Order.class_ r hlt _).mono ?_
  rintro e w2 ⟨rfl, rfl⟩
  rw [HW.out]
  go_wp2_with fail
  refine (Order.alive _).mono ?_
  rintro e w2 ⟨rfl, hb2⟩
  obtain ⟨hge, hle⟩ := hpart.out r HR.out
  have HGE := Lib.hid hge
  have HLE := Lib.hid hle
  clear hge hle
  cases h1 : Fl.lt 0 r <;> cases h2 : Fl.eq r 0 <;> cases h3 : Fl.lt r 4607182418800017408 <;> cases h4 : Fl.eq r 4607182418800017408
  all_goals first
    | (exfalso; have hx := HGE.out; rw [h1, h2] at hx; cases hx; done)
    | (exfalso; have hx := HLE.out; rw [h3, h4] at hx; cases hx; done)
    | (go_wp2_with fail; go_ret; exact ⟨rfl, bthen hb1 hb2⟩)
set_option maxHeartbeats 8000000 in
theorem walk_zn (a b : Int) (w : World) (ha : a.natAbs ≤ 9223372036854775808) (hb : b.natAbs ≤ 9223372036854775808) (hmin : -9223372036854775808 ≤ a) (hmax : a ≤ 9223372036854775807) (a0 : a = 0) (b0 : b < 0) (hw : Hid (Fl.wants a b 2)) :
    Calls Try.prog 3 #[.int .i64 a, .int .i64 b] w fun e w' => e = .returned (.bool true) ∧ Below w.heap.size w w' := by
  have _ := hb
  subst a0
  go_enter Try.func3, Try.ntmps3
  go_wp2_with fail
  refine (Order.share _ _ _).mono ?_
  rintro e w1 ⟨⟨r, rfl, hr⟩, hb1⟩
  have HR := Lib.hid hr
  have hlt := hr.1
  clear hr
  have HW := Lib.hid (hw.out r HR.out)
  go_wp2_with fail
  refine (Order.class_ r hlt _).mono ?_
  rintro e w2 ⟨rfl, rfl⟩
  rw [HW.out]
  go_wp2_with fail
  refine (Order.alive _).mono ?_
  rintro e w2 ⟨rfl, hb2⟩
  go_wp2_with fail
  go_ret
  exact ⟨rfl, bthen hb1 hb2⟩
set_option maxHeartbeats 8000000 in
theorem walk_pn (a b : Int) (w : World) (ha : a.natAbs ≤ 9223372036854775808) (hb : b.natAbs ≤ 9223372036854775808) (hmin : -9223372036854775808 ≤ a) (hmax : a ≤ 9223372036854775807) (a0 : 0 < a) (b0 : b < 0) (hw : Hid (Fl.wants a b 1)) :
    Calls Try.prog 3 #[.int .i64 a, .int .i64 b] w fun e w' => e = .returned (.bool true) ∧ Below w.heap.size w w' := by
  have _ := hb
  have hA : decide (a < 0) = false := decide_eq_false (by omega)
  have hB : decide (b < 0) = true := decide_eq_true b0
  go_enter Try.func3, Try.ntmps3
  go_wp2_with fail
  refine (Order.share _ _ _).mono ?_
  rintro e w1 ⟨⟨r, rfl, hr⟩, hb1⟩
  have HR := Lib.hid hr
  have hlt := hr.1
  clear hr
  have HW := Lib.hid (hw.out r HR.out)
  go_wp2_with fail
  refine (Order.class_ r hlt _).mono ?_
  rintro e w2 ⟨rfl, rfl⟩
  rw [HW.out]
  go_wp2_with fail
  refine (Order.alive _).mono ?_
  rintro e w2 ⟨rfl, hb2⟩
  go_wp2_with fail
  refine (Order.share _ _ _).mono ?_
  rintro e w3 ⟨⟨q, rfl, hq⟩, hb3⟩
  have HN := Lib.hid (Fl.neg_share HR.out hq (by omega) (by omega) (by omega))
  clear hq
  go_wp2_with fail
  refine (OrderRef.alike_ _ _ _).mono ?_
  rintro e w4 ⟨rfl, rfl⟩
  rw [HN.out]
  go_wp2_with fail
  go_ret
  exact ⟨rfl, bthen (bthen hb1 hb2) hb3⟩
set_option maxHeartbeats 8000000 in
theorem walk_np (a b : Int) (w : World) (ha : a.natAbs ≤ 9223372036854775808) (hb : b.natAbs ≤ 9223372036854775808) (hmin : -9223372036854775808 ≤ a) (hmax : a ≤ 9223372036854775807) (a0 : a < 0) (b0 : 0 < b) (hw : Hid (Fl.wants a b 1)) :
    Calls Try.prog 3 #[.int .i64 a, .int .i64 b] w fun e w' => e = .returned (.bool true) ∧ Below w.heap.size w w' := by
  have _ := hb
  have hA : decide (a < 0) = true := decide_eq_true a0
  have hB : decide (b < 0) = false := decide_eq_false (by omega)
  by_cases hm : a = -9223372036854775808
  · have hm2 := hm
    subst hm
    go_enter Try.func3, Try.ntmps3
    go_wp2_with fail
    refine (Order.share _ _ _).mono ?_
    rintro e w1 ⟨⟨r, rfl, hr⟩, hb1⟩
    have HR := Lib.hid hr
    have hlt := hr.1
    clear hr
    have HW := Lib.hid (hw.out r HR.out)
    go_wp2_with fail
    refine (Order.class_ r hlt _).mono ?_
    rintro e w2 ⟨rfl, rfl⟩
    rw [HW.out]
    go_wp2_with fail
    refine (Order.alive _).mono ?_
    rintro e w2 ⟨rfl, hb2⟩
    go_wp2_with fail
    go_ret
    exact ⟨rfl, bthen hb1 hb2⟩
  · skip
    go_enter Try.func3, Try.ntmps3
    go_wp2_with fail
    refine (Order.share _ _ _).mono ?_
    rintro e w1 ⟨⟨r, rfl, hr⟩, hb1⟩
    have HR := Lib.hid hr
    have hlt := hr.1
    clear hr
    have HW := Lib.hid (hw.out r HR.out)
    go_wp2_with fail
    refine (Order.class_ r hlt _).mono ?_
    rintro e w2 ⟨rfl, rfl⟩
    rw [HW.out]
    go_wp2_with fail
    refine (Order.alive _).mono ?_
    rintro e w2 ⟨rfl, hb2⟩
    go_wp2_with fail
    refine (Order.share _ _ _).mono ?_
    rintro e w3 ⟨⟨q, rfl, hq⟩, hb3⟩
    have HN := Lib.hid (Fl.neg_share HR.out hq (by omega) (by omega) (by omega))
    clear hq
    go_wp2_with fail
    refine (OrderRef.alike_ _ _ _).mono ?_
    rintro e w4 ⟨rfl, rfl⟩
    rw [HN.out]
    go_wp2_with fail
    go_ret
    exact ⟨rfl, bthen (bthen hb1 hb2) hb3⟩
set_option maxHeartbeats 8000000 in
theorem walk_pp (a b : Int) (w : World) (ha : a.natAbs ≤ 9223372036854775808) (hb : b.natAbs ≤ 9223372036854775808) (hmin : -9223372036854775808 ≤ a) (hmax : a ≤ 9223372036854775807) (a0 : 0 < a) (b0 : 0 < b) (hw : Hid (Fl.wants a b 4)) :
    Calls Try.prog 3 #[.int .i64 a, .int .i64 b] w fun e w' => e = .returned (.bool true) ∧ Below w.heap.size w w' := by
  have _ := hb
  have hA : decide (a < 0) = false := decide_eq_false (by omega)
  have hB : decide (b < 0) = false := decide_eq_false (by omega)
  by_cases hab : a ≤ b
  · have hpart : Hid (∀ r, Fl.isShare a b r → (Fl.lt 0 r || Fl.eq r 0) = true ∧ (Fl.lt r 4607182418800017408 || Fl.eq r 4607182418800017408) = true) := fun r hr => Fl.part_of ha hb (by omega) (by omega) hab hr
    go_enter Try.func3, Try.ntmps3
    go_wp2_with fail
    refine (Order.share _ _ _).mono ?_
    rintro e w1 ⟨⟨r, rfl, hr⟩, hb1⟩
    have HR := Lib.hid hr
    have hlt := hr.1
    clear hr
    have HW := Lib.hid (hw.out r HR.out)
    go_wp2_with fail
    refine (Order.class_ r hlt _).mono ?_
    rintro e w2 ⟨rfl, rfl⟩
    rw [HW.out]
    go_wp2_with fail
    refine (Order.alive _).mono ?_
    rintro e w2 ⟨rfl, hb2⟩
    obtain ⟨hge, hle⟩ := hpart.out r HR.out
    have HGE := Lib.hid hge
    have HLE := Lib.hid hle
    clear hge hle
    go_wp2_with fail
    refine (Order.share _ _ _).mono ?_
    rintro e w3 ⟨⟨q, rfl, hq⟩, hb3⟩
    have HN := Lib.hid (Fl.neg_share HR.out hq (by omega) (by omega) (by omega))
    clear hq
    go_wp2_with fail
    refine (OrderRef.alike_ _ _ _).mono ?_
    rintro e w4 ⟨rfl, rfl⟩
    rw [HN.out]
    cases h1 : Fl.lt 0 r <;> cases h2 : Fl.eq r 0 <;> cases h3 : Fl.lt r 4607182418800017408 <;> cases h4 : Fl.eq r 4607182418800017408
    all_goals first
      | (exfalso; have hx := HGE.out; rw [h1, h2] at hx; cases hx; done)
      | (exfalso; have hx := HLE.out; rw [h3, h4] at hx; cases hx; done)
      | (go_wp2_with fail; go_ret; exact ⟨rfl, bthen (bthen hb1 hb2) hb3⟩)
  · skip
    go_enter Try.func3, Try.ntmps3
    go_wp2_with fail
    refine (Order.share _ _ _).mono ?_
    rintro e w1 ⟨⟨r, rfl, hr⟩, hb1⟩
    have HR := Lib.hid hr
    have hlt := hr.1
    clear hr
    have HW := Lib.hid (hw.out r HR.out)
    go_wp2_with fail
    refine (Order.class_ r hlt _).mono ?_
    rintro e w2 ⟨rfl, rfl⟩
    rw [HW.out]
    go_wp2_with fail
    refine (Order.alive _).mono ?_
    rintro e w2 ⟨rfl, hb2⟩
    go_wp2_with fail
    refine (Order.share _ _ _).mono ?_
    rintro e w3 ⟨⟨q, rfl, hq⟩, hb3⟩
    have HN := Lib.hid (Fl.neg_share HR.out hq (by omega) (by omega) (by omega))
    clear hq
    go_wp2_with fail
    refine (OrderRef.alike_ _ _ _).mono ?_
    rintro e w4 ⟨rfl, rfl⟩
    rw [HN.out]
    go_wp2_with fail
    go_ret
    exact ⟨rfl, bthen (bthen hb1 hb2) hb3⟩
set_option maxHeartbeats 8000000 in
theorem walk_nn (a b : Int) (w : World) (ha : a.natAbs ≤ 9223372036854775808) (hb : b.natAbs ≤ 9223372036854775808) (hmin : -9223372036854775808 ≤ a) (hmax : a ≤ 9223372036854775807) (a0 : a < 0) (b0 : b < 0) (hw : Hid (Fl.wants a b 4)) :
    Calls Try.prog 3 #[.int .i64 a, .int .i64 b] w fun e w' => e = .returned (.bool true) ∧ Below w.heap.size w w' := by
  have _ := hb
  have hA : decide (a < 0) = true := decide_eq_true a0
  have hB : decide (b < 0) = true := decide_eq_true b0
  by_cases hm : a = -9223372036854775808
  · have hm2 := hm
    subst hm
    go_enter Try.func3, Try.ntmps3
    go_wp2_with fail
    refine (Order.share _ _ _).mono ?_
    rintro e w1 ⟨⟨r, rfl, hr⟩, hb1⟩
    have HR := Lib.hid hr
    have hlt := hr.1
    clear hr
    have HW := Lib.hid (hw.out r HR.out)
    go_wp2_with fail
    refine (Order.class_ r hlt _).mono ?_
    rintro e w2 ⟨rfl, rfl⟩
    rw [HW.out]
    go_wp2_with fail
    refine (Order.alive _).mono ?_
    rintro e w2 ⟨rfl, hb2⟩
    go_wp2_with fail
    go_ret
    exact ⟨rfl, bthen hb1 hb2⟩
  · skip
    go_enter Try.func3, Try.ntmps3
    go_wp2_with fail
    refine (Order.share _ _ _).mono ?_
    rintro e w1 ⟨⟨r, rfl, hr⟩, hb1⟩
    have HR := Lib.hid hr
    have hlt := hr.1
    clear hr
    have HW := Lib.hid (hw.out r HR.out)
    go_wp2_with fail
    refine (Order.class_ r hlt _).mono ?_
    rintro e w2 ⟨rfl, rfl⟩
    rw [HW.out]
    go_wp2_with fail
    refine (Order.alive _).mono ?_
    rintro e w2 ⟨rfl, hb2⟩
    go_wp2_with fail
    refine (Order.share _ _ _).mono ?_
    rintro e w3 ⟨⟨q, rfl, hq⟩, hb3⟩
    have HN := Lib.hid (Fl.neg_share HR.out hq (by omega) (by omega) (by omega))
    clear hq
    go_wp2_with fail
    refine (OrderRef.alike_ _ _ _).mono ?_
    rintro e w4 ⟨rfl, rfl⟩
    rw [HN.out]
    go_wp2_with fail
    go_ret
    exact ⟨rfl, bthen (bthen hb1 hb2) hb3⟩
theorem walk (a b : Int) (w : World) (wa : (Lit.int .i64 a).wf = true) (wb : (Lit.int .i64 b).wf = true) :
    Calls Try.prog 3 #[.int .i64 a, .int .i64 b] w fun e w' => e = .returned (.bool true) ∧ Below w.heap.size w w' := by
  have h1 := wf_bd wa
  have h2 := wf_bd wb
  have ha : a.natAbs ≤ 9223372036854775808 := by omega
  have hb : b.natAbs ≤ 9223372036854775808 := by omega
  obtain ⟨k1, k2, k3, k4, k5, k6, k7⟩ := Fl.wants_of ha hb
  rcases Int.lt_trichotomy a 0 with h | h | h <;> rcases Int.lt_trichotomy b 0 with g | g | g
  · exact walk_nn a b w ha hb h1.1 h1.2 h g (k7 (by omega) (by omega) (by rw [decide_eq_true h, decide_eq_true g]; rfl))
  · exact walk_nz a b w ha hb h1.1 h1.2 h g (k3 g h)
  · exact walk_np a b w ha hb h1.1 h1.2 h g (k6 (by omega) (by omega) (by rw [decide_eq_true h, decide_eq_false (by omega)]; rfl))
  · exact walk_zn a b w ha hb h1.1 h1.2 h g (k5 h g)
  · exact walk_zz a b w ha hb h1.1 h1.2 h g (k1 h g)
  · exact walk_zp a b w ha hb h1.1 h1.2 h g (k4 h g)
  · exact walk_pn a b w ha hb h1.1 h1.2 h g (k6 (by omega) (by omega) (by rw [decide_eq_false (by omega), decide_eq_true g]; rfl))
  · exact walk_pz a b w ha hb h1.1 h1.2 h g (k2 g h)
  · exact walk_pp a b w ha hb h1.1 h1.2 h g (k7 (by omega) (by omega) (by rw [decide_eq_false (by omega), decide_eq_false (by omega)]; rfl))
end orderShares
end Go.Proofs.Ytkjhacbkgnjilaa
