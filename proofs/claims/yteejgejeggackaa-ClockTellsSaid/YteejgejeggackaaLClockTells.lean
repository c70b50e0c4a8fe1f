/-
  The walk of ClockTells (layer 4).
-/
import Derived.Test.YteejgejeggackaaRefClock
namespace Go.Proofs.Yteejgejeggackaa
open Go.RowKit
namespace clockTells
theorem sum_over (a b : Int) (a0 : 0 ≤ a) (a1 : a ≤ 4611686018427387904) (b0 : 0 ≤ b) (b1 : b ≤ 4611686018427387904) (h : 4611686018427387904 < a + b) : Clock.right (wrap64 (a + b)) = false := by
  unfold Clock.right wrap64
  simp
  omega
set_option maxHeartbeats 1000000 in
theorem yesA (a b : Int) (A : Option Addr) (n k c : Nat) (hk : ((n : Int) ≤ 60 ∧ k = n) ∨ (60 < (n : Int) ∧ k = 60)) (zs : List Int) (hn : n ≤ maxLen) (hnc : n ≤ c) (hc : c ≤ maxLen) (ha : Clock.right a = true) (hb : Clock.right b = true) (ho : a + b ≤ 4611686018427387904) (hall : zs.all Clock.right = true) (w : World) (hr : Reads w w.heap.size 1 A k (zs.map (Value.int .i64))) :
    Calls Try.prog 4 #[.int .i64 a, .int .i64 b, .slice A n c] w fun e w' => e = .returned (.bool true) ∧ Below w.heap.size w w' := by
  have hk60 : k ≤ maxLen := by rcases hk with ⟨_, rfl⟩ | ⟨_, rfl⟩ <;> simp [maxLen] <;> omega
  have R := fun (w' : World) (hb : Below w.heap.size w w') => (hr.below hb).more hb.size
  have HR := Lib.hid R
  clear R hr
  unfold maxLen at hn hc
  obtain ⟨a0, a1⟩ := Clock.right_bd ha
  obtain ⟨b0, b1⟩ := Clock.right_bd hb
  have HA := Lib.hid ha
  clear ha
  have HB := Lib.hid hb
  clear hb
  have HALL := Lib.hid hall
  clear hall
  rcases hk with ⟨hk1, rfl⟩ | ⟨hk1, rfl⟩
  all_goals
    go_enter Try.func4, Try.ntmps4
    go_wp2_with fail
    refine (Clock.tick_yes a b HA.out HB.out ho _).mono ?_
    rintro e w1 ⟨rfl, hb1⟩
    go_wp2_with fail
    refine (Clock.since_yes a b HA.out HB.out _).mono ?_
    rintro e w2 ⟨rfl, hb2⟩
    go_wp2_with fail
    refine (Clock.late_yes a b HA.out HB.out _).mono ?_
    rintro e w3 ⟨rfl, hb3⟩
    have hb123 := bthen (bthen hb1 hb2) hb3
    have hr3 := HR.out _ hb123
    clear hb1 hb2 hb3
    go_wp2_with fail
    refine (Clock.spread_yes A _ c zs _ hr3 hk60 HALL.out).mono ?_
    rintro e w' ⟨⟨s, rfl, hs⟩, rfl⟩
    have HS := Lib.hid hs
    clear hs
    go_wp2_with fail
    refine (Clock.right_any a _).mono ?_
    rintro e w' ⟨rfl, rfl⟩
    go_wp2_with fail
    refine (Clock.refRight_any a _).mono ?_
    rintro e w' ⟨rfl, rfl⟩
    rw [HA.out]
    go_wp2_with fail
    refine (Clock.alive _).mono ?_
    rintro e w4 ⟨rfl, hb4⟩
    have hr4 := (hr3.below hb4).more hb4.size
    go_wp2_with fail
    refine (Clock.refAll_any A _ c zs _ hr4 hk60).mono ?_
    rintro e w' ⟨rfl, rfl⟩
    rw [HALL.out]
    go_wp2_with fail
    refine (Clock.refSpread_any A _ c zs _ hr4 hk60 HALL.out).mono ?_
    rintro e w' ⟨⟨s', rfl, h1, h2⟩, rfl⟩
    obtain rfl := Clock.spread_same HS.out h1 h2
    clear h1 h2 HS
    go_wp2_with fail
    refine (Clock.refRight_any a _).mono ?_
    rintro e w' ⟨rfl, rfl⟩
    rw [HA.out]
    go_wp2_with fail
    refine (Clock.refRight_any b _).mono ?_
    rintro e w' ⟨rfl, rfl⟩
    rw [HB.out]
    go_wp2_with fail
    refine (Clock.refSince_any a b HA.out HB.out _).mono ?_
    rintro e w' ⟨rfl, rfl⟩
    go_wp2_with fail
    refine (Clock.refLate_any a b HA.out HB.out _).mono ?_
    rintro e w' ⟨rfl, rfl⟩
    go_wp2_with fail
    refine (Clock.refRight_any (a + b) _).mono ?_
    rintro e w' ⟨rfl, rfl⟩
    rw [Clock.right_of (by omega) ho]
    go_wp2_with fail
    go_ret
    exact ⟨rfl, bthen hb123 hb4⟩

set_option maxHeartbeats 1000000 in
theorem overA (a b : Int) (A : Option Addr) (n k c : Nat) (hk : ((n : Int) ≤ 60 ∧ k = n) ∨ (60 < (n : Int) ∧ k = 60)) (zs : List Int) (hn : n ≤ maxLen) (hnc : n ≤ c) (hc : c ≤ maxLen) (ha : Clock.right a = true) (hb : Clock.right b = true) (ho : 4611686018427387904 < a + b) (hall : zs.all Clock.right = true) (w : World) (hr : Reads w w.heap.size 1 A k (zs.map (Value.int .i64))) :
    Calls Try.prog 4 #[.int .i64 a, .int .i64 b, .slice A n c] w fun e w' => e = .returned (.bool true) ∧ Below w.heap.size w w' := by
  have hk60 : k ≤ maxLen := by rcases hk with ⟨_, rfl⟩ | ⟨_, rfl⟩ <;> simp [maxLen] <;> omega
  have R := fun (w' : World) (hb : Below w.heap.size w w') => (hr.below hb).more hb.size
  have HR := Lib.hid R
  clear R hr
  unfold maxLen at hn hc
  obtain ⟨a0, a1⟩ := Clock.right_bd ha
  obtain ⟨b0, b1⟩ := Clock.right_bd hb
  have HA := Lib.hid ha
  clear ha
  have HB := Lib.hid hb
  clear hb
  have HALL := Lib.hid hall
  clear hall
  rcases hk with ⟨hk1, rfl⟩ | ⟨hk1, rfl⟩
  all_goals
    go_enter Try.func4, Try.ntmps4
    go_wp2_with fail
    refine (Clock.tick_over a b HA.out HB.out ho _).mono ?_
    rintro e w1 ⟨rfl, hb1⟩
    go_wp2_with fail
    refine (Clock.since_yes a b HA.out HB.out _).mono ?_
    rintro e w2 ⟨rfl, hb2⟩
    go_wp2_with fail
    refine (Clock.late_yes a b HA.out HB.out _).mono ?_
    rintro e w3 ⟨rfl, hb3⟩
    have hb123 := bthen (bthen hb1 hb2) hb3
    have hr3 := HR.out _ hb123
    clear hb1 hb2 hb3
    go_wp2_with fail
    refine (Clock.spread_yes A _ c zs _ hr3 hk60 HALL.out).mono ?_
    rintro e w' ⟨⟨s, rfl, hs⟩, rfl⟩
    have HS := Lib.hid hs
    clear hs
    go_wp2_with fail
    refine (Clock.right_any a _).mono ?_
    rintro e w' ⟨rfl, rfl⟩
    go_wp2_with fail
    refine (Clock.refRight_any a _).mono ?_
    rintro e w' ⟨rfl, rfl⟩
    rw [HA.out]
    go_wp2_with fail
    refine (Clock.alive _).mono ?_
    rintro e w4 ⟨rfl, hb4⟩
    have hr4 := (hr3.below hb4).more hb4.size
    go_wp2_with fail
    refine (Clock.refAll_any A _ c zs _ hr4 hk60).mono ?_
    rintro e w' ⟨rfl, rfl⟩
    rw [HALL.out]
    go_wp2_with fail
    refine (Clock.refSpread_any A _ c zs _ hr4 hk60 HALL.out).mono ?_
    rintro e w' ⟨⟨s', rfl, h1, h2⟩, rfl⟩
    obtain rfl := Clock.spread_same HS.out h1 h2
    clear h1 h2 HS
    go_wp2_with fail
    refine (Clock.refRight_any a _).mono ?_
    rintro e w' ⟨rfl, rfl⟩
    rw [HA.out]
    go_wp2_with fail
    refine (Clock.refRight_any b _).mono ?_
    rintro e w' ⟨rfl, rfl⟩
    rw [HB.out]
    go_wp2_with fail
    refine (Clock.refSince_any a b HA.out HB.out _).mono ?_
    rintro e w' ⟨rfl, rfl⟩
    go_wp2_with fail
    refine (Clock.refLate_any a b HA.out HB.out _).mono ?_
    rintro e w' ⟨rfl, rfl⟩
    go_wp2_with fail
    refine (Clock.refRight_any _ _).mono ?_
    rintro e w' ⟨rfl, rfl⟩
    rw [sum_over a b a0 a1 b0 b1 ho]
    go_wp2_with fail
    go_ret
    exact ⟨rfl, bthen hb123 hb4⟩

set_option maxHeartbeats 1000000 in
theorem noaA (a b : Int) (A : Option Addr) (n k c : Nat) (hk : ((n : Int) ≤ 60 ∧ k = n) ∨ (60 < (n : Int) ∧ k = 60)) (zs : List Int) (hn : n ≤ maxLen) (hnc : n ≤ c) (hc : c ≤ maxLen) (ha : Clock.right a = false) (hall : zs.all Clock.right = true) (w : World) (hr : Reads w w.heap.size 1 A k (zs.map (Value.int .i64))) :
    Calls Try.prog 4 #[.int .i64 a, .int .i64 b, .slice A n c] w fun e w' => e = .returned (.bool true) ∧ Below w.heap.size w w' := by
  have hk60 : k ≤ maxLen := by rcases hk with ⟨_, rfl⟩ | ⟨_, rfl⟩ <;> simp [maxLen] <;> omega
  have R := fun (w' : World) (hb : Below w.heap.size w w') => (hr.below hb).more hb.size
  have HR := Lib.hid R
  clear R hr
  unfold maxLen at hn hc
  have hab : (Clock.right a && Clock.right b) = false := by rw [ha]; rfl
  have HA := Lib.hid ha
  clear ha
  have HALL := Lib.hid hall
  clear hall
  have HAB := Lib.hid hab
  clear hab
  rcases hk with ⟨hk1, rfl⟩ | ⟨hk1, rfl⟩
  all_goals
    go_enter Try.func4, Try.ntmps4
    go_wp2_with fail
    refine (Clock.tick_no a b HAB.out _).mono ?_
    rintro e w1 ⟨rfl, hb1⟩
    go_wp2_with fail
    refine (Clock.since_no a b HAB.out _).mono ?_
    rintro e w2 ⟨rfl, hb2⟩
    go_wp2_with fail
    refine (Clock.late_no a b HAB.out _).mono ?_
    rintro e w3 ⟨rfl, hb3⟩
    have hb123 := bthen (bthen hb1 hb2) hb3
    have hr3 := HR.out _ hb123
    clear hb1 hb2 hb3
    go_wp2_with fail
    refine (Clock.spread_yes A _ c zs _ hr3 hk60 HALL.out).mono ?_
    rintro e w' ⟨⟨s, rfl, hs⟩, rfl⟩
    have HS := Lib.hid hs
    clear hs
    go_wp2_with fail
    refine (Clock.right_any a _).mono ?_
    rintro e w' ⟨rfl, rfl⟩
    go_wp2_with fail
    refine (Clock.refRight_any a _).mono ?_
    rintro e w' ⟨rfl, rfl⟩
    rw [HA.out]
    go_wp2_with fail
    refine (Clock.alive _).mono ?_
    rintro e w4 ⟨rfl, hb4⟩
    have hr4 := (hr3.below hb4).more hb4.size
    go_wp2_with fail
    refine (Clock.refAll_any A _ c zs _ hr4 hk60).mono ?_
    rintro e w' ⟨rfl, rfl⟩
    rw [HALL.out]
    go_wp2_with fail
    refine (Clock.refSpread_any A _ c zs _ hr4 hk60 HALL.out).mono ?_
    rintro e w' ⟨⟨s', rfl, h1, h2⟩, rfl⟩
    obtain rfl := Clock.spread_same HS.out h1 h2
    clear h1 h2 HS
    go_wp2_with fail
    refine (Clock.refRight_any a _).mono ?_
    rintro e w' ⟨rfl, rfl⟩
    rw [HA.out]
    go_wp2_with fail
    go_ret
    exact ⟨rfl, bthen hb123 hb4⟩

set_option maxHeartbeats 1000000 in
theorem nobA (a b : Int) (A : Option Addr) (n k c : Nat) (hk : ((n : Int) ≤ 60 ∧ k = n) ∨ (60 < (n : Int) ∧ k = 60)) (zs : List Int) (hn : n ≤ maxLen) (hnc : n ≤ c) (hc : c ≤ maxLen) (ha : Clock.right a = true) (hb : Clock.right b = false) (hall : zs.all Clock.right = true) (w : World) (hr : Reads w w.heap.size 1 A k (zs.map (Value.int .i64))) :
    Calls Try.prog 4 #[.int .i64 a, .int .i64 b, .slice A n c] w fun e w' => e = .returned (.bool true) ∧ Below w.heap.size w w' := by
  have hk60 : k ≤ maxLen := by rcases hk with ⟨_, rfl⟩ | ⟨_, rfl⟩ <;> simp [maxLen] <;> omega
  have R := fun (w' : World) (hb : Below w.heap.size w w') => (hr.below hb).more hb.size
  have HR := Lib.hid R
  clear R hr
  unfold maxLen at hn hc
  have hab : (Clock.right a && Clock.right b) = false := by rw [ha]; rw [hb]; rfl
  have HA := Lib.hid ha
  clear ha
  have HB := Lib.hid hb
  clear hb
  have HALL := Lib.hid hall
  clear hall
  have HAB := Lib.hid hab
  clear hab
  rcases hk with ⟨hk1, rfl⟩ | ⟨hk1, rfl⟩
  all_goals
    go_enter Try.func4, Try.ntmps4
    go_wp2_with fail
    refine (Clock.tick_no a b HAB.out _).mono ?_
    rintro e w1 ⟨rfl, hb1⟩
    go_wp2_with fail
    refine (Clock.since_no a b HAB.out _).mono ?_
    rintro e w2 ⟨rfl, hb2⟩
    go_wp2_with fail
    refine (Clock.late_no a b HAB.out _).mono ?_
    rintro e w3 ⟨rfl, hb3⟩
    have hb123 := bthen (bthen hb1 hb2) hb3
    have hr3 := HR.out _ hb123
    clear hb1 hb2 hb3
    go_wp2_with fail
    refine (Clock.spread_yes A _ c zs _ hr3 hk60 HALL.out).mono ?_
    rintro e w' ⟨⟨s, rfl, hs⟩, rfl⟩
    have HS := Lib.hid hs
    clear hs
    go_wp2_with fail
    refine (Clock.right_any a _).mono ?_
    rintro e w' ⟨rfl, rfl⟩
    go_wp2_with fail
    refine (Clock.refRight_any a _).mono ?_
    rintro e w' ⟨rfl, rfl⟩
    rw [HA.out]
    go_wp2_with fail
    refine (Clock.alive _).mono ?_
    rintro e w4 ⟨rfl, hb4⟩
    have hr4 := (hr3.below hb4).more hb4.size
    go_wp2_with fail
    refine (Clock.refAll_any A _ c zs _ hr4 hk60).mono ?_
    rintro e w' ⟨rfl, rfl⟩
    rw [HALL.out]
    go_wp2_with fail
    refine (Clock.refSpread_any A _ c zs _ hr4 hk60 HALL.out).mono ?_
    rintro e w' ⟨⟨s', rfl, h1, h2⟩, rfl⟩
    obtain rfl := Clock.spread_same HS.out h1 h2
    clear h1 h2 HS
    go_wp2_with fail
    refine (Clock.refRight_any a _).mono ?_
    rintro e w' ⟨rfl, rfl⟩
    rw [HA.out]
    go_wp2_with fail
    refine (Clock.refRight_any b _).mono ?_
    rintro e w' ⟨rfl, rfl⟩
    rw [HB.out]
    go_wp2_with fail
    go_ret
    exact ⟨rfl, bthen hb123 hb4⟩

set_option maxHeartbeats 1000000 in
theorem yesN (a b : Int) (A : Option Addr) (n k c : Nat) (hk : ((n : Int) ≤ 60 ∧ k = n) ∨ (60 < (n : Int) ∧ k = 60)) (zs : List Int) (hn : n ≤ maxLen) (hnc : n ≤ c) (hc : c ≤ maxLen) (ha : Clock.right a = true) (hb : Clock.right b = true) (ho : a + b ≤ 4611686018427387904) (hall : zs.all Clock.right = false) (w : World) (hr : Reads w w.heap.size 1 A k (zs.map (Value.int .i64))) :
    Calls Try.prog 4 #[.int .i64 a, .int .i64 b, .slice A n c] w fun e w' => e = .returned (.bool true) ∧ Below w.heap.size w w' := by
  have hk60 : k ≤ maxLen := by rcases hk with ⟨_, rfl⟩ | ⟨_, rfl⟩ <;> simp [maxLen] <;> omega
  have R := fun (w' : World) (hb : Below w.heap.size w w') => (hr.below hb).more hb.size
  have HR := Lib.hid R
  clear R hr
  unfold maxLen at hn hc
  obtain ⟨a0, a1⟩ := Clock.right_bd ha
  obtain ⟨b0, b1⟩ := Clock.right_bd hb
  have HA := Lib.hid ha
  clear ha
  have HB := Lib.hid hb
  clear hb
  have HALL := Lib.hid hall
  clear hall
  rcases hk with ⟨hk1, rfl⟩ | ⟨hk1, rfl⟩
  all_goals
    go_enter Try.func4, Try.ntmps4
    go_wp2_with fail
    refine (Clock.tick_yes a b HA.out HB.out ho _).mono ?_
    rintro e w1 ⟨rfl, hb1⟩
    go_wp2_with fail
    refine (Clock.since_yes a b HA.out HB.out _).mono ?_
    rintro e w2 ⟨rfl, hb2⟩
    go_wp2_with fail
    refine (Clock.late_yes a b HA.out HB.out _).mono ?_
    rintro e w3 ⟨rfl, hb3⟩
    have hb123 := bthen (bthen hb1 hb2) hb3
    have hr3 := HR.out _ hb123
    clear hb1 hb2 hb3
    go_wp2_with fail
    refine (Clock.spread_no A _ c zs _ hr3 hk60 HALL.out).mono ?_
    rintro e w' ⟨rfl, rfl⟩
    go_wp2_with fail
    refine (Clock.right_any a _).mono ?_
    rintro e w' ⟨rfl, rfl⟩
    go_wp2_with fail
    refine (Clock.refRight_any a _).mono ?_
    rintro e w' ⟨rfl, rfl⟩
    rw [HA.out]
    go_wp2_with fail
    refine (Clock.alive _).mono ?_
    rintro e w4 ⟨rfl, hb4⟩
    have hr4 := (hr3.below hb4).more hb4.size
    go_wp2_with fail
    refine (Clock.refAll_any A _ c zs _ hr4 hk60).mono ?_
    rintro e w' ⟨rfl, rfl⟩
    rw [HALL.out]
    go_wp2_with fail
    refine (Clock.refRight_any a _).mono ?_
    rintro e w' ⟨rfl, rfl⟩
    rw [HA.out]
    go_wp2_with fail
    refine (Clock.refRight_any b _).mono ?_
    rintro e w' ⟨rfl, rfl⟩
    rw [HB.out]
    go_wp2_with fail
    refine (Clock.refSince_any a b HA.out HB.out _).mono ?_
    rintro e w' ⟨rfl, rfl⟩
    go_wp2_with fail
    refine (Clock.refLate_any a b HA.out HB.out _).mono ?_
    rintro e w' ⟨rfl, rfl⟩
    go_wp2_with fail
    refine (Clock.refRight_any (a + b) _).mono ?_
    rintro e w' ⟨rfl, rfl⟩
    rw [Clock.right_of (by omega) ho]
    go_wp2_with fail
    go_ret
    exact ⟨rfl, bthen hb123 hb4⟩

set_option maxHeartbeats 1000000 in
theorem overN (a b : Int) (A : Option Addr) (n k c : Nat) (hk : ((n : Int) ≤ 60 ∧ k = n) ∨ (60 < (n : Int) ∧ k = 60)) (zs : List Int) (hn : n ≤ maxLen) (hnc : n ≤ c) (hc : c ≤ maxLen) (ha : Clock.right a = true) (hb : Clock.right b = true) (ho : 4611686018427387904 < a + b) (hall : zs.all Clock.right = false) (w : World) (hr : Reads w w.heap.size 1 A k (zs.map (Value.int .i64))) :
    Calls Try.prog 4 #[.int .i64 a, .int .i64 b, .slice A n c] w fun e w' => e = .returned (.bool true) ∧ Below w.heap.size w w' := by
  have hk60 : k ≤ maxLen := by rcases hk with ⟨_, rfl⟩ | ⟨_, rfl⟩ <;> simp [maxLen] <;> omega
  have R := fun (w' : World) (hb : Below w.heap.size w w') => (hr.below hb).more hb.size
  have HR := Lib.hid R
  clear R hr
  unfold maxLen at hn hc
  obtain ⟨a0, a1⟩ := Clock.right_bd ha
  obtain ⟨b0, b1⟩ := Clock.right_bd hb
  have HA := Lib.hid ha
  clear ha
  have HB := Lib.hid hb
  clear hb
  have HALL := Lib.hid hall
  clear hall
  rcases hk with ⟨hk1, rfl⟩ | ⟨hk1, rfl⟩
  all_goals
    go_enter Try.func4, Try.ntmps4
    go_wp2_with fail
    refine (Clock.tick_over a b HA.out HB.out ho _).mono ?_
    rintro e w1 ⟨rfl, hb1⟩
    go_wp2_with fail
    refine (Clock.since_yes a b HA.out HB.out _).mono ?_
    rintro e w2 ⟨rfl, hb2⟩
    go_wp2_with fail
    refine (Clock.late_yes a b HA.out HB.out _).mono ?_
    rintro e w3 ⟨rfl, hb3⟩
    have hb123 := bthen (bthen hb1 hb2) hb3
    have hr3 := HR.out _ hb123
    clear hb1 hb2 hb3
    go_wp2_with fail
    refine (Clock.spread_no A _ c zs _ hr3 hk60 HALL.out).mono ?_
    rintro e w' ⟨rfl, rfl⟩
    go_wp2_with fail
    refine (Clock.right_any a _).mono ?_
    rintro e w' ⟨rfl, rfl⟩
    go_wp2_with fail
    refine (Clock.refRight_any a _).mono ?_
    rintro e w' ⟨rfl, rfl⟩
    rw [HA.out]
    go_wp2_with fail
    refine (Clock.alive _).mono ?_
    rintro e w4 ⟨rfl, hb4⟩
    have hr4 := (hr3.below hb4).more hb4.size
    go_wp2_with fail
    refine (Clock.refAll_any A _ c zs _ hr4 hk60).mono ?_
    rintro e w' ⟨rfl, rfl⟩
    rw [HALL.out]
    go_wp2_with fail
    refine (Clock.refRight_any a _).mono ?_
    rintro e w' ⟨rfl, rfl⟩
    rw [HA.out]
    go_wp2_with fail
    refine (Clock.refRight_any b _).mono ?_
    rintro e w' ⟨rfl, rfl⟩
    rw [HB.out]
    go_wp2_with fail
    refine (Clock.refSince_any a b HA.out HB.out _).mono ?_
    rintro e w' ⟨rfl, rfl⟩
    go_wp2_with fail
    refine (Clock.refLate_any a b HA.out HB.out _).mono ?_
    rintro e w' ⟨rfl, rfl⟩
    go_wp2_with fail
    refine (Clock.refRight_any _ _).mono ?_
    rintro e w' ⟨rfl, rfl⟩
    rw [sum_over a b a0 a1 b0 b1 ho]
    go_wp2_with fail
    go_ret
    exact ⟨rfl, bthen hb123 hb4⟩

set_option maxHeartbeats 1000000 in
theorem noaN (a b : Int) (A : Option Addr) (n k c : Nat) (hk : ((n : Int) ≤ 60 ∧ k = n) ∨ (60 < (n : Int) ∧ k = 60)) (zs : List Int) (hn : n ≤ maxLen) (hnc : n ≤ c) (hc : c ≤ maxLen) (ha : Clock.right a = false) (hall : zs.all Clock.right = false) (w : World) (hr : Reads w w.heap.size 1 A k (zs.map (Value.int .i64))) :
    Calls Try.prog 4 #[.int .i64 a, .int .i64 b, .slice A n c] w fun e w' => e = .returned (.bool true) ∧ Below w.heap.size w w' := by
  have hk60 : k ≤ maxLen := by rcases hk with ⟨_, rfl⟩ | ⟨_, rfl⟩ <;> simp [maxLen] <;> omega
  have R := fun (w' : World) (hb : Below w.heap.size w w') => (hr.below hb).more hb.size
  have HR := Lib.hid R
  clear R hr
  unfold maxLen at hn hc
  have hab : (Clock.right a && Clock.right b) = false := by rw [ha]; rfl
  have HA := Lib.hid ha
  clear ha
  have HALL := Lib.hid hall
  clear hall
  have HAB := Lib.hid hab
  clear hab
  rcases hk with ⟨hk1, rfl⟩ | ⟨hk1, rfl⟩
  all_goals
    go_enter Try.func4, Try.ntmps4
    go_wp2_with fail
    refine (Clock.tick_no a b HAB.out _).mono ?_
    rintro e w1 ⟨rfl, hb1⟩
    go_wp2_with fail
    refine (Clock.since_no a b HAB.out _).mono ?_
    rintro e w2 ⟨rfl, hb2⟩
    go_wp2_with fail
    refine (Clock.late_no a b HAB.out _).mono ?_
    rintro e w3 ⟨rfl, hb3⟩
    have hb123 := bthen (bthen hb1 hb2) hb3
    have hr3 := HR.out _ hb123
    clear hb1 hb2 hb3
    go_wp2_with fail
    refine (Clock.spread_no A _ c zs _ hr3 hk60 HALL.out).mono ?_
    rintro e w' ⟨rfl, rfl⟩
    go_wp2_with fail
    refine (Clock.right_any a _).mono ?_
    rintro e w' ⟨rfl, rfl⟩
    go_wp2_with fail
    refine (Clock.refRight_any a _).mono ?_
    rintro e w' ⟨rfl, rfl⟩
    rw [HA.out]
    go_wp2_with fail
    refine (Clock.alive _).mono ?_
    rintro e w4 ⟨rfl, hb4⟩
    have hr4 := (hr3.below hb4).more hb4.size
    go_wp2_with fail
    refine (Clock.refAll_any A _ c zs _ hr4 hk60).mono ?_
    rintro e w' ⟨rfl, rfl⟩
    rw [HALL.out]
    go_wp2_with fail
    refine (Clock.refRight_any a _).mono ?_
    rintro e w' ⟨rfl, rfl⟩
    rw [HA.out]
    go_wp2_with fail
    go_ret
    exact ⟨rfl, bthen hb123 hb4⟩

set_option maxHeartbeats 1000000 in
theorem nobN (a b : Int) (A : Option Addr) (n k c : Nat) (hk : ((n : Int) ≤ 60 ∧ k = n) ∨ (60 < (n : Int) ∧ k = 60)) (zs : List Int) (hn : n ≤ maxLen) (hnc : n ≤ c) (hc : c ≤ maxLen) (ha : Clock.right a = true) (hb : Clock.right b = false) (hall : zs.all Clock.right = false) (w : World) (hr : Reads w w.heap.size 1 A k (zs.map (Value.int .i64))) :
    Calls Try.prog 4 #[.int .i64 a, .int .i64 b, .slice A n c] w fun e w' => e = .returned (.bool true) ∧ Below w.heap.size w w' := by
  have hk60 : k ≤ maxLen := by rcases hk with ⟨_, rfl⟩ | ⟨_, rfl⟩ <;> simp [maxLen] <;> omega
  have R := fun (w' : World) (hb : Below w.heap.size w w') => (hr.below hb).more hb.size
  have HR := Lib.hid R
  clear R hr
  unfold maxLen at hn hc
  have hab : (Clock.right a && Clock.right b) = false := by rw [ha]; rw [hb]; rfl
  have HA := Lib.hid ha
  clear ha
  have HB := Lib.hid hb
  clear hb
  have HALL := Lib.hid hall
  clear hall
  have HAB := Lib.hid hab
  clear hab
  rcases hk with ⟨hk1, rfl⟩ | ⟨hk1, rfl⟩
  all_goals
    go_enter Try.func4, Try.ntmps4
    go_wp2_with fail
    refine (Clock.tick_no a b HAB.out _).mono ?_
    rintro e w1 ⟨rfl, hb1⟩
    go_wp2_with fail
    refine (Clock.since_no a b HAB.out _).mono ?_
    rintro e w2 ⟨rfl, hb2⟩
    go_wp2_with fail
    refine (Clock.late_no a b HAB.out _).mono ?_
    rintro e w3 ⟨rfl, hb3⟩
    have hb123 := bthen (bthen hb1 hb2) hb3
    have hr3 := HR.out _ hb123
    clear hb1 hb2 hb3
    go_wp2_with fail
    refine (Clock.spread_no A _ c zs _ hr3 hk60 HALL.out).mono ?_
    rintro e w' ⟨rfl, rfl⟩
    go_wp2_with fail
    refine (Clock.right_any a _).mono ?_
    rintro e w' ⟨rfl, rfl⟩
    go_wp2_with fail
    refine (Clock.refRight_any a _).mono ?_
    rintro e w' ⟨rfl, rfl⟩
    rw [HA.out]
    go_wp2_with fail
    refine (Clock.alive _).mono ?_
    rintro e w4 ⟨rfl, hb4⟩
    have hr4 := (hr3.below hb4).more hb4.size
    go_wp2_with fail
    refine (Clock.refAll_any A _ c zs _ hr4 hk60).mono ?_
    rintro e w' ⟨rfl, rfl⟩
    rw [HALL.out]
    go_wp2_with fail
    refine (Clock.refRight_any a _).mono ?_
    rintro e w' ⟨rfl, rfl⟩
    rw [HA.out]
    go_wp2_with fail
    refine (Clock.refRight_any b _).mono ?_
    rintro e w' ⟨rfl, rfl⟩
    rw [HB.out]
    go_wp2_with fail
    go_ret
    exact ⟨rfl, bthen hb123 hb4⟩


theorem walk (a b : Int) (A : Option Addr) (n c : Nat) (zs : List Int) (w : World) (_ : (Lit.int .i64 a).wf = true) (_ : (Lit.int .i64 b).wf = true) (_ : ∀ z ∈ zs, (Lit.int .i64 z).wf = true) (hr : Reads w w.heap.size 1 A n (zs.map (Value.int .i64))) (hnc : n ≤ c ∧ c ≤ maxLen) :
    Calls Try.prog 4 #[.int .i64 a, .int .i64 b, .slice A n c] w fun e w' => e = .returned (.bool true) ∧ Below w.heap.size w w' := by
  obtain ⟨k, hk, hkn⟩ : ∃ k : Nat, (((n : Int) ≤ 60 ∧ k = n) ∨ (60 < (n : Int) ∧ k = 60)) ∧ k ≤ n := by
    by_cases h : n ≤ 60
    · exact ⟨n, Or.inl ⟨by omega, rfl⟩, Nat.le_refl _⟩
    · exact ⟨60, Or.inr ⟨by omega, rfl⟩, by omega⟩
  have hr' := hr.int_take hkn
  have hn : n ≤ maxLen := Nat.le_trans hnc.1 hnc.2
  cases hall : (zs.take k).all Clock.right <;> cases ha : Clock.right a <;> cases hb : Clock.right b
  · exact noaN a b A n k c hk _ hn hnc.1 hnc.2 ha hall w hr'
  · exact noaN a b A n k c hk _ hn hnc.1 hnc.2 ha hall w hr'
  · exact nobN a b A n k c hk _ hn hnc.1 hnc.2 ha hb hall w hr'
  · by_cases ho : a + b ≤ 4611686018427387904
    · exact yesN a b A n k c hk _ hn hnc.1 hnc.2 ha hb ho hall w hr'
    · exact overN a b A n k c hk _ hn hnc.1 hnc.2 ha hb (by omega) hall w hr'
  · exact noaA a b A n k c hk _ hn hnc.1 hnc.2 ha hall w hr'
  · exact noaA a b A n k c hk _ hn hnc.1 hnc.2 ha hall w hr'
  · exact nobA a b A n k c hk _ hn hnc.1 hnc.2 ha hb hall w hr'
  · by_cases ho : a + b ≤ 4611686018427387904
    · exact yesA a b A n k c hk _ hn hnc.1 hnc.2 ha hb ho hall w hr'
    · exact overA a b A n k c hk _ hn hnc.1 hnc.2 ha hb (by omega) hall w hr'
end clockTells
end Go.Proofs.Yteejgejeggackaa
