/-
  The walk of ClockGoes (layer 4), where who began did so long ago.
-/
import Derived.Test.YteejgejeggackaaLClockGoes
namespace Go.Proofs.Yteejgejeggackaa
open Go.RowKit
namespace clockGoes
set_option maxRecDepth 100000 in
set_option maxHeartbeats 8000000 in
theorem walkB (n a b f : Int) (ar br cr dr : Int) (w : World) (hn : wrap64 ((IntKind.u64.wrap ar).tmod 1152921504606846976) = n) (n0 : 0 ≤ n) (n1 : n < 1152921504606846976) (ha : wrap64 ((IntKind.u64.wrap br).tmod 1152921504606846976) = a) (a0 : 0 ≤ a) (a1 : a < 1152921504606846976)
    (hb : wrap64 ((IntKind.u64.wrap cr).tmod 1152921504606846976) = b) (b0 : 0 ≤ b) (b1 : b < 1152921504606846976) (hf : wrap64 ((IntKind.u64.wrap dr).tmod 1152921504606846976) = f) (f0 : 0 ≤ f) (f1 : f < 1152921504606846976) (HC : Hid (f ≤ n ∧ 1000000 < max (n - f) 0)) :
    Calls Try.prog 5 #[.int .i64 ar, .int .i64 br, .int .i64 cr, .int .i64 dr] w fun e w' => e = .returned (.bool true) ∧ Below w.heap.size w w' := by
  have r := fun (t : Int) (h0 : 0 ≤ t) (h1 : t ≤ 4611686018427387904) => Clock.right_of h0 h1
  have HR := Lib.hid r
  clear r
  go_enter Try.func5, Try.ntmps5
  go_wp2_with fail
  try rw [hn, ha, hb, hf]
  clear hn ha hb hf
  refine (Clock.tick_yes n a (HR.out _ (by omega) (by omega)) (HR.out _ (by omega) (by omega)) (by omega) _).mono ?_
  rintro e w1 ⟨rfl, hb1⟩
  go_wp2_with fail
  refine (Clock.tick_yes (n + a) b (HR.out _ (by omega) (by omega)) (HR.out _ (by omega) (by omega)) (by omega) _).mono ?_
  rintro e w2 ⟨rfl, hb2⟩
  go_wp2_with fail
  refine (Clock.tick_yes n b (HR.out _ (by omega) (by omega)) (HR.out _ (by omega) (by omega)) (by omega) _).mono ?_
  rintro e w3 ⟨rfl, hb3⟩
  go_wp2_with fail
  refine (Clock.tick_yes (n + b) a (HR.out _ (by omega) (by omega)) (HR.out _ (by omega) (by omega)) (by omega) _).mono ?_
  rintro e w4 ⟨rfl, hb4⟩
  have hb4 := bthen (bthen (bthen hb1 hb2) hb3) hb4
  clear hb1 hb2 hb3
  go_wp2_with fail
  refine (Clock.late_yes n f (HR.out _ (by omega) (by omega)) (HR.out _ (by omega) (by omega)) _).mono ?_
  rintro e w5 ⟨rfl, hb5⟩
  go_wp2_with fail
  refine (Clock.late_yes (n + a) f (HR.out _ (by omega) (by omega)) (HR.out _ (by omega) (by omega)) _).mono ?_
  rintro e w6 ⟨rfl, hb6⟩
  go_wp2_with fail
  refine (Clock.since_yes (n + a + b) n (HR.out _ (by omega) (by omega)) (HR.out _ (by omega) (by omega)) _).mono ?_
  rintro e w7 ⟨rfl, hb7⟩
  have hb7 := bthen (bthen (bthen hb4 hb5) hb6) hb7
  clear hb4 hb5 hb6
  go_wp2_with fail
  refine (Clock.spread_yes _ 3 _ [n, f, n + a + b] _ (three _ _ _ _ _) (by simp [maxLen]) (by simp [HR.out n (by omega) (by omega), HR.out f (by omega) (by omega), HR.out (n + a + b) (by omega) (by omega)])).mono ?_
  rintro e w' ⟨⟨s, rfl, hs⟩, rfl⟩
  have HS := Lib.hid hs
  clear hs
  go_wp2_with fail
  refine (Clock.since_yes f n (HR.out _ (by omega) (by omega)) (HR.out _ (by omega) (by omega)) _).mono ?_
  rintro e w8 ⟨rfl, hb8⟩
  go_wp2_with fail
  refine (Clock.since_yes n f (HR.out _ (by omega) (by omega)) (HR.out _ (by omega) (by omega)) _).mono ?_
  rintro e w9 ⟨rfl, hb9⟩
  go_wp2_with fail
  refine (Clock.alive _).mono ?_
  rintro e w10 ⟨rfl, hb10⟩
  have hbx := bthen (bthen (bthen (hb7.alloc hb7.size _) hb8) hb9) hb10
  clear hb7 hb8 hb9 hb10
  obtain ⟨hy', h3, us, vs, ss, hor⟩ := facts n a b f s n0 a0 b0 HS.out
  rw [hy', h3]
  clear HS hy' h3 HR
  have HBX := Lib.hid hbx
  clear hbx
  have hfn : f ≤ n := HC.out.1
  have hs : s = n + a + b - f := by omega
  have hE : decide (1000000 < max (n - f) 0) = true := decide_eq_true HC.out.2
  have hL : decide (1000000 < max (n + a - f) 0) = true := decide_eq_true (by have := HC.out.2; omega)
  have hU : max (f - n) 0 = 0 := by omega
  obtain ⟨V, hV, hV0, hVn⟩ : ∃ V, max (n - f) 0 = V ∧ 0 ≤ V ∧ V = n - f := ⟨_, rfl, by omega, by omega⟩
  rw [hV] at vs
  have q : (0 ≠ s ∧ V = s) ∨ (0 ≠ s ∧ V ≠ s ∧ a + b = s) ∨ (0 ≠ s ∧ V ≠ s ∧ a + b ≠ s) := by have := HC.out.2; omega
  rw [hE, hL, hU, hV]
  clear hL hE hU hV HC hfn hor hV0 us
  have y0 : 0 ≤ n + a + b := by omega
  have y1 : n + a + b ≤ 4611686018427387904 := by omega
  clear n0 n1
  have HS := Lib.hid hs
  have HV := Lib.hid hVn
  clear hs hVn
  rcases q with ⟨q1, rfl⟩ | ⟨q1, q2, rfl⟩ | ⟨q1, q2, q3⟩
  · have k1 := eqf (Ne.symm q1)
    clear HS HV q1
    go_wp2_with fail
    go_ret
    exact ⟨rfl, HBX.out⟩
  · have k1 := eqf (Ne.symm q1)
    have k2 := eqf (Ne.symm q2)
    clear HS HV q1 q2
    go_wp2_with fail
    go_ret
    exact ⟨rfl, HBX.out⟩
  · have k1 := eqf (Ne.symm q1)
    have k2 := eqf (Ne.symm q2)
    have k3 := eqf (Ne.symm q3)
    obtain ⟨y, hy⟩ : ∃ y, n + a + b = y := ⟨_, rfl⟩
    obtain rfl : s = y - f := by have := HS.out; omega
    have k4 : ¬ y - f < f - y := by have := HV.out; omega
    rw [hy]
    rw [hy] at y0 y1
    clear HS HV q1 q2 q3 hy
    go_wp2_with fail
    all_goals go_ret
    all_goals exact ⟨rfl, HBX.out⟩
end clockGoes
end Go.Proofs.Yteejgejeggackaa
