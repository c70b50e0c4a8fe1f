/-
  The walk of ClockGoes (layer 4), where who began did so behind.
-/
import Derived.Test.YteejgejeggackaaLClockGoes
namespace Go.Proofs.Yteejgejeggackaa
open Go.RowKit
namespace clockGoes
set_option maxRecDepth 100000 in
set_option maxHeartbeats 8000000 in
theorem walkC (n a b f : Int) (ar br cr dr : Int) (w : World) (hn : wrap64 ((IntKind.u64.wrap ar).tmod 1152921504606846976) = n) (n0 : 0 ≤ n) (n1 : n < 1152921504606846976) (ha : wrap64 ((IntKind.u64.wrap br).tmod 1152921504606846976) = a) (a0 : 0 ≤ a) (a1 : a < 1152921504606846976)
    (hb : wrap64 ((IntKind.u64.wrap cr).tmod 1152921504606846976) = b) (b0 : 0 ≤ b) (b1 : b < 1152921504606846976) (hf : wrap64 ((IntKind.u64.wrap dr).tmod 1152921504606846976) = f) (f0 : 0 ≤ f) (f1 : f < 1152921504606846976) (HC : Hid (n < f)) :
    Calls Try.prog 5 #[.int .i64 ar, .int .i64 br, .int .i64 cr, .int .i64 dr] w fun e w' => e = .returned (.bool true) ∧ Below w.heap.size w w' := by
  have r := fun (t : Int) (h0 : 0 ≤ t) (h1 : t ≤ 4611686018427387904) => Clock.right_of h0 h1
  have HR := Lib.hid r
  clear r
  go_enter Try.func5, Try.ntmps5
  go_wp2_with fail
  try rw [hn, ha, hb, hf]
  clear hn ha hb hf
  refine (Clock.tick_yes n a (HR.out _ (by omega) (by omega)) (HR.out _ (by omega) (by omega)) (by omega) _).mono ?_
  rintro e w1 ⟨rfl, hb1⟩
  go_wp2_with fail
  refine (Clock.tick_yes (n + a) b (HR.out _ (by omega) (by omega)) (HR.out _ (by omega) (by omega)) (by omega) _).mono ?_
  rintro e w2 ⟨rfl, hb2⟩
  go_wp2_with fail
  refine (Clock.tick_yes n b (HR.out _ (by omega) (by omega)) (HR.out _ (by omega) (by omega)) (by omega) _).mono ?_
  rintro e w3 ⟨rfl, hb3⟩
  go_wp2_with fail
  refine (Clock.tick_yes (n + b) a (HR.out _ (by omega) (by omega)) (HR.out _ (by omega) (by omega)) (by omega) _).mono ?_
  rintro e w4 ⟨rfl, hb4⟩
  have hb4 := bthen (bthen (bthen hb1 hb2) hb3) hb4
  clear hb1 hb2 hb3
  go_wp2_with fail
  refine (Clock.late_yes n f (HR.out _ (by omega) (by omega)) (HR.out _ (by omega) (by omega)) _).mono ?_
  rintro e w5 ⟨rfl, hb5⟩
  go_wp2_with fail
  refine (Clock.late_yes (n + a) f (HR.out _ (by omega) (by omega)) (HR.out _ (by omega) (by omega)) _).mono ?_
  rintro e w6 ⟨rfl, hb6⟩
  go_wp2_with fail
  refine (Clock.since_yes (n + a + b) n (HR.out _ (by omega) (by omega)) (HR.out _ (by omega) (by omega)) _).mono ?_
  rintro e w7 ⟨rfl, hb7⟩
  have hb7 := bthen (bthen (bthen hb4 hb5) hb6) hb7
  clear hb4 hb5 hb6
  go_wp2_with fail
  refine (Clock.spread_yes _ 3 _ [n, f, n + a + b] _ (three _ _ _ _ _) (by simp [maxLen]) (by simp [HR.out n (by omega) (by omega), HR.out f (by omega) (by omega), HR.out (n + a + b) (by omega) (by omega)])).mono ?_
  rintro e w' ⟨⟨s, rfl, hs⟩, rfl⟩
  have HS := Lib.hid hs
  clear hs
  go_wp2_with fail
  refine (Clock.since_yes f n (HR.out _ (by omega) (by omega)) (HR.out _ (by omega) (by omega)) _).mono ?_
  rintro e w8 ⟨rfl, hb8⟩
  go_wp2_with fail
  refine (Clock.since_yes n f (HR.out _ (by omega) (by omega)) (HR.out _ (by omega) (by omega)) _).mono ?_
  rintro e w9 ⟨rfl, hb9⟩
  go_wp2_with fail
  refine (Clock.alive _).mono ?_
  rintro e w10 ⟨rfl, hb10⟩
  have hbx := bthen (bthen (bthen (hb7.alloc hb7.size _) hb8) hb9) hb10
  clear hb7 hb8 hb9 hb10
  obtain ⟨hy', h3, us, vs, ss, hor⟩ := facts n a b f s n0 a0 b0 HS.out
  rw [hy', h3]
  clear HS hy' h3 HR
  have HBX := Lib.hid hbx
  clear hbx
  have hfn : n < f := HC.out
  have hE : decide (1000000 < max (n - f) 0) = false := decide_eq_false (by omega)
  have hV : max (n - f) 0 = 0 := by omega
  obtain ⟨U, hU, hU0⟩ : ∃ U, max (f - n) 0 = U ∧ 0 < U := ⟨_, rfl, by omega⟩
  have q : U = s ∨ (U ≠ s ∧ 0 ≠ s ∧ a + b = s) := by omega
  rw [hU] at us
  rw [hE, hU, hV]
  have k0 : (U == 0) = false := eqf (by omega)
  clear hE hU hV HC hfn hor vs n0 n1 f0 f1
  rcases q with rfl | ⟨q1, q2, rfl⟩
  · go_wp2_with fail
    go_ret
    exact ⟨rfl, HBX.out⟩
  · have k1 := eqf (Ne.symm q1)
    have k2 := eqf (Ne.symm q2)
    clear q1 q2
    go_wp2_with fail
    go_ret
    exact ⟨rfl, HBX.out⟩
end clockGoes
end Go.Proofs.Yteejgejeggackaa
