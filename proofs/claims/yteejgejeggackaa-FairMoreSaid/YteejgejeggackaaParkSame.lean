/-
  The document's own functions Same and Place, and the laws' own few, for layer 11.
-/
import Derived.Test.YteejgejeggackaaParkMore
namespace Go.Proofs.Yteejgejeggackaa
open Go.RowKit
namespace Park

theorem eqIn (d : Nat) (a c : Int) (b e : Bool) (w : World) : (Op.equalIn (d + 2) 55 (.agg #[.int .i64 a, .bool b]) (.agg #[.int .i64 c, .bool e])).run Try.prog w = .ok (a == c && b == e) w := by
  have u3 := Try.underlying3
  have u4 := Try.underlying4
  have a3 := Try.isAgg3
  have z3 := Try.sizeOf3
  have a4 := Try.isAgg4
  have z4 := Try.sizeOf4
  have hS : Try.prog.underlying 55 = some (.struct (Try.prog.fieldsOf 55)) := by kernel_rfl
  have hp : Try.prog.stoodInHeld 55 = false := by kernel_rfl
  rw [run_equalIn_agg w (d + 1) 55 _ _ hS hp]
  simp only [Program.fieldsOf, Try.underlying55]
  go_simp
  by_cases h1 : a = c <;> by_cases h2 : b = e <;> simp [h1, h2]
theorem eql (a c : Int) (b e : Bool) (w : World) : (binOp .eql 55 (.agg #[.int .i64 a, .bool b]) (.agg #[.int .i64 c, .bool e])).run Try.prog w = .ok (.bool (a == c && b == e)) w := by
  rw [run_eql_struct, show (10000 : Nat) = 9998 + 2 from rfl, eqIn]
  rfl
theorem neq (a c : Int) (b e : Bool) (w : World) : (binOp .neq 55 (.agg #[.int .i64 a, .bool b]) (.agg #[.int .i64 c, .bool e])).run Try.prog w = .ok (.bool (!(a == c && b == e))) w := by
  rw [run_neq_struct, show (10000 : Nat) = 9998 + 2 from rfl, eqIn]
  rfl
theorem guard (op : BinOp) (x y : Operand) (a c : Int) (b e : Bool) (w : World) : (eqGuard op 55 x y (.agg #[.int .i64 a, .bool b]) (.agg #[.int .i64 c, .bool e])).run Try.prog w = .ok () w := by
  exact run_eqGuard_agg w _ _ _ _ _ _ (by kernel_rfl)

theorem few_any (A : Option Addr) (n c : Nat) (w : World) (hn : n ≤ c) (hc : c ≤ maxLen) :
    Calls Try.prog 36 #[.slice A n c] w fun e w' => e = .returned (.slice A (min n 12) c) ∧ w = w' := by
  unfold maxLen at hc
  by_cases h : (n : Int) ≤ 12
  · have e : min n 12 = n := by omega
    rw [e]
    go_enter Try.func36, Try.ntmps36
    go_wp2_with fail
    go_ret
    exact ⟨rfl, rfl⟩
  · have e : min n 12 = 12 := by omega
    rw [e]
    go_enter Try.func36, Try.ntmps36
    go_wp2_with fail
    go_ret
    exact ⟨rfl, rfl⟩

theorem same_any (A B : Option Addr) (n c m c' : Nat) (xs ys : List G) (w : World) (hx : Reads w w.heap.size 2 A n (xs.flatMap cells)) (hy : Reads w w.heap.size 2 B m (ys.flatMap cells)) (hn : n ≤ maxLen) :
    Calls Try.prog 38 #[.slice A n c, .slice B m c'] w fun e w' => e = .returned (.bool (decide (xs = ys))) ∧ Below w.heap.size w w' := by
  unfold maxLen at hn
  have hlx := len_ hx
  have hly := len_ hy
  by_cases hnm : n = m
  · subst hnm
    have hne : ((n : Int) != n) = false := by simp
    have HLX := Lib.hid hlx
    have HLY := Lib.hid hly
    clear hlx hly
    go_enter Try.func38, Try.ntmps38
    go_wp2_with fail
    go_loopw [13] (fun i wr => ∃ k : Nat, k ≤ n ∧ i = .int .i64 k ∧ xs.take k = ys.take k ∧ Below w.heap.size w wr) (fun i _ => n - (intOf i).toNat)
    case atStart => exact ⟨0, Nat.zero_le _, rfl, by simp, Below.refl _ _⟩
    case round =>
      obtain ⟨k, hk, rfl, heq, hbw⟩ := hrel
      have hxr := hx.below hbw
      have hyr := hy.below hbw
      have HE := Lib.hid heq
      have HB := Lib.hid hbw
      clear heq hbw
      by_cases hlt : k < n
      · obtain ⟨ad, s, p, rfl, _, hg, hc0, hc1⟩ := at_ hxr hlt
        obtain ⟨ad', s', p', rfl, _, hg', hc0', hc1'⟩ := at_ hyr hlt
        have HG := Lib.hid hg
        have HG' := Lib.hid hg'
        clear hg hg' hxr hyr
        have hgd := fun x y => guard .neq x y s s' p p'
        by_cases hsp : s = s' ∧ p = p'
        · obtain ⟨rfl, rfl⟩ := hsp
          have hq : ∀ w, (binOp .neq 55 (.agg #[.int .i64 s, .bool p]) (.agg #[.int .i64 s, .bool p])).run Try.prog w = .ok (.bool false) w := fun w => by rw [neq]; simp
          go_wp2_with fail
          go_quiet (fail)
          go_wp2
          go_roundw
          case rel =>
            refine ⟨k + 1, by omega, by go_num, ?_, below_drewN HB.out _⟩
            rw [List.take_add_one, List.take_add_one, HE.out, HG.out, HG'.out]
          case measure => simp [intOf]; omega
        · have hq : ∀ w, (binOp .neq 55 (.agg #[.int .i64 s, .bool p]) (.agg #[.int .i64 s', .bool p'])).run Try.prog w = .ok (.bool true) w := fun w => by
            rw [neq]
            have : (s == s' && p == p') = false := by
              by_cases h1 : s = s'
              · have h2 : p ≠ p' := fun h2 => hsp ⟨h1, h2⟩
                simp [h2]
              · simp [h1]
            rw [this]
            rfl
          have HS := Lib.hid hsp
          clear hsp
          go_wp2_with fail
          go_quiet (fail)
          go_wp2
          go_ret
          refine ⟨ret_bool ?_, below_drewN HB.out _⟩
          rw [eq_comm, decide_eq_false_iff_not]
          intro h
          have h1 := HG.out
          rw [h, HG'.out] at h1
          injection h1 with h1
          injection h1 with h1 h2
          exact HS.out ⟨h1.symm, h2.symm⟩
      · clear hxr hyr
        go_wp2
        go_ret
        refine ⟨ret_bool ?_, HB.out⟩
        rw [eq_comm, decide_eq_true_iff]
        have hk' : k = n := by omega
        have h1 : xs.take k = xs := by rw [hk', ← HLX.out, List.take_length]
        have h2 : ys.take k = ys := by rw [hk', ← HLY.out, List.take_length]
        rw [← h1, HE.out, h2]
  · have hne : ((n : Int) != m) = true := by simp; omega
    have hf : Hid (xs ≠ ys) := by unfold Hid; intro h; rw [h] at hlx; omega
    clear hlx hly
    go_enter Try.func38, Try.ntmps38
    go_wp2_with fail
    go_ret
    exact ⟨ret_bool (by rw [eq_comm, decide_eq_false_iff_not]; exact hf.out), Below.refl _ _⟩

end Park
end Go.Proofs.Yteejgejeggackaa
