/-
  The walk of GrabWaits. Printed by gen_lgrabwaits.py.
-/
import Derived.Test.YtkjhacbkgnjilaaGrab5
import Derived.Test.YtkjhacbkgnjilaaLGrabWants
namespace Go.Proofs.Ytkjhacbkgnjilaa
open Go.RowKit
namespace Grab
theorem own_eqIn (d : Nat) (a a' : Int) (b c b' c' : Bool) (n m n' m' : Int) (w : World) : (Op.equalIn (d + 2) 42 (.agg #[.int .i64 a, .bool b, .bool c, .int .i64 n, .int .i64 m]) (.agg #[.int .i64 a', .bool b', .bool c', .int .i64 n', .int .i64 m'])).run Try.prog w = .ok (a == a' && (b == b' && (c == c' && (n == n' && m == m')))) w := by
  have u3 := Try.underlying3
  have a3 := Try.isAgg3
  have z3 := Try.sizeOf3
  have u4 := Try.underlying4
  have a4 := Try.isAgg4
  have z4 := Try.sizeOf4
  have hS : Try.prog.underlying 42 = some (.struct (Try.prog.fieldsOf 42)) := by kernel_rfl
  have hp : Try.prog.stoodInHeld 42 = false := by kernel_rfl
  rw [run_equalIn_agg w (d + 1) 42 _ _ hS hp]
  simp only [Program.fieldsOf, Try.underlying42]
  go_simp
  by_cases h1 : a = a' <;> by_cases h4 : n = n' <;> by_cases h5 : m = m' <;> cases b <;> cases b' <;> cases c <;> cases c' <;> simp [h1, h4, h5]
theorem own_neq (a a' : Int) (b c b' c' : Bool) (n m n' m' : Int) (w : World) : (binOp .neq 42 (.agg #[.int .i64 a, .bool b, .bool c, .int .i64 n, .int .i64 m]) (.agg #[.int .i64 a', .bool b', .bool c', .int .i64 n', .int .i64 m'])).run Try.prog w = .ok (.bool (!(a == a' && (b == b' && (c == c' && (n == n' && m == m')))))) w := by
  rw [run_neq_struct, show (10000 : Nat) = 9998 + 2 from rfl, own_eqIn]
  rfl
theorem own_eql (a a' : Int) (b c b' c' : Bool) (n m n' m' : Int) (w : World) : (binOp .eql 42 (.agg #[.int .i64 a, .bool b, .bool c, .int .i64 n, .int .i64 m]) (.agg #[.int .i64 a', .bool b', .bool c', .int .i64 n', .int .i64 m'])).run Try.prog w = .ok (.bool (a == a' && (b == b' && (c == c' && (n == n' && m == m'))))) w := by
  rw [run_eql_struct, show (10000 : Nat) = 9998 + 2 from rfl, own_eqIn]
  rfl
theorem own_guard (op : BinOp) (x y : Operand) (a a' : Int) (b c b' c' : Bool) (n m n' m' : Int) (w : World) : (eqGuard op 42 x y (.agg #[.int .i64 a, .bool b, .bool c, .int .i64 n, .int .i64 m]) (.agg #[.int .i64 a', .bool b', .bool c', .int .i64 n', .int .i64 m'])).run Try.prog w = .ok () w :=
  run_eqGuard_agg w _ _ _ _ _ _ (by kernel_rfl)
end Grab
namespace grabWaits
open Grab
set_option maxRecDepth 100000 in
set_option maxHeartbeats 16000000 in
theorem arg (si : Int) (st aw : Bool) (ro ol : Int) (now more wd N M : Int) (w : World) (hN : wrap64 ((IntKind.u64.wrap now).tmod 1152921504606846976) = N) (hM : wrap64 ((IntKind.u64.wrap more).tmod 1152921504606846976) = M) (n0 : 0 ≤ N) (n1 : N < 1152921504606846976) (h : right si ro ol = false) :
    Calls Try.prog 12 #[.agg #[.int .i64 si, .bool st, .bool aw, .int .i64 ro, .int .i64 ol], .int .i64 now, .int .i64 more, .int .i64 wd] w fun e w' => e = .returned (.bool true) ∧ Below w.heap.size w w' := by
  have HH := Lib.hid h
  clear h
  have hx := Blk.new w 42 #[.int .i64 si, .bool st, .bool aw, .int .i64 ro, .int .i64 ol]
  have hb0 := (Below.refl w.heap.size w).alloc (Nat.le_refl _) (.cells #[.int .i64 si, .bool st, .bool aw, .int .i64 ro, .int .i64 ol] 42)
  have HX := Lib.hid hx
  have HB0 := Lib.hid hb0
  have HTN := Lib.hid (show Clock.right N = true from decide_eq_true ⟨n0, by omega⟩)
  clear hx hb0
  go_enter Try.func12, Try.ntmps12
  go_wp2_with fail
  obtain ⟨W, hW⟩ : ∃ W, w.alloc (.cells #[.int .i64 si, .bool st, .bool aw, .int .i64 ro, .int .i64 ol] 42) = W := ⟨_, rfl⟩
  rw [hW] at HX HB0 ⊢
  clear hW
  refine (sleep_no si st aw ro ol N _ HH.out).mono ?_
  rintro e w1 ⟨rfl, hb1⟩
  have HB1 := Lib.hid ((bthen HB0.out hb1).alloc (bthen HB0.out hb1).size (.cells #[.int .i64 0, .bool false, .bool false, .int .i64 0, .int .i64 0] 42))
  clear hb1
  go_wp2_with fail
  refine (alive_any _).mono ?_
  rintro e w2 ⟨rfl, hb2⟩
  have HB2 := Lib.hid (bthen HB1.out hb2)
  clear hb2
  go_wp2_with fail
  go_ret
  exact ⟨rfl, HB2.out⟩
set_option maxRecDepth 100000 in
set_option maxHeartbeats 16000000 in
theorem first_bad (si : Int) (st aw : Bool) (ro ol : Int) (now more wd N M : Int) (w : World) (hN : wrap64 ((IntKind.u64.wrap now).tmod 1152921504606846976) = N) (hM : wrap64 ((IntKind.u64.wrap more).tmod 1152921504606846976) = M) (n0 : 0 ≤ N) (n1 : N < 1152921504606846976) (m0 : 0 ≤ M) (m1 : M < 1152921504606846976) (h : right si ro ol = true) (hs : si = -1) (hwd : wd < 0 ∨ 2147483648 ≤ wd) :
    Calls Try.prog 12 #[.agg #[.int .i64 si, .bool st, .bool aw, .int .i64 ro, .int .i64 ol], .int .i64 now, .int .i64 more, .int .i64 wd] w fun e w' => e = .returned (.bool true) ∧ Below w.heap.size w w' := by
  have HH := Lib.hid h
  clear h
  have HHS := Lib.hid hs
  clear hs
  have HWD := Lib.hid hwd
  clear hwd
  have hx := Blk.new w 42 #[.int .i64 si, .bool st, .bool aw, .int .i64 ro, .int .i64 ol]
  have hb0 := (Below.refl w.heap.size w).alloc (Nat.le_refl _) (.cells #[.int .i64 si, .bool st, .bool aw, .int .i64 ro, .int .i64 ol] 42)
  have HX := Lib.hid hx
  have HB0 := Lib.hid hb0
  have HTN := Lib.hid (show Clock.right N = true from decide_eq_true ⟨n0, by omega⟩)
  clear hx hb0
  go_enter Try.func12, Try.ntmps12
  go_wp2_with fail
  obtain ⟨W, hW⟩ : ∃ W, w.alloc (.cells #[.int .i64 si, .bool st, .bool aw, .int .i64 ro, .int .i64 ol] 42) = W := ⟨_, rfl⟩
  rw [hW] at HX HB0 ⊢
  clear hW
  have HSUM := Lib.hid (show Clock.right (N + M) = true from decide_eq_true ⟨by omega, by omega⟩)
  have HRA := Lib.hid (show right N ro ol = true by
    have h1 := HH.out
    unfold right at h1 ⊢
    simp only [Bool.and_eq_true] at h1 ⊢
    exact ⟨⟨h1.1.1, by rw [HTN.out]; simp⟩, h1.2⟩)
  have HNE := Lib.hid (show N ≠ -1 by omega)
  have hs1 : (si != -1) = false := by simp [HHS.out]
  have HSR := HTN
  have hs2 : (N != si) = true := by simp [HHS.out]; omega
  refine (sleep_first si st aw ro ol N _ HH.out HTN.out HHS.out).mono ?_
  rintro e w1 ⟨rfl, hb1⟩
  have HX1 := Lib.hid ((HX.out.below hb1 HX.out.lt).alloc (.cells #[.int .i64 N, .bool st, .bool aw, .int .i64 ro, .int .i64 ol] 42))
  have HA1 := Lib.hid (Blk.new w1 42 #[.int .i64 N, .bool st, .bool aw, .int .i64 ro, .int .i64 ol])
  have HB1 := Lib.hid ((bthen HB0.out hb1).alloc (bthen HB0.out hb1).size (.cells #[.int .i64 N, .bool st, .bool aw, .int .i64 ro, .int .i64 ol] 42))
  have hlt1 : w.heap.size < w1.heap.size := Nat.lt_of_lt_of_le HX.out.lt hb1.size
  clear hb1
  obtain ⟨W1, hW1⟩ : ∃ W1, w1.alloc (.cells #[.int .i64 N, .bool st, .bool aw, .int .i64 ro, .int .i64 ol] 42) = W1 := ⟨_, rfl⟩
  rw [hW1] at HX1 HA1 HB1
  obtain ⟨a, ha⟩ : ∃ a, w1.heap.size = a := ⟨_, rfl⟩
  rw [ha] at HA1 hlt1
  obtain ⟨x0, x1, x2, x3, x4⟩ := HX1.out.at5
  obtain ⟨a0, a1, a2, a3, a4⟩ := HA1.out.at5
  go_wp2_with fail
  clear hW1 ha x0 x1 x2 x3 x4 a0 a1 a2 a3 a4
  refine (sleep_again N st aw ro ol (N + M) _ HRA.out HSUM.out HNE.out).mono ?_
  rintro e w2 ⟨rfl, hb2⟩
  have HX2 := Lib.hid (HX1.out.below hb2 HX1.out.lt)
  have HA2 := Lib.hid (HA1.out.below hb2 HA1.out.lt)
  have HB2 := Lib.hid (bthen HB1.out hb2)
  clear hb2
  have HX3 := Lib.hid (HX2.out.alloc (.cells #[.int .i64 N, .bool st, .bool aw, .int .i64 ro, .int .i64 ol] 42))
  have HA3 := Lib.hid (HA2.out.alloc (.cells #[.int .i64 N, .bool st, .bool aw, .int .i64 ro, .int .i64 ol] 42))
  have HC3 := Lib.hid (Blk.new w2 42 #[.int .i64 N, .bool st, .bool aw, .int .i64 ro, .int .i64 ol])
  have HB3 := Lib.hid (HB2.out.alloc HB2.out.size (.cells #[.int .i64 N, .bool st, .bool aw, .int .i64 ro, .int .i64 ol] 42))
  have hlt2 : a < w2.heap.size := HA2.out.lt
  obtain ⟨W3, hW3⟩ : ∃ W3, w2.alloc (.cells #[.int .i64 N, .bool st, .bool aw, .int .i64 ro, .int .i64 ol] 42) = W3 := ⟨_, rfl⟩
  rw [hW3] at HX3 HA3 HC3 HB3
  obtain ⟨b, hb⟩ : ∃ b, w2.heap.size = b := ⟨_, rfl⟩
  rw [hb] at HC3 hlt2
  obtain ⟨x0, x1, x2, x3, x4⟩ := HX3.out.at5
  obtain ⟨a0, a1, a2, a3, a4⟩ := HA3.out.at5
  obtain ⟨b0, b1, b2, b3, b4⟩ := HC3.out.at5
  have nq := own_neq N N st aw st aw ro ol ro ol
  have gq := fun x y w => own_guard .neq x y N N st aw st aw ro ol ro ol w
  simp only [beq_self_eq_true, Bool.and_self, Bool.not_true] at nq
  go_wp2_with fail
  clear hW3 hb x0 x1 x2 x3 x4 a0 a1 a2 a3 a4 b0 b1 b2 b3 b4 nq gq
  refine (alive_any _).mono ?_
  rintro e w4 ⟨rfl, hb4⟩
  have HX4 := Lib.hid (HX3.out.below hb4 HX3.out.lt)
  have HA4 := Lib.hid (HA3.out.below hb4 HA3.out.lt)
  have HB4 := Lib.hid (bthen HB3.out hb4)
  clear hb4
  obtain ⟨a0, a1, a2, a3, a4⟩ := HA4.out.at5
  go_wp2_with fail
  clear a0 a1 a2 a3 a4
  refine (wake_bad N st aw ro ol (N + M) wd _ HWD.out).mono ?_
  rintro e w5 ⟨rfl, hb5⟩
  have HE := Lib.hid ((bthen HB4.out hb5).alloc (bthen HB4.out hb5).size (.cells #[.int .i64 0, .bool false, .bool false, .int .i64 0, .int .i64 0] 42))
  clear hb5
  have nq := own_eql 0 0 false false false false 0 0 0 0
  have gq := fun x y w => own_guard .eql x y 0 0 false false false false 0 0 0 0 w
  go_wp2_with fail
  go_ret
  exact ⟨rfl, HE.out⟩
set_option maxRecDepth 100000 in
set_option maxHeartbeats 16000000 in
theorem again_bad (si : Int) (st aw : Bool) (ro ol : Int) (now more wd N M : Int) (w : World) (hN : wrap64 ((IntKind.u64.wrap now).tmod 1152921504606846976) = N) (hM : wrap64 ((IntKind.u64.wrap more).tmod 1152921504606846976) = M) (n0 : 0 ≤ N) (n1 : N < 1152921504606846976) (m0 : 0 ≤ M) (m1 : M < 1152921504606846976) (h : right si ro ol = true) (hs : si ≠ -1) (hwd : wd < 0 ∨ 2147483648 ≤ wd) :
    Calls Try.prog 12 #[.agg #[.int .i64 si, .bool st, .bool aw, .int .i64 ro, .int .i64 ol], .int .i64 now, .int .i64 more, .int .i64 wd] w fun e w' => e = .returned (.bool true) ∧ Below w.heap.size w w' := by
  have HH := Lib.hid h
  clear h
  have HHS := Lib.hid hs
  clear hs
  have HWD := Lib.hid hwd
  clear hwd
  have hx := Blk.new w 42 #[.int .i64 si, .bool st, .bool aw, .int .i64 ro, .int .i64 ol]
  have hb0 := (Below.refl w.heap.size w).alloc (Nat.le_refl _) (.cells #[.int .i64 si, .bool st, .bool aw, .int .i64 ro, .int .i64 ol] 42)
  have HX := Lib.hid hx
  have HB0 := Lib.hid hb0
  have HTN := Lib.hid (show Clock.right N = true from decide_eq_true ⟨n0, by omega⟩)
  clear hx hb0
  go_enter Try.func12, Try.ntmps12
  go_wp2_with fail
  obtain ⟨W, hW⟩ : ∃ W, w.alloc (.cells #[.int .i64 si, .bool st, .bool aw, .int .i64 ro, .int .i64 ol] 42) = W := ⟨_, rfl⟩
  rw [hW] at HX HB0 ⊢
  clear hW
  have HSUM := Lib.hid (show Clock.right (N + M) = true from decide_eq_true ⟨by omega, by omega⟩)
  have HRA := HH
  have HNE := HHS
  have hs1 : (si != -1) = true := by simp [HHS.out]
  have HSR := Lib.hid (show Clock.right si = true by
    have h1 := HH.out
    unfold right at h1
    simp only [Bool.and_eq_true, Bool.or_eq_true] at h1
    rcases h1.1.2 with h | h
    · exact absurd (by simpa using h) HHS.out
    · exact h)
  refine (sleep_again si st aw ro ol N _ HH.out HTN.out HHS.out).mono ?_
  rintro e w1 ⟨rfl, hb1⟩
  have HX1 := Lib.hid ((HX.out.below hb1 HX.out.lt).alloc (.cells #[.int .i64 si, .bool st, .bool aw, .int .i64 ro, .int .i64 ol] 42))
  have HA1 := Lib.hid (Blk.new w1 42 #[.int .i64 si, .bool st, .bool aw, .int .i64 ro, .int .i64 ol])
  have HB1 := Lib.hid ((bthen HB0.out hb1).alloc (bthen HB0.out hb1).size (.cells #[.int .i64 si, .bool st, .bool aw, .int .i64 ro, .int .i64 ol] 42))
  have hlt1 : w.heap.size < w1.heap.size := Nat.lt_of_lt_of_le HX.out.lt hb1.size
  clear hb1
  obtain ⟨W1, hW1⟩ : ∃ W1, w1.alloc (.cells #[.int .i64 si, .bool st, .bool aw, .int .i64 ro, .int .i64 ol] 42) = W1 := ⟨_, rfl⟩
  rw [hW1] at HX1 HA1 HB1
  obtain ⟨a, ha⟩ : ∃ a, w1.heap.size = a := ⟨_, rfl⟩
  rw [ha] at HA1 hlt1
  obtain ⟨x0, x1, x2, x3, x4⟩ := HX1.out.at5
  obtain ⟨a0, a1, a2, a3, a4⟩ := HA1.out.at5
  go_wp2_with fail
  clear hW1 ha x0 x1 x2 x3 x4 a0 a1 a2 a3 a4
  refine (sleep_again si st aw ro ol (N + M) _ HRA.out HSUM.out HNE.out).mono ?_
  rintro e w2 ⟨rfl, hb2⟩
  have HX2 := Lib.hid (HX1.out.below hb2 HX1.out.lt)
  have HA2 := Lib.hid (HA1.out.below hb2 HA1.out.lt)
  have HB2 := Lib.hid (bthen HB1.out hb2)
  clear hb2
  have HX3 := Lib.hid (HX2.out.alloc (.cells #[.int .i64 si, .bool st, .bool aw, .int .i64 ro, .int .i64 ol] 42))
  have HA3 := Lib.hid (HA2.out.alloc (.cells #[.int .i64 si, .bool st, .bool aw, .int .i64 ro, .int .i64 ol] 42))
  have HC3 := Lib.hid (Blk.new w2 42 #[.int .i64 si, .bool st, .bool aw, .int .i64 ro, .int .i64 ol])
  have HB3 := Lib.hid (HB2.out.alloc HB2.out.size (.cells #[.int .i64 si, .bool st, .bool aw, .int .i64 ro, .int .i64 ol] 42))
  have hlt2 : a < w2.heap.size := HA2.out.lt
  obtain ⟨W3, hW3⟩ : ∃ W3, w2.alloc (.cells #[.int .i64 si, .bool st, .bool aw, .int .i64 ro, .int .i64 ol] 42) = W3 := ⟨_, rfl⟩
  rw [hW3] at HX3 HA3 HC3 HB3
  obtain ⟨b, hb⟩ : ∃ b, w2.heap.size = b := ⟨_, rfl⟩
  rw [hb] at HC3 hlt2
  obtain ⟨x0, x1, x2, x3, x4⟩ := HX3.out.at5
  obtain ⟨a0, a1, a2, a3, a4⟩ := HA3.out.at5
  obtain ⟨b0, b1, b2, b3, b4⟩ := HC3.out.at5
  have nq := own_neq si si st aw st aw ro ol ro ol
  have gq := fun x y w => own_guard .neq x y si si st aw st aw ro ol ro ol w
  simp only [beq_self_eq_true, Bool.and_self, Bool.not_true] at nq
  go_wp2_with fail
  clear hW3 hb x0 x1 x2 x3 x4 a0 a1 a2 a3 a4 b0 b1 b2 b3 b4 nq gq
  refine (alive_any _).mono ?_
  rintro e w4 ⟨rfl, hb4⟩
  have HX4 := Lib.hid (HX3.out.below hb4 HX3.out.lt)
  have HA4 := Lib.hid (HA3.out.below hb4 HA3.out.lt)
  have HB4 := Lib.hid (bthen HB3.out hb4)
  clear hb4
  obtain ⟨a0, a1, a2, a3, a4⟩ := HA4.out.at5
  go_wp2_with fail
  clear a0 a1 a2 a3 a4
  refine (wake_bad si st aw ro ol (N + M) wd _ HWD.out).mono ?_
  rintro e w5 ⟨rfl, hb5⟩
  have HE := Lib.hid ((bthen HB4.out hb5).alloc (bthen HB4.out hb5).size (.cells #[.int .i64 0, .bool false, .bool false, .int .i64 0, .int .i64 0] 42))
  clear hb5
  have nq := own_eql 0 0 false false false false 0 0 0 0
  have gq := fun x y w => own_guard .eql x y 0 0 false false false false 0 0 0 0 w
  go_wp2_with fail
  go_ret
  exact ⟨rfl, HE.out⟩
set_option maxRecDepth 100000 in
set_option maxHeartbeats 16000000 in
theorem first_yes (si : Int) (st aw : Bool) (ro ol : Int) (now more wd N M : Int) (w : World) (hN : wrap64 ((IntKind.u64.wrap now).tmod 1152921504606846976) = N) (hM : wrap64 ((IntKind.u64.wrap more).tmod 1152921504606846976) = M) (n0 : 0 ≤ N) (n1 : N < 1152921504606846976) (m0 : 0 ≤ M) (m1 : M < 1152921504606846976) (h : right si ro ol = true) (hs : si = -1) (hwd : 0 ≤ wd ∧ wd < 2147483648) :
    Calls Try.prog 12 #[.agg #[.int .i64 si, .bool st, .bool aw, .int .i64 ro, .int .i64 ol], .int .i64 now, .int .i64 more, .int .i64 wd] w fun e w' => e = .returned (.bool true) ∧ Below w.heap.size w w' := by
  have HH := Lib.hid h
  clear h
  have HHS := Lib.hid hs
  clear hs
  have HWD := Lib.hid hwd
  clear hwd
  have hx := Blk.new w 42 #[.int .i64 si, .bool st, .bool aw, .int .i64 ro, .int .i64 ol]
  have hb0 := (Below.refl w.heap.size w).alloc (Nat.le_refl _) (.cells #[.int .i64 si, .bool st, .bool aw, .int .i64 ro, .int .i64 ol] 42)
  have HX := Lib.hid hx
  have HB0 := Lib.hid hb0
  have HTN := Lib.hid (show Clock.right N = true from decide_eq_true ⟨n0, by omega⟩)
  clear hx hb0
  go_enter Try.func12, Try.ntmps12
  go_wp2_with fail
  obtain ⟨W, hW⟩ : ∃ W, w.alloc (.cells #[.int .i64 si, .bool st, .bool aw, .int .i64 ro, .int .i64 ol] 42) = W := ⟨_, rfl⟩
  rw [hW] at HX HB0 ⊢
  clear hW
  have HSUM := Lib.hid (show Clock.right (N + M) = true from decide_eq_true ⟨by omega, by omega⟩)
  have HRA := Lib.hid (show right N ro ol = true by
    have h1 := HH.out
    unfold right at h1 ⊢
    simp only [Bool.and_eq_true] at h1 ⊢
    exact ⟨⟨h1.1.1, by rw [HTN.out]; simp⟩, h1.2⟩)
  have HNE := Lib.hid (show N ≠ -1 by omega)
  have hs1 : (si != -1) = false := by simp [HHS.out]
  have HSR := HTN
  have hs2 : (N != si) = true := by simp [HHS.out]; omega
  refine (sleep_first si st aw ro ol N _ HH.out HTN.out HHS.out).mono ?_
  rintro e w1 ⟨rfl, hb1⟩
  have HX1 := Lib.hid ((HX.out.below hb1 HX.out.lt).alloc (.cells #[.int .i64 N, .bool st, .bool aw, .int .i64 ro, .int .i64 ol] 42))
  have HA1 := Lib.hid (Blk.new w1 42 #[.int .i64 N, .bool st, .bool aw, .int .i64 ro, .int .i64 ol])
  have HB1 := Lib.hid ((bthen HB0.out hb1).alloc (bthen HB0.out hb1).size (.cells #[.int .i64 N, .bool st, .bool aw, .int .i64 ro, .int .i64 ol] 42))
  have hlt1 : w.heap.size < w1.heap.size := Nat.lt_of_lt_of_le HX.out.lt hb1.size
  clear hb1
  obtain ⟨W1, hW1⟩ : ∃ W1, w1.alloc (.cells #[.int .i64 N, .bool st, .bool aw, .int .i64 ro, .int .i64 ol] 42) = W1 := ⟨_, rfl⟩
  rw [hW1] at HX1 HA1 HB1
  obtain ⟨a, ha⟩ : ∃ a, w1.heap.size = a := ⟨_, rfl⟩
  rw [ha] at HA1 hlt1
  obtain ⟨x0, x1, x2, x3, x4⟩ := HX1.out.at5
  obtain ⟨a0, a1, a2, a3, a4⟩ := HA1.out.at5
  go_wp2_with fail
  clear hW1 ha x0 x1 x2 x3 x4 a0 a1 a2 a3 a4
  refine (sleep_again N st aw ro ol (N + M) _ HRA.out HSUM.out HNE.out).mono ?_
  rintro e w2 ⟨rfl, hb2⟩
  have HX2 := Lib.hid (HX1.out.below hb2 HX1.out.lt)
  have HA2 := Lib.hid (HA1.out.below hb2 HA1.out.lt)
  have HB2 := Lib.hid (bthen HB1.out hb2)
  clear hb2
  have HX3 := Lib.hid (HX2.out.alloc (.cells #[.int .i64 N, .bool st, .bool aw, .int .i64 ro, .int .i64 ol] 42))
  have HA3 := Lib.hid (HA2.out.alloc (.cells #[.int .i64 N, .bool st, .bool aw, .int .i64 ro, .int .i64 ol] 42))
  have HC3 := Lib.hid (Blk.new w2 42 #[.int .i64 N, .bool st, .bool aw, .int .i64 ro, .int .i64 ol])
  have HB3 := Lib.hid (HB2.out.alloc HB2.out.size (.cells #[.int .i64 N, .bool st, .bool aw, .int .i64 ro, .int .i64 ol] 42))
  have hlt2 : a < w2.heap.size := HA2.out.lt
  obtain ⟨W3, hW3⟩ : ∃ W3, w2.alloc (.cells #[.int .i64 N, .bool st, .bool aw, .int .i64 ro, .int .i64 ol] 42) = W3 := ⟨_, rfl⟩
  rw [hW3] at HX3 HA3 HC3 HB3
  obtain ⟨b, hb⟩ : ∃ b, w2.heap.size = b := ⟨_, rfl⟩
  rw [hb] at HC3 hlt2
  obtain ⟨x0, x1, x2, x3, x4⟩ := HX3.out.at5
  obtain ⟨a0, a1, a2, a3, a4⟩ := HA3.out.at5
  obtain ⟨b0, b1, b2, b3, b4⟩ := HC3.out.at5
  have nq := own_neq N N st aw st aw ro ol ro ol
  have gq := fun x y w => own_guard .neq x y N N st aw st aw ro ol ro ol w
  simp only [beq_self_eq_true, Bool.and_self, Bool.not_true] at nq
  go_wp2_with fail
  clear hW3 hb x0 x1 x2 x3 x4 a0 a1 a2 a3 a4 b0 b1 b2 b3 b4 nq gq
  refine (alive_any _).mono ?_
  rintro e w4 ⟨rfl, hb4⟩
  have HX4 := Lib.hid (HX3.out.below hb4 HX3.out.lt)
  have HA4 := Lib.hid (HA3.out.below hb4 HA3.out.lt)
  have HB4 := Lib.hid (bthen HB3.out hb4)
  clear hb4
  obtain ⟨a0, a1, a2, a3, a4⟩ := HA4.out.at5
  go_wp2_with fail
  clear a0 a1 a2 a3 a4
  refine (wake_yes N st aw ro ol (N + M) wd _ HWD.out HRA.out HSUM.out).mono ?_
  rintro e w5 ⟨rfl, hb5⟩
  have HL := Lib.hid (show wst st N (N + M) = (st || decide (1000000 < max (N + M - N) 0)) by
    have : (N != -1) = true := by simp [HNE.out]
    unfold wst; rw [this, Bool.true_and])
  have HRC := Lib.hid (show right N (wro ro wd) wd = true by
    have h1 := HRA.out
    have h2 := right_rounds h1
    unfold right at h1 ⊢
    simp only [Bool.and_eq_true] at h1 ⊢
    refine ⟨⟨decide_eq_true HWD.out, h1.1.2⟩, decide_eq_true ?_⟩
    unfold wro
    split <;> omega)
  have HC1 := Lib.hid (show wst (wst st N (N + M)) N (N + M) = wst st N (N + M) by unfold wst; cases st <;> simp)
  have HC2 := Lib.hid (show ((aw || !Flags.has wd 2) || !Flags.has wd 2) = (aw || !Flags.has wd 2) by cases aw <;> simp)
  have HC3' := Lib.hid (show wro (wro ro wd) wd = wro ro wd by unfold wro; split <;> rfl)
  obtain ⟨c1, hc1⟩ : ∃ c1, wst st N (N + M) = c1 := ⟨_, rfl⟩
  obtain ⟨c2, hc2⟩ : ∃ c2, (aw || !Flags.has wd 2) = c2 := ⟨_, rfl⟩
  obtain ⟨c3, hc3⟩ : ∃ c3, wro ro wd = c3 := ⟨_, rfl⟩
  obtain ⟨S, hS⟩ : ∃ S, Flags.has wd 2 = S := ⟨_, rfl⟩
  rw [hc1] at HL HC1
  rw [hc3] at HRC HC3'
  rw [hc2] at HC2
  rw [hc1, hc2, hc3]
  rw [hS] at HC2 ⊢
  have HS := Lib.hid hS
  clear hc1 hc2 hc3 hS
  have HX6 := Lib.hid ((HX4.out.below hb5 HX4.out.lt).alloc (.cells #[.int .i64 N, .bool c1, .bool c2, .int .i64 c3, .int .i64 wd] 42))
  have HA6 := Lib.hid ((HA4.out.below hb5 HA4.out.lt).alloc (.cells #[.int .i64 N, .bool c1, .bool c2, .int .i64 c3, .int .i64 wd] 42))
  have HC6 := Lib.hid (Blk.new w5 42 #[.int .i64 N, .bool c1, .bool c2, .int .i64 c3, .int .i64 wd])
  have HB6 := Lib.hid ((bthen HB4.out hb5).alloc (bthen HB4.out hb5).size (.cells #[.int .i64 N, .bool c1, .bool c2, .int .i64 c3, .int .i64 wd] 42))
  have hlt5 : a < w5.heap.size := Nat.lt_of_lt_of_le HA4.out.lt hb5.size
  clear hb5
  obtain ⟨W6, hW6⟩ : ∃ W6, w5.alloc (.cells #[.int .i64 N, .bool c1, .bool c2, .int .i64 c3, .int .i64 wd] 42) = W6 := ⟨_, rfl⟩
  rw [hW6] at HX6 HA6 HC6 HB6
  obtain ⟨c, hc⟩ : ∃ c, w5.heap.size = c := ⟨_, rfl⟩
  rw [hc] at HC6 hlt5
  obtain ⟨a0, a1, a2, a3, a4⟩ := HA6.out.at5
  obtain ⟨x0, x1, x2, x3, x4⟩ := HX6.out.at5
  go_wp2_with fail
  clear hW6 hc a0 a1 a2 a3 a4 x0 x1 x2 x3 x4
  refine (Clock.late_yes (N + M) N HSUM.out HSR.out _).mono ?_
  rintro e w7 ⟨rfl, hb7⟩
  have HX7 := Lib.hid (HX6.out.below hb7 HX6.out.lt)
  have HA7 := Lib.hid (HA6.out.below hb7 HA6.out.lt)
  have HC7 := Lib.hid (HC6.out.below hb7 HC6.out.lt)
  have HB7 := Lib.hid (bthen HB6.out hb7)
  clear hb7
  obtain ⟨l, hl⟩ : ∃ l, decide (1000000 < max (N + M - N) 0) = l := ⟨_, rfl⟩
  rw [hl] at HL ⊢
  clear hl
  obtain ⟨k0, k1, k2, k3, k4⟩ := HC7.out.at5
  go_wp2_with fail
  clear k0 k1 k2 k3 k4
  refine (wake_yes N c1 c2 c3 wd (N + M) wd _ HWD.out HRC.out HSUM.out).mono ?_
  rintro e w8 ⟨rfl, hb8⟩
  rw [HC1.out, HS.out, HC2.out, HC3'.out]
  have HX9 := Lib.hid ((HX7.out.below hb8 HX7.out.lt).alloc (.cells #[.int .i64 N, .bool c1, .bool c2, .int .i64 c3, .int .i64 wd] 42))
  have HA9 := Lib.hid ((HA7.out.below hb8 HA7.out.lt).alloc (.cells #[.int .i64 N, .bool c1, .bool c2, .int .i64 c3, .int .i64 wd] 42))
  have HC9 := Lib.hid ((HC7.out.below hb8 HC7.out.lt).alloc (.cells #[.int .i64 N, .bool c1, .bool c2, .int .i64 c3, .int .i64 wd] 42))
  have HD9 := Lib.hid (Blk.new w8 42 #[.int .i64 N, .bool c1, .bool c2, .int .i64 c3, .int .i64 wd])
  have HB9 := Lib.hid ((bthen HB7.out hb8).alloc (bthen HB7.out hb8).size (.cells #[.int .i64 N, .bool c1, .bool c2, .int .i64 c3, .int .i64 wd] 42))
  have hlt8 : c < w8.heap.size := Nat.lt_of_lt_of_le HC7.out.lt hb8.size
  clear hb8
  obtain ⟨W9, hW9⟩ : ∃ W9, w8.alloc (.cells #[.int .i64 N, .bool c1, .bool c2, .int .i64 c3, .int .i64 wd] 42) = W9 := ⟨_, rfl⟩
  rw [hW9] at HX9 HA9 HC9 HD9 HB9
  obtain ⟨d, hd⟩ : ∃ d, w8.heap.size = d := ⟨_, rfl⟩
  rw [hd] at HD9 hlt8
  obtain ⟨x0, x1, x2, x3, x4⟩ := HX9.out.at5
  obtain ⟨a0, a1, a2, a3, a4⟩ := HA9.out.at5
  obtain ⟨k0, k1, k2, k3, k4⟩ := HC9.out.at5
  obtain ⟨d0, d1, d2, d3, d4⟩ := HD9.out.at5
  cases st with
  | true =>
    obtain rfl : c1 = true := by have := HL.out; simpa using this.symm
    have nq := own_eql N N true c2 true c2 c3 wd c3 wd
    have gq := fun x y w => own_guard .eql x y N N true c2 true c2 c3 wd c3 wd w
    simp only [beq_self_eq_true, Bool.and_self] at nq
    clear HL HC1
    go_wp2_with fail
    go_ret
    exact ⟨rfl, HB9.out⟩
  | false =>
    obtain rfl : c1 = l := by have := HL.out; simpa using this
    have nq := own_eql N N c1 c2 c1 c2 c3 wd c3 wd
    have gq := fun x y w => own_guard .eql x y N N c1 c2 c1 c2 c3 wd c3 wd w
    simp only [beq_self_eq_true, Bool.and_self] at nq
    clear HL HC1
    go_wp2_with fail
    go_ret
    exact ⟨rfl, HB9.out⟩
set_option maxRecDepth 100000 in
set_option maxHeartbeats 16000000 in
theorem again_yes (si : Int) (st aw : Bool) (ro ol : Int) (now more wd N M : Int) (w : World) (hN : wrap64 ((IntKind.u64.wrap now).tmod 1152921504606846976) = N) (hM : wrap64 ((IntKind.u64.wrap more).tmod 1152921504606846976) = M) (n0 : 0 ≤ N) (n1 : N < 1152921504606846976) (m0 : 0 ≤ M) (m1 : M < 1152921504606846976) (h : right si ro ol = true) (hs : si ≠ -1) (hwd : 0 ≤ wd ∧ wd < 2147483648) :
    Calls Try.prog 12 #[.agg #[.int .i64 si, .bool st, .bool aw, .int .i64 ro, .int .i64 ol], .int .i64 now, .int .i64 more, .int .i64 wd] w fun e w' => e = .returned (.bool true) ∧ Below w.heap.size w w' := by
  have HH := Lib.hid h
  clear h
  have HHS := Lib.hid hs
  clear hs
  have HWD := Lib.hid hwd
  clear hwd
  have hx := Blk.new w 42 #[.int .i64 si, .bool st, .bool aw, .int .i64 ro, .int .i64 ol]
  have hb0 := (Below.refl w.heap.size w).alloc (Nat.le_refl _) (.cells #[.int .i64 si, .bool st, .bool aw, .int .i64 ro, .int .i64 ol] 42)
  have HX := Lib.hid hx
  have HB0 := Lib.hid hb0
  have HTN := Lib.hid (show Clock.right N = true from decide_eq_true ⟨n0, by omega⟩)
  clear hx hb0
  go_enter Try.func12, Try.ntmps12
  go_wp2_with fail
  obtain ⟨W, hW⟩ : ∃ W, w.alloc (.cells #[.int .i64 si, .bool st, .bool aw, .int .i64 ro, .int .i64 ol] 42) = W := ⟨_, rfl⟩
  rw [hW] at HX HB0 ⊢
  clear hW
  have HSUM := Lib.hid (show Clock.right (N + M) = true from decide_eq_true ⟨by omega, by omega⟩)
  have HRA := HH
  have HNE := HHS
  have hs1 : (si != -1) = true := by simp [HHS.out]
  have HSR := Lib.hid (show Clock.right si = true by
    have h1 := HH.out
    unfold right at h1
    simp only [Bool.and_eq_true, Bool.or_eq_true] at h1
    rcases h1.1.2 with h | h
    · exact absurd (by simpa using h) HHS.out
    · exact h)
  refine (sleep_again si st aw ro ol N _ HH.out HTN.out HHS.out).mono ?_
  rintro e w1 ⟨rfl, hb1⟩
  have HX1 := Lib.hid ((HX.out.below hb1 HX.out.lt).alloc (.cells #[.int .i64 si, .bool st, .bool aw, .int .i64 ro, .int .i64 ol] 42))
  have HA1 := Lib.hid (Blk.new w1 42 #[.int .i64 si, .bool st, .bool aw, .int .i64 ro, .int .i64 ol])
  have HB1 := Lib.hid ((bthen HB0.out hb1).alloc (bthen HB0.out hb1).size (.cells #[.int .i64 si, .bool st, .bool aw, .int .i64 ro, .int .i64 ol] 42))
  have hlt1 : w.heap.size < w1.heap.size := Nat.lt_of_lt_of_le HX.out.lt hb1.size
  clear hb1
  obtain ⟨W1, hW1⟩ : ∃ W1, w1.alloc (.cells #[.int .i64 si, .bool st, .bool aw, .int .i64 ro, .int .i64 ol] 42) = W1 := ⟨_, rfl⟩
  rw [hW1] at HX1 HA1 HB1
  obtain ⟨a, ha⟩ : ∃ a, w1.heap.size = a := ⟨_, rfl⟩
  rw [ha] at HA1 hlt1
  obtain ⟨x0, x1, x2, x3, x4⟩ := HX1.out.at5
  obtain ⟨a0, a1, a2, a3, a4⟩ := HA1.out.at5
  go_wp2_with fail
  clear hW1 ha x0 x1 x2 x3 x4 a0 a1 a2 a3 a4
  refine (sleep_again si st aw ro ol (N + M) _ HRA.out HSUM.out HNE.out).mono ?_
  rintro e w2 ⟨rfl, hb2⟩
  have HX2 := Lib.hid (HX1.out.below hb2 HX1.out.lt)
  have HA2 := Lib.hid (HA1.out.below hb2 HA1.out.lt)
  have HB2 := Lib.hid (bthen HB1.out hb2)
  clear hb2
  have HX3 := Lib.hid (HX2.out.alloc (.cells #[.int .i64 si, .bool st, .bool aw, .int .i64 ro, .int .i64 ol] 42))
  have HA3 := Lib.hid (HA2.out.alloc (.cells #[.int .i64 si, .bool st, .bool aw, .int .i64 ro, .int .i64 ol] 42))
  have HC3 := Lib.hid (Blk.new w2 42 #[.int .i64 si, .bool st, .bool aw, .int .i64 ro, .int .i64 ol])
  have HB3 := Lib.hid (HB2.out.alloc HB2.out.size (.cells #[.int .i64 si, .bool st, .bool aw, .int .i64 ro, .int .i64 ol] 42))
  have hlt2 : a < w2.heap.size := HA2.out.lt
  obtain ⟨W3, hW3⟩ : ∃ W3, w2.alloc (.cells #[.int .i64 si, .bool st, .bool aw, .int .i64 ro, .int .i64 ol] 42) = W3 := ⟨_, rfl⟩
  rw [hW3] at HX3 HA3 HC3 HB3
  obtain ⟨b, hb⟩ : ∃ b, w2.heap.size = b := ⟨_, rfl⟩
  rw [hb] at HC3 hlt2
  obtain ⟨x0, x1, x2, x3, x4⟩ := HX3.out.at5
  obtain ⟨a0, a1, a2, a3, a4⟩ := HA3.out.at5
  obtain ⟨b0, b1, b2, b3, b4⟩ := HC3.out.at5
  have nq := own_neq si si st aw st aw ro ol ro ol
  have gq := fun x y w => own_guard .neq x y si si st aw st aw ro ol ro ol w
  simp only [beq_self_eq_true, Bool.and_self, Bool.not_true] at nq
  go_wp2_with fail
  clear hW3 hb x0 x1 x2 x3 x4 a0 a1 a2 a3 a4 b0 b1 b2 b3 b4 nq gq
  refine (alive_any _).mono ?_
  rintro e w4 ⟨rfl, hb4⟩
  have HX4 := Lib.hid (HX3.out.below hb4 HX3.out.lt)
  have HA4 := Lib.hid (HA3.out.below hb4 HA3.out.lt)
  have HB4 := Lib.hid (bthen HB3.out hb4)
  clear hb4
  obtain ⟨a0, a1, a2, a3, a4⟩ := HA4.out.at5
  go_wp2_with fail
  clear a0 a1 a2 a3 a4
  refine (wake_yes si st aw ro ol (N + M) wd _ HWD.out HRA.out HSUM.out).mono ?_
  rintro e w5 ⟨rfl, hb5⟩
  have HL := Lib.hid (show wst st si (N + M) = (st || decide (1000000 < max (N + M - si) 0)) by
    have : (si != -1) = true := by simp [HNE.out]
    unfold wst; rw [this, Bool.true_and])
  have HRC := Lib.hid (show right si (wro ro wd) wd = true by
    have h1 := HRA.out
    have h2 := right_rounds h1
    unfold right at h1 ⊢
    simp only [Bool.and_eq_true] at h1 ⊢
    refine ⟨⟨decide_eq_true HWD.out, h1.1.2⟩, decide_eq_true ?_⟩
    unfold wro
    split <;> omega)
  have HC1 := Lib.hid (show wst (wst st si (N + M)) si (N + M) = wst st si (N + M) by unfold wst; cases st <;> simp)
  have HC2 := Lib.hid (show ((aw || !Flags.has wd 2) || !Flags.has wd 2) = (aw || !Flags.has wd 2) by cases aw <;> simp)
  have HC3' := Lib.hid (show wro (wro ro wd) wd = wro ro wd by unfold wro; split <;> rfl)
  obtain ⟨c1, hc1⟩ : ∃ c1, wst st si (N + M) = c1 := ⟨_, rfl⟩
  obtain ⟨c2, hc2⟩ : ∃ c2, (aw || !Flags.has wd 2) = c2 := ⟨_, rfl⟩
  obtain ⟨c3, hc3⟩ : ∃ c3, wro ro wd = c3 := ⟨_, rfl⟩
  obtain ⟨S, hS⟩ : ∃ S, Flags.has wd 2 = S := ⟨_, rfl⟩
  rw [hc1] at HL HC1
  rw [hc3] at HRC HC3'
  rw [hc2] at HC2
  rw [hc1, hc2, hc3]
  rw [hS] at HC2 ⊢
  have HS := Lib.hid hS
  clear hc1 hc2 hc3 hS
  have HX6 := Lib.hid ((HX4.out.below hb5 HX4.out.lt).alloc (.cells #[.int .i64 si, .bool c1, .bool c2, .int .i64 c3, .int .i64 wd] 42))
  have HA6 := Lib.hid ((HA4.out.below hb5 HA4.out.lt).alloc (.cells #[.int .i64 si, .bool c1, .bool c2, .int .i64 c3, .int .i64 wd] 42))
  have HC6 := Lib.hid (Blk.new w5 42 #[.int .i64 si, .bool c1, .bool c2, .int .i64 c3, .int .i64 wd])
  have HB6 := Lib.hid ((bthen HB4.out hb5).alloc (bthen HB4.out hb5).size (.cells #[.int .i64 si, .bool c1, .bool c2, .int .i64 c3, .int .i64 wd] 42))
  have hlt5 : a < w5.heap.size := Nat.lt_of_lt_of_le HA4.out.lt hb5.size
  clear hb5
  obtain ⟨W6, hW6⟩ : ∃ W6, w5.alloc (.cells #[.int .i64 si, .bool c1, .bool c2, .int .i64 c3, .int .i64 wd] 42) = W6 := ⟨_, rfl⟩
  rw [hW6] at HX6 HA6 HC6 HB6
  obtain ⟨c, hc⟩ : ∃ c, w5.heap.size = c := ⟨_, rfl⟩
  rw [hc] at HC6 hlt5
  obtain ⟨a0, a1, a2, a3, a4⟩ := HA6.out.at5
  obtain ⟨x0, x1, x2, x3, x4⟩ := HX6.out.at5
  go_wp2_with fail
  clear hW6 hc a0 a1 a2 a3 a4 x0 x1 x2 x3 x4
  refine (Clock.late_yes (N + M) si HSUM.out HSR.out _).mono ?_
  rintro e w7 ⟨rfl, hb7⟩
  have HX7 := Lib.hid (HX6.out.below hb7 HX6.out.lt)
  have HA7 := Lib.hid (HA6.out.below hb7 HA6.out.lt)
  have HC7 := Lib.hid (HC6.out.below hb7 HC6.out.lt)
  have HB7 := Lib.hid (bthen HB6.out hb7)
  clear hb7
  obtain ⟨l, hl⟩ : ∃ l, decide (1000000 < max (N + M - si) 0) = l := ⟨_, rfl⟩
  rw [hl] at HL ⊢
  clear hl
  obtain ⟨k0, k1, k2, k3, k4⟩ := HC7.out.at5
  go_wp2_with fail
  clear k0 k1 k2 k3 k4
  refine (wake_yes si c1 c2 c3 wd (N + M) wd _ HWD.out HRC.out HSUM.out).mono ?_
  rintro e w8 ⟨rfl, hb8⟩
  rw [HC1.out, HS.out, HC2.out, HC3'.out]
  have HX9 := Lib.hid ((HX7.out.below hb8 HX7.out.lt).alloc (.cells #[.int .i64 si, .bool c1, .bool c2, .int .i64 c3, .int .i64 wd] 42))
  have HA9 := Lib.hid ((HA7.out.below hb8 HA7.out.lt).alloc (.cells #[.int .i64 si, .bool c1, .bool c2, .int .i64 c3, .int .i64 wd] 42))
  have HC9 := Lib.hid ((HC7.out.below hb8 HC7.out.lt).alloc (.cells #[.int .i64 si, .bool c1, .bool c2, .int .i64 c3, .int .i64 wd] 42))
  have HD9 := Lib.hid (Blk.new w8 42 #[.int .i64 si, .bool c1, .bool c2, .int .i64 c3, .int .i64 wd])
  have HB9 := Lib.hid ((bthen HB7.out hb8).alloc (bthen HB7.out hb8).size (.cells #[.int .i64 si, .bool c1, .bool c2, .int .i64 c3, .int .i64 wd] 42))
  have hlt8 : c < w8.heap.size := Nat.lt_of_lt_of_le HC7.out.lt hb8.size
  clear hb8
  obtain ⟨W9, hW9⟩ : ∃ W9, w8.alloc (.cells #[.int .i64 si, .bool c1, .bool c2, .int .i64 c3, .int .i64 wd] 42) = W9 := ⟨_, rfl⟩
  rw [hW9] at HX9 HA9 HC9 HD9 HB9
  obtain ⟨d, hd⟩ : ∃ d, w8.heap.size = d := ⟨_, rfl⟩
  rw [hd] at HD9 hlt8
  obtain ⟨x0, x1, x2, x3, x4⟩ := HX9.out.at5
  obtain ⟨a0, a1, a2, a3, a4⟩ := HA9.out.at5
  obtain ⟨k0, k1, k2, k3, k4⟩ := HC9.out.at5
  obtain ⟨d0, d1, d2, d3, d4⟩ := HD9.out.at5
  cases st with
  | true =>
    obtain rfl : c1 = true := by have := HL.out; simpa using this.symm
    have nq := own_eql si si true c2 true c2 c3 wd c3 wd
    have gq := fun x y w => own_guard .eql x y si si true c2 true c2 c3 wd c3 wd w
    simp only [beq_self_eq_true, Bool.and_self] at nq
    clear HL HC1
    go_wp2_with fail
    go_ret
    exact ⟨rfl, HB9.out⟩
  | false =>
    obtain rfl : c1 = l := by have := HL.out; simpa using this
    have nq := own_eql si si c1 c2 c1 c2 c3 wd c3 wd
    have gq := fun x y w => own_guard .eql x y si si c1 c2 c1 c2 c3 wd c3 wd w
    simp only [beq_self_eq_true, Bool.and_self] at nq
    clear HL HC1
    go_wp2_with fail
    go_ret
    exact ⟨rfl, HB9.out⟩
theorem walk (si : Int) (st aw : Bool) (ro ol : Int) (now more wd : Int) (w : World) (_ : (Lit.int .i64 now).wf = true) (_ : (Lit.int .i64 more).wf = true) (_ : (Lit.int .i64 wd).wf = true) :
    Calls Try.prog 12 #[.agg #[.int .i64 si, .bool st, .bool aw, .int .i64 ro, .int .i64 ol], .int .i64 now, .int .i64 more, .int .i64 wd] w fun e w' => e = .returned (.bool true) ∧ Below w.heap.size w w' := by
  obtain ⟨N, hN, n0, n1⟩ := mod60 now
  obtain ⟨M, hM, m0, m1⟩ := mod60 more
  cases h : right si ro ol with
  | false => exact arg si st aw ro ol now more wd N M w hN hM n0 n1 h
  | true =>
    by_cases hs : si = -1
    · by_cases hw : 0 ≤ wd ∧ wd < 2147483648
      · exact first_yes si st aw ro ol now more wd N M w hN hM n0 n1 m0 m1 h hs hw
      · exact first_bad si st aw ro ol now more wd N M w hN hM n0 n1 m0 m1 h hs (by omega)
    · by_cases hw : 0 ≤ wd ∧ wd < 2147483648
      · exact again_yes si st aw ro ol now more wd N M w hN hM n0 n1 m0 m1 h hs hw
      · exact again_bad si st aw ro ol now more wd N M w hN hM n0 n1 m0 m1 h hs (by omega)
end grabWaits
end Go.Proofs.Ytkjhacbkgnjilaa
