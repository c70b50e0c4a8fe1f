/-
  The contracts of package grab, part 3: Got, Wakes, Spins, Handed, Wants. Printed by gen_grab3.py.
-/
import Derived.Test.YtkjhacbkgnjilaaGrab2
namespace Go.Proofs.Ytkjhacbkgnjilaa
open Go.RowKit
namespace Grab
def ownCells (si : Int) (st aw : Bool) (ro ol : Int) : Array Value := #[.int .i64 si, .bool st, .bool aw, .int .i64 ro, .int .i64 ol]
/-- By how much the word changes that is handed on. -/
def dOf (st : Bool) (n : Int) : Int := if (!st || decide (n = 1)) = true then -11 else -7
theorem flags_eqIn (d : Nat) (a b c a' b' c' : Bool) (n m : Int) (w : World) : (Op.equalIn (d + 2) 48 (.agg #[.bool a, .bool b, .bool c, .int .i64 n]) (.agg #[.bool a', .bool b', .bool c', .int .i64 m])).run Try.prog w = .ok (a == a' && (b == b' && (c == c' && n == m))) w := by
  have u3 := Try.underlying3
  have a3 := Try.isAgg3
  have z3 := Try.sizeOf3
  have u4 := Try.underlying4
  have a4 := Try.isAgg4
  have z4 := Try.sizeOf4
  have hS : Try.prog.underlying 48 = some (.struct (Try.prog.fieldsOf 48)) := by kernel_rfl
  have hp : Try.prog.stoodInHeld 48 = false := by kernel_rfl
  rw [run_equalIn_agg w (d + 1) 48 _ _ hS hp]
  simp only [Program.fieldsOf, Try.underlying48]
  go_simp
  by_cases h4 : n = m <;> cases a <;> cases a' <;> cases b <;> cases b' <;> cases c <;> cases c' <;> simp [h4]
theorem flags_neq (a b c a' b' c' : Bool) (n m : Int) (w : World) : (binOp .neq 48 (.agg #[.bool a, .bool b, .bool c, .int .i64 n]) (.agg #[.bool a', .bool b', .bool c', .int .i64 m])).run Try.prog w = .ok (.bool (!(a == a' && (b == b' && (c == c' && n == m))))) w := by
  rw [run_neq_struct, show (10000 : Nat) = 9998 + 2 from rfl, flags_eqIn]
  rfl
theorem flags_guard (op : BinOp) (x y : Operand) (a b c a' b' c' : Bool) (n m : Int) (w : World) : (eqGuard op 48 x y (.agg #[.bool a, .bool b, .bool c, .int .i64 n]) (.agg #[.bool a', .bool b', .bool c', .int .i64 m])).run Try.prog w = .ok () w :=
  run_eqGuard_agg w _ _ _ _ _ _ (by kernel_rfl)
theorem got1_no (B : Nat) (si : Int) (st aw : Bool) (ro ol : Int) (w : World) (hx : Blk w B 42 (ownCells si st aw ro ol)) (h : right si ro ol = false) :
    Calls Try.prog 60 #[.pointer (some ⟨B, 0, none⟩)] w fun e w' => e = gives 1 ∧ Below w.heap.size w w' := by
  have H := Lib.hid h
  have c0 : w.cell? ⟨B, 0, none⟩ = some (.int .i64 si) := by rw [hx.cell]; rfl
  have c1 : w.cell? ⟨B, 1, none⟩ = some (.bool st) := by rw [hx.cell]; rfl
  have c2 : w.cell? ⟨B, 2, none⟩ = some (.bool aw) := by rw [hx.cell]; rfl
  have c3 : w.cell? ⟨B, 3, none⟩ = some (.int .i64 ro) := by rw [hx.cell]; rfl
  have c4 : w.cell? ⟨B, 4, none⟩ = some (.int .i64 ol) := by rw [hx.cell]; rfl
  clear h hx
  go_enter Try.func60, Try.ntmps60
  go_wp2_with fail
  refine (seen_no si st aw ro ol _ H.out).mono ?_
  rintro e w1 ⟨rfl, hb1⟩
  have HB := Lib.hid hb1
  clear hb1
  unfold gives
  go_wp2_with fail
  exact ⟨rfl, rfl, HB.out⟩
theorem got1_yes (B : Nat) (si : Int) (st aw : Bool) (ro ol : Int) (w : World) (hx : Blk w B 42 (ownCells si st aw ro ol)) (h : right si ro ol = true) :
    Calls Try.prog 60 #[.pointer (some ⟨B, 0, none⟩)] w fun e w' => e = .returned (.bool (!Flags.has ol 0 && !Flags.has ol 2)) ∧ Below w.heap.size w w' := by
  have H := Lib.hid h
  have HX := Lib.hid hx
  have c0 : w.cell? ⟨B, 0, none⟩ = some (.int .i64 si) := by rw [hx.cell]; rfl
  have c1 : w.cell? ⟨B, 1, none⟩ = some (.bool st) := by rw [hx.cell]; rfl
  have c2 : w.cell? ⟨B, 2, none⟩ = some (.bool aw) := by rw [hx.cell]; rfl
  have c3 : w.cell? ⟨B, 3, none⟩ = some (.int .i64 ro) := by rw [hx.cell]; rfl
  have c4 : w.cell? ⟨B, 4, none⟩ = some (.int .i64 ol) := by rw [hx.cell]; rfl
  clear h hx
  go_enter Try.func60, Try.ntmps60
  go_wp2_with fail
  refine (seen_yes si st aw ro ol _ H.out).mono ?_
  rintro e w1 ⟨rfl, hb1⟩
  have HB := Lib.hid (hb1.alloc hb1.size (.cells #[.bool (Flags.has ol 0), .bool (Flags.has ol 1), .bool (Flags.has ol 2), .int .i64 (ol / 8)] 48))
  have HX1 := Lib.hid (HX.out.below hb1 HX.out.lt)
  have hlt1 := Nat.lt_of_lt_of_le HX.out.lt hb1.size
  clear hb1
  obtain ⟨L, hL⟩ : ∃ L, Flags.has ol 0 = L := ⟨_, rfl⟩
  obtain ⟨S, hS⟩ : ∃ S, Flags.has ol 2 = S := ⟨_, rfl⟩
  rw [hL, hS] at HB ⊢
  have HL := Lib.hid hL
  have HS := Lib.hid hS
  clear hL hS
  cases L <;> cases S
  all_goals
    go_wp2_with fail
    go_ret
    exact ⟨by simp [HL.out, HS.out], HB.out⟩
theorem got_yes (si : Int) (st aw : Bool) (ro ol : Int) (w : World) (h : right si ro ol = true) :
    Calls Try.prog 28 #[.agg (ownCells si st aw ro ol)] w fun e w' => e = .returned (.tuple #[.bool (!Flags.has ol 0 && !Flags.has ol 2), .int .i64 0]) ∧ Below w.heap.size w w' := by
  have hmf : ∀ (fn : Fn) (first cap : Array Value) (w : World), (Instr.makeFunc fn first cap).run Try.prog w = .ok (.func fn first cap) w := fun _ _ _ _ => rfl
  have H := Lib.hid h
  have hx := Blk.new w 42 (ownCells si st aw ro ol)
  have hb0 := (Below.refl w.heap.size w).alloc (Nat.le_refl _) (.cells (ownCells si st aw ro ol) 42)
  have HX := Lib.hid hx
  have HB0 := Lib.hid hb0
  clear h hx hb0
  unfold ownCells
  go_enter Try.func28, Try.ntmps28
  go_wp2_with fail
  refine (told_bool 60 _ (!Flags.has ol 0 && !Flags.has ol 2) _ (fun w1 => by simp [go_sem]) (fun w1 hb => got1_yes w.heap.size si st aw ro ol w1 (HX.out.below hb HX.out.lt) H.out)).mono ?_
  rintro e w1 ⟨rfl, hb1⟩
  have HE := Lib.hid (bthen HB0.out (hb1.mono (Nat.le_refl _)))
  clear hb1
  go_wp2_with fail
  go_ret2
  exact ⟨rfl, HE.out⟩
theorem got_no (si : Int) (st aw : Bool) (ro ol : Int) (w : World) (h : right si ro ol = false) :
    Calls Try.prog 28 #[.agg (ownCells si st aw ro ol)] w fun e w' => e = .returned (.tuple #[.bool false, .int .i64 1]) ∧ Below w.heap.size w w' := by
  have hmf : ∀ (fn : Fn) (first cap : Array Value) (w : World), (Instr.makeFunc fn first cap).run Try.prog w = .ok (.func fn first cap) w := fun _ _ _ _ => rfl
  have H := Lib.hid h
  have hx := Blk.new w 42 (ownCells si st aw ro ol)
  have hb0 := (Below.refl w.heap.size w).alloc (Nat.le_refl _) (.cells (ownCells si st aw ro ol) 42)
  have HX := Lib.hid hx
  have HB0 := Lib.hid hb0
  clear h hx hb0
  unfold ownCells
  go_enter Try.func28, Try.ntmps28
  go_wp2_with fail
  refine (not_bool 60 _ 1 _ (fun w1 => by simp [go_sem]) (fun w1 hb => got1_no w.heap.size si st aw ro ol w1 (HX.out.below hb HX.out.lt) H.out)).mono ?_
  rintro e w1 ⟨rfl, hb1⟩
  have HE := Lib.hid (bthen HB0.out (hb1.mono (Nat.le_refl _)))
  clear hb1
  go_wp2_with fail
  go_ret2
  exact ⟨rfl, HE.out⟩
theorem wakes1_no (B : Nat) (si : Int) (st aw : Bool) (ro ol : Int) (w : World) (hx : Blk w B 42 (ownCells si st aw ro ol)) (h : right si ro ol = false) :
    Calls Try.prog 66 #[.pointer (some ⟨B, 0, none⟩)] w fun e w' => e = gives 1 ∧ Below w.heap.size w w' := by
  have H := Lib.hid h
  have c0 : w.cell? ⟨B, 0, none⟩ = some (.int .i64 si) := by rw [hx.cell]; rfl
  have c1 : w.cell? ⟨B, 1, none⟩ = some (.bool st) := by rw [hx.cell]; rfl
  have c2 : w.cell? ⟨B, 2, none⟩ = some (.bool aw) := by rw [hx.cell]; rfl
  have c3 : w.cell? ⟨B, 3, none⟩ = some (.int .i64 ro) := by rw [hx.cell]; rfl
  have c4 : w.cell? ⟨B, 4, none⟩ = some (.int .i64 ol) := by rw [hx.cell]; rfl
  clear h hx
  go_enter Try.func66, Try.ntmps66
  go_wp2_with fail
  refine (seen_no si st aw ro ol _ H.out).mono ?_
  rintro e w1 ⟨rfl, hb1⟩
  have HB := Lib.hid hb1
  clear hb1
  unfold gives
  go_wp2_with fail
  exact ⟨rfl, rfl, HB.out⟩
theorem wakes1_yes (B : Nat) (si : Int) (st aw : Bool) (ro ol : Int) (w : World) (hx : Blk w B 42 (ownCells si st aw ro ol)) (h : right si ro ol = true) :
    Calls Try.prog 66 #[.pointer (some ⟨B, 0, none⟩)] w fun e w' => e = .returned (.bool (!aw && !Flags.has ol 1 && decide (0 < ol / 8))) ∧ Below w.heap.size w w' := by
  have H := Lib.hid h
  have HX := Lib.hid hx
  have c0 : w.cell? ⟨B, 0, none⟩ = some (.int .i64 si) := by rw [hx.cell]; rfl
  have c1 : w.cell? ⟨B, 1, none⟩ = some (.bool st) := by rw [hx.cell]; rfl
  have c2 : w.cell? ⟨B, 2, none⟩ = some (.bool aw) := by rw [hx.cell]; rfl
  have c3 : w.cell? ⟨B, 3, none⟩ = some (.int .i64 ro) := by rw [hx.cell]; rfl
  have c4 : w.cell? ⟨B, 4, none⟩ = some (.int .i64 ol) := by rw [hx.cell]; rfl
  clear h hx
  go_enter Try.func66, Try.ntmps66
  go_wp2_with fail
  refine (seen_yes si st aw ro ol _ H.out).mono ?_
  rintro e w1 ⟨rfl, hb1⟩
  have HB := Lib.hid (hb1.alloc hb1.size (.cells #[.bool (Flags.has ol 0), .bool (Flags.has ol 1), .bool (Flags.has ol 2), .int .i64 (ol / 8)] 48))
  have HX1 := Lib.hid (HX.out.below hb1 HX.out.lt)
  have hlt1 := Nat.lt_of_lt_of_le HX.out.lt hb1.size
  have c2' : w1.cell? ⟨B, 2, none⟩ = some (.bool aw) := by rw [HX1.out.cell]; rfl
  have hne : w1.heap.size ≠ B := by omega
  have hne' : B ≠ w1.heap.size := by omega
  have k2 : (w1.alloc (.cells #[.bool (Flags.has ol 0), .bool (Flags.has ol 1), .bool (Flags.has ol 2), .int .i64 (ol / 8)] 48)).cell? ⟨B, 2, none⟩ = some (.bool aw) := by rw [(HX1.out.alloc _).cell]; rfl
  clear hb1
  obtain ⟨K, hK⟩ : ∃ K, Flags.has ol 1 = K := ⟨_, rfl⟩
  rw [hK] at HB k2 ⊢
  have HK := Lib.hid hK
  clear hK
  by_cases hp : 0 < ol / 8
  · have hd : decide (0 < ol / 8) = true := decide_eq_true hp
    cases aw <;> cases K
    all_goals
      go_wp2_with fail
      go_ret
      exact ⟨by simp [hp, HK.out], HB.out⟩
  · have hd : decide (0 < ol / 8) = false := decide_eq_false hp
    cases aw <;> cases K
    all_goals
      go_wp2_with fail
      go_ret
      exact ⟨by simp [hp, HK.out], HB.out⟩
theorem wakes_yes (si : Int) (st aw : Bool) (ro ol : Int) (w : World) (h : right si ro ol = true) :
    Calls Try.prog 33 #[.agg (ownCells si st aw ro ol)] w fun e w' => e = .returned (.tuple #[.bool (!aw && !Flags.has ol 1 && decide (0 < ol / 8)), .int .i64 0]) ∧ Below w.heap.size w w' := by
  have hmf : ∀ (fn : Fn) (first cap : Array Value) (w : World), (Instr.makeFunc fn first cap).run Try.prog w = .ok (.func fn first cap) w := fun _ _ _ _ => rfl
  have H := Lib.hid h
  have hx := Blk.new w 42 (ownCells si st aw ro ol)
  have hb0 := (Below.refl w.heap.size w).alloc (Nat.le_refl _) (.cells (ownCells si st aw ro ol) 42)
  have HX := Lib.hid hx
  have HB0 := Lib.hid hb0
  clear h hx hb0
  unfold ownCells
  go_enter Try.func33, Try.ntmps33
  go_wp2_with fail
  refine (told_bool 66 _ (!aw && !Flags.has ol 1 && decide (0 < ol / 8)) _ (fun w1 => by simp [go_sem]) (fun w1 hb => wakes1_yes w.heap.size si st aw ro ol w1 (HX.out.below hb HX.out.lt) H.out)).mono ?_
  rintro e w1 ⟨rfl, hb1⟩
  have HE := Lib.hid (bthen HB0.out (hb1.mono (Nat.le_refl _)))
  clear hb1
  go_wp2_with fail
  go_ret2
  exact ⟨rfl, HE.out⟩
theorem wakes_no (si : Int) (st aw : Bool) (ro ol : Int) (w : World) (h : right si ro ol = false) :
    Calls Try.prog 33 #[.agg (ownCells si st aw ro ol)] w fun e w' => e = .returned (.tuple #[.bool false, .int .i64 1]) ∧ Below w.heap.size w w' := by
  have hmf : ∀ (fn : Fn) (first cap : Array Value) (w : World), (Instr.makeFunc fn first cap).run Try.prog w = .ok (.func fn first cap) w := fun _ _ _ _ => rfl
  have H := Lib.hid h
  have hx := Blk.new w 42 (ownCells si st aw ro ol)
  have hb0 := (Below.refl w.heap.size w).alloc (Nat.le_refl _) (.cells (ownCells si st aw ro ol) 42)
  have HX := Lib.hid hx
  have HB0 := Lib.hid hb0
  clear h hx hb0
  unfold ownCells
  go_enter Try.func33, Try.ntmps33
  go_wp2_with fail
  refine (not_bool 66 _ 1 _ (fun w1 => by simp [go_sem]) (fun w1 hb => wakes1_no w.heap.size si st aw ro ol w1 (HX.out.below hb HX.out.lt) H.out)).mono ?_
  rintro e w1 ⟨rfl, hb1⟩
  have HE := Lib.hid (bthen HB0.out (hb1.mono (Nat.le_refl _)))
  clear hb1
  go_wp2_with fail
  go_ret2
  exact ⟨rfl, HE.out⟩
theorem can_yes (ro ru : Int) (h0 : 0 ≤ ro) (h1 : 0 ≤ ru) (w : World) : Calls Try.prog 65 #[.int .i64 ro, .int .i64 ru] w fun e w' => e = .returned (.tuple #[.bool (decide (ro < 4) && decide (1 < ru)), .int .i64 0]) ∧ w = w' := by
  have d0 : decide (ro < 0) = false := decide_eq_false (by omega)
  have d1 : decide (ru < 0) = false := decide_eq_false (by omega)
  by_cases h2 : ro < 4
  · have e2 : decide (ro < 4) = true := decide_eq_true h2
    by_cases h3 : 1 < ru
    · have e3 : decide (1 < ru) = true := decide_eq_true h3
      go_enter Try.func65, Try.ntmps65
      go_wp2_with fail
      go_ret2
      exact ⟨by simp [h2, h3], rfl⟩
    · have e3 : decide (1 < ru) = false := decide_eq_false h3
      go_enter Try.func65, Try.ntmps65
      go_wp2_with fail
      go_ret2
      exact ⟨by simp, rfl⟩
  · have e2 : decide (ro < 4) = false := decide_eq_false h2
    go_enter Try.func65, Try.ntmps65
    go_wp2_with fail
    go_ret2
    exact ⟨by simp, rfl⟩
theorem can_no (ro ru : Int) (h0 : 0 ≤ ro) (h1 : ru < 0) (w : World) : Calls Try.prog 65 #[.int .i64 ro, .int .i64 ru] w fun e w' => e = .returned (.tuple #[.bool false, .int .i64 1]) ∧ w = w' := by
  have d0 : decide (ro < 0) = false := decide_eq_false (by omega)
  have d1 : decide (ru < 0) = true := decide_eq_true h1
  go_enter Try.func65, Try.ntmps65
  go_wp2_with fail
  go_ret2
  exact ⟨rfl, rfl⟩
theorem right_rounds {si ro ol : Int} (h : right si ro ol = true) : 0 ≤ ro ∧ ro ≤ 4 := by
  unfold right at h
  simp only [Bool.and_eq_true] at h
  exact of_decide_eq_true h.2
theorem spins1_no (B : Nat) (C : Nat) (si : Int) (st aw : Bool) (ro ol : Int) (w : World) (hx : Blk w B 42 (ownCells si st aw ro ol)) (h : right si ro ol = false) :
    Calls Try.prog 64 #[.pointer (some ⟨B, 0, none⟩), .pointer (some ⟨C, 0, none⟩)] w fun e w' => e = gives 1 ∧ Below w.heap.size w w' := by
  have H := Lib.hid h
  have c0 : w.cell? ⟨B, 0, none⟩ = some (.int .i64 si) := by rw [hx.cell]; rfl
  have c1 : w.cell? ⟨B, 1, none⟩ = some (.bool st) := by rw [hx.cell]; rfl
  have c2 : w.cell? ⟨B, 2, none⟩ = some (.bool aw) := by rw [hx.cell]; rfl
  have c3 : w.cell? ⟨B, 3, none⟩ = some (.int .i64 ro) := by rw [hx.cell]; rfl
  have c4 : w.cell? ⟨B, 4, none⟩ = some (.int .i64 ol) := by rw [hx.cell]; rfl
  clear h hx
  go_enter Try.func64, Try.ntmps64
  go_wp2_with fail
  refine (seen_no si st aw ro ol _ H.out).mono ?_
  rintro e w1 ⟨rfl, hb1⟩
  have HB := Lib.hid hb1
  clear hb1
  unfold gives
  go_wp2_with fail
  exact ⟨rfl, rfl, HB.out⟩
theorem spins1_yes (B : Nat) (C : Nat) (ru : Int) (si : Int) (st aw : Bool) (ro ol : Int) (w : World) (hx : Blk w B 42 (ownCells si st aw ro ol)) (hc : Blk w C 3 #[.int .i64 ru]) (h : right si ro ol = true) (hu : 0 ≤ ru) :
    Calls Try.prog 64 #[.pointer (some ⟨B, 0, none⟩), .pointer (some ⟨C, 0, none⟩)] w fun e w' => e = .returned (.bool (decide (ro < 4) && decide (1 < ru) && Flags.has ol 0 && !Flags.has ol 2)) ∧ Below w.heap.size w w' := by
  have H := Lib.hid h
  have HX := Lib.hid hx
  have c0 : w.cell? ⟨B, 0, none⟩ = some (.int .i64 si) := by rw [hx.cell]; rfl
  have c1 : w.cell? ⟨B, 1, none⟩ = some (.bool st) := by rw [hx.cell]; rfl
  have c2 : w.cell? ⟨B, 2, none⟩ = some (.bool aw) := by rw [hx.cell]; rfl
  have c3 : w.cell? ⟨B, 3, none⟩ = some (.int .i64 ro) := by rw [hx.cell]; rfl
  have c4 : w.cell? ⟨B, 4, none⟩ = some (.int .i64 ol) := by rw [hx.cell]; rfl
  have HC := Lib.hid hc
  have hrr := right_rounds h
  clear hc
  clear h hx
  go_enter Try.func64, Try.ntmps64
  go_wp2_with fail
  refine (seen_yes si st aw ro ol _ H.out).mono ?_
  rintro e w1 ⟨rfl, hb1⟩
  have HB := Lib.hid (hb1.alloc hb1.size (.cells #[.bool (Flags.has ol 0), .bool (Flags.has ol 1), .bool (Flags.has ol 2), .int .i64 (ol / 8)] 48))
  have HX1 := Lib.hid (HX.out.below hb1 HX.out.lt)
  have hlt1 := Nat.lt_of_lt_of_le HX.out.lt hb1.size
  have HC1 := Lib.hid (HC.out.below hb1 HC.out.lt)
  have k3 : (w1.alloc (.cells #[.bool (Flags.has ol 0), .bool (Flags.has ol 1), .bool (Flags.has ol 2), .int .i64 (ol / 8)] 48)).cell? ⟨B, 3, none⟩ = some (.int .i64 ro) := by rw [(HX1.out.alloc _).cell]; rfl
  have k0 : (w1.alloc (.cells #[.bool (Flags.has ol 0), .bool (Flags.has ol 1), .bool (Flags.has ol 2), .int .i64 (ol / 8)] 48)).cell? ⟨C, 0, none⟩ = some (.int .i64 ru) := by rw [(HC1.out.alloc _).cell]; rfl
  clear hb1
  go_wp2_with fail
  refine (can_yes ro ru hrr.1 hu _).mono ?_
  rintro e w2 ⟨rfl, rfl⟩
  go_wp2_with fail
  refine (must_ok _).mono ?_
  rintro e w2 ⟨rfl, rfl⟩
  obtain ⟨L, hL⟩ : ∃ L, Flags.has ol 0 = L := ⟨_, rfl⟩
  obtain ⟨S, hS⟩ : ∃ S, Flags.has ol 2 = S := ⟨_, rfl⟩
  obtain ⟨c, hc⟩ : ∃ c, (decide (ro < 4) && decide (1 < ru)) = c := ⟨_, rfl⟩
  rw [hc]
  rw [hL, hS] at HB k3 k0 ⊢
  have HL := Lib.hid hL
  have HS := Lib.hid hS
  have Hc := Lib.hid hc
  clear hL hS hc
  cases c <;> cases L <;> cases S
  all_goals
    go_wp2_with fail
    go_ret
    exact ⟨ret_bool (by rw [Hc.out, HL.out, HS.out]; rfl), HB.out⟩
theorem spins1_out (B : Nat) (C : Nat) (ru : Int) (si : Int) (st aw : Bool) (ro ol : Int) (w : World) (hx : Blk w B 42 (ownCells si st aw ro ol)) (hc : Blk w C 3 #[.int .i64 ru]) (h : right si ro ol = true) (hu : ru < 0) :
    Calls Try.prog 64 #[.pointer (some ⟨B, 0, none⟩), .pointer (some ⟨C, 0, none⟩)] w fun e w' => e = gives 1 ∧ Below w.heap.size w w' := by
  have H := Lib.hid h
  have HX := Lib.hid hx
  have c0 : w.cell? ⟨B, 0, none⟩ = some (.int .i64 si) := by rw [hx.cell]; rfl
  have c1 : w.cell? ⟨B, 1, none⟩ = some (.bool st) := by rw [hx.cell]; rfl
  have c2 : w.cell? ⟨B, 2, none⟩ = some (.bool aw) := by rw [hx.cell]; rfl
  have c3 : w.cell? ⟨B, 3, none⟩ = some (.int .i64 ro) := by rw [hx.cell]; rfl
  have c4 : w.cell? ⟨B, 4, none⟩ = some (.int .i64 ol) := by rw [hx.cell]; rfl
  have HC := Lib.hid hc
  have hrr := right_rounds h
  clear hc
  clear h hx
  go_enter Try.func64, Try.ntmps64
  go_wp2_with fail
  refine (seen_yes si st aw ro ol _ H.out).mono ?_
  rintro e w1 ⟨rfl, hb1⟩
  have HB := Lib.hid (hb1.alloc hb1.size (.cells #[.bool (Flags.has ol 0), .bool (Flags.has ol 1), .bool (Flags.has ol 2), .int .i64 (ol / 8)] 48))
  have HX1 := Lib.hid (HX.out.below hb1 HX.out.lt)
  have hlt1 := Nat.lt_of_lt_of_le HX.out.lt hb1.size
  have HC1 := Lib.hid (HC.out.below hb1 HC.out.lt)
  have k3 : (w1.alloc (.cells #[.bool (Flags.has ol 0), .bool (Flags.has ol 1), .bool (Flags.has ol 2), .int .i64 (ol / 8)] 48)).cell? ⟨B, 3, none⟩ = some (.int .i64 ro) := by rw [(HX1.out.alloc _).cell]; rfl
  have k0 : (w1.alloc (.cells #[.bool (Flags.has ol 0), .bool (Flags.has ol 1), .bool (Flags.has ol 2), .int .i64 (ol / 8)] 48)).cell? ⟨C, 0, none⟩ = some (.int .i64 ru) := by rw [(HC1.out.alloc _).cell]; rfl
  clear hb1
  go_wp2_with fail
  refine (can_no ro ru hrr.1 hu _).mono ?_
  rintro e w2 ⟨rfl, rfl⟩
  go_wp2_with fail
  refine (must_bad 1 rfl _).mono ?_
  rintro e w2 ⟨rfl, rfl⟩
  unfold gives
  go_wp2_with fail
  exact ⟨rfl, rfl, HB.out⟩
theorem spins_yes (si : Int) (st aw : Bool) (ro ol : Int) (ru : Int) (w : World) (h : right si ro ol = true) (hu : 0 ≤ ru) :
    Calls Try.prog 32 #[.agg (ownCells si st aw ro ol), .int .i64 ru] w fun e w' => e = .returned (.tuple #[.bool (decide (ro < 4) && decide (1 < ru) && Flags.has ol 0 && !Flags.has ol 2), .int .i64 0]) ∧ Below w.heap.size w w' := by
  have hmf : ∀ (fn : Fn) (first cap : Array Value) (w : World), (Instr.makeFunc fn first cap).run Try.prog w = .ok (.func fn first cap) w := fun _ _ _ _ => rfl
  have H := Lib.hid h
  have hb0 : Below w.heap.size w ((w.alloc (.cells (ownCells si st aw ro ol) 42)).alloc (.cells #[.int .i64 ru] 3)) := ((Below.refl w.heap.size w).alloc (Nat.le_refl _) _).alloc (by simp) _
  have hx := (Blk.new w 42 (ownCells si st aw ro ol)).alloc (.cells #[.int .i64 ru] 3)
  have hc := Blk.new (w.alloc (.cells (ownCells si st aw ro ol) 42)) 3 #[.int .i64 ru]
  rw [World.size_alloc] at hc
  have HC := Lib.hid hc
  clear hc
  have HX := Lib.hid hx
  have HB0 := Lib.hid hb0
  clear h hx hb0
  unfold ownCells
  go_enter Try.func32, Try.ntmps32
  go_wp2_with fail
  refine (told_bool 64 _ (decide (ro < 4) && decide (1 < ru) && Flags.has ol 0 && !Flags.has ol 2) _ (fun w1 => by simp [go_sem]) (fun w1 hb => spins1_yes w.heap.size (w.heap.size + 1) ru si st aw ro ol w1 (HX.out.below hb HX.out.lt) (HC.out.below hb HC.out.lt) H.out hu)).mono ?_
  rintro e w1 ⟨rfl, hb1⟩
  have HE := Lib.hid (bthen HB0.out (hb1.mono (Nat.le_refl _)))
  clear hb1
  go_wp2_with fail
  go_ret2
  exact ⟨rfl, HE.out⟩
theorem spins_no (si : Int) (st aw : Bool) (ro ol : Int) (ru : Int) (w : World) (h : right si ro ol = false) :
    Calls Try.prog 32 #[.agg (ownCells si st aw ro ol), .int .i64 ru] w fun e w' => e = .returned (.tuple #[.bool false, .int .i64 1]) ∧ Below w.heap.size w w' := by
  have hmf : ∀ (fn : Fn) (first cap : Array Value) (w : World), (Instr.makeFunc fn first cap).run Try.prog w = .ok (.func fn first cap) w := fun _ _ _ _ => rfl
  have H := Lib.hid h
  have hb0 : Below w.heap.size w ((w.alloc (.cells (ownCells si st aw ro ol) 42)).alloc (.cells #[.int .i64 ru] 3)) := ((Below.refl w.heap.size w).alloc (Nat.le_refl _) _).alloc (by simp) _
  have hx := (Blk.new w 42 (ownCells si st aw ro ol)).alloc (.cells #[.int .i64 ru] 3)
  have hc := Blk.new (w.alloc (.cells (ownCells si st aw ro ol) 42)) 3 #[.int .i64 ru]
  rw [World.size_alloc] at hc
  have HC := Lib.hid hc
  clear hc
  have HX := Lib.hid hx
  have HB0 := Lib.hid hb0
  clear h hx hb0
  unfold ownCells
  go_enter Try.func32, Try.ntmps32
  go_wp2_with fail
  refine (not_bool 64 _ 1 _ (fun w1 => by simp [go_sem]) (fun w1 hb => spins1_no w.heap.size (w.heap.size + 1) si st aw ro ol w1 (HX.out.below hb HX.out.lt) H.out)).mono ?_
  rintro e w1 ⟨rfl, hb1⟩
  have HE := Lib.hid (bthen HB0.out (hb1.mono (Nat.le_refl _)))
  clear hb1
  go_wp2_with fail
  go_ret2
  exact ⟨rfl, HE.out⟩
theorem spins_out (si : Int) (st aw : Bool) (ro ol : Int) (ru : Int) (w : World) (h : right si ro ol = true) (hu : ru < 0) :
    Calls Try.prog 32 #[.agg (ownCells si st aw ro ol), .int .i64 ru] w fun e w' => e = .returned (.tuple #[.bool false, .int .i64 1]) ∧ Below w.heap.size w w' := by
  have hmf : ∀ (fn : Fn) (first cap : Array Value) (w : World), (Instr.makeFunc fn first cap).run Try.prog w = .ok (.func fn first cap) w := fun _ _ _ _ => rfl
  have H := Lib.hid h
  have hb0 : Below w.heap.size w ((w.alloc (.cells (ownCells si st aw ro ol) 42)).alloc (.cells #[.int .i64 ru] 3)) := ((Below.refl w.heap.size w).alloc (Nat.le_refl _) _).alloc (by simp) _
  have hx := (Blk.new w 42 (ownCells si st aw ro ol)).alloc (.cells #[.int .i64 ru] 3)
  have hc := Blk.new (w.alloc (.cells (ownCells si st aw ro ol) 42)) 3 #[.int .i64 ru]
  rw [World.size_alloc] at hc
  have HC := Lib.hid hc
  clear hc
  have HX := Lib.hid hx
  have HB0 := Lib.hid hb0
  clear h hx hb0
  unfold ownCells
  go_enter Try.func32, Try.ntmps32
  go_wp2_with fail
  refine (not_bool 64 _ 1 _ (fun w1 => by simp [go_sem]) (fun w1 hb => spins1_out w.heap.size (w.heap.size + 1) ru si st aw ro ol w1 (HX.out.below hb HX.out.lt) (HC.out.below hb HC.out.lt) H.out hu)).mono ?_
  rintro e w1 ⟨rfl, hb1⟩
  have HE := Lib.hid (bthen HB0.out (hb1.mono (Nat.le_refl _)))
  clear hb1
  go_wp2_with fail
  go_ret2
  exact ⟨rfl, HE.out⟩
theorem handed1_no (B : Nat) (si : Int) (st aw : Bool) (ro ol : Int) (w : World) (hx : Blk w B 42 (ownCells si st aw ro ol)) (h : right si ro ol = false) :
    Calls Try.prog 63 #[.pointer (some ⟨B, 0, none⟩)] w fun e w' => e = gives 1 ∧ Below w.heap.size w w' := by
  have H := Lib.hid h
  have c0 : w.cell? ⟨B, 0, none⟩ = some (.int .i64 si) := by rw [hx.cell]; rfl
  have c1 : w.cell? ⟨B, 1, none⟩ = some (.bool st) := by rw [hx.cell]; rfl
  have c2 : w.cell? ⟨B, 2, none⟩ = some (.bool aw) := by rw [hx.cell]; rfl
  have c3 : w.cell? ⟨B, 3, none⟩ = some (.int .i64 ro) := by rw [hx.cell]; rfl
  have c4 : w.cell? ⟨B, 4, none⟩ = some (.int .i64 ol) := by rw [hx.cell]; rfl
  clear h hx
  go_enter Try.func63, Try.ntmps63
  go_wp2_with fail
  refine (seen_no si st aw ro ol _ H.out).mono ?_
  rintro e w1 ⟨rfl, hb1⟩
  have HB := Lib.hid hb1
  clear hb1
  unfold gives
  go_wp2_with fail
  exact ⟨rfl, rfl, HB.out⟩
theorem handed1_yes (B : Nat) (si : Int) (st aw : Bool) (ro ol : Int) (w : World) (hx : Blk w B 42 (ownCells si st aw ro ol)) (h : right si ro ol = true) (hf : (Flags.has ol 0 || (Flags.has ol 1 || decide (ol / 8 = 0))) = false) :
    Calls Try.prog 63 #[.pointer (some ⟨B, 0, none⟩)] w fun e w' => e = .returned (.int .i64 (dOf st (ol / 8))) ∧ Below w.heap.size w w' := by
  have H := Lib.hid h
  have HX := Lib.hid hx
  have c0 : w.cell? ⟨B, 0, none⟩ = some (.int .i64 si) := by rw [hx.cell]; rfl
  have c1 : w.cell? ⟨B, 1, none⟩ = some (.bool st) := by rw [hx.cell]; rfl
  have c2 : w.cell? ⟨B, 2, none⟩ = some (.bool aw) := by rw [hx.cell]; rfl
  have c3 : w.cell? ⟨B, 3, none⟩ = some (.int .i64 ro) := by rw [hx.cell]; rfl
  have c4 : w.cell? ⟨B, 4, none⟩ = some (.int .i64 ol) := by rw [hx.cell]; rfl
  clear h hx
  go_enter Try.func63, Try.ntmps63
  go_wp2_with fail
  refine (seen_yes si st aw ro ol _ H.out).mono ?_
  rintro e w1 ⟨rfl, hb1⟩
  have HB := Lib.hid (hb1.alloc hb1.size (.cells #[.bool (Flags.has ol 0), .bool (Flags.has ol 1), .bool (Flags.has ol 2), .int .i64 (ol / 8)] 48))
  have HX1 := Lib.hid (HX.out.below hb1 HX.out.lt)
  have hlt1 := Nat.lt_of_lt_of_le HX.out.lt hb1.size
  have k1 : (w1.alloc (.cells #[.bool (Flags.has ol 0), .bool (Flags.has ol 1), .bool (Flags.has ol 2), .int .i64 (ol / 8)] 48)).cell? ⟨B, 1, none⟩ = some (.bool st) := by rw [(HX1.out.alloc _).cell]; rfl
  clear hb1
  obtain ⟨L, hL⟩ : ∃ L, Flags.has ol 0 = L := ⟨_, rfl⟩
  obtain ⟨K, hK⟩ : ∃ K, Flags.has ol 1 = K := ⟨_, rfl⟩
  rw [hL, hK] at hf
  rw [hL, hK] at HB k1 ⊢
  clear hL hK
  simp only [Bool.or_eq_false_iff, decide_eq_false_iff_not] at hf
  obtain ⟨rfl, rfl, hn⟩ := hf
  have hn0 : (ol / 8 == 0) = false := by simpa using hn
  have HN := Lib.hid hn
  clear hn
  by_cases h1 : ol / 8 = 1
  · have hn1 : (ol / 8 == 1) = true := by simpa using h1
    have H1 := Lib.hid h1
    clear h1
    cases st
    all_goals
      go_wp2_with fail
      go_ret
      exact ⟨by simp [dOf, H1.out], HB.out⟩
  · have hn1 : (ol / 8 == 1) = false := by simpa using h1
    have H1 := Lib.hid h1
    clear h1
    cases st
    all_goals
      go_wp2_with fail
      go_ret
      exact ⟨by simp [dOf, H1.out], HB.out⟩
theorem handed1_broken (B : Nat) (si : Int) (st aw : Bool) (ro ol : Int) (w : World) (hx : Blk w B 42 (ownCells si st aw ro ol)) (h : right si ro ol = true) (hf : (Flags.has ol 0 || (Flags.has ol 1 || decide (ol / 8 = 0))) = true) :
    Calls Try.prog 63 #[.pointer (some ⟨B, 0, none⟩)] w fun e w' => e = gives 12 ∧ Below w.heap.size w w' := by
  have H := Lib.hid h
  have HX := Lib.hid hx
  have c0 : w.cell? ⟨B, 0, none⟩ = some (.int .i64 si) := by rw [hx.cell]; rfl
  have c1 : w.cell? ⟨B, 1, none⟩ = some (.bool st) := by rw [hx.cell]; rfl
  have c2 : w.cell? ⟨B, 2, none⟩ = some (.bool aw) := by rw [hx.cell]; rfl
  have c3 : w.cell? ⟨B, 3, none⟩ = some (.int .i64 ro) := by rw [hx.cell]; rfl
  have c4 : w.cell? ⟨B, 4, none⟩ = some (.int .i64 ol) := by rw [hx.cell]; rfl
  clear h hx
  go_enter Try.func63, Try.ntmps63
  go_wp2_with fail
  refine (seen_yes si st aw ro ol _ H.out).mono ?_
  rintro e w1 ⟨rfl, hb1⟩
  have HB := Lib.hid (hb1.alloc hb1.size (.cells #[.bool (Flags.has ol 0), .bool (Flags.has ol 1), .bool (Flags.has ol 2), .int .i64 (ol / 8)] 48))
  have HX1 := Lib.hid (HX.out.below hb1 HX.out.lt)
  have hlt1 := Nat.lt_of_lt_of_le HX.out.lt hb1.size
  have k1 : (w1.alloc (.cells #[.bool (Flags.has ol 0), .bool (Flags.has ol 1), .bool (Flags.has ol 2), .int .i64 (ol / 8)] 48)).cell? ⟨B, 1, none⟩ = some (.bool st) := by rw [(HX1.out.alloc _).cell]; rfl
  clear hb1
  obtain ⟨L, hL⟩ : ∃ L, Flags.has ol 0 = L := ⟨_, rfl⟩
  obtain ⟨K, hK⟩ : ∃ K, Flags.has ol 1 = K := ⟨_, rfl⟩
  rw [hL, hK] at hf
  rw [hL, hK] at HB k1 ⊢
  clear hL hK
  by_cases hn : ol / 8 = 0
  · have hn0 : (ol / 8 == 0) = true := by simpa using hn
    clear hn hf
    cases L <;> cases K
    all_goals
      go_wp2_with fail
      refine (must_bad 12 rfl _).mono ?_
      rintro e w2 ⟨rfl, rfl⟩
      unfold gives
      go_wp2_with fail
      exact ⟨rfl, rfl, HB.out⟩
  · have hn0 : (ol / 8 == 0) = false := by simpa using hn
    rw [decide_eq_false hn, Bool.or_false] at hf
    clear hn
    cases L <;> cases K
    · cases hf
    all_goals
      clear hf
      go_wp2_with fail
      refine (must_bad 12 rfl _).mono ?_
      rintro e w2 ⟨rfl, rfl⟩
      unfold gives
      go_wp2_with fail
      exact ⟨rfl, rfl, HB.out⟩
theorem handed_yes (si : Int) (st aw : Bool) (ro ol : Int) (w : World) (h : right si ro ol = true) (hf : (Flags.has ol 0 || (Flags.has ol 1 || decide (ol / 8 = 0))) = false) :
    Calls Try.prog 31 #[.agg (ownCells si st aw ro ol)] w fun e w' => e = .returned (.tuple #[.int .i64 (dOf st (ol / 8)), .int .i64 0]) ∧ Below w.heap.size w w' := by
  have hmf : ∀ (fn : Fn) (first cap : Array Value) (w : World), (Instr.makeFunc fn first cap).run Try.prog w = .ok (.func fn first cap) w := fun _ _ _ _ => rfl
  have H := Lib.hid h
  have hx := Blk.new w 42 (ownCells si st aw ro ol)
  have hb0 := (Below.refl w.heap.size w).alloc (Nat.le_refl _) (.cells (ownCells si st aw ro ol) 42)
  have HX := Lib.hid hx
  have HB0 := Lib.hid hb0
  clear h hx hb0
  unfold ownCells
  go_enter Try.func31, Try.ntmps31
  go_wp2_with fail
  refine (told_int 63 _ (dOf st (ol / 8)) _ (fun w1 => by simp [go_sem]) (fun w1 hb => handed1_yes w.heap.size si st aw ro ol w1 (HX.out.below hb HX.out.lt) H.out hf)).mono ?_
  rintro e w1 ⟨rfl, hb1⟩
  have HE := Lib.hid (bthen HB0.out (hb1.mono (Nat.le_refl _)))
  clear hb1
  go_wp2_with fail
  go_ret2
  exact ⟨rfl, HE.out⟩
theorem handed_no (si : Int) (st aw : Bool) (ro ol : Int) (w : World) (h : right si ro ol = false) :
    Calls Try.prog 31 #[.agg (ownCells si st aw ro ol)] w fun e w' => e = .returned (.tuple #[.int .i64 0, .int .i64 1]) ∧ Below w.heap.size w w' := by
  have hmf : ∀ (fn : Fn) (first cap : Array Value) (w : World), (Instr.makeFunc fn first cap).run Try.prog w = .ok (.func fn first cap) w := fun _ _ _ _ => rfl
  have H := Lib.hid h
  have hx := Blk.new w 42 (ownCells si st aw ro ol)
  have hb0 := (Below.refl w.heap.size w).alloc (Nat.le_refl _) (.cells (ownCells si st aw ro ol) 42)
  have HX := Lib.hid hx
  have HB0 := Lib.hid hb0
  clear h hx hb0
  unfold ownCells
  go_enter Try.func31, Try.ntmps31
  go_wp2_with fail
  refine (not_int 63 _ 1 _ (fun w1 => by simp [go_sem]) (fun w1 hb => handed1_no w.heap.size si st aw ro ol w1 (HX.out.below hb HX.out.lt) H.out)).mono ?_
  rintro e w1 ⟨rfl, hb1⟩
  have HE := Lib.hid (bthen HB0.out (hb1.mono (Nat.le_refl _)))
  clear hb1
  go_wp2_with fail
  go_ret2
  exact ⟨rfl, HE.out⟩
theorem handed_broken (si : Int) (st aw : Bool) (ro ol : Int) (w : World) (h : right si ro ol = true) (hf : (Flags.has ol 0 || (Flags.has ol 1 || decide (ol / 8 = 0))) = true) :
    Calls Try.prog 31 #[.agg (ownCells si st aw ro ol)] w fun e w' => e = .returned (.tuple #[.int .i64 0, .int .i64 12]) ∧ Below w.heap.size w w' := by
  have hmf : ∀ (fn : Fn) (first cap : Array Value) (w : World), (Instr.makeFunc fn first cap).run Try.prog w = .ok (.func fn first cap) w := fun _ _ _ _ => rfl
  have H := Lib.hid h
  have hx := Blk.new w 42 (ownCells si st aw ro ol)
  have hb0 := (Below.refl w.heap.size w).alloc (Nat.le_refl _) (.cells (ownCells si st aw ro ol) 42)
  have HX := Lib.hid hx
  have HB0 := Lib.hid hb0
  clear h hx hb0
  unfold ownCells
  go_enter Try.func31, Try.ntmps31
  go_wp2_with fail
  refine (not_int 63 _ 12 _ (fun w1 => by simp [go_sem]) (fun w1 hb => handed1_broken w.heap.size si st aw ro ol w1 (HX.out.below hb HX.out.lt) H.out hf)).mono ?_
  rintro e w1 ⟨rfl, hb1⟩
  have HE := Lib.hid (bthen HB0.out (hb1.mono (Nat.le_refl _)))
  clear hb1
  go_wp2_with fail
  go_ret2
  exact ⟨rfl, HE.out⟩
end Grab
end Go.Proofs.Ytkjhacbkgnjilaa
