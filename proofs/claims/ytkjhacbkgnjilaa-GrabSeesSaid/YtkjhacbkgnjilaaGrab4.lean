/-
  The contracts of package grab, part 4: Wants. Printed by gen_grab4.py.
-/
import Derived.Test.YtkjhacbkgnjilaaGrab3
namespace Go.Proofs.Ytkjhacbkgnjilaa
open Go.RowKit
namespace Flags
theorem pack_no (l k s : Bool) (n : Int) (h1 : 268435455 < n) (w : World) :
    Calls Try.prog 58 #[.agg #[.bool l, .bool k, .bool s, .int .i64 n]] w fun e w' => e = .returned (.tuple #[.int .i64 0, .int .i64 1]) ∧ Below w.heap.size w w' := by
  have d0 : decide (n < 0) = false := decide_eq_false (by omega)
  have d1 : decide (268435455 < n) = true := decide_eq_true h1
  have hb0 := (Below.refl w.heap.size w).alloc (Nat.le_refl _) (.cells #[.bool l, .bool k, .bool s, .int .i64 n] 48)
  have HB0 := Lib.hid hb0
  clear hb0
  go_enter Try.func58, Try.ntmps58
  go_wp2_with fail
  go_ret2
  exact ⟨rfl, HB0.out⟩
end Flags
namespace Grab
/-- One who waits more, where it is locked or starving. -/
def more (ol : Int) : Int := if (Flags.has ol 0 || Flags.has ol 2) = true then ol / 8 + 1 else ol / 8
def wants (st aw : Bool) (ol : Int) : Int := Flags.word (Flags.has ol 0 || !Flags.has ol 2) (Flags.has ol 1 && !aw) (Flags.has ol 2 || (st && Flags.has ol 0)) (more ol)
theorem wants1_no (B : Nat) (si : Int) (st aw : Bool) (ro ol : Int) (w : World) (hx : Blk w B 42 (ownCells si st aw ro ol)) (h : right si ro ol = false) :
    Calls Try.prog 55 #[.pointer (some ⟨B, 0, none⟩)] w fun e w' => e = gives 1 ∧ Below w.heap.size w w' := by
  have H := Lib.hid h
  have c0 : w.cell? ⟨B, 0, none⟩ = some (.int .i64 si) := by rw [hx.cell]; rfl
  have c1 : w.cell? ⟨B, 1, none⟩ = some (.bool st) := by rw [hx.cell]; rfl
  have c2 : w.cell? ⟨B, 2, none⟩ = some (.bool aw) := by rw [hx.cell]; rfl
  have c3 : w.cell? ⟨B, 3, none⟩ = some (.int .i64 ro) := by rw [hx.cell]; rfl
  have c4 : w.cell? ⟨B, 4, none⟩ = some (.int .i64 ol) := by rw [hx.cell]; rfl
  clear h hx
  go_enter Try.func55, Try.ntmps55
  go_wp2_with fail
  refine (seen_no si st aw ro ol _ H.out).mono ?_
  rintro e w1 ⟨rfl, hb1⟩
  have HB := Lib.hid hb1
  clear hb1
  unfold gives
  go_wp2_with fail
  exact ⟨rfl, rfl, HB.out⟩
set_option maxHeartbeats 4000000 in
theorem wants1_broken (B : Nat) (si : Int) (st aw : Bool) (ro ol : Int) (w : World) (hx : Blk w B 42 (ownCells si st aw ro ol)) (h : right si ro ol = true) (ha : aw = true) (hk : Flags.has ol 1 = false) :
    Calls Try.prog 55 #[.pointer (some ⟨B, 0, none⟩)] w fun e w' => e = gives 12 ∧ Below w.heap.size w w' := by
  have H := Lib.hid h
  have HX := Lib.hid hx
  have c0 : w.cell? ⟨B, 0, none⟩ = some (.int .i64 si) := by rw [hx.cell]; rfl
  have c1 : w.cell? ⟨B, 1, none⟩ = some (.bool st) := by rw [hx.cell]; rfl
  have c2 : w.cell? ⟨B, 2, none⟩ = some (.bool aw) := by rw [hx.cell]; rfl
  have c3 : w.cell? ⟨B, 3, none⟩ = some (.int .i64 ro) := by rw [hx.cell]; rfl
  have c4 : w.cell? ⟨B, 4, none⟩ = some (.int .i64 ol) := by rw [hx.cell]; rfl
  have hw := right_word h
  have HK := Lib.hid hk
  have HA := Lib.hid ha
  clear hk ha
  clear h hx
  go_enter Try.func55, Try.ntmps55
  go_wp2_with fail
  refine (seen_yes si st aw ro ol _ H.out).mono ?_
  rintro e w1 ⟨rfl, hb1⟩
  have HB := Lib.hid (hb1.alloc hb1.size (.cells #[.bool (Flags.has ol 0), .bool (Flags.has ol 1), .bool (Flags.has ol 2), .int .i64 (ol / 8)] 48))
  have HX1 := Lib.hid (HX.out.below hb1 HX.out.lt)
  have hlt1 := Nat.lt_of_lt_of_le HX.out.lt hb1.size
  have k2 : ∀ c1 c2 : Array Value, ((w1.alloc (.cells c1 48)).alloc (.cells c2 48)).cell? ⟨B, 2, none⟩ = some (.bool aw) := fun c1 c2 => by rw [((HX1.out.alloc _).alloc _).cell]; rfl
  have k1 : ∀ c1 c2 c3 : Array Value, (((w1.alloc (.cells c1 48)).alloc (.cells c2 48)).alloc (.cells c3 48)).cell? ⟨B, 1, none⟩ = some (.bool st) := fun c1 c2 c3 => by rw [(((HX1.out.alloc _).alloc _).alloc _).cell]; rfl
  have HB1 := Lib.hid (fun (c1 c2 : Array Value) => (hb1.alloc hb1.size (.cells c1 48)).alloc (by have := hb1.size; simp; omega) (.cells c2 48))
  have HB2 := Lib.hid (fun (c1 c2 c3 : Array Value) => (HB1.out c1 c2).alloc (by have := hb1.size; simp; omega) (.cells c3 48))
  have nq := fun a b c a' b' c' n m w => flags_neq a b c a' b' c' n m w
  have gq := fun x y a b c a' b' c' n m w => flags_guard .neq x y a b c a' b' c' n m w
  clear hb1 HB
  obtain ⟨L, hL⟩ : ∃ L, Flags.has ol 0 = L := ⟨_, rfl⟩
  obtain ⟨K, hK⟩ : ∃ K, Flags.has ol 1 = K := ⟨_, rfl⟩
  obtain ⟨S, hS⟩ : ∃ S, Flags.has ol 2 = S := ⟨_, rfl⟩
  obtain ⟨n, hn⟩ : ∃ n, ol / 8 = n := ⟨_, rfl⟩
  have hn0 : 0 ≤ n := by omega
  obtain rfl : K = false := hK.symm.trans HK.out
  have ha := HA.out
  subst ha
  rw [hL, hK, hS, hn]
  clear hL hK hS hn k1
  go_wp2_with fail
  refine (must_bad 12 rfl _).mono ?_
  rintro e w2 ⟨rfl, rfl⟩
  unfold gives
  go_wp2_with fail
  exact ⟨rfl, rfl, HB1.out _ _⟩
set_option maxHeartbeats 8000000 in
theorem wants1_yes (B : Nat) (si : Int) (st aw : Bool) (ro ol : Int) (w : World) (hx : Blk w B 42 (ownCells si st aw ro ol)) (h : right si ro ol = true) (ha : (aw && !Flags.has ol 1) = false) (hm : more ol ≤ 268435455) :
    Calls Try.prog 55 #[.pointer (some ⟨B, 0, none⟩)] w fun e w' => e = .returned (.int .i64 (wants st aw ol)) ∧ Below w.heap.size w w' := by
  have H := Lib.hid h
  have HX := Lib.hid hx
  have c0 : w.cell? ⟨B, 0, none⟩ = some (.int .i64 si) := by rw [hx.cell]; rfl
  have c1 : w.cell? ⟨B, 1, none⟩ = some (.bool st) := by rw [hx.cell]; rfl
  have c2 : w.cell? ⟨B, 2, none⟩ = some (.bool aw) := by rw [hx.cell]; rfl
  have c3 : w.cell? ⟨B, 3, none⟩ = some (.int .i64 ro) := by rw [hx.cell]; rfl
  have c4 : w.cell? ⟨B, 4, none⟩ = some (.int .i64 ol) := by rw [hx.cell]; rfl
  have hw := right_word h
  clear h hx
  go_enter Try.func55, Try.ntmps55
  go_wp2_with fail
  refine (seen_yes si st aw ro ol _ H.out).mono ?_
  rintro e w1 ⟨rfl, hb1⟩
  have HB := Lib.hid (hb1.alloc hb1.size (.cells #[.bool (Flags.has ol 0), .bool (Flags.has ol 1), .bool (Flags.has ol 2), .int .i64 (ol / 8)] 48))
  have HX1 := Lib.hid (HX.out.below hb1 HX.out.lt)
  have hlt1 := Nat.lt_of_lt_of_le HX.out.lt hb1.size
  have k2 : ∀ c1 c2 : Array Value, ((w1.alloc (.cells c1 48)).alloc (.cells c2 48)).cell? ⟨B, 2, none⟩ = some (.bool aw) := fun c1 c2 => by rw [((HX1.out.alloc _).alloc _).cell]; rfl
  have k1 : ∀ c1 c2 c3 : Array Value, (((w1.alloc (.cells c1 48)).alloc (.cells c2 48)).alloc (.cells c3 48)).cell? ⟨B, 1, none⟩ = some (.bool st) := fun c1 c2 c3 => by rw [(((HX1.out.alloc _).alloc _).alloc _).cell]; rfl
  have HB1 := Lib.hid (fun (c1 c2 : Array Value) => (hb1.alloc hb1.size (.cells c1 48)).alloc (by have := hb1.size; simp; omega) (.cells c2 48))
  have HB2 := Lib.hid (fun (c1 c2 c3 : Array Value) => (HB1.out c1 c2).alloc (by have := hb1.size; simp; omega) (.cells c3 48))
  have nq := fun a b c a' b' c' n m w => flags_neq a b c a' b' c' n m w
  have gq := fun x y a b c a' b' c' n m w => flags_guard .neq x y a b c a' b' c' n m w
  clear hb1 HB
  obtain ⟨L, hL⟩ : ∃ L, Flags.has ol 0 = L := ⟨_, rfl⟩
  obtain ⟨K, hK⟩ : ∃ K, Flags.has ol 1 = K := ⟨_, rfl⟩
  obtain ⟨S, hS⟩ : ∃ S, Flags.has ol 2 = S := ⟨_, rfl⟩
  obtain ⟨n, hn⟩ : ∃ n, ol / 8 = n := ⟨_, rfl⟩
  have hn0 : 0 ≤ n := by omega
  have hres : wants st aw ol = Flags.word (L || !S) (K && !aw) (S || (st && L)) (if (L || S) = true then n + 1 else n) := by unfold wants more; rw [hL, hK, hS, hn]
  unfold more at hm
  rw [hL, hS, hn] at hm
  rw [hK] at ha
  have hn9 : n ≤ 268435455 := by omega
  rw [hL, hK, hS, hn]
  have HM := Lib.hid hm
  clear hm
  have HRES := Lib.hid hres
  clear hL hK hS hn hres
  cases aw
  · clear ha
    cases L <;> cases S <;> cases K <;> cases st
    all_goals
      go_wp2_with fail
      refine (Flags.pack_yes _ _ _ _ (by omega) (by first | omega | exact HM.out) _).mono ?_
      rintro e w2 ⟨rfl, hb2⟩
      have HE := Lib.hid ((HB2.out _ _ _).trans (hb2.mono (HB2.out _ _ _).size))
      clear hb2
      go_wp2_with fail
      go_ret
      exact ⟨by rw [HRES.out]; rfl, HE.out⟩
  · obtain rfl : K = true := by cases K with | true => rfl | false => cases ha
    clear ha
    cases L <;> cases S <;> cases st
    all_goals
      go_wp2_with fail
      refine (Flags.pack_yes _ _ _ _ (by omega) (by first | omega | exact HM.out) _).mono ?_
      rintro e w2 ⟨rfl, hb2⟩
      have HE := Lib.hid ((HB2.out _ _ _).trans (hb2.mono (HB2.out _ _ _).size))
      clear hb2
      go_wp2_with fail
      go_ret
      exact ⟨by rw [HRES.out]; rfl, HE.out⟩
set_option maxHeartbeats 8000000 in
theorem wants1_over (B : Nat) (si : Int) (st aw : Bool) (ro ol : Int) (w : World) (hx : Blk w B 42 (ownCells si st aw ro ol)) (h : right si ro ol = true) (ha : (aw && !Flags.has ol 1) = false) (hm : 268435455 < more ol) :
    Calls Try.prog 55 #[.pointer (some ⟨B, 0, none⟩)] w fun e w' => e = gives 10 ∧ Below w.heap.size w w' := by
  have H := Lib.hid h
  have HX := Lib.hid hx
  have c0 : w.cell? ⟨B, 0, none⟩ = some (.int .i64 si) := by rw [hx.cell]; rfl
  have c1 : w.cell? ⟨B, 1, none⟩ = some (.bool st) := by rw [hx.cell]; rfl
  have c2 : w.cell? ⟨B, 2, none⟩ = some (.bool aw) := by rw [hx.cell]; rfl
  have c3 : w.cell? ⟨B, 3, none⟩ = some (.int .i64 ro) := by rw [hx.cell]; rfl
  have c4 : w.cell? ⟨B, 4, none⟩ = some (.int .i64 ol) := by rw [hx.cell]; rfl
  have hw := right_word h
  clear h hx
  go_enter Try.func55, Try.ntmps55
  go_wp2_with fail
  refine (seen_yes si st aw ro ol _ H.out).mono ?_
  rintro e w1 ⟨rfl, hb1⟩
  have HB := Lib.hid (hb1.alloc hb1.size (.cells #[.bool (Flags.has ol 0), .bool (Flags.has ol 1), .bool (Flags.has ol 2), .int .i64 (ol / 8)] 48))
  have HX1 := Lib.hid (HX.out.below hb1 HX.out.lt)
  have hlt1 := Nat.lt_of_lt_of_le HX.out.lt hb1.size
  have k2 : ∀ c1 c2 : Array Value, ((w1.alloc (.cells c1 48)).alloc (.cells c2 48)).cell? ⟨B, 2, none⟩ = some (.bool aw) := fun c1 c2 => by rw [((HX1.out.alloc _).alloc _).cell]; rfl
  have k1 : ∀ c1 c2 c3 : Array Value, (((w1.alloc (.cells c1 48)).alloc (.cells c2 48)).alloc (.cells c3 48)).cell? ⟨B, 1, none⟩ = some (.bool st) := fun c1 c2 c3 => by rw [(((HX1.out.alloc _).alloc _).alloc _).cell]; rfl
  have HB1 := Lib.hid (fun (c1 c2 : Array Value) => (hb1.alloc hb1.size (.cells c1 48)).alloc (by have := hb1.size; simp; omega) (.cells c2 48))
  have HB2 := Lib.hid (fun (c1 c2 c3 : Array Value) => (HB1.out c1 c2).alloc (by have := hb1.size; simp; omega) (.cells c3 48))
  have nq := fun a b c a' b' c' n m w => flags_neq a b c a' b' c' n m w
  have gq := fun x y a b c a' b' c' n m w => flags_guard .neq x y a b c a' b' c' n m w
  clear hb1 HB
  obtain ⟨L, hL⟩ : ∃ L, Flags.has ol 0 = L := ⟨_, rfl⟩
  obtain ⟨K, hK⟩ : ∃ K, Flags.has ol 1 = K := ⟨_, rfl⟩
  obtain ⟨S, hS⟩ : ∃ S, Flags.has ol 2 = S := ⟨_, rfl⟩
  obtain ⟨n, hn⟩ : ∃ n, ol / 8 = n := ⟨_, rfl⟩
  have hn0 : 0 ≤ n := by omega
  unfold more at hm
  rw [hL, hS, hn] at hm
  rw [hK] at ha
  have hn9 : n ≤ 268435455 := by omega
  rw [hL, hK, hS, hn]
  have hLS : (L || S) = true := by
    cases h : (L || S) with
    | true => rfl
    | false => rw [h] at hm; simp at hm; omega
  rw [hLS, if_pos rfl] at hm
  have HLS := Lib.hid hLS
  clear hL hK hS hn hLS
  cases aw
  · clear ha
    cases L <;> cases S <;> cases K <;> cases st
    all_goals try (cases HLS.out; done)
    all_goals
      go_wp2_with fail
      refine (Flags.pack_no _ _ _ _ (by omega) _).mono ?_
      rintro e w2 ⟨rfl, hb2⟩
      have HE := Lib.hid ((HB2.out _ _ _).trans (hb2.mono (HB2.out _ _ _).size))
      clear hb2
      go_wp2_with fail
      refine (must_bad 10 rfl _).mono ?_
      rintro e w3 ⟨rfl, rfl⟩
      unfold gives
      go_wp2_with fail
      exact ⟨rfl, rfl, HE.out⟩
  · obtain rfl : K = true := by cases K with | true => rfl | false => cases ha
    clear ha
    cases L <;> cases S <;> cases st
    all_goals try (cases HLS.out; done)
    all_goals
      go_wp2_with fail
      refine (Flags.pack_no _ _ _ _ (by omega) _).mono ?_
      rintro e w2 ⟨rfl, hb2⟩
      have HE := Lib.hid ((HB2.out _ _ _).trans (hb2.mono (HB2.out _ _ _).size))
      clear hb2
      go_wp2_with fail
      refine (must_bad 10 rfl _).mono ?_
      rintro e w3 ⟨rfl, rfl⟩
      unfold gives
      go_wp2_with fail
      exact ⟨rfl, rfl, HE.out⟩
theorem wants_yes (si : Int) (st aw : Bool) (ro ol : Int) (w : World) (h : right si ro ol = true) (ha : (aw && !Flags.has ol 1) = false) (hm : more ol ≤ 268435455) :
    Calls Try.prog 27 #[.agg (ownCells si st aw ro ol)] w fun e w' => e = .returned (.tuple #[.int .i64 (wants st aw ol), .int .i64 0]) ∧ Below w.heap.size w w' := by
  have hmf : ∀ (fn : Fn) (first cap : Array Value) (w : World), (Instr.makeFunc fn first cap).run Try.prog w = .ok (.func fn first cap) w := fun _ _ _ _ => rfl
  have H := Lib.hid h
  have hx := Blk.new w 42 (ownCells si st aw ro ol)
  have hb0 := (Below.refl w.heap.size w).alloc (Nat.le_refl _) (.cells (ownCells si st aw ro ol) 42)
  have HX := Lib.hid hx
  have HB0 := Lib.hid hb0
  clear h hx hb0
  unfold ownCells
  go_enter Try.func27, Try.ntmps27
  go_wp2_with fail
  refine (told_int 55 _ (wants st aw ol) _ (fun w1 => by simp [go_sem]) (fun w1 hb => wants1_yes w.heap.size si st aw ro ol w1 (HX.out.below hb HX.out.lt) H.out ha hm)).mono ?_
  rintro e w1 ⟨rfl, hb1⟩
  have HE := Lib.hid (bthen HB0.out (hb1.mono (Nat.le_refl _)))
  clear hb1
  go_wp2_with fail
  go_ret2
  exact ⟨rfl, HE.out⟩
theorem wants_no (si : Int) (st aw : Bool) (ro ol : Int) (w : World) (h : right si ro ol = false) :
    Calls Try.prog 27 #[.agg (ownCells si st aw ro ol)] w fun e w' => e = .returned (.tuple #[.int .i64 0, .int .i64 1]) ∧ Below w.heap.size w w' := by
  have hmf : ∀ (fn : Fn) (first cap : Array Value) (w : World), (Instr.makeFunc fn first cap).run Try.prog w = .ok (.func fn first cap) w := fun _ _ _ _ => rfl
  have H := Lib.hid h
  have hx := Blk.new w 42 (ownCells si st aw ro ol)
  have hb0 := (Below.refl w.heap.size w).alloc (Nat.le_refl _) (.cells (ownCells si st aw ro ol) 42)
  have HX := Lib.hid hx
  have HB0 := Lib.hid hb0
  clear h hx hb0
  unfold ownCells
  go_enter Try.func27, Try.ntmps27
  go_wp2_with fail
  refine (not_int 55 _ 1 _ (fun w1 => by simp [go_sem]) (fun w1 hb => wants1_no w.heap.size si st aw ro ol w1 (HX.out.below hb HX.out.lt) H.out)).mono ?_
  rintro e w1 ⟨rfl, hb1⟩
  have HE := Lib.hid (bthen HB0.out (hb1.mono (Nat.le_refl _)))
  clear hb1
  go_wp2_with fail
  go_ret2
  exact ⟨rfl, HE.out⟩
theorem wants_broken (si : Int) (st aw : Bool) (ro ol : Int) (w : World) (h : right si ro ol = true) (ha : aw = true) (hk : Flags.has ol 1 = false) :
    Calls Try.prog 27 #[.agg (ownCells si st aw ro ol)] w fun e w' => e = .returned (.tuple #[.int .i64 0, .int .i64 12]) ∧ Below w.heap.size w w' := by
  have hmf : ∀ (fn : Fn) (first cap : Array Value) (w : World), (Instr.makeFunc fn first cap).run Try.prog w = .ok (.func fn first cap) w := fun _ _ _ _ => rfl
  have H := Lib.hid h
  have HA := Lib.hid ha
  have HK := Lib.hid hk
  clear ha hk
  have hx := Blk.new w 42 (ownCells si st aw ro ol)
  have hb0 := (Below.refl w.heap.size w).alloc (Nat.le_refl _) (.cells (ownCells si st aw ro ol) 42)
  have HX := Lib.hid hx
  have HB0 := Lib.hid hb0
  clear h hx hb0
  unfold ownCells
  go_enter Try.func27, Try.ntmps27
  go_wp2_with fail
  refine (not_int 55 _ 12 _ (fun w1 => by simp [go_sem]) (fun w1 hb => wants1_broken w.heap.size si st aw ro ol w1 (HX.out.below hb HX.out.lt) H.out HA.out HK.out)).mono ?_
  rintro e w1 ⟨rfl, hb1⟩
  have HE := Lib.hid (bthen HB0.out (hb1.mono (Nat.le_refl _)))
  clear hb1
  go_wp2_with fail
  go_ret2
  exact ⟨rfl, HE.out⟩
theorem wants_over (si : Int) (st aw : Bool) (ro ol : Int) (w : World) (h : right si ro ol = true) (ha : (aw && !Flags.has ol 1) = false) (hm : 268435455 < more ol) :
    Calls Try.prog 27 #[.agg (ownCells si st aw ro ol)] w fun e w' => e = .returned (.tuple #[.int .i64 0, .int .i64 10]) ∧ Below w.heap.size w w' := by
  have hmf : ∀ (fn : Fn) (first cap : Array Value) (w : World), (Instr.makeFunc fn first cap).run Try.prog w = .ok (.func fn first cap) w := fun _ _ _ _ => rfl
  have H := Lib.hid h
  have hx := Blk.new w 42 (ownCells si st aw ro ol)
  have hb0 := (Below.refl w.heap.size w).alloc (Nat.le_refl _) (.cells (ownCells si st aw ro ol) 42)
  have HX := Lib.hid hx
  have HB0 := Lib.hid hb0
  clear h hx hb0
  unfold ownCells
  go_enter Try.func27, Try.ntmps27
  go_wp2_with fail
  refine (not_int 55 _ 10 _ (fun w1 => by simp [go_sem]) (fun w1 hb => wants1_over w.heap.size si st aw ro ol w1 (HX.out.below hb HX.out.lt) H.out ha hm)).mono ?_
  rintro e w1 ⟨rfl, hb1⟩
  have HE := Lib.hid (bthen HB0.out (hb1.mono (Nat.le_refl _)))
  clear hb1
  go_wp2_with fail
  go_ret2
  exact ⟨rfl, HE.out⟩
end Grab
end Go.Proofs.Ytkjhacbkgnjilaa
