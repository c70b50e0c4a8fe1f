/-
  The contracts of package grab, part 1: who gives up, what may be remembered, what was seen; whatever is told, or why not.
-/
import Derived.Test.YtkjhacbkgnjilaaFlags
import Derived.Test.YtkjhacbkgnjilaaWords2
import Derived.Test.YtkjhacbkgnjilaaClockB
import Derived.Defers
import Derived.Recover
import Derived.Deep.RegionHeld3
import Derived.Deep.QuietTactic
import Derived.BigQuiet
import Derived.RegionTactic
namespace Go.Proofs.Ytkjhacbkgnjilaa
open Go.RowKit
namespace Grab
/-- May it be remembered? -/
def right (since rounds old : Int) : Bool := Flags.isWord old && ((since == -1) || Clock.right since) && decide (0 ≤ rounds ∧ rounds ≤ 4)
def gives (n : Int) : Ending := .panicked [{ v := .iface 85 (.agg #[.int .i64 n]), recovered := false }]

theorem must_ok (w : World) : Calls Try.prog 57 #[.int .i64 0] w fun e w' => e = .returned (.tuple #[]) ∧ w = w' := by
  go_enter Try.func57, Try.ntmps57
  go_wp2
  go_end0
  exact ⟨rfl, rfl⟩
theorem must_bad (n : Int) (hn : (n != 0) = true) (w : World) : Calls Try.prog 57 #[.int .i64 n] w fun e w' => e = gives n ∧ w = w' := by
  go_enter Try.func57, Try.ntmps57
  go_wp2
  exact ⟨rfl, rfl, rfl⟩
theorem fresh_any (w : World) : Calls Try.prog 36 #[] w fun e w' => e = .returned (.agg #[.int .i64 (-1), .bool false, .bool false, .int .i64 0, .int .i64 0]) ∧ w.alloc (.cells #[.int .i64 (-1), .bool false, .bool false, .int .i64 0, .int .i64 0] 42) = w' := by
  go_enter Try.func36, Try.ntmps36
  go_wp2
  exact bodyPost_ret (v := .agg #[.int .i64 (-1), .bool false, .bool false, .int .i64 0, .int .i64 0]) (by simp [results, Try.results36, go_sem]) rfl ⟨rfl, rfl⟩
theorem idle_int (p q : Addr) (w : World) :
    CallsD Try.prog 79 #[.pointer (some p), .pointer (some q)] .returning w fun e u' w' => e = .returned (.tuple #[]) ∧ u' = .returning ∧ w' = w := by
  refine callsD_of_wpS Try.func79 rfl fun c₀ cs hu => ?_
  apply wpS_seq
  apply wpS_region
  simp [wpOpsS, go_sem, recoverD, hu, Try.ntmps79, Exit.thenS]
  apply wpS_seq
  apply wpS_region
  simp [wpOpsS, go_sem, Exit.thenS]
  refine wpS_cond (t := false) (by simp [Act.eval]) ?_
  simp only [Bool.false_eq_true, if_false]
  refine wpS_of_wp (wp_skip ?_)
  cases c₀
  simp_all [bodyPostS, results, Try.results79]
set_option maxRecDepth 100000 in
theorem catch_int (g : Nat) (x : Int) (y n : Int) (older : List PanicEntry) (w : World) (hp : Blk w g 3 #[.int .i64 x]) (hq : Blk w (g + 1) 33 #[.int .i64 y]) :
    CallsD Try.prog 79 #[.pointer (some ⟨g, 0, none⟩), .pointer (some ⟨g + 1, 0, none⟩)] (.panicking ({ v := .iface 85 (.agg #[.int .i64 n]), recovered := false } :: older)) w fun e u' w' =>
      e = .returned (.tuple #[]) ∧ u' = .panicking ({ v := .iface 85 (.agg #[.int .i64 n]), recovered := true } :: older) ∧ Blk w' g 3 #[.int .i64 0] ∧ Blk w' (g + 1) 33 #[.int .i64 n] ∧ Below g w w' := by
  have hta : ∀ w : World, (Instr.typeAssert (.iface 85 (.agg #[.int .i64 n])) 20 85 true).run Try.prog w = .ok (.tuple #[.agg #[.int .i64 n], .bool true]) w := fun _ => by kernel_rfl
  have hlt : g + 1 < w.heap.size := hq.lt
  have HP := Lib.hid hp
  have HQ := Lib.hid hq
  clear hp hq
  refine callsD_of_wpS Try.func79 rfl fun c₀ cs hu => ?_
  simp only [Try.ntmps79, List.size_toArray, List.length_cons, List.length_nil, Nat.reduceAdd, Nat.reduceSub, Array.replicate_succ, Array.replicate_zero, List.push_toArray, List.append_toArray, List.nil_append, List.cons_append]
  apply wpS_seq
  apply wpS_region
  simp [wpOpsS, go_sem, recoverD, hu, Exit.thenS]
  apply wpS_seq
  apply wpS_region
  simp [wpOpsS, go_sem, Exit.thenS]
  refine wpS_cond (t := true) (by simp [Act.eval]) ?_
  simp only [if_true]
  refine wpS_of_wp (Code.wp_mono (Q := fun e a' w' => e = .normal ∧ a'.defers = [] ∧ Blk w' g 3 #[.int .i64 0] ∧ Blk w' (g + 1) 33 #[.int .i64 n] ∧ Below g w w') ?_ ?_)
  · rintro e a' w' ⟨rfl, hd, h1, h2, h3⟩
    exact ⟨hd, _, rfl, .tuple #[], by simp [results, Try.results79], rfl, rfl, h1, h2, h3⟩
  · go_wp2
    have hP1 := HP.out.alloc (.cells #[.int .i64 n] 85)
    have hQ1 := HQ.out.alloc (.cells #[.int .i64 n] 85)
    have hR1 := Blk.new w 85 #[.int .i64 n]
    have hB1 : Below g w (w.alloc (.cells #[.int .i64 n] 85)) := (Below.refl _ _).alloc (by omega) _
    obtain ⟨W, hW⟩ : ∃ W, w.alloc (.cells #[.int .i64 n] 85) = W := ⟨_, rfl⟩
    rw [hW] at hP1 hQ1 hR1 hB1 ⊢
    have hp0' : W.cell? ⟨g, 0, none⟩ = some (.int .i64 x) := by rw [hP1.cell]; rfl
    have hq0' : W.cell? ⟨g + 1, 0, none⟩ = some (.int .i64 y) := by rw [hQ1.cell]; rfl
    have hr0 : W.cell? ⟨w.heap.size, 0, none⟩ = some (.int .i64 n) := by rw [hR1.cell]; rfl
    have hpz' : W.frozen? ⟨g, 0, none⟩ = false := hP1.frozen 0
    have hqz' : W.frozen? ⟨g + 1, 0, none⟩ = false := hQ1.frozen 0
    have hne2 : w.heap.size ≠ g := by omega
    have hne3 : w.heap.size ≠ g + 1 := by omega
    have hne4 : g ≠ g + 1 := by omega
    have HP1 := Lib.hid hP1
    have HQ1 := Lib.hid hQ1
    have HB1 := Lib.hid hB1
    clear hW hR1 hP1 hQ1 hB1
    go_region
    exact ⟨rfl, rfl, ((HP1.out.set_ 0 (.int .i64 0)).far hne4 _).drew, ((HQ1.out.far hne4.symm (p := ⟨g, 0, none⟩) (.int .i64 0)).set_ 0 (.int .i64 n)).drew, ((HB1.out.setCell (Nat.le_refl _) _).setCell (by simp) _).drew⟩
/-- What is told, where nobody gives up. -/
theorem told_int (K : Nat) (cap : Array Value) (b : Int) (w : World) (hK : ∀ w1, (callFunc K cap).run Try.prog w1 = .ok (.enter K cap) w1) (h : ∀ w1, Below w.heap.size w w1 → Calls Try.prog K cap w1 fun e w' => e = .returned (.int .i64 b) ∧ Below w1.heap.size w1 w') :
    Calls Try.prog 54 #[.func (.func K) #[] cap] w fun e w' => e = .returned (.tuple #[.int .i64 b, .int .i64 0]) ∧ Below w.heap.size w w' := by
  have hmf : ∀ (fn : Fn) (first cap : Array Value) (w : World), (Instr.makeFunc fn first cap).run Try.prog w = .ok (.func fn first cap) w := fun _ _ _ _ => rfl
  have HH := Lib.hid h
  clear h
  go_enter_defers Try.func54, Try.ntmps54
  go_wp2_with fail
  have hb0 : Below w.heap.size w ((w.alloc (.cells #[.int .i64 0] 3)).alloc (.cells #[.int .i64 0] 33)) := ((Below.refl _ _).alloc (Nat.le_refl _) _).alloc (by simp) _
  have hp := (Blk.new w 3 #[.int .i64 0]).alloc (.cells #[.int .i64 0] 33)
  have hq := Blk.new (w.alloc (.cells #[.int .i64 0] 3)) 33 #[.int .i64 0]
  rw [World.size_alloc] at hq
  obtain ⟨W, hW⟩ : ∃ W, (w.alloc (.cells #[.int .i64 0] 3)).alloc (.cells #[.int .i64 0] 33) = W := ⟨_, rfl⟩
  rw [hW] at hb0 hp hq ⊢
  clear hW
  have HB0 := Lib.hid hb0
  have HP := Lib.hid hp
  have HQ := Lib.hid hq
  clear hb0 hp hq
  refine (HH.out W HB0.out).mono ?_
  rintro e w1 ⟨rfl, hb1⟩
  have HP1 := Lib.hid (HP.out.below hb1 HP.out.lt)
  have HQ1 := Lib.hid (HQ.out.below hb1 HQ.out.lt)
  have HB1 := Lib.hid (bthen HB0.out (hb1.mono (Nat.le_refl _)))
  clear hb1
  have hp0 : w1.cell? ⟨w.heap.size, 0, none⟩ = some (.int .i64 0) := by rw [HP1.out.cell]; rfl
  have hq0 : w1.cell? ⟨w.heap.size + 1, 0, none⟩ = some (.int .i64 0) := by rw [HQ1.out.cell]; rfl
  have hpz : w1.frozen? ⟨w.heap.size, 0, none⟩ = false := HP1.out.frozen 0
  have hqz : w1.frozen? ⟨w.heap.size + 1, 0, none⟩ = false := HQ1.out.frozen 0
  have hne : w.heap.size ≠ w.heap.size + 1 := by omega
  go_wp2
  refine leaves_cons (f := 79) (args := #[.pointer (some ⟨w.heap.size, 0, none⟩), .pointer (some ⟨w.heap.size + 1, 0, none⟩)]) (by simp) (by simp [go_sem]) ?_
  refine (idle_int ⟨w.heap.size, 0, none⟩ ⟨w.heap.size + 1, 0, none⟩ _).mono ?_
  rintro e u' w'' ⟨rfl, rfl, rfl⟩
  have HB2 := Lib.hid ((HB1.out.setCell (p := ⟨w.heap.size, 0, none⟩) (Nat.le_refl _) (.int .i64 b)).setCell (p := ⟨w.heap.size + 1, 0, none⟩) (by simp) (.int .i64 0))
  simp [Leaves, settle, results, Try.results54, go_sem, hp0, hq0]
  exact HB2.out
/-- Why nothing is told, where somebody gives up. -/
theorem not_int (K : Nat) (cap : Array Value) (n : Int) (w : World) (hK : ∀ w1, (callFunc K cap).run Try.prog w1 = .ok (.enter K cap) w1) (h : ∀ w1, Below w.heap.size w w1 → Calls Try.prog K cap w1 fun e w' => e = gives n ∧ Below w1.heap.size w1 w') :
    Calls Try.prog 54 #[.func (.func K) #[] cap] w fun e w' => e = .returned (.tuple #[.int .i64 0, .int .i64 n]) ∧ Below w.heap.size w w' := by
  have hmf : ∀ (fn : Fn) (first cap : Array Value) (w : World), (Instr.makeFunc fn first cap).run Try.prog w = .ok (.func fn first cap) w := fun _ _ _ _ => rfl
  have HH := Lib.hid h
  clear h
  go_enter_defers Try.func54, Try.ntmps54
  go_wp2_with fail
  have hb0 : Below w.heap.size w ((w.alloc (.cells #[.int .i64 0] 3)).alloc (.cells #[.int .i64 0] 33)) := ((Below.refl _ _).alloc (Nat.le_refl _) _).alloc (by simp) _
  have hp := (Blk.new w 3 #[.int .i64 0]).alloc (.cells #[.int .i64 0] 33)
  have hq := Blk.new (w.alloc (.cells #[.int .i64 0] 3)) 33 #[.int .i64 0]
  rw [World.size_alloc] at hq
  obtain ⟨W, hW⟩ : ∃ W, (w.alloc (.cells #[.int .i64 0] 3)).alloc (.cells #[.int .i64 0] 33) = W := ⟨_, rfl⟩
  rw [hW] at hb0 hp hq ⊢
  clear hW
  have HB0 := Lib.hid hb0
  have HP := Lib.hid hp
  have HQ := Lib.hid hq
  clear hb0 hp hq
  refine (HH.out W HB0.out).mono ?_
  rintro e w1 ⟨rfl, hb1⟩
  have HP1 := Lib.hid (HP.out.below hb1 HP.out.lt)
  have HQ1 := Lib.hid (HQ.out.below hb1 HQ.out.lt)
  have HB1 := Lib.hid (bthen HB0.out (hb1.mono (Nat.le_refl _)))
  clear hb1
  unfold gives
  go_wp2
  refine leaves_cons (f := 79) (args := #[.pointer (some ⟨w.heap.size, 0, none⟩), .pointer (some ⟨w.heap.size + 1, 0, none⟩)]) (by simp) (by simp [go_sem]) ?_
  refine (catch_int w.heap.size 0 0 n [] _ HP1.out HQ1.out).mono ?_
  rintro e u' w'' ⟨rfl, rfl, h1, h2, h3⟩
  have HB2 := Lib.hid (HB1.out.trans h3)
  have hp0 : w''.cell? ⟨w.heap.size, 0, none⟩ = some (.int .i64 0) := by rw [h1.cell]; rfl
  have hq0 : w''.cell? ⟨w.heap.size + 1, 0, none⟩ = some (.int .i64 n) := by rw [h2.cell]; rfl
  simp [Leaves, settle, results, Try.results54, go_sem, hp0, hq0]
  exact HB2.out
theorem idle_bool (p q : Addr) (w : World) :
    CallsD Try.prog 80 #[.pointer (some p), .pointer (some q)] .returning w fun e u' w' => e = .returned (.tuple #[]) ∧ u' = .returning ∧ w' = w := by
  refine callsD_of_wpS Try.func80 rfl fun c₀ cs hu => ?_
  apply wpS_seq
  apply wpS_region
  simp [wpOpsS, go_sem, recoverD, hu, Try.ntmps80, Exit.thenS]
  apply wpS_seq
  apply wpS_region
  simp [wpOpsS, go_sem, Exit.thenS]
  refine wpS_cond (t := false) (by simp [Act.eval]) ?_
  simp only [Bool.false_eq_true, if_false]
  refine wpS_of_wp (wp_skip ?_)
  cases c₀
  simp_all [bodyPostS, results, Try.results80]
set_option maxRecDepth 100000 in
theorem catch_bool (g : Nat) (x : Bool) (y n : Int) (older : List PanicEntry) (w : World) (hp : Blk w g 4 #[.bool x]) (hq : Blk w (g + 1) 33 #[.int .i64 y]) :
    CallsD Try.prog 80 #[.pointer (some ⟨g, 0, none⟩), .pointer (some ⟨g + 1, 0, none⟩)] (.panicking ({ v := .iface 85 (.agg #[.int .i64 n]), recovered := false } :: older)) w fun e u' w' =>
      e = .returned (.tuple #[]) ∧ u' = .panicking ({ v := .iface 85 (.agg #[.int .i64 n]), recovered := true } :: older) ∧ Blk w' g 4 #[.bool false] ∧ Blk w' (g + 1) 33 #[.int .i64 n] ∧ Below g w w' := by
  have hta : ∀ w : World, (Instr.typeAssert (.iface 85 (.agg #[.int .i64 n])) 20 85 true).run Try.prog w = .ok (.tuple #[.agg #[.int .i64 n], .bool true]) w := fun _ => by kernel_rfl
  have hlt : g + 1 < w.heap.size := hq.lt
  have HP := Lib.hid hp
  have HQ := Lib.hid hq
  clear hp hq
  refine callsD_of_wpS Try.func80 rfl fun c₀ cs hu => ?_
  simp only [Try.ntmps80, List.size_toArray, List.length_cons, List.length_nil, Nat.reduceAdd, Nat.reduceSub, Array.replicate_succ, Array.replicate_zero, List.push_toArray, List.append_toArray, List.nil_append, List.cons_append]
  apply wpS_seq
  apply wpS_region
  simp [wpOpsS, go_sem, recoverD, hu, Exit.thenS]
  apply wpS_seq
  apply wpS_region
  simp [wpOpsS, go_sem, Exit.thenS]
  refine wpS_cond (t := true) (by simp [Act.eval]) ?_
  simp only [if_true]
  refine wpS_of_wp (Code.wp_mono (Q := fun e a' w' => e = .normal ∧ a'.defers = [] ∧ Blk w' g 4 #[.bool false] ∧ Blk w' (g + 1) 33 #[.int .i64 n] ∧ Below g w w') ?_ ?_)
  · rintro e a' w' ⟨rfl, hd, h1, h2, h3⟩
    exact ⟨hd, _, rfl, .tuple #[], by simp [results, Try.results80], rfl, rfl, h1, h2, h3⟩
  · go_wp2
    have hP1 := HP.out.alloc (.cells #[.int .i64 n] 85)
    have hQ1 := HQ.out.alloc (.cells #[.int .i64 n] 85)
    have hR1 := Blk.new w 85 #[.int .i64 n]
    have hB1 : Below g w (w.alloc (.cells #[.int .i64 n] 85)) := (Below.refl _ _).alloc (by omega) _
    obtain ⟨W, hW⟩ : ∃ W, w.alloc (.cells #[.int .i64 n] 85) = W := ⟨_, rfl⟩
    rw [hW] at hP1 hQ1 hR1 hB1 ⊢
    have hp0' : W.cell? ⟨g, 0, none⟩ = some (.bool x) := by rw [hP1.cell]; rfl
    have hq0' : W.cell? ⟨g + 1, 0, none⟩ = some (.int .i64 y) := by rw [hQ1.cell]; rfl
    have hr0 : W.cell? ⟨w.heap.size, 0, none⟩ = some (.int .i64 n) := by rw [hR1.cell]; rfl
    have hpz' : W.frozen? ⟨g, 0, none⟩ = false := hP1.frozen 0
    have hqz' : W.frozen? ⟨g + 1, 0, none⟩ = false := hQ1.frozen 0
    have hne2 : w.heap.size ≠ g := by omega
    have hne3 : w.heap.size ≠ g + 1 := by omega
    have hne4 : g ≠ g + 1 := by omega
    have HP1 := Lib.hid hP1
    have HQ1 := Lib.hid hQ1
    have HB1 := Lib.hid hB1
    clear hW hR1 hP1 hQ1 hB1
    go_region
    exact ⟨rfl, rfl, ((HP1.out.set_ 0 (.bool false)).far hne4 _).drew, ((HQ1.out.far hne4.symm (p := ⟨g, 0, none⟩) (.bool false)).set_ 0 (.int .i64 n)).drew, ((HB1.out.setCell (Nat.le_refl _) _).setCell (by simp) _).drew⟩
/-- What is told, where nobody gives up. -/
theorem told_bool (K : Nat) (cap : Array Value) (b : Bool) (w : World) (hK : ∀ w1, (callFunc K cap).run Try.prog w1 = .ok (.enter K cap) w1) (h : ∀ w1, Below w.heap.size w w1 → Calls Try.prog K cap w1 fun e w' => e = .returned (.bool b) ∧ Below w1.heap.size w1 w') :
    Calls Try.prog 59 #[.func (.func K) #[] cap] w fun e w' => e = .returned (.tuple #[.bool b, .int .i64 0]) ∧ Below w.heap.size w w' := by
  have hmf : ∀ (fn : Fn) (first cap : Array Value) (w : World), (Instr.makeFunc fn first cap).run Try.prog w = .ok (.func fn first cap) w := fun _ _ _ _ => rfl
  have HH := Lib.hid h
  clear h
  go_enter_defers Try.func59, Try.ntmps59
  go_wp2_with fail
  have hb0 : Below w.heap.size w ((w.alloc (.cells #[.bool false] 4)).alloc (.cells #[.int .i64 0] 33)) := ((Below.refl _ _).alloc (Nat.le_refl _) _).alloc (by simp) _
  have hp := (Blk.new w 4 #[.bool false]).alloc (.cells #[.int .i64 0] 33)
  have hq := Blk.new (w.alloc (.cells #[.bool false] 4)) 33 #[.int .i64 0]
  rw [World.size_alloc] at hq
  obtain ⟨W, hW⟩ : ∃ W, (w.alloc (.cells #[.bool false] 4)).alloc (.cells #[.int .i64 0] 33) = W := ⟨_, rfl⟩
  rw [hW] at hb0 hp hq ⊢
  clear hW
  have HB0 := Lib.hid hb0
  have HP := Lib.hid hp
  have HQ := Lib.hid hq
  clear hb0 hp hq
  refine (HH.out W HB0.out).mono ?_
  rintro e w1 ⟨rfl, hb1⟩
  have HP1 := Lib.hid (HP.out.below hb1 HP.out.lt)
  have HQ1 := Lib.hid (HQ.out.below hb1 HQ.out.lt)
  have HB1 := Lib.hid (bthen HB0.out (hb1.mono (Nat.le_refl _)))
  clear hb1
  have hp0 : w1.cell? ⟨w.heap.size, 0, none⟩ = some (.bool false) := by rw [HP1.out.cell]; rfl
  have hq0 : w1.cell? ⟨w.heap.size + 1, 0, none⟩ = some (.int .i64 0) := by rw [HQ1.out.cell]; rfl
  have hpz : w1.frozen? ⟨w.heap.size, 0, none⟩ = false := HP1.out.frozen 0
  have hqz : w1.frozen? ⟨w.heap.size + 1, 0, none⟩ = false := HQ1.out.frozen 0
  have hne : w.heap.size ≠ w.heap.size + 1 := by omega
  go_wp2
  refine leaves_cons (f := 80) (args := #[.pointer (some ⟨w.heap.size, 0, none⟩), .pointer (some ⟨w.heap.size + 1, 0, none⟩)]) (by simp) (by simp [go_sem]) ?_
  refine (idle_bool ⟨w.heap.size, 0, none⟩ ⟨w.heap.size + 1, 0, none⟩ _).mono ?_
  rintro e u' w'' ⟨rfl, rfl, rfl⟩
  have HB2 := Lib.hid ((HB1.out.setCell (p := ⟨w.heap.size, 0, none⟩) (Nat.le_refl _) (.bool b)).setCell (p := ⟨w.heap.size + 1, 0, none⟩) (by simp) (.int .i64 0))
  simp [Leaves, settle, results, Try.results59, go_sem, hp0, hq0]
  exact HB2.out
/-- Why nothing is told, where somebody gives up. -/
theorem not_bool (K : Nat) (cap : Array Value) (n : Int) (w : World) (hK : ∀ w1, (callFunc K cap).run Try.prog w1 = .ok (.enter K cap) w1) (h : ∀ w1, Below w.heap.size w w1 → Calls Try.prog K cap w1 fun e w' => e = gives n ∧ Below w1.heap.size w1 w') :
    Calls Try.prog 59 #[.func (.func K) #[] cap] w fun e w' => e = .returned (.tuple #[.bool false, .int .i64 n]) ∧ Below w.heap.size w w' := by
  have hmf : ∀ (fn : Fn) (first cap : Array Value) (w : World), (Instr.makeFunc fn first cap).run Try.prog w = .ok (.func fn first cap) w := fun _ _ _ _ => rfl
  have HH := Lib.hid h
  clear h
  go_enter_defers Try.func59, Try.ntmps59
  go_wp2_with fail
  have hb0 : Below w.heap.size w ((w.alloc (.cells #[.bool false] 4)).alloc (.cells #[.int .i64 0] 33)) := ((Below.refl _ _).alloc (Nat.le_refl _) _).alloc (by simp) _
  have hp := (Blk.new w 4 #[.bool false]).alloc (.cells #[.int .i64 0] 33)
  have hq := Blk.new (w.alloc (.cells #[.bool false] 4)) 33 #[.int .i64 0]
  rw [World.size_alloc] at hq
  obtain ⟨W, hW⟩ : ∃ W, (w.alloc (.cells #[.bool false] 4)).alloc (.cells #[.int .i64 0] 33) = W := ⟨_, rfl⟩
  rw [hW] at hb0 hp hq ⊢
  clear hW
  have HB0 := Lib.hid hb0
  have HP := Lib.hid hp
  have HQ := Lib.hid hq
  clear hb0 hp hq
  refine (HH.out W HB0.out).mono ?_
  rintro e w1 ⟨rfl, hb1⟩
  have HP1 := Lib.hid (HP.out.below hb1 HP.out.lt)
  have HQ1 := Lib.hid (HQ.out.below hb1 HQ.out.lt)
  have HB1 := Lib.hid (bthen HB0.out (hb1.mono (Nat.le_refl _)))
  clear hb1
  unfold gives
  go_wp2
  refine leaves_cons (f := 80) (args := #[.pointer (some ⟨w.heap.size, 0, none⟩), .pointer (some ⟨w.heap.size + 1, 0, none⟩)]) (by simp) (by simp [go_sem]) ?_
  refine (catch_bool w.heap.size false 0 n [] _ HP1.out HQ1.out).mono ?_
  rintro e u' w'' ⟨rfl, rfl, h1, h2, h3⟩
  have HB2 := Lib.hid (HB1.out.trans h3)
  have hp0 : w''.cell? ⟨w.heap.size, 0, none⟩ = some (.bool false) := by rw [h1.cell]; rfl
  have hq0 : w''.cell? ⟨w.heap.size + 1, 0, none⟩ = some (.int .i64 n) := by rw [h2.cell]; rfl
  simp [Leaves, settle, results, Try.results59, go_sem, hp0, hq0]
  exact HB2.out
end Grab
end Go.Proofs.Ytkjhacbkgnjilaa
