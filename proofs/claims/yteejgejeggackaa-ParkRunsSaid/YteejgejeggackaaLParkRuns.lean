/-
  The walk of ParkRuns (layer 11).
-/
import Derived.Test.YteejgejeggackaaLParkEither
import Derived.Test.YteejgejeggackaaPlace
import Derived.Test.YteejgejeggackaaMapTrue
namespace Go.Proofs.Yteejgejeggackaa
open Go.RowKit
namespace Park
theorem cell_at {w : World} {B n k : Nat} {ad : Addr} {gs : List G} {s : Int} {p : Bool} (h : Reads w B 2 (some ad) n (gs.flatMap cells)) (hk : k < n) (hg : gs[k]? = some (s, p)) :
    w.cell? (ad.add (k * 2)) = some (.int .i64 s) ∧ w.cell? ⟨(ad.add (k * 2)).block, (ad.add (k * 2)).off + 1, none⟩ = some (.bool p) := by
  obtain ⟨ad', s', p', hA, _, hg', h0, h1⟩ := at_ h hk
  obtain rfl := Option.some.inj hA
  rw [hg] at hg'
  obtain ⟨rfl, rfl⟩ : s = s' ∧ p = p' := by simpa using hg'
  exact ⟨h0, h1⟩
theorem laid {w : World} {size n : Nat} {A : Option Addr} {xs : List Value} (h : Reads w w.heap.size size A n xs) (o : Obj) : Reads (w.alloc o) (w.alloc o).heap.size size A n xs :=
  (h.alloc (Nat.le_refl _) o).more (by simp)
theorem runs_le {gs : List G} {n m : Nat} (hl : gs.length = n) (hm : (runs gs).length = m) : m ≤ n := by
  have := runsTo_len gs gs.length
  unfold runs at hm
  omega
end Park
namespace parkRuns
set_option maxRecDepth 100000 in
set_option maxHeartbeats 4000000 in
theorem bad (A : Option Addr) (n0 n c : Nat) (i : Int) (gs : List Park.G) (h : Park.right gs = false) (w : World) (hm : min n0 12 = n) (hn0 : n0 ≤ c) (hc : c ≤ maxLen) (hr : Reads w w.heap.size 2 A n (gs.flatMap Park.cells)) :
    Calls Try.prog 10 #[.slice A n0 c, .int .i64 i] w fun e w' => e = .returned (.bool true) ∧ Below w.heap.size w w' := by
  have hn : n ≤ maxLen := by unfold maxLen at hc ⊢; omega
  have hnl : n ≤ 12 := by omega
  have L_0 := Lib.hid hr
  clear hr
  go_enter Try.func10, Try.ntmps10
  go_wp2_with fail
  refine (Park.few_any A n0 c _ hn0 hc).mono ?_
  rintro e w' ⟨rfl, rfl⟩
  rw [hm]
  go_wp2_with fail
  refine (Park.runnable_no A n c gs _ L_0.out hn h).mono ?_
  rintro e w1 ⟨rfl, hb1⟩
  have L_1 := Lib.hid ((L_0.out.below hb1).more hb1.size)
  clear L_0
  have HC1 := Lib.hid hb1
  clear hb1
  go_wp2_with fail
  refine (Park.parkTop_arg A n c gs i _ L_1.out hn h).mono ?_
  rintro e w2 ⟨rfl, hb2⟩
  have L_2 := Lib.hid ((L_1.out.below hb2).more hb2.size)
  clear L_1
  have HC2 := Lib.hid (bthen HC1.out hb2)
  clear HC1
  clear hb2
  go_wp2_with fail
  refine (Park.readyTop_arg A n c gs i _ L_2.out hn h).mono ?_
  rintro e w3 ⟨rfl, hb3⟩
  have L_3 := Lib.hid ((L_2.out.below hb3).more hb3.size)
  clear L_2
  have HC3 := Lib.hid (bthen HC2.out hb3)
  clear HC2
  clear hb3
  go_wp2_with fail
  refine (Park.alive_any _).mono ?_
  rintro e w4 ⟨rfl, hb4⟩
  have L_4 := Lib.hid ((L_3.out.below hb4).more hb4.size)
  clear L_3
  have HC4 := Lib.hid (bthen HC3.out hb4)
  clear HC3
  clear hb4
  go_wp2_with fail
  all_goals go_ret
  all_goals exact ⟨rfl, HC4.out⟩

set_option maxRecDepth 100000 in
set_option maxHeartbeats 4000000 in
theorem range (A : Option Addr) (n0 n c : Nat) (i : Int) (gs : List Park.G) (h : Park.right gs = true) (hi : i < 0 ∨ n ≤ i) (w : World) (hm : min n0 12 = n) (hn0 : n0 ≤ c) (hc : c ≤ maxLen) (hr : Reads w w.heap.size 2 A n (gs.flatMap Park.cells)) :
    Calls Try.prog 10 #[.slice A n0 c, .int .i64 i] w fun e w' => e = .returned (.bool true) ∧ Below w.heap.size w w' := by
  have hn : n ≤ maxLen := by unfold maxLen at hc ⊢; omega
  have hnl : n ≤ 12 := by omega
  have L_0 := Lib.hid hr
  clear hr
  have hd : (i < 0) ∨ (¬ i < 0 ∧ (n : Int) ≤ i) := by omega
  rcases hd with hd | ⟨hd, hd2⟩
  all_goals
    go_enter Try.func10, Try.ntmps10
    go_wp2_with fail
    refine (Park.few_any A n0 c _ hn0 hc).mono ?_
    rintro e w' ⟨rfl, rfl⟩
    rw [hm]
    go_wp2_with fail
    refine (Park.runnable_yes A n c gs _ L_0.out h).mono ?_
    rintro e w1 ⟨a, m, c1, rfl, ha, hb1⟩
    have L_1 := Lib.hid ((L_0.out.below hb1).more hb1.size)
    clear L_0
    have HC1 := Lib.hid hb1
    have Ra_1 := Lib.hid ha
    have la := ha.int_len
    have HLa := Lib.hid la
    clear la hb1 ha
    go_wp2_with fail
    refine (Park.parkTop_range A n c gs i _ L_1.out hn h hi).mono ?_
    rintro e w2 ⟨rfl, hb2⟩
    have L_2 := Lib.hid ((L_1.out.below hb2).more hb2.size)
    clear L_1
    have Ra_2 := Lib.hid ((Ra_1.out.below hb2).more hb2.size)
    clear Ra_1
    have HC2 := Lib.hid (bthen HC1.out hb2)
    clear HC1
    clear hb2
    go_wp2_with fail
    refine (Park.readyTop_range A n c gs i _ L_2.out hn h hi).mono ?_
    rintro e w3 ⟨rfl, hb3⟩
    have L_3 := Lib.hid ((L_2.out.below hb3).more hb3.size)
    clear L_2
    have Ra_3 := Lib.hid ((Ra_2.out.below hb3).more hb3.size)
    clear Ra_2
    have HC3 := Lib.hid (bthen HC2.out hb3)
    clear HC2
    clear hb3
    go_wp2_with fail
    refine (Park.alive_any _).mono ?_
    rintro e w4 ⟨rfl, hb4⟩
    have L_4 := Lib.hid ((L_3.out.below hb4).more hb4.size)
    clear L_3
    have Ra_4 := Lib.hid ((Ra_3.out.below hb4).more hb4.size)
    clear Ra_3
    have HC4 := Lib.hid (bthen HC3.out hb4)
    clear HC3
    clear hb4
    go_wp2_with fail
    all_goals go_ret
    all_goals exact ⟨rfl, HC4.out⟩

set_option maxRecDepth 100000 in
set_option maxHeartbeats 4000000 in
theorem permit (A : Option Addr) (n0 n c : Nat) (gs : List Park.G) (k : Nat) (h : Park.right gs = true) (hk : k < n) (hg : gs[k]? = some (0, true)) (w : World) (hm : min n0 12 = n) (hn0 : n0 ≤ c) (hc : c ≤ maxLen) (hr : Reads w w.heap.size 2 A n (gs.flatMap Park.cells)) :
    Calls Try.prog 10 #[.slice A n0 c, .int .i64 k] w fun e w' => e = .returned (.bool true) ∧ Below w.heap.size w w' := by
  have hn : n ≤ maxLen := by unfold maxLen at hc ⊢; omega
  have hnl : n ≤ 12 := by omega
  have L_0 := Lib.hid hr
  clear hr
  have hl := Park.len_ L_0.out
  obtain ⟨ad, _, _, rfl, _⟩ := Park.at_ L_0.out hk
  have hdk : decide ((k : Int) < 0) = false := by simp
  have hdn : decide ((n : Int) ≤ k) = false := by simp; omega
  have HL := Lib.hid hl
  clear hl
  have HG := Lib.hid hg
  clear hg
  have hmm := @run_makeMap Try.prog
  have hm1 := MapTrue.ins
  have hm2 := MapTrue.look_true
  have hm3 := MapTrue.look_false
  go_enter Try.func10, Try.ntmps10
  go_wp2_with fail
  refine (Park.few_any (some ad) n0 c _ hn0 hc).mono ?_
  rintro e w' ⟨rfl, rfl⟩
  rw [hm]
  go_wp2_with fail
  refine (Park.runnable_yes (some ad) n c gs _ L_0.out h).mono ?_
  rintro e w1 ⟨a, m, c1, rfl, ha, hb1⟩
  have L_1 := Lib.hid ((L_0.out.below hb1).more hb1.size)
  clear L_0
  have HC1 := Lib.hid hb1
  have Ra_1 := Lib.hid ha
  have la := ha.int_len
  have HLa := Lib.hid la
  clear la hb1 ha
  have bm := Park.runs_le HL.out HLa.out
  go_wp2_with fail
  refine (Park.parkTop_yes (some ad) n c k gs 0 true _ L_1.out h hk HG.out (by decide)).mono ?_
  rintro e w2 ⟨⟨b, rfl, hRB⟩, hb2⟩
  have L_2 := Lib.hid ((L_1.out.below hb2).more hb2.size)
  clear L_1
  have Ra_2 := Lib.hid ((Ra_1.out.below hb2).more hb2.size)
  clear Ra_1
  have HC2 := Lib.hid (bthen HC1.out hb2)
  clear HC1
  have RB_2 := Lib.hid hRB
  clear hRB
  clear hb2
  go_wp2_with fail
  refine (Park.readyTop_no (some ad) n c k gs 0 true _ L_2.out h hk HG.out (by decide)).mono ?_
  rintro e w3 ⟨rfl, hb3⟩
  have L_3 := Lib.hid ((L_2.out.below hb3).more hb3.size)
  clear L_2
  have Ra_3 := Lib.hid ((Ra_2.out.below hb3).more hb3.size)
  clear Ra_2
  have RB_3 := Lib.hid ((RB_2.out.below hb3).more hb3.size)
  clear RB_2
  have HC3 := Lib.hid (bthen HC2.out hb3)
  clear HC2
  clear hb3
  go_wp2_with fail
  refine (Park.runnable_yes (some b) n n (gs.set k (0, false)) _ RB_3.out (Park.right_set h (by decide))).mono ?_
  rintro e w4 ⟨e1, m1, c4, rfl, he1, hb4⟩
  have L_4 := Lib.hid ((L_3.out.below hb4).more hb4.size)
  clear L_3
  have Ra_4 := Lib.hid ((Ra_3.out.below hb4).more hb4.size)
  clear Ra_3
  have RB_4 := Lib.hid ((RB_3.out.below hb4).more hb4.size)
  clear RB_3
  have HC4 := Lib.hid (bthen HC3.out hb4)
  clear HC3
  have Re1_4 := Lib.hid he1
  have le1 := he1.int_len
  have HLe1 := Lib.hid le1
  clear le1 hb4 he1
  have qqe1 := Park.cell_at L_4.out hk HG.out
  obtain ⟨q0e1, q1e1⟩ := qqe1
  have hze1 := Park.runs_set gs k (0, true) (0, false) HG.out
  rw [HLe1.out, HLa.out] at hze1
  simp at hze1
  have bme1 := Park.runs_le (n := n) (by rw [List.length_set]; exact HL.out) HLe1.out
  have hte1 : ((m1 : Int) != (m : Int)) = false := by first | (simp; done) | (simp; omega)
  have HZe1 := Lib.hid hze1
  clear hze1
  go_wp2_with fail
  have L_5 := Lib.hid (Park.laid L_4.out (.map MapTrue.one 1))
  clear L_4
  have Ra_5 := Lib.hid (Park.laid Ra_4.out (.map MapTrue.one 1))
  clear Ra_4
  have RB_5 := Lib.hid (Park.laid RB_4.out (.map MapTrue.one 1))
  clear RB_4
  have Re1_5 := Lib.hid (Park.laid Re1_4.out (.map MapTrue.one 1))
  clear Re1_4
  have HC5 := Lib.hid (HC4.out.alloc HC4.out.size (.map MapTrue.one 1))
  clear HC4
  refine (Park.place_any e1 m1 c4 k (Park.runs (gs.set k (0, false))) _ Re1_5.out (by unfold maxLen; omega)).mono ?_
  rintro e w' ⟨⟨q, _, rfl, hq2⟩, rfl⟩
  rw [Park.mem_runs (Park.get_set HL.out hk)] at hq2
  simp at hq2
  have hq3 : decide (q < 0) = false := by first | (simp; done) | (simp; omega)
  have HQe1 := Lib.hid hq2
  clear hq2
  go_wp2_with fail
  clear hq3 hte1 q0e1 q1e1
  refine (Park.alive_any _).mono ?_
  rintro e w6 ⟨rfl, hb6⟩
  have L_6 := Lib.hid ((L_5.out.below hb6).more hb6.size)
  clear L_5
  have Ra_6 := Lib.hid ((Ra_5.out.below hb6).more hb6.size)
  clear Ra_5
  have RB_6 := Lib.hid ((RB_5.out.below hb6).more hb6.size)
  clear RB_5
  have Re1_6 := Lib.hid ((Re1_5.out.below hb6).more hb6.size)
  clear Re1_5
  have HC6 := Lib.hid (bthen HC5.out hb6)
  clear HC5
  clear hb6
  go_wp2_with fail
  all_goals go_ret
  all_goals exact ⟨rfl, HC6.out⟩

set_option maxRecDepth 100000 in
set_option maxHeartbeats 4000000 in
theorem done (A : Option Addr) (n0 n c : Nat) (gs : List Park.G) (k : Nat) (h : Park.right gs = true) (hk : k < n) (hg : gs[k]? = some (2, false)) (w : World) (hm : min n0 12 = n) (hn0 : n0 ≤ c) (hc : c ≤ maxLen) (hr : Reads w w.heap.size 2 A n (gs.flatMap Park.cells)) :
    Calls Try.prog 10 #[.slice A n0 c, .int .i64 k] w fun e w' => e = .returned (.bool true) ∧ Below w.heap.size w w' := by
  have hn : n ≤ maxLen := by unfold maxLen at hc ⊢; omega
  have hnl : n ≤ 12 := by omega
  have L_0 := Lib.hid hr
  clear hr
  have hl := Park.len_ L_0.out
  obtain ⟨ad, _, _, rfl, _⟩ := Park.at_ L_0.out hk
  have hdk : decide ((k : Int) < 0) = false := by simp
  have hdn : decide ((n : Int) ≤ k) = false := by simp; omega
  have HL := Lib.hid hl
  clear hl
  have HG := Lib.hid hg
  clear hg
  have hmm := @run_makeMap Try.prog
  have hm1 := MapTrue.ins
  have hm2 := MapTrue.look_true
  have hm3 := MapTrue.look_false
  go_enter Try.func10, Try.ntmps10
  go_wp2_with fail
  refine (Park.few_any (some ad) n0 c _ hn0 hc).mono ?_
  rintro e w' ⟨rfl, rfl⟩
  rw [hm]
  go_wp2_with fail
  refine (Park.runnable_yes (some ad) n c gs _ L_0.out h).mono ?_
  rintro e w1 ⟨a, m, c1, rfl, ha, hb1⟩
  have L_1 := Lib.hid ((L_0.out.below hb1).more hb1.size)
  clear L_0
  have HC1 := Lib.hid hb1
  have Ra_1 := Lib.hid ha
  have la := ha.int_len
  have HLa := Lib.hid la
  clear la hb1 ha
  have bm := Park.runs_le HL.out HLa.out
  go_wp2_with fail
  refine (Park.parkTop_no (some ad) n c k gs 2 false _ L_1.out h hk HG.out (by decide)).mono ?_
  rintro e w2 ⟨rfl, hb2⟩
  have L_2 := Lib.hid ((L_1.out.below hb2).more hb2.size)
  clear L_1
  have Ra_2 := Lib.hid ((Ra_1.out.below hb2).more hb2.size)
  clear Ra_1
  have HC2 := Lib.hid (bthen HC1.out hb2)
  clear HC1
  clear hb2
  go_wp2_with fail
  refine (Park.readyTop_no (some ad) n c k gs 2 false _ L_2.out h hk HG.out (by decide)).mono ?_
  rintro e w3 ⟨rfl, hb3⟩
  have L_3 := Lib.hid ((L_2.out.below hb3).more hb3.size)
  clear L_2
  have Ra_3 := Lib.hid ((Ra_2.out.below hb3).more hb3.size)
  clear Ra_2
  have HC3 := Lib.hid (bthen HC2.out hb3)
  clear HC2
  clear hb3
  go_wp2_with fail
  refine (Park.alive_any _).mono ?_
  rintro e w4 ⟨rfl, hb4⟩
  have L_4 := Lib.hid ((L_3.out.below hb4).more hb4.size)
  clear L_3
  have Ra_4 := Lib.hid ((Ra_3.out.below hb4).more hb4.size)
  clear Ra_3
  have HC4 := Lib.hid (bthen HC3.out hb4)
  clear HC3
  clear hb4
  go_wp2_with fail
  all_goals go_ret
  all_goals exact ⟨rfl, HC4.out⟩

set_option maxRecDepth 100000 in
set_option maxHeartbeats 4000000 in
theorem parked (A : Option Addr) (n0 n c : Nat) (gs : List Park.G) (k : Nat) (h : Park.right gs = true) (hk : k < n) (hg : gs[k]? = some (1, false)) (w : World) (hm : min n0 12 = n) (hn0 : n0 ≤ c) (hc : c ≤ maxLen) (hr : Reads w w.heap.size 2 A n (gs.flatMap Park.cells)) :
    Calls Try.prog 10 #[.slice A n0 c, .int .i64 k] w fun e w' => e = .returned (.bool true) ∧ Below w.heap.size w w' := by
  have hn : n ≤ maxLen := by unfold maxLen at hc ⊢; omega
  have hnl : n ≤ 12 := by omega
  have L_0 := Lib.hid hr
  clear hr
  have hl := Park.len_ L_0.out
  obtain ⟨ad, _, _, rfl, _⟩ := Park.at_ L_0.out hk
  have hdk : decide ((k : Int) < 0) = false := by simp
  have hdn : decide ((n : Int) ≤ k) = false := by simp; omega
  have HL := Lib.hid hl
  clear hl
  have HG := Lib.hid hg
  clear hg
  have hmm := @run_makeMap Try.prog
  have hm1 := MapTrue.ins
  have hm2 := MapTrue.look_true
  have hm3 := MapTrue.look_false
  go_enter Try.func10, Try.ntmps10
  go_wp2_with fail
  refine (Park.few_any (some ad) n0 c _ hn0 hc).mono ?_
  rintro e w' ⟨rfl, rfl⟩
  rw [hm]
  go_wp2_with fail
  refine (Park.runnable_yes (some ad) n c gs _ L_0.out h).mono ?_
  rintro e w1 ⟨a, m, c1, rfl, ha, hb1⟩
  have L_1 := Lib.hid ((L_0.out.below hb1).more hb1.size)
  clear L_0
  have HC1 := Lib.hid hb1
  have Ra_1 := Lib.hid ha
  have la := ha.int_len
  have HLa := Lib.hid la
  clear la hb1 ha
  have bm := Park.runs_le HL.out HLa.out
  go_wp2_with fail
  refine (Park.parkTop_no (some ad) n c k gs 1 false _ L_1.out h hk HG.out (by decide)).mono ?_
  rintro e w2 ⟨rfl, hb2⟩
  have L_2 := Lib.hid ((L_1.out.below hb2).more hb2.size)
  clear L_1
  have Ra_2 := Lib.hid ((Ra_1.out.below hb2).more hb2.size)
  clear Ra_1
  have HC2 := Lib.hid (bthen HC1.out hb2)
  clear HC1
  clear hb2
  go_wp2_with fail
  refine (Park.readyTop_yes (some ad) n c k gs 1 false _ L_2.out h hk HG.out (by decide)).mono ?_
  rintro e w3 ⟨⟨d, rfl, hRD⟩, hb3⟩
  have L_3 := Lib.hid ((L_2.out.below hb3).more hb3.size)
  clear L_2
  have Ra_3 := Lib.hid ((Ra_2.out.below hb3).more hb3.size)
  clear Ra_2
  have HC3 := Lib.hid (bthen HC2.out hb3)
  clear HC2
  have RD_3 := Lib.hid hRD
  clear hRD
  clear hb3
  go_wp2_with fail
  refine (Park.runnable_yes (some d) n n (gs.set k (0, false)) _ RD_3.out (Park.right_set h (by decide))).mono ?_
  rintro e w4 ⟨e2, m2, c4, rfl, he2, hb4⟩
  have L_4 := Lib.hid ((L_3.out.below hb4).more hb4.size)
  clear L_3
  have Ra_4 := Lib.hid ((Ra_3.out.below hb4).more hb4.size)
  clear Ra_3
  have RD_4 := Lib.hid ((RD_3.out.below hb4).more hb4.size)
  clear RD_3
  have HC4 := Lib.hid (bthen HC3.out hb4)
  clear HC3
  have Re2_4 := Lib.hid he2
  have le2 := he2.int_len
  have HLe2 := Lib.hid le2
  clear le2 hb4 he2
  have qqe2 := Park.cell_at L_4.out hk HG.out
  obtain ⟨q0e2, q1e2⟩ := qqe2
  have hze2 := Park.runs_set gs k (1, false) (0, false) HG.out
  rw [HLe2.out, HLa.out] at hze2
  simp at hze2
  have bme2 := Park.runs_le (n := n) (by rw [List.length_set]; exact HL.out) HLe2.out
  have hte2 : ((m2 : Int) != (m : Int) + 1) = false := by first | (simp; done) | (simp; omega)
  have HZe2 := Lib.hid hze2
  clear hze2
  go_wp2_with fail
  refine (Park.place_any e2 m2 c4 k (Park.runs (gs.set k (0, false))) _ Re2_4.out (by unfold maxLen; omega)).mono ?_
  rintro e w' ⟨⟨q, _, rfl, hq2⟩, rfl⟩
  rw [Park.mem_runs (Park.get_set HL.out hk)] at hq2
  simp at hq2
  have hq3 : decide (q < 0) = false := by first | (simp; done) | (simp; omega)
  have HQe2 := Lib.hid hq2
  clear hq2
  have qme2 := Park.cell_at (Park.laid L_4.out (.map MapTrue.one 1)) hk HG.out
  obtain ⟨q2e2, q3e2⟩ := qme2
  go_wp2_with fail
  clear q2e2 q3e2
  have L_5 := Lib.hid (Park.laid L_4.out (.map MapTrue.one 1))
  clear L_4
  have Ra_5 := Lib.hid (Park.laid Ra_4.out (.map MapTrue.one 1))
  clear Ra_4
  have RD_5 := Lib.hid (Park.laid RD_4.out (.map MapTrue.one 1))
  clear RD_4
  have Re2_5 := Lib.hid (Park.laid Re2_4.out (.map MapTrue.one 1))
  clear Re2_4
  have HC5 := Lib.hid (HC4.out.alloc HC4.out.size (.map MapTrue.one 1))
  clear HC4
  clear hq3 hte2 q0e2 q1e2
  refine (Park.alive_any _).mono ?_
  rintro e w6 ⟨rfl, hb6⟩
  have L_6 := Lib.hid ((L_5.out.below hb6).more hb6.size)
  clear L_5
  have Ra_6 := Lib.hid ((Ra_5.out.below hb6).more hb6.size)
  clear Ra_5
  have RD_6 := Lib.hid ((RD_5.out.below hb6).more hb6.size)
  clear RD_5
  have Re2_6 := Lib.hid ((Re2_5.out.below hb6).more hb6.size)
  clear Re2_5
  have HC6 := Lib.hid (bthen HC5.out hb6)
  clear HC5
  clear hb6
  go_wp2_with fail
  all_goals go_ret
  all_goals exact ⟨rfl, HC6.out⟩

set_option maxRecDepth 100000 in
set_option maxHeartbeats 4000000 in
theorem run (A : Option Addr) (n0 n c : Nat) (gs : List Park.G) (k : Nat) (h : Park.right gs = true) (hk : k < n) (hg : gs[k]? = some (0, false)) (w : World) (hm : min n0 12 = n) (hn0 : n0 ≤ c) (hc : c ≤ maxLen) (hr : Reads w w.heap.size 2 A n (gs.flatMap Park.cells)) :
    Calls Try.prog 10 #[.slice A n0 c, .int .i64 k] w fun e w' => e = .returned (.bool true) ∧ Below w.heap.size w w' := by
  have hn : n ≤ maxLen := by unfold maxLen at hc ⊢; omega
  have hnl : n ≤ 12 := by omega
  have L_0 := Lib.hid hr
  clear hr
  have hl := Park.len_ L_0.out
  obtain ⟨ad, _, _, rfl, _⟩ := Park.at_ L_0.out hk
  have hdk : decide ((k : Int) < 0) = false := by simp
  have hdn : decide ((n : Int) ≤ k) = false := by simp; omega
  have HL := Lib.hid hl
  clear hl
  have HG := Lib.hid hg
  clear hg
  have hmm := @run_makeMap Try.prog
  have hm1 := MapTrue.ins
  have hm2 := MapTrue.look_true
  have hm3 := MapTrue.look_false
  go_enter Try.func10, Try.ntmps10
  go_wp2_with fail
  refine (Park.few_any (some ad) n0 c _ hn0 hc).mono ?_
  rintro e w' ⟨rfl, rfl⟩
  rw [hm]
  go_wp2_with fail
  refine (Park.runnable_yes (some ad) n c gs _ L_0.out h).mono ?_
  rintro e w1 ⟨a, m, c1, rfl, ha, hb1⟩
  have L_1 := Lib.hid ((L_0.out.below hb1).more hb1.size)
  clear L_0
  have HC1 := Lib.hid hb1
  have Ra_1 := Lib.hid ha
  have la := ha.int_len
  have HLa := Lib.hid la
  clear la hb1 ha
  have bm := Park.runs_le HL.out HLa.out
  go_wp2_with fail
  refine (Park.parkTop_yes (some ad) n c k gs 0 false _ L_1.out h hk HG.out (by decide)).mono ?_
  rintro e w2 ⟨⟨b, rfl, hRB⟩, hb2⟩
  have L_2 := Lib.hid ((L_1.out.below hb2).more hb2.size)
  clear L_1
  have Ra_2 := Lib.hid ((Ra_1.out.below hb2).more hb2.size)
  clear Ra_1
  have HC2 := Lib.hid (bthen HC1.out hb2)
  clear HC1
  have RB_2 := Lib.hid hRB
  clear hRB
  clear hb2
  go_wp2_with fail
  refine (Park.readyTop_yes (some ad) n c k gs 0 false _ L_2.out h hk HG.out (by decide)).mono ?_
  rintro e w3 ⟨⟨d, rfl, hRD⟩, hb3⟩
  have L_3 := Lib.hid ((L_2.out.below hb3).more hb3.size)
  clear L_2
  have Ra_3 := Lib.hid ((Ra_2.out.below hb3).more hb3.size)
  clear Ra_2
  have RB_3 := Lib.hid ((RB_2.out.below hb3).more hb3.size)
  clear RB_2
  have HC3 := Lib.hid (bthen HC2.out hb3)
  clear HC2
  have RD_3 := Lib.hid hRD
  clear hRD
  clear hb3
  go_wp2_with fail
  refine (Park.runnable_yes (some b) n n (gs.set k (1, false)) _ RB_3.out (Park.right_set h (by decide))).mono ?_
  rintro e w4 ⟨e1, m1, c4, rfl, he1, hb4⟩
  have L_4 := Lib.hid ((L_3.out.below hb4).more hb4.size)
  clear L_3
  have Ra_4 := Lib.hid ((Ra_3.out.below hb4).more hb4.size)
  clear Ra_3
  have RB_4 := Lib.hid ((RB_3.out.below hb4).more hb4.size)
  clear RB_3
  have RD_4 := Lib.hid ((RD_3.out.below hb4).more hb4.size)
  clear RD_3
  have HC4 := Lib.hid (bthen HC3.out hb4)
  clear HC3
  have Re1_4 := Lib.hid he1
  have le1 := he1.int_len
  have HLe1 := Lib.hid le1
  clear le1 hb4 he1
  have qqe1 := Park.cell_at L_4.out hk HG.out
  obtain ⟨q0e1, q1e1⟩ := qqe1
  have hze1 := Park.runs_set gs k (0, false) (1, false) HG.out
  rw [HLe1.out, HLa.out] at hze1
  simp at hze1
  have bme1 := Park.runs_le (n := n) (by rw [List.length_set]; exact HL.out) HLe1.out
  have hte1 : ((m1 : Int) != (m : Int) - 1) = false := by first | (simp; done) | (simp; omega)
  have HZe1 := Lib.hid hze1
  clear hze1
  go_wp2_with fail
  have L_5 := Lib.hid (Park.laid L_4.out (.map MapTrue.one 1))
  clear L_4
  have Ra_5 := Lib.hid (Park.laid Ra_4.out (.map MapTrue.one 1))
  clear Ra_4
  have RB_5 := Lib.hid (Park.laid RB_4.out (.map MapTrue.one 1))
  clear RB_4
  have RD_5 := Lib.hid (Park.laid RD_4.out (.map MapTrue.one 1))
  clear RD_4
  have Re1_5 := Lib.hid (Park.laid Re1_4.out (.map MapTrue.one 1))
  clear Re1_4
  have HC5 := Lib.hid (HC4.out.alloc HC4.out.size (.map MapTrue.one 1))
  clear HC4
  refine (Park.place_any e1 m1 c4 k (Park.runs (gs.set k (1, false))) _ Re1_5.out (by unfold maxLen; omega)).mono ?_
  rintro e w' ⟨⟨q, _, rfl, hq2⟩, rfl⟩
  rw [Park.mem_runs (Park.get_set HL.out hk)] at hq2
  simp at hq2
  have hq3 : decide (q < 0) = true := by first | (simp; done) | (simp; omega)
  have HQe1 := Lib.hid hq2
  clear hq2
  go_wp2_with fail
  clear hq3 hte1 q0e1 q1e1
  refine (Park.runnable_yes (some d) n n (gs.set k (0, true)) _ RD_5.out (Park.right_set h (by decide))).mono ?_
  rintro e w6 ⟨e2, m2, c6, rfl, he2, hb6⟩
  have L_6 := Lib.hid ((L_5.out.below hb6).more hb6.size)
  clear L_5
  have Ra_6 := Lib.hid ((Ra_5.out.below hb6).more hb6.size)
  clear Ra_5
  have RB_6 := Lib.hid ((RB_5.out.below hb6).more hb6.size)
  clear RB_5
  have RD_6 := Lib.hid ((RD_5.out.below hb6).more hb6.size)
  clear RD_5
  have Re1_6 := Lib.hid ((Re1_5.out.below hb6).more hb6.size)
  clear Re1_5
  have HC6 := Lib.hid (bthen HC5.out hb6)
  clear HC5
  have Re2_6 := Lib.hid he2
  have le2 := he2.int_len
  have HLe2 := Lib.hid le2
  clear le2 hb6 he2
  have qqe2 := Park.cell_at L_6.out hk HG.out
  obtain ⟨q0e2, q1e2⟩ := qqe2
  have hze2 := Park.runs_set gs k (0, false) (0, true) HG.out
  rw [HLe2.out, HLa.out] at hze2
  simp at hze2
  have bme2 := Park.runs_le (n := n) (by rw [List.length_set]; exact HL.out) HLe2.out
  have hte2 : ((m2 : Int) != (m : Int)) = false := by first | (simp; done) | (simp; omega)
  have HZe2 := Lib.hid hze2
  clear hze2
  go_wp2_with fail
  refine (Park.place_any e2 m2 c6 k (Park.runs (gs.set k (0, true))) _ Re2_6.out (by unfold maxLen; omega)).mono ?_
  rintro e w' ⟨⟨q, _, rfl, hq2⟩, rfl⟩
  rw [Park.mem_runs (Park.get_set HL.out hk)] at hq2
  simp at hq2
  have hq3 : decide (q < 0) = false := by first | (simp; done) | (simp; omega)
  have HQe2 := Lib.hid hq2
  clear hq2
  have qme2 := Park.cell_at (Park.laid L_6.out (.map MapTrue.one 1)) hk HG.out
  obtain ⟨q2e2, q3e2⟩ := qme2
  go_wp2_with fail
  clear q2e2 q3e2
  have L_7 := Lib.hid (Park.laid L_6.out (.map MapTrue.one 1))
  clear L_6
  have Ra_7 := Lib.hid (Park.laid Ra_6.out (.map MapTrue.one 1))
  clear Ra_6
  have RB_7 := Lib.hid (Park.laid RB_6.out (.map MapTrue.one 1))
  clear RB_6
  have RD_7 := Lib.hid (Park.laid RD_6.out (.map MapTrue.one 1))
  clear RD_6
  have Re1_7 := Lib.hid (Park.laid Re1_6.out (.map MapTrue.one 1))
  clear Re1_6
  have Re2_7 := Lib.hid (Park.laid Re2_6.out (.map MapTrue.one 1))
  clear Re2_6
  have HC7 := Lib.hid (HC6.out.alloc HC6.out.size (.map MapTrue.one 1))
  clear HC6
  clear hq3 hte2 q0e2 q1e2
  refine (Park.alive_any _).mono ?_
  rintro e w8 ⟨rfl, hb8⟩
  have L_8 := Lib.hid ((L_7.out.below hb8).more hb8.size)
  clear L_7
  have Ra_8 := Lib.hid ((Ra_7.out.below hb8).more hb8.size)
  clear Ra_7
  have RB_8 := Lib.hid ((RB_7.out.below hb8).more hb8.size)
  clear RB_7
  have RD_8 := Lib.hid ((RD_7.out.below hb8).more hb8.size)
  clear RD_7
  have Re1_8 := Lib.hid ((Re1_7.out.below hb8).more hb8.size)
  clear Re1_7
  have Re2_8 := Lib.hid ((Re2_7.out.below hb8).more hb8.size)
  clear Re2_7
  have HC8 := Lib.hid (bthen HC7.out hb8)
  clear HC7
  clear hb8
  go_wp2_with fail
  all_goals go_ret
  all_goals exact ⟨rfl, HC8.out⟩

theorem walk (A : Option Addr) (n c : Nat) (gs : List Park.G) (i : Int) (w : World) (_ : ∀ g ∈ gs, (Lit.int .i64 g.1).wf = true) (hr : Reads w w.heap.size 2 A n (gs.flatMap Park.cells)) (hc : n ≤ c ∧ c ≤ maxLen) (_ : (Lit.int .i64 i).wf = true) :
    Calls Try.prog 10 #[.slice A n c, .int .i64 i] w fun e w' => e = .returned (.bool true) ∧ Below w.heap.size w w' := by
  have hr' := Park.cells_take hr (Nat.min_le_left n 12)
  cases h : Park.right (gs.take (min n 12))
  · exact bad A n _ c i _ h w rfl hc.1 hc.2 hr'
  · by_cases hi : i < 0 ∨ ((min n 12 : Nat) : Int) ≤ i
    · exact range A n _ c i _ h hi w rfl hc.1 hc.2 hr'
    · obtain ⟨k, rfl⟩ := Int.eq_ofNat_of_zero_le (show 0 ≤ i by omega)
      have hk : k < min n 12 := by omega
      have hl := Park.len_ hr'
      obtain ⟨⟨s, p⟩, hg⟩ : ∃ g, (gs.take (min n 12))[k]? = some g := ⟨_, List.getElem?_eq_getElem (by omega)⟩
      rcases Park.valid h hg with ⟨rfl, rfl⟩ | ⟨rfl, rfl⟩ | ⟨rfl, rfl⟩ | ⟨rfl, rfl⟩
      · exact run A n _ c _ k h hk hg w rfl hc.1 hc.2 hr'
      · exact permit A n _ c _ k h hk hg w rfl hc.1 hc.2 hr'
      · exact parked A n _ c _ k h hk hg w rfl hc.1 hc.2 hr'
      · exact done A n _ c _ k h hk hg w rfl hc.1 hc.2 hr'
end parkRuns
end Go.Proofs.Yteejgejeggackaa
