/-
  The walk of ParkEither (layer 11).
-/
import Derived.Test.YteejgejeggackaaParkAlive
import Derived.Test.YteejgejeggackaaParkEnd
namespace Go.Proofs.Yteejgejeggackaa
open Go.RowKit
namespace Park

theorem right_set {gs : List G} {k : Nat} {g : G} (h : right gs = true) (hg : odd g = false) : right (gs.set k g) = true := by
  unfold right at h ⊢
  simp only [Bool.and_eq_true, decide_eq_true_eq, List.all_eq_true, Bool.not_eq_true'] at h ⊢
  refine ⟨by rw [List.length_set]; exact h.1, fun x hx => ?_⟩
  rcases List.mem_or_eq_of_mem_set hx with hx | rfl
  · exact h.2 x hx
  · exact hg
theorem get_set {gs : List G} {k n : Nat} {g : G} (hl : gs.length = n) (hk : k < n) : (gs.set k g)[k]? = some g := by
  rw [List.getElem?_set_self (by omega)]
theorem set_back {gs : List G} {k : Nat} {g g' : G} (hg : gs[k]? = some g) : (gs.set k g').set k g = gs := by
  apply List.ext_getElem?
  intro i
  by_cases h : i = k
  · subst h
    have : i < gs.length := (List.getElem?_eq_some_iff.1 hg).1
    rw [List.getElem?_set_self (by simpa using this), hg]
  · rw [List.getElem?_set_ne (Ne.symm h), List.getElem?_set_ne (Ne.symm h)]
theorem valid {gs : List G} {k : Nat} {s : Int} {p : Bool} (h : right gs = true) (hg : gs[k]? = some (s, p)) : (s = 0 ∧ p = false) ∨ (s = 0 ∧ p = true) ∨ (s = 1 ∧ p = false) ∨ (s = 2 ∧ p = false) := by
  unfold right at h
  simp only [Bool.and_eq_true, decide_eq_true_eq, List.all_eq_true, Bool.not_eq_true'] at h
  have := h.2 _ (List.mem_of_getElem? hg)
  unfold odd at this
  cases p <;> simp at this ⊢ <;> omega
theorem cells_take {w : World} {B n k : Nat} {A : Option Addr} {gs : List G} (h : Reads w B 2 A n (gs.flatMap cells)) (hk : k ≤ n) : Reads w B 2 A k ((gs.take k).flatMap cells) := by
  have h1 := h.take_ hk
  have hl := len_ h
  have e : (gs.flatMap cells).take (k * 2) = (gs.take k).flatMap cells := by
    have : ∀ (l : List G) (k : Nat), (l.flatMap cells).take (k * 2) = (l.take k).flatMap cells := by
      intro l
      induction l with
      | nil => intro k; simp
      | cons y l ih =>
        intro k
        cases k with
        | zero => simp
        | succ k => rw [List.take_succ_cons, List.flatMap_cons, List.flatMap_cons, ← ih k, show (k + 1) * 2 = k * 2 + 1 + 1 by omega]; rfl
    exact this gs k
  rwa [e] at h1
end Park
namespace parkEither
set_option maxRecDepth 100000 in
set_option maxHeartbeats 2000000 in
theorem bad (A : Option Addr) (n0 n c : Nat) (i : Int) (gs : List Park.G) (h : Park.right gs = false) (w : World) (hm : min n0 12 = n) (hn0 : n0 ≤ c) (hc : c ≤ maxLen) (hr : Reads w w.heap.size 2 A n (gs.flatMap Park.cells)) :
    Calls Try.prog 9 #[.slice A n0 c, .int .i64 i] w fun e w' => e = .returned (.bool true) ∧ Below w.heap.size w w' := by
  have hn : n ≤ maxLen := by unfold maxLen at hc ⊢; omega
  have L_0 := Lib.hid hr
  clear hr
  go_enter Try.func9, Try.ntmps9
  go_wp2_with fail
  refine (Park.few_any A n0 c _ hn0 hc).mono ?_
  rintro e w' ⟨rfl, rfl⟩
  rw [hm]
  go_wp2_with fail
  refine (Park.parkTop_arg A n c gs i _ L_0.out hn h).mono ?_
  rintro e w1 ⟨rfl, hb1⟩
  have L_1 := Lib.hid ((L_0.out.below hb1).more hb1.size)
  clear L_0
  have HC1 := Lib.hid hb1
  clear hb1
  go_wp2_with fail
  refine (Park.readyTop_arg A n c gs i _ L_1.out hn h).mono ?_
  rintro e w2 ⟨rfl, hb2⟩
  have L_2 := Lib.hid ((L_1.out.below hb2).more hb2.size)
  clear L_1
  have HC2 := Lib.hid (bthen HC1.out hb2)
  clear HC1
  clear hb2
  go_wp2_with fail
  refine (Park.alive_any _).mono ?_
  rintro e w3 ⟨rfl, hb3⟩
  have L_3 := Lib.hid ((L_2.out.below hb3).more hb3.size)
  clear L_2
  have HC3 := Lib.hid (bthen HC2.out hb3)
  clear HC2
  clear hb3
  go_wp2_with fail
  all_goals go_ret
  all_goals exact ⟨rfl, HC3.out⟩

set_option maxRecDepth 100000 in
set_option maxHeartbeats 2000000 in
theorem range (A : Option Addr) (n0 n c : Nat) (i : Int) (gs : List Park.G) (h : Park.right gs = true) (hi : i < 0 ∨ n ≤ i) (w : World) (hm : min n0 12 = n) (hn0 : n0 ≤ c) (hc : c ≤ maxLen) (hr : Reads w w.heap.size 2 A n (gs.flatMap Park.cells)) :
    Calls Try.prog 9 #[.slice A n0 c, .int .i64 i] w fun e w' => e = .returned (.bool true) ∧ Below w.heap.size w w' := by
  have hn : n ≤ maxLen := by unfold maxLen at hc ⊢; omega
  have L_0 := Lib.hid hr
  clear hr
  go_enter Try.func9, Try.ntmps9
  go_wp2_with fail
  refine (Park.few_any A n0 c _ hn0 hc).mono ?_
  rintro e w' ⟨rfl, rfl⟩
  rw [hm]
  go_wp2_with fail
  refine (Park.parkTop_range A n c gs i _ L_0.out hn h hi).mono ?_
  rintro e w1 ⟨rfl, hb1⟩
  have L_1 := Lib.hid ((L_0.out.below hb1).more hb1.size)
  clear L_0
  have HC1 := Lib.hid hb1
  clear hb1
  go_wp2_with fail
  refine (Park.readyTop_range A n c gs i _ L_1.out hn h hi).mono ?_
  rintro e w2 ⟨rfl, hb2⟩
  have L_2 := Lib.hid ((L_1.out.below hb2).more hb2.size)
  clear L_1
  have HC2 := Lib.hid (bthen HC1.out hb2)
  clear HC1
  clear hb2
  go_wp2_with fail
  refine (Park.alive_any _).mono ?_
  rintro e w3 ⟨rfl, hb3⟩
  have L_3 := Lib.hid ((L_2.out.below hb3).more hb3.size)
  clear L_2
  have HC3 := Lib.hid (bthen HC2.out hb3)
  clear HC2
  clear hb3
  go_wp2_with fail
  all_goals go_ret
  all_goals exact ⟨rfl, HC3.out⟩

set_option maxRecDepth 100000 in
set_option maxHeartbeats 2000000 in
theorem permit (A : Option Addr) (n0 n c : Nat) (gs : List Park.G) (k : Nat) (h : Park.right gs = true) (hk : k < n) (hg : gs[k]? = some (0, true)) (w : World) (hm : min n0 12 = n) (hn0 : n0 ≤ c) (hc : c ≤ maxLen) (hr : Reads w w.heap.size 2 A n (gs.flatMap Park.cells)) :
    Calls Try.prog 9 #[.slice A n0 c, .int .i64 k] w fun e w' => e = .returned (.bool true) ∧ Below w.heap.size w w' := by
  have hn : n ≤ maxLen := by unfold maxLen at hc ⊢; omega
  have L_0 := Lib.hid hr
  clear hr
  have hl := Park.len_ L_0.out
  have HL := Lib.hid hl
  clear hl
  have HG := Lib.hid hg
  clear hg
  go_enter Try.func9, Try.ntmps9
  go_wp2_with fail
  refine (Park.few_any A n0 c _ hn0 hc).mono ?_
  rintro e w' ⟨rfl, rfl⟩
  rw [hm]
  go_wp2_with fail
  refine (Park.parkTop_yes A n c k gs 0 true _ L_0.out h hk HG.out (by decide)).mono ?_
  rintro e w1 ⟨⟨a, rfl, hRA⟩, hb1⟩
  have L_1 := Lib.hid ((L_0.out.below hb1).more hb1.size)
  clear L_0
  have HC1 := Lib.hid hb1
  have RA_1 := Lib.hid hRA
  clear hRA
  clear hb1
  go_wp2_with fail
  refine (Park.readyTop_no A n c k gs 0 true _ L_1.out h hk HG.out (by decide)).mono ?_
  rintro e w2 ⟨rfl, hb2⟩
  have L_2 := Lib.hid ((L_1.out.below hb2).more hb2.size)
  clear L_1
  have RA_2 := Lib.hid ((RA_1.out.below hb2).more hb2.size)
  clear RA_1
  have HC2 := Lib.hid (bthen HC1.out hb2)
  clear HC1
  clear hb2
  go_wp2_with fail
  refine (Park.alive_any _).mono ?_
  rintro e w3 ⟨rfl, hb3⟩
  have L_3 := Lib.hid ((L_2.out.below hb3).more hb3.size)
  clear L_2
  have RA_3 := Lib.hid ((RA_2.out.below hb3).more hb3.size)
  clear RA_2
  have HC3 := Lib.hid (bthen HC2.out hb3)
  clear HC2
  clear hb3
  go_wp2_with fail
  all_goals go_ret
  all_goals exact ⟨rfl, HC3.out⟩

set_option maxRecDepth 100000 in
set_option maxHeartbeats 2000000 in
theorem parked (A : Option Addr) (n0 n c : Nat) (gs : List Park.G) (k : Nat) (h : Park.right gs = true) (hk : k < n) (hg : gs[k]? = some (1, false)) (w : World) (hm : min n0 12 = n) (hn0 : n0 ≤ c) (hc : c ≤ maxLen) (hr : Reads w w.heap.size 2 A n (gs.flatMap Park.cells)) :
    Calls Try.prog 9 #[.slice A n0 c, .int .i64 k] w fun e w' => e = .returned (.bool true) ∧ Below w.heap.size w w' := by
  have hn : n ≤ maxLen := by unfold maxLen at hc ⊢; omega
  have L_0 := Lib.hid hr
  clear hr
  have hl := Park.len_ L_0.out
  have HL := Lib.hid hl
  clear hl
  have HG := Lib.hid hg
  clear hg
  go_enter Try.func9, Try.ntmps9
  go_wp2_with fail
  refine (Park.few_any A n0 c _ hn0 hc).mono ?_
  rintro e w' ⟨rfl, rfl⟩
  rw [hm]
  go_wp2_with fail
  refine (Park.parkTop_no A n c k gs 1 false _ L_0.out h hk HG.out (by decide)).mono ?_
  rintro e w1 ⟨rfl, hb1⟩
  have L_1 := Lib.hid ((L_0.out.below hb1).more hb1.size)
  clear L_0
  have HC1 := Lib.hid hb1
  clear hb1
  go_wp2_with fail
  refine (Park.readyTop_yes A n c k gs 1 false _ L_1.out h hk HG.out (by decide)).mono ?_
  rintro e w2 ⟨⟨b, rfl, hRB⟩, hb2⟩
  have L_2 := Lib.hid ((L_1.out.below hb2).more hb2.size)
  clear L_1
  have HC2 := Lib.hid (bthen HC1.out hb2)
  clear HC1
  have RB_2 := Lib.hid hRB
  clear hRB
  clear hb2
  go_wp2_with fail
  refine (Park.alive_any _).mono ?_
  rintro e w3 ⟨rfl, hb3⟩
  have L_3 := Lib.hid ((L_2.out.below hb3).more hb3.size)
  clear L_2
  have RB_3 := Lib.hid ((RB_2.out.below hb3).more hb3.size)
  clear RB_2
  have HC3 := Lib.hid (bthen HC2.out hb3)
  clear HC2
  clear hb3
  go_wp2_with fail
  all_goals go_ret
  all_goals exact ⟨rfl, HC3.out⟩

set_option maxRecDepth 100000 in
set_option maxHeartbeats 2000000 in
theorem done (A : Option Addr) (n0 n c : Nat) (gs : List Park.G) (k : Nat) (h : Park.right gs = true) (hk : k < n) (hg : gs[k]? = some (2, false)) (w : World) (hm : min n0 12 = n) (hn0 : n0 ≤ c) (hc : c ≤ maxLen) (hr : Reads w w.heap.size 2 A n (gs.flatMap Park.cells)) :
    Calls Try.prog 9 #[.slice A n0 c, .int .i64 k] w fun e w' => e = .returned (.bool true) ∧ Below w.heap.size w w' := by
  have hn : n ≤ maxLen := by unfold maxLen at hc ⊢; omega
  have L_0 := Lib.hid hr
  clear hr
  have hl := Park.len_ L_0.out
  have HL := Lib.hid hl
  clear hl
  have HG := Lib.hid hg
  clear hg
  go_enter Try.func9, Try.ntmps9
  go_wp2_with fail
  refine (Park.few_any A n0 c _ hn0 hc).mono ?_
  rintro e w' ⟨rfl, rfl⟩
  rw [hm]
  go_wp2_with fail
  refine (Park.parkTop_no A n c k gs 2 false _ L_0.out h hk HG.out (by decide)).mono ?_
  rintro e w1 ⟨rfl, hb1⟩
  have L_1 := Lib.hid ((L_0.out.below hb1).more hb1.size)
  clear L_0
  have HC1 := Lib.hid hb1
  clear hb1
  go_wp2_with fail
  refine (Park.readyTop_no A n c k gs 2 false _ L_1.out h hk HG.out (by decide)).mono ?_
  rintro e w2 ⟨rfl, hb2⟩
  have L_2 := Lib.hid ((L_1.out.below hb2).more hb2.size)
  clear L_1
  have HC2 := Lib.hid (bthen HC1.out hb2)
  clear HC1
  clear hb2
  go_wp2_with fail
  refine (Park.alive_any _).mono ?_
  rintro e w3 ⟨rfl, hb3⟩
  have L_3 := Lib.hid ((L_2.out.below hb3).more hb3.size)
  clear L_2
  have HC3 := Lib.hid (bthen HC2.out hb3)
  clear HC2
  clear hb3
  go_wp2_with fail
  all_goals go_ret
  all_goals exact ⟨rfl, HC3.out⟩

set_option maxRecDepth 100000 in
set_option maxHeartbeats 2000000 in
theorem run (A : Option Addr) (n0 n c : Nat) (gs : List Park.G) (k : Nat) (h : Park.right gs = true) (hk : k < n) (hg : gs[k]? = some (0, false)) (w : World) (hm : min n0 12 = n) (hn0 : n0 ≤ c) (hc : c ≤ maxLen) (hr : Reads w w.heap.size 2 A n (gs.flatMap Park.cells)) :
    Calls Try.prog 9 #[.slice A n0 c, .int .i64 k] w fun e w' => e = .returned (.bool true) ∧ Below w.heap.size w w' := by
  have hn : n ≤ maxLen := by unfold maxLen at hc ⊢; omega
  have L_0 := Lib.hid hr
  clear hr
  have hl := Park.len_ L_0.out
  have HL := Lib.hid hl
  clear hl
  have HG := Lib.hid hg
  clear hg
  go_enter Try.func9, Try.ntmps9
  go_wp2_with fail
  refine (Park.few_any A n0 c _ hn0 hc).mono ?_
  rintro e w' ⟨rfl, rfl⟩
  rw [hm]
  go_wp2_with fail
  refine (Park.parkTop_yes A n c k gs 0 false _ L_0.out h hk HG.out (by decide)).mono ?_
  rintro e w1 ⟨⟨a, rfl, hRA⟩, hb1⟩
  have L_1 := Lib.hid ((L_0.out.below hb1).more hb1.size)
  clear L_0
  have HC1 := Lib.hid hb1
  have RA_1 := Lib.hid hRA
  clear hRA
  clear hb1
  go_wp2_with fail
  refine (Park.readyTop_yes A n c k gs 0 false _ L_1.out h hk HG.out (by decide)).mono ?_
  rintro e w2 ⟨⟨b, rfl, hRB⟩, hb2⟩
  have L_2 := Lib.hid ((L_1.out.below hb2).more hb2.size)
  clear L_1
  have RA_2 := Lib.hid ((RA_1.out.below hb2).more hb2.size)
  clear RA_1
  have HC2 := Lib.hid (bthen HC1.out hb2)
  clear HC1
  have RB_2 := Lib.hid hRB
  clear hRB
  clear hb2
  go_wp2_with fail
  refine (Park.readyTop_yes (some a) n n k (gs.set k (1, false)) 1 false _ RA_2.out (Park.right_set h (by decide)) hk (Park.get_set HL.out hk) (by decide)).mono ?_
  rintro e w3 ⟨⟨c1, rfl, hRC⟩, hb3⟩
  have L_3 := Lib.hid ((L_2.out.below hb3).more hb3.size)
  clear L_2
  have RA_3 := Lib.hid ((RA_2.out.below hb3).more hb3.size)
  clear RA_2
  have RB_3 := Lib.hid ((RB_2.out.below hb3).more hb3.size)
  clear RB_2
  have HC3 := Lib.hid (bthen HC2.out hb3)
  clear HC2
  have RC_3 := Lib.hid hRC
  clear hRC
  clear hb3
  go_wp2_with fail
  refine (Park.parkTop_yes (some b) n n k (gs.set k (0, true)) 0 true _ RB_3.out (Park.right_set h (by decide)) hk (Park.get_set HL.out hk) (by decide)).mono ?_
  rintro e w4 ⟨⟨d, rfl, hRD⟩, hb4⟩
  have L_4 := Lib.hid ((L_3.out.below hb4).more hb4.size)
  clear L_3
  have RA_4 := Lib.hid ((RA_3.out.below hb4).more hb4.size)
  clear RA_3
  have RB_4 := Lib.hid ((RB_3.out.below hb4).more hb4.size)
  clear RB_3
  have RC_4 := Lib.hid ((RC_3.out.below hb4).more hb4.size)
  clear RC_3
  have HC4 := Lib.hid (bthen HC3.out hb4)
  clear HC3
  have RD_4 := Lib.hid hRD
  clear hRD
  clear hb4
  go_wp2_with fail
  refine (Park.endTop_yes A n c k gs 0 false _ L_4.out h hk HG.out (by decide)).mono ?_
  rintro e w5 ⟨⟨z, rfl, hRZ⟩, hb5⟩
  have L_5 := Lib.hid ((L_4.out.below hb5).more hb5.size)
  clear L_4
  have RA_5 := Lib.hid ((RA_4.out.below hb5).more hb5.size)
  clear RA_4
  have RB_5 := Lib.hid ((RB_4.out.below hb5).more hb5.size)
  clear RB_4
  have RC_5 := Lib.hid ((RC_4.out.below hb5).more hb5.size)
  clear RC_4
  have RD_5 := Lib.hid ((RD_4.out.below hb5).more hb5.size)
  clear RD_4
  have HC5 := Lib.hid (bthen HC4.out hb5)
  clear HC4
  have RZ_5 := Lib.hid hRZ
  clear hRZ
  clear hb5
  go_wp2_with fail
  refine (Park.readyTop_no (some z) n n k (gs.set k (2, false)) 2 false _ RZ_5.out (Park.right_set h (by decide)) hk (Park.get_set HL.out hk) (by decide)).mono ?_
  rintro e w6 ⟨rfl, hb6⟩
  have L_6 := Lib.hid ((L_5.out.below hb6).more hb6.size)
  clear L_5
  have RA_6 := Lib.hid ((RA_5.out.below hb6).more hb6.size)
  clear RA_5
  have RB_6 := Lib.hid ((RB_5.out.below hb6).more hb6.size)
  clear RB_5
  have RC_6 := Lib.hid ((RC_5.out.below hb6).more hb6.size)
  clear RC_5
  have RD_6 := Lib.hid ((RD_5.out.below hb6).more hb6.size)
  clear RD_5
  have RZ_6 := Lib.hid ((RZ_5.out.below hb6).more hb6.size)
  clear RZ_5
  have HC6 := Lib.hid (bthen HC5.out hb6)
  clear HC5
  clear hb6
  go_wp2_with fail
  refine (Park.parkTop_no (some z) n n k (gs.set k (2, false)) 2 false _ RZ_6.out (Park.right_set h (by decide)) hk (Park.get_set HL.out hk) (by decide)).mono ?_
  rintro e w7 ⟨rfl, hb7⟩
  have L_7 := Lib.hid ((L_6.out.below hb7).more hb7.size)
  clear L_6
  have RA_7 := Lib.hid ((RA_6.out.below hb7).more hb7.size)
  clear RA_6
  have RB_7 := Lib.hid ((RB_6.out.below hb7).more hb7.size)
  clear RB_6
  have RC_7 := Lib.hid ((RC_6.out.below hb7).more hb7.size)
  clear RC_6
  have RD_7 := Lib.hid ((RD_6.out.below hb7).more hb7.size)
  clear RD_6
  have RZ_7 := Lib.hid ((RZ_6.out.below hb7).more hb7.size)
  clear RZ_6
  have HC7 := Lib.hid (bthen HC6.out hb7)
  clear HC6
  clear hb7
  go_wp2_with fail
  refine (Park.alive_any _).mono ?_
  rintro e w8 ⟨rfl, hb8⟩
  have L_8 := Lib.hid ((L_7.out.below hb8).more hb8.size)
  clear L_7
  have RA_8 := Lib.hid ((RA_7.out.below hb8).more hb8.size)
  clear RA_7
  have RB_8 := Lib.hid ((RB_7.out.below hb8).more hb8.size)
  clear RB_7
  have RC_8 := Lib.hid ((RC_7.out.below hb8).more hb8.size)
  clear RC_7
  have RD_8 := Lib.hid ((RD_7.out.below hb8).more hb8.size)
  clear RD_7
  have RZ_8 := Lib.hid ((RZ_7.out.below hb8).more hb8.size)
  clear RZ_7
  have HC8 := Lib.hid (bthen HC7.out hb8)
  clear HC7
  clear hb8
  go_wp2_with fail
  refine (Park.same_any (some c1) A n n n c ((gs.set k (1, false)).set k (0, false)) gs _ RC_8.out L_8.out hn).mono ?_
  rintro e w9 ⟨rfl, hb9⟩
  have L_9 := Lib.hid ((L_8.out.below hb9).more hb9.size)
  clear L_8
  have RA_9 := Lib.hid ((RA_8.out.below hb9).more hb9.size)
  clear RA_8
  have RB_9 := Lib.hid ((RB_8.out.below hb9).more hb9.size)
  clear RB_8
  have RC_9 := Lib.hid ((RC_8.out.below hb9).more hb9.size)
  clear RC_8
  have RD_9 := Lib.hid ((RD_8.out.below hb9).more hb9.size)
  clear RD_8
  have RZ_9 := Lib.hid ((RZ_8.out.below hb9).more hb9.size)
  clear RZ_8
  have HC9 := Lib.hid (bthen HC8.out hb9)
  clear HC8
  clear hb9
  rw [decide_eq_true (Park.set_back HG.out)]
  go_wp2_with fail
  refine (Park.same_any (some d) A n n n c ((gs.set k (0, true)).set k (0, false)) gs _ RD_9.out L_9.out hn).mono ?_
  rintro e w10 ⟨rfl, hb10⟩
  have L_10 := Lib.hid ((L_9.out.below hb10).more hb10.size)
  clear L_9
  have RA_10 := Lib.hid ((RA_9.out.below hb10).more hb10.size)
  clear RA_9
  have RB_10 := Lib.hid ((RB_9.out.below hb10).more hb10.size)
  clear RB_9
  have RC_10 := Lib.hid ((RC_9.out.below hb10).more hb10.size)
  clear RC_9
  have RD_10 := Lib.hid ((RD_9.out.below hb10).more hb10.size)
  clear RD_9
  have RZ_10 := Lib.hid ((RZ_9.out.below hb10).more hb10.size)
  clear RZ_9
  have HC10 := Lib.hid (bthen HC9.out hb10)
  clear HC9
  clear hb10
  rw [decide_eq_true (Park.set_back HG.out)]
  go_wp2_with fail
  all_goals go_ret
  all_goals exact ⟨rfl, HC10.out⟩

theorem walk (A : Option Addr) (n c : Nat) (gs : List Park.G) (i : Int) (w : World) (_ : ∀ g ∈ gs, (Lit.int .i64 g.1).wf = true) (hr : Reads w w.heap.size 2 A n (gs.flatMap Park.cells)) (hc : n ≤ c ∧ c ≤ maxLen) (_ : (Lit.int .i64 i).wf = true) :
    Calls Try.prog 9 #[.slice A n c, .int .i64 i] w fun e w' => e = .returned (.bool true) ∧ Below w.heap.size w w' := by
  have hr' := Park.cells_take hr (Nat.min_le_left n 12)
  cases h : Park.right (gs.take (min n 12))
  · exact bad A n _ c i _ h w rfl hc.1 hc.2 hr'
  · by_cases hi : i < 0 ∨ ((min n 12 : Nat) : Int) ≤ i
    · exact range A n _ c i _ h hi w rfl hc.1 hc.2 hr'
    · obtain ⟨k, rfl⟩ := Int.eq_ofNat_of_zero_le (show 0 ≤ i by omega)
      have hk : k < min n 12 := by omega
      have hl := Park.len_ hr'
      obtain ⟨⟨s, p⟩, hg⟩ : ∃ g, (gs.take (min n 12))[k]? = some g := ⟨_, List.getElem?_eq_getElem (by omega)⟩
      rcases Park.valid h hg with ⟨rfl, rfl⟩ | ⟨rfl, rfl⟩ | ⟨rfl, rfl⟩ | ⟨rfl, rfl⟩
      · exact run A n _ c _ k h hk hg w rfl hc.1 hc.2 hr'
      · exact permit A n _ c _ k h hk hg w rfl hc.1 hc.2 hr'
      · exact parked A n _ c _ k h hk hg w rfl hc.1 hc.2 hr'
      · exact done A n _ c _ k h hk hg w rfl hc.1 hc.2 hr'
end parkEither
end Go.Proofs.Yteejgejeggackaa
