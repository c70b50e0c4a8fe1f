/-
  The walk of ParkTells (layer 11).
-/
import Derived.Test.YteejgejeggackaaLParkEither
import Derived.Test.YteejgejeggackaaParkRefs2
namespace Go.Proofs.Yteejgejeggackaa
open Go.RowKit
namespace parkTells
set_option maxRecDepth 100000 in
set_option maxHeartbeats 4000000 in
theorem bad (A : Option Addr) (n0 n c : Nat) (i : Int) (gs : List Park.G) (h : Park.right gs = false) (w : World) (hm : min n0 12 = n) (hn0 : n0 ≤ c) (hc : c ≤ maxLen) (hr : Reads w w.heap.size 2 A n (gs.flatMap Park.cells)) :
    Calls Try.prog 11 #[.slice A n0 c, .int .i64 i] w fun e w' => e = .returned (.bool true) ∧ Below w.heap.size w w' := by
  have hn : n ≤ maxLen := by unfold maxLen at hc ⊢; omega
  have hnl : n ≤ 12 := by omega
  have L_0 := Lib.hid hr
  have HNI := Lib.hid hn0
  have HCI := Lib.hid hc
  clear hr
  go_enter Try.func11, Try.ntmps11
  go_wp2_with fail
  refine (Park.few_any A n0 c _ HNI.out HCI.out).mono ?_
  rintro e w' ⟨rfl, rfl⟩
  rw [hm]
  go_wp2_with fail
  refine (Park.parkTop_arg A n c gs i _ L_0.out hn h).mono ?_
  rintro e w1 ⟨rfl, hb1⟩
  have L_1 := Lib.hid ((L_0.out.below hb1).more hb1.size)
  clear L_0
  have HC1 := Lib.hid hb1
  clear hb1
  go_wp2_with fail
  refine (Park.readyTop_arg A n c gs i _ L_1.out hn h).mono ?_
  rintro e w2 ⟨rfl, hb2⟩
  have L_2 := Lib.hid ((L_1.out.below hb2).more hb2.size)
  clear L_1
  have HC2 := Lib.hid (bthen HC1.out hb2)
  clear HC1
  clear hb2
  go_wp2_with fail
  refine (Park.endTop_arg A n c gs i _ L_2.out hn h).mono ?_
  rintro e w3 ⟨rfl, hb3⟩
  have L_3 := Lib.hid ((L_2.out.below hb3).more hb3.size)
  clear L_2
  have HC3 := Lib.hid (bthen HC2.out hb3)
  clear HC2
  clear hb3
  go_wp2_with fail
  refine (Park.runnable_no A n c gs _ L_3.out hn h).mono ?_
  rintro e w4 ⟨rfl, hb4⟩
  have L_4 := Lib.hid ((L_3.out.below hb4).more hb4.size)
  clear L_3
  have HC4 := Lib.hid (bthen HC3.out hb4)
  clear HC3
  clear hb4
  go_wp2_with fail
  refine (Park.right_any A n c gs _ L_4.out hn).mono ?_
  rintro e w5 ⟨rfl, hb5⟩
  have L_5 := Lib.hid ((L_4.out.below hb5).more hb5.size)
  clear L_4
  have HC5 := Lib.hid (bthen HC4.out hb5)
  clear HC4
  clear hb5
  rw [h]
  go_wp2_with fail
  refine (Park.refRight_any A n c gs _ L_5.out hnl).mono ?_
  rintro e w6 ⟨rfl, hb6⟩
  have L_6 := Lib.hid ((L_5.out.below hb6).more hb6.size)
  clear L_5
  have HC6 := Lib.hid (bthen HC5.out hb6)
  clear HC5
  clear hb6
  rw [h]
  go_wp2_with fail
  refine (Park.alive_any _).mono ?_
  rintro e w7 ⟨rfl, hb7⟩
  have L_7 := Lib.hid ((L_6.out.below hb7).more hb7.size)
  clear L_6
  have HC7 := Lib.hid (bthen HC6.out hb7)
  clear HC6
  clear hb7
  go_wp2_with fail
  refine (Park.refRight_any A n c gs _ L_7.out hnl).mono ?_
  rintro e w8 ⟨rfl, hb8⟩
  have L_8 := Lib.hid ((L_7.out.below hb8).more hb8.size)
  clear L_7
  have HC8 := Lib.hid (bthen HC7.out hb8)
  clear HC7
  clear hb8
  rw [h]
  go_wp2_with fail
  refine (Park.refWhy_arg A n c gs i _ L_8.out hnl h).mono ?_
  rintro e w9 ⟨rfl, hb9⟩
  have L_9 := Lib.hid ((L_8.out.below hb9).more hb9.size)
  clear L_8
  have HC9 := Lib.hid (bthen HC8.out hb9)
  clear HC8
  clear hb9
  go_wp2_with fail
  all_goals go_ret
  all_goals exact ⟨rfl, HC9.out⟩

set_option maxRecDepth 100000 in
set_option maxHeartbeats 4000000 in
theorem range (A : Option Addr) (n0 n c : Nat) (i : Int) (gs : List Park.G) (h : Park.right gs = true) (hi : i < 0 ∨ n ≤ i) (w : World) (hm : min n0 12 = n) (hn0 : n0 ≤ c) (hc : c ≤ maxLen) (hr : Reads w w.heap.size 2 A n (gs.flatMap Park.cells)) :
    Calls Try.prog 11 #[.slice A n0 c, .int .i64 i] w fun e w' => e = .returned (.bool true) ∧ Below w.heap.size w w' := by
  have hn : n ≤ maxLen := by unfold maxLen at hc ⊢; omega
  have hnl : n ≤ 12 := by omega
  have L_0 := Lib.hid hr
  have HNI := Lib.hid hn0
  have HCI := Lib.hid hc
  clear hr
  go_enter Try.func11, Try.ntmps11
  go_wp2_with fail
  refine (Park.few_any A n0 c _ HNI.out HCI.out).mono ?_
  rintro e w' ⟨rfl, rfl⟩
  rw [hm]
  go_wp2_with fail
  refine (Park.parkTop_range A n c gs i _ L_0.out hn h hi).mono ?_
  rintro e w1 ⟨rfl, hb1⟩
  have L_1 := Lib.hid ((L_0.out.below hb1).more hb1.size)
  clear L_0
  have HC1 := Lib.hid hb1
  clear hb1
  go_wp2_with fail
  refine (Park.readyTop_range A n c gs i _ L_1.out hn h hi).mono ?_
  rintro e w2 ⟨rfl, hb2⟩
  have L_2 := Lib.hid ((L_1.out.below hb2).more hb2.size)
  clear L_1
  have HC2 := Lib.hid (bthen HC1.out hb2)
  clear HC1
  clear hb2
  go_wp2_with fail
  refine (Park.endTop_range A n c gs i _ L_2.out hn h hi).mono ?_
  rintro e w3 ⟨rfl, hb3⟩
  have L_3 := Lib.hid ((L_2.out.below hb3).more hb3.size)
  clear L_2
  have HC3 := Lib.hid (bthen HC2.out hb3)
  clear HC2
  clear hb3
  go_wp2_with fail
  refine (Park.runnable_yes A n c gs _ L_3.out h).mono ?_
  rintro e w4 ⟨ra, rm, rc, rfl, hra, hb4⟩
  have L_4 := Lib.hid ((L_3.out.below hb4).more hb4.size)
  clear L_3
  have HC4 := Lib.hid (bthen HC3.out hb4)
  clear HC3
  have RR_4 := Lib.hid hra
  have bm : rm ≤ 9223372036854775807 := by have h1 := hra.int_len; have h2 := Park.runsTo_len gs gs.length; have h3 := Park.len_ L_4.out; unfold Park.runs at h1; omega
  clear hb4 hra
  go_wp2_with fail
  refine (Park.right_any A n c gs _ L_4.out hn).mono ?_
  rintro e w5 ⟨rfl, hb5⟩
  have L_5 := Lib.hid ((L_4.out.below hb5).more hb5.size)
  clear L_4
  have RR_5 := Lib.hid ((RR_4.out.below hb5).more hb5.size)
  clear RR_4
  have HC5 := Lib.hid (bthen HC4.out hb5)
  clear HC4
  clear hb5
  rw [h]
  go_wp2_with fail
  refine (Park.refRight_any A n c gs _ L_5.out hnl).mono ?_
  rintro e w6 ⟨rfl, hb6⟩
  have L_6 := Lib.hid ((L_5.out.below hb6).more hb6.size)
  clear L_5
  have RR_6 := Lib.hid ((RR_5.out.below hb6).more hb6.size)
  clear RR_5
  have HC6 := Lib.hid (bthen HC5.out hb6)
  clear HC5
  clear hb6
  rw [h]
  go_wp2_with fail
  refine (Park.alive_any _).mono ?_
  rintro e w7 ⟨rfl, hb7⟩
  have L_7 := Lib.hid ((L_6.out.below hb7).more hb7.size)
  clear L_6
  have RR_7 := Lib.hid ((RR_6.out.below hb7).more hb7.size)
  clear RR_6
  have HC7 := Lib.hid (bthen HC6.out hb7)
  clear HC6
  clear hb7
  go_wp2_with fail
  refine (Park.refRight_any A n c gs _ L_7.out hnl).mono ?_
  rintro e w8 ⟨rfl, hb8⟩
  have L_8 := Lib.hid ((L_7.out.below hb8).more hb8.size)
  clear L_7
  have RR_8 := Lib.hid ((RR_7.out.below hb8).more hb8.size)
  clear RR_7
  have HC8 := Lib.hid (bthen HC7.out hb8)
  clear HC7
  clear hb8
  rw [h]
  go_wp2_with fail
  refine (Park.refRunnable_any A n c gs _ L_8.out hnl).mono ?_
  rintro e w9 ⟨⟨sa, sm, sc, rfl, hsa⟩, hb9⟩
  have L_9 := Lib.hid ((L_8.out.below hb9).more hb9.size)
  clear L_8
  have RR_9 := Lib.hid ((RR_8.out.below hb9).more hb9.size)
  clear RR_8
  have HC9 := Lib.hid (bthen HC8.out hb9)
  clear HC8
  have RS_9 := Lib.hid hsa
  clear hb9 hsa
  go_wp2_with fail
  refine (Park.sameInt_any ra sa rm rc sm sc (Park.runs gs) _ RR_9.out RS_9.out (by unfold maxLen; omega)).mono ?_
  rintro e w10 ⟨rfl, hb10⟩
  have L_10 := Lib.hid ((L_9.out.below hb10).more hb10.size)
  clear L_9
  have RR_10 := Lib.hid ((RR_9.out.below hb10).more hb10.size)
  clear RR_9
  have RS_10 := Lib.hid ((RS_9.out.below hb10).more hb10.size)
  clear RS_9
  have HC10 := Lib.hid (bthen HC9.out hb10)
  clear HC9
  clear hb10
  go_wp2_with fail
  refine (Park.refWhy_range A n c gs i _ L_10.out hnl h hi).mono ?_
  rintro e w11 ⟨rfl, hb11⟩
  have L_11 := Lib.hid ((L_10.out.below hb11).more hb11.size)
  clear L_10
  have RR_11 := Lib.hid ((RR_10.out.below hb11).more hb11.size)
  clear RR_10
  have RS_11 := Lib.hid ((RS_10.out.below hb11).more hb11.size)
  clear RS_10
  have HC11 := Lib.hid (bthen HC10.out hb11)
  clear HC10
  clear hb11
  go_wp2_with fail
  all_goals go_ret
  all_goals exact ⟨rfl, HC11.out⟩

set_option maxRecDepth 100000 in
set_option maxHeartbeats 4000000 in
theorem run (A : Option Addr) (n0 n c : Nat) (gs : List Park.G) (k : Nat) (h : Park.right gs = true) (hk : k < n) (hg : gs[k]? = some (0, false)) (w : World) (hm : min n0 12 = n) (hn0 : n0 ≤ c) (hc : c ≤ maxLen) (hr : Reads w w.heap.size 2 A n (gs.flatMap Park.cells)) :
    Calls Try.prog 11 #[.slice A n0 c, .int .i64 k] w fun e w' => e = .returned (.bool true) ∧ Below w.heap.size w w' := by
  have hn : n ≤ maxLen := by unfold maxLen at hc ⊢; omega
  have hnl : n ≤ 12 := by omega
  have L_0 := Lib.hid hr
  have HNI := Lib.hid hn0
  have HCI := Lib.hid hc
  clear hr
  have hl := Park.len_ L_0.out
  have HL := Lib.hid hl
  clear hl
  have HG := Lib.hid hg
  clear hg
  go_enter Try.func11, Try.ntmps11
  go_wp2_with fail
  refine (Park.few_any A n0 c _ HNI.out HCI.out).mono ?_
  rintro e w' ⟨rfl, rfl⟩
  rw [hm]
  go_wp2_with fail
  refine (Park.parkTop_yes A n c k gs 0 false _ L_0.out h hk HG.out (by decide)).mono ?_
  rintro e w1 ⟨⟨xa, rfl, hXa⟩, hb1⟩
  have L_1 := Lib.hid ((L_0.out.below hb1).more hb1.size)
  clear L_0
  have HC1 := Lib.hid hb1
  have Xa_1 := Lib.hid hXa
  clear hXa
  clear hb1
  go_wp2_with fail
  refine (Park.readyTop_yes A n c k gs 0 false _ L_1.out h hk HG.out (by decide)).mono ?_
  rintro e w2 ⟨⟨xb, rfl, hXb⟩, hb2⟩
  have L_2 := Lib.hid ((L_1.out.below hb2).more hb2.size)
  clear L_1
  have Xa_2 := Lib.hid ((Xa_1.out.below hb2).more hb2.size)
  clear Xa_1
  have HC2 := Lib.hid (bthen HC1.out hb2)
  clear HC1
  have Xb_2 := Lib.hid hXb
  clear hXb
  clear hb2
  go_wp2_with fail
  refine (Park.endTop_yes A n c k gs 0 false _ L_2.out h hk HG.out (by decide)).mono ?_
  rintro e w3 ⟨⟨xc, rfl, hXc⟩, hb3⟩
  have L_3 := Lib.hid ((L_2.out.below hb3).more hb3.size)
  clear L_2
  have Xa_3 := Lib.hid ((Xa_2.out.below hb3).more hb3.size)
  clear Xa_2
  have Xb_3 := Lib.hid ((Xb_2.out.below hb3).more hb3.size)
  clear Xb_2
  have HC3 := Lib.hid (bthen HC2.out hb3)
  clear HC2
  have Xc_3 := Lib.hid hXc
  clear hXc
  clear hb3
  go_wp2_with fail
  refine (Park.runnable_yes A n c gs _ L_3.out h).mono ?_
  rintro e w4 ⟨ra, rm, rc, rfl, hra, hb4⟩
  have L_4 := Lib.hid ((L_3.out.below hb4).more hb4.size)
  clear L_3
  have Xa_4 := Lib.hid ((Xa_3.out.below hb4).more hb4.size)
  clear Xa_3
  have Xb_4 := Lib.hid ((Xb_3.out.below hb4).more hb4.size)
  clear Xb_3
  have Xc_4 := Lib.hid ((Xc_3.out.below hb4).more hb4.size)
  clear Xc_3
  have HC4 := Lib.hid (bthen HC3.out hb4)
  clear HC3
  have RR_4 := Lib.hid hra
  have bm : rm ≤ 9223372036854775807 := by have h1 := hra.int_len; have h2 := Park.runsTo_len gs gs.length; have h3 := Park.len_ L_4.out; unfold Park.runs at h1; omega
  clear hb4 hra
  go_wp2_with fail
  refine (Park.right_any A n c gs _ L_4.out hn).mono ?_
  rintro e w5 ⟨rfl, hb5⟩
  have L_5 := Lib.hid ((L_4.out.below hb5).more hb5.size)
  clear L_4
  have Xa_5 := Lib.hid ((Xa_4.out.below hb5).more hb5.size)
  clear Xa_4
  have Xb_5 := Lib.hid ((Xb_4.out.below hb5).more hb5.size)
  clear Xb_4
  have Xc_5 := Lib.hid ((Xc_4.out.below hb5).more hb5.size)
  clear Xc_4
  have RR_5 := Lib.hid ((RR_4.out.below hb5).more hb5.size)
  clear RR_4
  have HC5 := Lib.hid (bthen HC4.out hb5)
  clear HC4
  clear hb5
  rw [h]
  go_wp2_with fail
  refine (Park.refRight_any A n c gs _ L_5.out hnl).mono ?_
  rintro e w6 ⟨rfl, hb6⟩
  have L_6 := Lib.hid ((L_5.out.below hb6).more hb6.size)
  clear L_5
  have Xa_6 := Lib.hid ((Xa_5.out.below hb6).more hb6.size)
  clear Xa_5
  have Xb_6 := Lib.hid ((Xb_5.out.below hb6).more hb6.size)
  clear Xb_5
  have Xc_6 := Lib.hid ((Xc_5.out.below hb6).more hb6.size)
  clear Xc_5
  have RR_6 := Lib.hid ((RR_5.out.below hb6).more hb6.size)
  clear RR_5
  have HC6 := Lib.hid (bthen HC5.out hb6)
  clear HC5
  clear hb6
  rw [h]
  go_wp2_with fail
  refine (Park.alive_any _).mono ?_
  rintro e w7 ⟨rfl, hb7⟩
  have L_7 := Lib.hid ((L_6.out.below hb7).more hb7.size)
  clear L_6
  have Xa_7 := Lib.hid ((Xa_6.out.below hb7).more hb7.size)
  clear Xa_6
  have Xb_7 := Lib.hid ((Xb_6.out.below hb7).more hb7.size)
  clear Xb_6
  have Xc_7 := Lib.hid ((Xc_6.out.below hb7).more hb7.size)
  clear Xc_6
  have RR_7 := Lib.hid ((RR_6.out.below hb7).more hb7.size)
  clear RR_6
  have HC7 := Lib.hid (bthen HC6.out hb7)
  clear HC6
  clear hb7
  go_wp2_with fail
  refine (Park.refRight_any A n c gs _ L_7.out hnl).mono ?_
  rintro e w8 ⟨rfl, hb8⟩
  have L_8 := Lib.hid ((L_7.out.below hb8).more hb8.size)
  clear L_7
  have Xa_8 := Lib.hid ((Xa_7.out.below hb8).more hb8.size)
  clear Xa_7
  have Xb_8 := Lib.hid ((Xb_7.out.below hb8).more hb8.size)
  clear Xb_7
  have Xc_8 := Lib.hid ((Xc_7.out.below hb8).more hb8.size)
  clear Xc_7
  have RR_8 := Lib.hid ((RR_7.out.below hb8).more hb8.size)
  clear RR_7
  have HC8 := Lib.hid (bthen HC7.out hb8)
  clear HC7
  clear hb8
  rw [h]
  go_wp2_with fail
  refine (Park.refRunnable_any A n c gs _ L_8.out hnl).mono ?_
  rintro e w9 ⟨⟨sa, sm, sc, rfl, hsa⟩, hb9⟩
  have L_9 := Lib.hid ((L_8.out.below hb9).more hb9.size)
  clear L_8
  have Xa_9 := Lib.hid ((Xa_8.out.below hb9).more hb9.size)
  clear Xa_8
  have Xb_9 := Lib.hid ((Xb_8.out.below hb9).more hb9.size)
  clear Xb_8
  have Xc_9 := Lib.hid ((Xc_8.out.below hb9).more hb9.size)
  clear Xc_8
  have RR_9 := Lib.hid ((RR_8.out.below hb9).more hb9.size)
  clear RR_8
  have HC9 := Lib.hid (bthen HC8.out hb9)
  clear HC8
  have RS_9 := Lib.hid hsa
  clear hb9 hsa
  go_wp2_with fail
  refine (Park.sameInt_any ra sa rm rc sm sc (Park.runs gs) _ RR_9.out RS_9.out (by unfold maxLen; omega)).mono ?_
  rintro e w10 ⟨rfl, hb10⟩
  have L_10 := Lib.hid ((L_9.out.below hb10).more hb10.size)
  clear L_9
  have Xa_10 := Lib.hid ((Xa_9.out.below hb10).more hb10.size)
  clear Xa_9
  have Xb_10 := Lib.hid ((Xb_9.out.below hb10).more hb10.size)
  clear Xb_9
  have Xc_10 := Lib.hid ((Xc_9.out.below hb10).more hb10.size)
  clear Xc_9
  have RR_10 := Lib.hid ((RR_9.out.below hb10).more hb10.size)
  clear RR_9
  have RS_10 := Lib.hid ((RS_9.out.below hb10).more hb10.size)
  clear RS_9
  have HC10 := Lib.hid (bthen HC9.out hb10)
  clear HC9
  clear hb10
  go_wp2_with fail
  refine (Park.refWhy_in A n c k gs _ L_10.out hnl h hk).mono ?_
  rintro e w11 ⟨rfl, hb11⟩
  have L_11 := Lib.hid ((L_10.out.below hb11).more hb11.size)
  clear L_10
  have Xa_11 := Lib.hid ((Xa_10.out.below hb11).more hb11.size)
  clear Xa_10
  have Xb_11 := Lib.hid ((Xb_10.out.below hb11).more hb11.size)
  clear Xb_10
  have Xc_11 := Lib.hid ((Xc_10.out.below hb11).more hb11.size)
  clear Xc_10
  have RR_11 := Lib.hid ((RR_10.out.below hb11).more hb11.size)
  clear RR_10
  have RS_11 := Lib.hid ((RS_10.out.below hb11).more hb11.size)
  clear RS_10
  have HC11 := Lib.hid (bthen HC10.out hb11)
  clear HC10
  clear hb11
  go_wp2_with fail
  refine (Park.refPark_run A n c k gs  _ L_11.out hnl hk HG.out).mono ?_
  rintro e w12 ⟨⟨ya, za, rfl, hya⟩, hb12⟩
  have L_12 := Lib.hid ((L_11.out.below hb12).more hb12.size)
  clear L_11
  have Xa_12 := Lib.hid ((Xa_11.out.below hb12).more hb12.size)
  clear Xa_11
  have Xb_12 := Lib.hid ((Xb_11.out.below hb12).more hb12.size)
  clear Xb_11
  have Xc_12 := Lib.hid ((Xc_11.out.below hb12).more hb12.size)
  clear Xc_11
  have RR_12 := Lib.hid ((RR_11.out.below hb12).more hb12.size)
  clear RR_11
  have RS_12 := Lib.hid ((RS_11.out.below hb12).more hb12.size)
  clear RS_11
  have HC12 := Lib.hid (bthen HC11.out hb12)
  clear HC11
  have Ya_12 := Lib.hid hya
  clear hb12 hya
  go_wp2_with fail
  refine (Park.refReady_yes A n c k gs 0 (by omega) _ L_12.out hnl hk HG.out).mono ?_
  rintro e w13 ⟨⟨yb, zb, rfl, hyb⟩, hb13⟩
  have L_13 := Lib.hid ((L_12.out.below hb13).more hb13.size)
  clear L_12
  have Xa_13 := Lib.hid ((Xa_12.out.below hb13).more hb13.size)
  clear Xa_12
  have Xb_13 := Lib.hid ((Xb_12.out.below hb13).more hb13.size)
  clear Xb_12
  have Xc_13 := Lib.hid ((Xc_12.out.below hb13).more hb13.size)
  clear Xc_12
  have RR_13 := Lib.hid ((RR_12.out.below hb13).more hb13.size)
  clear RR_12
  have RS_13 := Lib.hid ((RS_12.out.below hb13).more hb13.size)
  clear RS_12
  have Ya_13 := Lib.hid ((Ya_12.out.below hb13).more hb13.size)
  clear Ya_12
  have HC13 := Lib.hid (bthen HC12.out hb13)
  clear HC12
  have Yb_13 := Lib.hid hyb
  clear hb13 hyb
  go_wp2_with fail
  refine (Park.refEnd_yes A n c k gs false _ L_13.out hnl hk HG.out).mono ?_
  rintro e w14 ⟨⟨yc, zc, rfl, hyc⟩, hb14⟩
  have L_14 := Lib.hid ((L_13.out.below hb14).more hb14.size)
  clear L_13
  have Xa_14 := Lib.hid ((Xa_13.out.below hb14).more hb14.size)
  clear Xa_13
  have Xb_14 := Lib.hid ((Xb_13.out.below hb14).more hb14.size)
  clear Xb_13
  have Xc_14 := Lib.hid ((Xc_13.out.below hb14).more hb14.size)
  clear Xc_13
  have RR_14 := Lib.hid ((RR_13.out.below hb14).more hb14.size)
  clear RR_13
  have RS_14 := Lib.hid ((RS_13.out.below hb14).more hb14.size)
  clear RS_13
  have Ya_14 := Lib.hid ((Ya_13.out.below hb14).more hb14.size)
  clear Ya_13
  have Yb_14 := Lib.hid ((Yb_13.out.below hb14).more hb14.size)
  clear Yb_13
  have HC14 := Lib.hid (bthen HC13.out hb14)
  clear HC13
  have Yc_14 := Lib.hid hyc
  clear hb14 hyc
  go_wp2_with fail
  refine (Park.same_any (some xa) ya n n n za (gs.set k (1, false)) (gs.set k (1, false)) _ Xa_14.out Ya_14.out hn).mono ?_
  rintro e w15 ⟨rfl, hb15⟩
  have L_15 := Lib.hid ((L_14.out.below hb15).more hb15.size)
  clear L_14
  have Xa_15 := Lib.hid ((Xa_14.out.below hb15).more hb15.size)
  clear Xa_14
  have Xb_15 := Lib.hid ((Xb_14.out.below hb15).more hb15.size)
  clear Xb_14
  have Xc_15 := Lib.hid ((Xc_14.out.below hb15).more hb15.size)
  clear Xc_14
  have RR_15 := Lib.hid ((RR_14.out.below hb15).more hb15.size)
  clear RR_14
  have RS_15 := Lib.hid ((RS_14.out.below hb15).more hb15.size)
  clear RS_14
  have Ya_15 := Lib.hid ((Ya_14.out.below hb15).more hb15.size)
  clear Ya_14
  have Yb_15 := Lib.hid ((Yb_14.out.below hb15).more hb15.size)
  clear Yb_14
  have Yc_15 := Lib.hid ((Yc_14.out.below hb15).more hb15.size)
  clear Yc_14
  have HC15 := Lib.hid (bthen HC14.out hb15)
  clear HC14
  clear hb15
  rw [decide_eq_true rfl]
  go_wp2_with fail
  refine (Park.same_any (some xb) yb n n n zb (gs.set k (0, true)) (gs.set k (0, true)) _ Xb_15.out Yb_15.out hn).mono ?_
  rintro e w16 ⟨rfl, hb16⟩
  have L_16 := Lib.hid ((L_15.out.below hb16).more hb16.size)
  clear L_15
  have Xa_16 := Lib.hid ((Xa_15.out.below hb16).more hb16.size)
  clear Xa_15
  have Xb_16 := Lib.hid ((Xb_15.out.below hb16).more hb16.size)
  clear Xb_15
  have Xc_16 := Lib.hid ((Xc_15.out.below hb16).more hb16.size)
  clear Xc_15
  have RR_16 := Lib.hid ((RR_15.out.below hb16).more hb16.size)
  clear RR_15
  have RS_16 := Lib.hid ((RS_15.out.below hb16).more hb16.size)
  clear RS_15
  have Ya_16 := Lib.hid ((Ya_15.out.below hb16).more hb16.size)
  clear Ya_15
  have Yb_16 := Lib.hid ((Yb_15.out.below hb16).more hb16.size)
  clear Yb_15
  have Yc_16 := Lib.hid ((Yc_15.out.below hb16).more hb16.size)
  clear Yc_15
  have HC16 := Lib.hid (bthen HC15.out hb16)
  clear HC15
  clear hb16
  rw [decide_eq_true rfl]
  go_wp2_with fail
  refine (Park.same_any (some xc) yc n n n zc (gs.set k (2, false)) (gs.set k (2, false)) _ Xc_16.out Yc_16.out hn).mono ?_
  rintro e w17 ⟨rfl, hb17⟩
  have L_17 := Lib.hid ((L_16.out.below hb17).more hb17.size)
  clear L_16
  have Xa_17 := Lib.hid ((Xa_16.out.below hb17).more hb17.size)
  clear Xa_16
  have Xb_17 := Lib.hid ((Xb_16.out.below hb17).more hb17.size)
  clear Xb_16
  have Xc_17 := Lib.hid ((Xc_16.out.below hb17).more hb17.size)
  clear Xc_16
  have RR_17 := Lib.hid ((RR_16.out.below hb17).more hb17.size)
  clear RR_16
  have RS_17 := Lib.hid ((RS_16.out.below hb17).more hb17.size)
  clear RS_16
  have Ya_17 := Lib.hid ((Ya_16.out.below hb17).more hb17.size)
  clear Ya_16
  have Yb_17 := Lib.hid ((Yb_16.out.below hb17).more hb17.size)
  clear Yb_16
  have Yc_17 := Lib.hid ((Yc_16.out.below hb17).more hb17.size)
  clear Yc_16
  have HC17 := Lib.hid (bthen HC16.out hb17)
  clear HC16
  clear hb17
  rw [decide_eq_true rfl]
  go_wp2_with fail
  all_goals go_ret
  all_goals exact ⟨rfl, HC17.out⟩

set_option maxRecDepth 100000 in
set_option maxHeartbeats 4000000 in
theorem permit (A : Option Addr) (n0 n c : Nat) (gs : List Park.G) (k : Nat) (h : Park.right gs = true) (hk : k < n) (hg : gs[k]? = some (0, true)) (w : World) (hm : min n0 12 = n) (hn0 : n0 ≤ c) (hc : c ≤ maxLen) (hr : Reads w w.heap.size 2 A n (gs.flatMap Park.cells)) :
    Calls Try.prog 11 #[.slice A n0 c, .int .i64 k] w fun e w' => e = .returned (.bool true) ∧ Below w.heap.size w w' := by
  have hn : n ≤ maxLen := by unfold maxLen at hc ⊢; omega
  have hnl : n ≤ 12 := by omega
  have L_0 := Lib.hid hr
  have HNI := Lib.hid hn0
  have HCI := Lib.hid hc
  clear hr
  have hl := Park.len_ L_0.out
  have HL := Lib.hid hl
  clear hl
  have HG := Lib.hid hg
  clear hg
  go_enter Try.func11, Try.ntmps11
  go_wp2_with fail
  refine (Park.few_any A n0 c _ HNI.out HCI.out).mono ?_
  rintro e w' ⟨rfl, rfl⟩
  rw [hm]
  go_wp2_with fail
  refine (Park.parkTop_yes A n c k gs 0 true _ L_0.out h hk HG.out (by decide)).mono ?_
  rintro e w1 ⟨⟨xa, rfl, hXa⟩, hb1⟩
  have L_1 := Lib.hid ((L_0.out.below hb1).more hb1.size)
  clear L_0
  have HC1 := Lib.hid hb1
  have Xa_1 := Lib.hid hXa
  clear hXa
  clear hb1
  go_wp2_with fail
  refine (Park.readyTop_no A n c k gs 0 true _ L_1.out h hk HG.out (by decide)).mono ?_
  rintro e w2 ⟨rfl, hb2⟩
  have L_2 := Lib.hid ((L_1.out.below hb2).more hb2.size)
  clear L_1
  have Xa_2 := Lib.hid ((Xa_1.out.below hb2).more hb2.size)
  clear Xa_1
  have HC2 := Lib.hid (bthen HC1.out hb2)
  clear HC1
  clear hb2
  rw [show (Park.readyOne (0, true)).1 = 7 by decide]
  go_wp2_with fail
  refine (Park.endTop_yes A n c k gs 0 true _ L_2.out h hk HG.out (by decide)).mono ?_
  rintro e w3 ⟨⟨xc, rfl, hXc⟩, hb3⟩
  have L_3 := Lib.hid ((L_2.out.below hb3).more hb3.size)
  clear L_2
  have Xa_3 := Lib.hid ((Xa_2.out.below hb3).more hb3.size)
  clear Xa_2
  have HC3 := Lib.hid (bthen HC2.out hb3)
  clear HC2
  have Xc_3 := Lib.hid hXc
  clear hXc
  clear hb3
  go_wp2_with fail
  refine (Park.runnable_yes A n c gs _ L_3.out h).mono ?_
  rintro e w4 ⟨ra, rm, rc, rfl, hra, hb4⟩
  have L_4 := Lib.hid ((L_3.out.below hb4).more hb4.size)
  clear L_3
  have Xa_4 := Lib.hid ((Xa_3.out.below hb4).more hb4.size)
  clear Xa_3
  have Xc_4 := Lib.hid ((Xc_3.out.below hb4).more hb4.size)
  clear Xc_3
  have HC4 := Lib.hid (bthen HC3.out hb4)
  clear HC3
  have RR_4 := Lib.hid hra
  have bm : rm ≤ 9223372036854775807 := by have h1 := hra.int_len; have h2 := Park.runsTo_len gs gs.length; have h3 := Park.len_ L_4.out; unfold Park.runs at h1; omega
  clear hb4 hra
  go_wp2_with fail
  refine (Park.right_any A n c gs _ L_4.out hn).mono ?_
  rintro e w5 ⟨rfl, hb5⟩
  have L_5 := Lib.hid ((L_4.out.below hb5).more hb5.size)
  clear L_4
  have Xa_5 := Lib.hid ((Xa_4.out.below hb5).more hb5.size)
  clear Xa_4
  have Xc_5 := Lib.hid ((Xc_4.out.below hb5).more hb5.size)
  clear Xc_4
  have RR_5 := Lib.hid ((RR_4.out.below hb5).more hb5.size)
  clear RR_4
  have HC5 := Lib.hid (bthen HC4.out hb5)
  clear HC4
  clear hb5
  rw [h]
  go_wp2_with fail
  refine (Park.refRight_any A n c gs _ L_5.out hnl).mono ?_
  rintro e w6 ⟨rfl, hb6⟩
  have L_6 := Lib.hid ((L_5.out.below hb6).more hb6.size)
  clear L_5
  have Xa_6 := Lib.hid ((Xa_5.out.below hb6).more hb6.size)
  clear Xa_5
  have Xc_6 := Lib.hid ((Xc_5.out.below hb6).more hb6.size)
  clear Xc_5
  have RR_6 := Lib.hid ((RR_5.out.below hb6).more hb6.size)
  clear RR_5
  have HC6 := Lib.hid (bthen HC5.out hb6)
  clear HC5
  clear hb6
  rw [h]
  go_wp2_with fail
  refine (Park.alive_any _).mono ?_
  rintro e w7 ⟨rfl, hb7⟩
  have L_7 := Lib.hid ((L_6.out.below hb7).more hb7.size)
  clear L_6
  have Xa_7 := Lib.hid ((Xa_6.out.below hb7).more hb7.size)
  clear Xa_6
  have Xc_7 := Lib.hid ((Xc_6.out.below hb7).more hb7.size)
  clear Xc_6
  have RR_7 := Lib.hid ((RR_6.out.below hb7).more hb7.size)
  clear RR_6
  have HC7 := Lib.hid (bthen HC6.out hb7)
  clear HC6
  clear hb7
  go_wp2_with fail
  refine (Park.refRight_any A n c gs _ L_7.out hnl).mono ?_
  rintro e w8 ⟨rfl, hb8⟩
  have L_8 := Lib.hid ((L_7.out.below hb8).more hb8.size)
  clear L_7
  have Xa_8 := Lib.hid ((Xa_7.out.below hb8).more hb8.size)
  clear Xa_7
  have Xc_8 := Lib.hid ((Xc_7.out.below hb8).more hb8.size)
  clear Xc_7
  have RR_8 := Lib.hid ((RR_7.out.below hb8).more hb8.size)
  clear RR_7
  have HC8 := Lib.hid (bthen HC7.out hb8)
  clear HC7
  clear hb8
  rw [h]
  go_wp2_with fail
  refine (Park.refRunnable_any A n c gs _ L_8.out hnl).mono ?_
  rintro e w9 ⟨⟨sa, sm, sc, rfl, hsa⟩, hb9⟩
  have L_9 := Lib.hid ((L_8.out.below hb9).more hb9.size)
  clear L_8
  have Xa_9 := Lib.hid ((Xa_8.out.below hb9).more hb9.size)
  clear Xa_8
  have Xc_9 := Lib.hid ((Xc_8.out.below hb9).more hb9.size)
  clear Xc_8
  have RR_9 := Lib.hid ((RR_8.out.below hb9).more hb9.size)
  clear RR_8
  have HC9 := Lib.hid (bthen HC8.out hb9)
  clear HC8
  have RS_9 := Lib.hid hsa
  clear hb9 hsa
  go_wp2_with fail
  refine (Park.sameInt_any ra sa rm rc sm sc (Park.runs gs) _ RR_9.out RS_9.out (by unfold maxLen; omega)).mono ?_
  rintro e w10 ⟨rfl, hb10⟩
  have L_10 := Lib.hid ((L_9.out.below hb10).more hb10.size)
  clear L_9
  have Xa_10 := Lib.hid ((Xa_9.out.below hb10).more hb10.size)
  clear Xa_9
  have Xc_10 := Lib.hid ((Xc_9.out.below hb10).more hb10.size)
  clear Xc_9
  have RR_10 := Lib.hid ((RR_9.out.below hb10).more hb10.size)
  clear RR_9
  have RS_10 := Lib.hid ((RS_9.out.below hb10).more hb10.size)
  clear RS_9
  have HC10 := Lib.hid (bthen HC9.out hb10)
  clear HC9
  clear hb10
  go_wp2_with fail
  refine (Park.refWhy_in A n c k gs _ L_10.out hnl h hk).mono ?_
  rintro e w11 ⟨rfl, hb11⟩
  have L_11 := Lib.hid ((L_10.out.below hb11).more hb11.size)
  clear L_10
  have Xa_11 := Lib.hid ((Xa_10.out.below hb11).more hb11.size)
  clear Xa_10
  have Xc_11 := Lib.hid ((Xc_10.out.below hb11).more hb11.size)
  clear Xc_10
  have RR_11 := Lib.hid ((RR_10.out.below hb11).more hb11.size)
  clear RR_10
  have RS_11 := Lib.hid ((RS_10.out.below hb11).more hb11.size)
  clear RS_10
  have HC11 := Lib.hid (bthen HC10.out hb11)
  clear HC10
  clear hb11
  go_wp2_with fail
  refine (Park.refPark_permit A n c k gs  _ L_11.out hnl hk HG.out).mono ?_
  rintro e w12 ⟨⟨ya, za, rfl, hya⟩, hb12⟩
  have L_12 := Lib.hid ((L_11.out.below hb12).more hb12.size)
  clear L_11
  have Xa_12 := Lib.hid ((Xa_11.out.below hb12).more hb12.size)
  clear Xa_11
  have Xc_12 := Lib.hid ((Xc_11.out.below hb12).more hb12.size)
  clear Xc_11
  have RR_12 := Lib.hid ((RR_11.out.below hb12).more hb12.size)
  clear RR_11
  have RS_12 := Lib.hid ((RS_11.out.below hb12).more hb12.size)
  clear RS_11
  have HC12 := Lib.hid (bthen HC11.out hb12)
  clear HC11
  have Ya_12 := Lib.hid hya
  clear hb12 hya
  go_wp2_with fail
  refine (Park.refReady_twice A n c k gs 0 (by omega) _ L_12.out hnl hk HG.out).mono ?_
  rintro e w13 ⟨rfl, hb13⟩
  have L_13 := Lib.hid ((L_12.out.below hb13).more hb13.size)
  clear L_12
  have Xa_13 := Lib.hid ((Xa_12.out.below hb13).more hb13.size)
  clear Xa_12
  have Xc_13 := Lib.hid ((Xc_12.out.below hb13).more hb13.size)
  clear Xc_12
  have RR_13 := Lib.hid ((RR_12.out.below hb13).more hb13.size)
  clear RR_12
  have RS_13 := Lib.hid ((RS_12.out.below hb13).more hb13.size)
  clear RS_12
  have Ya_13 := Lib.hid ((Ya_12.out.below hb13).more hb13.size)
  clear Ya_12
  have HC13 := Lib.hid (bthen HC12.out hb13)
  clear HC12
  clear hb13
  go_wp2_with fail
  refine (Park.refEnd_yes A n c k gs true _ L_13.out hnl hk HG.out).mono ?_
  rintro e w14 ⟨⟨yc, zc, rfl, hyc⟩, hb14⟩
  have L_14 := Lib.hid ((L_13.out.below hb14).more hb14.size)
  clear L_13
  have Xa_14 := Lib.hid ((Xa_13.out.below hb14).more hb14.size)
  clear Xa_13
  have Xc_14 := Lib.hid ((Xc_13.out.below hb14).more hb14.size)
  clear Xc_13
  have RR_14 := Lib.hid ((RR_13.out.below hb14).more hb14.size)
  clear RR_13
  have RS_14 := Lib.hid ((RS_13.out.below hb14).more hb14.size)
  clear RS_13
  have Ya_14 := Lib.hid ((Ya_13.out.below hb14).more hb14.size)
  clear Ya_13
  have HC14 := Lib.hid (bthen HC13.out hb14)
  clear HC13
  have Yc_14 := Lib.hid hyc
  clear hb14 hyc
  go_wp2_with fail
  refine (Park.same_any (some xa) ya n n n za (gs.set k (0, false)) (gs.set k (0, false)) _ Xa_14.out Ya_14.out hn).mono ?_
  rintro e w15 ⟨rfl, hb15⟩
  have L_15 := Lib.hid ((L_14.out.below hb15).more hb15.size)
  clear L_14
  have Xa_15 := Lib.hid ((Xa_14.out.below hb15).more hb15.size)
  clear Xa_14
  have Xc_15 := Lib.hid ((Xc_14.out.below hb15).more hb15.size)
  clear Xc_14
  have RR_15 := Lib.hid ((RR_14.out.below hb15).more hb15.size)
  clear RR_14
  have RS_15 := Lib.hid ((RS_14.out.below hb15).more hb15.size)
  clear RS_14
  have Ya_15 := Lib.hid ((Ya_14.out.below hb15).more hb15.size)
  clear Ya_14
  have Yc_15 := Lib.hid ((Yc_14.out.below hb15).more hb15.size)
  clear Yc_14
  have HC15 := Lib.hid (bthen HC14.out hb15)
  clear HC14
  clear hb15
  rw [decide_eq_true rfl]
  go_wp2_with fail
  refine (Park.same_any none none 0 0 0 0 [] [] _ Reads.none_ Reads.none_ (by unfold maxLen; omega)).mono ?_
  rintro e w16 ⟨rfl, hb16⟩
  have L_16 := Lib.hid ((L_15.out.below hb16).more hb16.size)
  clear L_15
  have Xa_16 := Lib.hid ((Xa_15.out.below hb16).more hb16.size)
  clear Xa_15
  have Xc_16 := Lib.hid ((Xc_15.out.below hb16).more hb16.size)
  clear Xc_15
  have RR_16 := Lib.hid ((RR_15.out.below hb16).more hb16.size)
  clear RR_15
  have RS_16 := Lib.hid ((RS_15.out.below hb16).more hb16.size)
  clear RS_15
  have Ya_16 := Lib.hid ((Ya_15.out.below hb16).more hb16.size)
  clear Ya_15
  have Yc_16 := Lib.hid ((Yc_15.out.below hb16).more hb16.size)
  clear Yc_15
  have HC16 := Lib.hid (bthen HC15.out hb16)
  clear HC15
  clear hb16
  rw [decide_eq_true rfl]
  go_wp2_with fail
  refine (Park.same_any (some xc) yc n n n zc (gs.set k (2, false)) (gs.set k (2, false)) _ Xc_16.out Yc_16.out hn).mono ?_
  rintro e w17 ⟨rfl, hb17⟩
  have L_17 := Lib.hid ((L_16.out.below hb17).more hb17.size)
  clear L_16
  have Xa_17 := Lib.hid ((Xa_16.out.below hb17).more hb17.size)
  clear Xa_16
  have Xc_17 := Lib.hid ((Xc_16.out.below hb17).more hb17.size)
  clear Xc_16
  have RR_17 := Lib.hid ((RR_16.out.below hb17).more hb17.size)
  clear RR_16
  have RS_17 := Lib.hid ((RS_16.out.below hb17).more hb17.size)
  clear RS_16
  have Ya_17 := Lib.hid ((Ya_16.out.below hb17).more hb17.size)
  clear Ya_16
  have Yc_17 := Lib.hid ((Yc_16.out.below hb17).more hb17.size)
  clear Yc_16
  have HC17 := Lib.hid (bthen HC16.out hb17)
  clear HC16
  clear hb17
  rw [decide_eq_true rfl]
  go_wp2_with fail
  all_goals go_ret
  all_goals exact ⟨rfl, HC17.out⟩

set_option maxRecDepth 100000 in
set_option maxHeartbeats 4000000 in
theorem parked (A : Option Addr) (n0 n c : Nat) (gs : List Park.G) (k : Nat) (h : Park.right gs = true) (hk : k < n) (hg : gs[k]? = some (1, false)) (w : World) (hm : min n0 12 = n) (hn0 : n0 ≤ c) (hc : c ≤ maxLen) (hr : Reads w w.heap.size 2 A n (gs.flatMap Park.cells)) :
    Calls Try.prog 11 #[.slice A n0 c, .int .i64 k] w fun e w' => e = .returned (.bool true) ∧ Below w.heap.size w w' := by
  have hn : n ≤ maxLen := by unfold maxLen at hc ⊢; omega
  have hnl : n ≤ 12 := by omega
  have L_0 := Lib.hid hr
  have HNI := Lib.hid hn0
  have HCI := Lib.hid hc
  clear hr
  have hl := Park.len_ L_0.out
  have HL := Lib.hid hl
  clear hl
  have HG := Lib.hid hg
  clear hg
  go_enter Try.func11, Try.ntmps11
  go_wp2_with fail
  refine (Park.few_any A n0 c _ HNI.out HCI.out).mono ?_
  rintro e w' ⟨rfl, rfl⟩
  rw [hm]
  go_wp2_with fail
  refine (Park.parkTop_no A n c k gs 1 false _ L_0.out h hk HG.out (by decide)).mono ?_
  rintro e w1 ⟨rfl, hb1⟩
  have L_1 := Lib.hid ((L_0.out.below hb1).more hb1.size)
  clear L_0
  have HC1 := Lib.hid hb1
  clear hb1
  rw [show (Park.parkOne (1, false)).1 = 6 by decide]
  go_wp2_with fail
  refine (Park.readyTop_yes A n c k gs 1 false _ L_1.out h hk HG.out (by decide)).mono ?_
  rintro e w2 ⟨⟨xb, rfl, hXb⟩, hb2⟩
  have L_2 := Lib.hid ((L_1.out.below hb2).more hb2.size)
  clear L_1
  have HC2 := Lib.hid (bthen HC1.out hb2)
  clear HC1
  have Xb_2 := Lib.hid hXb
  clear hXb
  clear hb2
  go_wp2_with fail
  refine (Park.endTop_no A n c k gs 1 false _ L_2.out h hk HG.out (by decide)).mono ?_
  rintro e w3 ⟨rfl, hb3⟩
  have L_3 := Lib.hid ((L_2.out.below hb3).more hb3.size)
  clear L_2
  have Xb_3 := Lib.hid ((Xb_2.out.below hb3).more hb3.size)
  clear Xb_2
  have HC3 := Lib.hid (bthen HC2.out hb3)
  clear HC2
  clear hb3
  rw [show (Park.endOne (1, false)).1 = 6 by decide]
  go_wp2_with fail
  refine (Park.runnable_yes A n c gs _ L_3.out h).mono ?_
  rintro e w4 ⟨ra, rm, rc, rfl, hra, hb4⟩
  have L_4 := Lib.hid ((L_3.out.below hb4).more hb4.size)
  clear L_3
  have Xb_4 := Lib.hid ((Xb_3.out.below hb4).more hb4.size)
  clear Xb_3
  have HC4 := Lib.hid (bthen HC3.out hb4)
  clear HC3
  have RR_4 := Lib.hid hra
  have bm : rm ≤ 9223372036854775807 := by have h1 := hra.int_len; have h2 := Park.runsTo_len gs gs.length; have h3 := Park.len_ L_4.out; unfold Park.runs at h1; omega
  clear hb4 hra
  go_wp2_with fail
  refine (Park.right_any A n c gs _ L_4.out hn).mono ?_
  rintro e w5 ⟨rfl, hb5⟩
  have L_5 := Lib.hid ((L_4.out.below hb5).more hb5.size)
  clear L_4
  have Xb_5 := Lib.hid ((Xb_4.out.below hb5).more hb5.size)
  clear Xb_4
  have RR_5 := Lib.hid ((RR_4.out.below hb5).more hb5.size)
  clear RR_4
  have HC5 := Lib.hid (bthen HC4.out hb5)
  clear HC4
  clear hb5
  rw [h]
  go_wp2_with fail
  refine (Park.refRight_any A n c gs _ L_5.out hnl).mono ?_
  rintro e w6 ⟨rfl, hb6⟩
  have L_6 := Lib.hid ((L_5.out.below hb6).more hb6.size)
  clear L_5
  have Xb_6 := Lib.hid ((Xb_5.out.below hb6).more hb6.size)
  clear Xb_5
  have RR_6 := Lib.hid ((RR_5.out.below hb6).more hb6.size)
  clear RR_5
  have HC6 := Lib.hid (bthen HC5.out hb6)
  clear HC5
  clear hb6
  rw [h]
  go_wp2_with fail
  refine (Park.alive_any _).mono ?_
  rintro e w7 ⟨rfl, hb7⟩
  have L_7 := Lib.hid ((L_6.out.below hb7).more hb7.size)
  clear L_6
  have Xb_7 := Lib.hid ((Xb_6.out.below hb7).more hb7.size)
  clear Xb_6
  have RR_7 := Lib.hid ((RR_6.out.below hb7).more hb7.size)
  clear RR_6
  have HC7 := Lib.hid (bthen HC6.out hb7)
  clear HC6
  clear hb7
  go_wp2_with fail
  refine (Park.refRight_any A n c gs _ L_7.out hnl).mono ?_
  rintro e w8 ⟨rfl, hb8⟩
  have L_8 := Lib.hid ((L_7.out.below hb8).more hb8.size)
  clear L_7
  have Xb_8 := Lib.hid ((Xb_7.out.below hb8).more hb8.size)
  clear Xb_7
  have RR_8 := Lib.hid ((RR_7.out.below hb8).more hb8.size)
  clear RR_7
  have HC8 := Lib.hid (bthen HC7.out hb8)
  clear HC7
  clear hb8
  rw [h]
  go_wp2_with fail
  refine (Park.refRunnable_any A n c gs _ L_8.out hnl).mono ?_
  rintro e w9 ⟨⟨sa, sm, sc, rfl, hsa⟩, hb9⟩
  have L_9 := Lib.hid ((L_8.out.below hb9).more hb9.size)
  clear L_8
  have Xb_9 := Lib.hid ((Xb_8.out.below hb9).more hb9.size)
  clear Xb_8
  have RR_9 := Lib.hid ((RR_8.out.below hb9).more hb9.size)
  clear RR_8
  have HC9 := Lib.hid (bthen HC8.out hb9)
  clear HC8
  have RS_9 := Lib.hid hsa
  clear hb9 hsa
  go_wp2_with fail
  refine (Park.sameInt_any ra sa rm rc sm sc (Park.runs gs) _ RR_9.out RS_9.out (by unfold maxLen; omega)).mono ?_
  rintro e w10 ⟨rfl, hb10⟩
  have L_10 := Lib.hid ((L_9.out.below hb10).more hb10.size)
  clear L_9
  have Xb_10 := Lib.hid ((Xb_9.out.below hb10).more hb10.size)
  clear Xb_9
  have RR_10 := Lib.hid ((RR_9.out.below hb10).more hb10.size)
  clear RR_9
  have RS_10 := Lib.hid ((RS_9.out.below hb10).more hb10.size)
  clear RS_9
  have HC10 := Lib.hid (bthen HC9.out hb10)
  clear HC9
  clear hb10
  go_wp2_with fail
  refine (Park.refWhy_in A n c k gs _ L_10.out hnl h hk).mono ?_
  rintro e w11 ⟨rfl, hb11⟩
  have L_11 := Lib.hid ((L_10.out.below hb11).more hb11.size)
  clear L_10
  have Xb_11 := Lib.hid ((Xb_10.out.below hb11).more hb11.size)
  clear Xb_10
  have RR_11 := Lib.hid ((RR_10.out.below hb11).more hb11.size)
  clear RR_10
  have RS_11 := Lib.hid ((RS_10.out.below hb11).more hb11.size)
  clear RS_10
  have HC11 := Lib.hid (bthen HC10.out hb11)
  clear HC10
  clear hb11
  go_wp2_with fail
  refine (Park.refPark_state A n c k gs 1 false (by omega) _ L_11.out hnl hk HG.out).mono ?_
  rintro e w12 ⟨rfl, hb12⟩
  have L_12 := Lib.hid ((L_11.out.below hb12).more hb12.size)
  clear L_11
  have Xb_12 := Lib.hid ((Xb_11.out.below hb12).more hb12.size)
  clear Xb_11
  have RR_12 := Lib.hid ((RR_11.out.below hb12).more hb12.size)
  clear RR_11
  have RS_12 := Lib.hid ((RS_11.out.below hb12).more hb12.size)
  clear RS_11
  have HC12 := Lib.hid (bthen HC11.out hb12)
  clear HC11
  clear hb12
  go_wp2_with fail
  refine (Park.refReady_yes A n c k gs 1 (by omega) _ L_12.out hnl hk HG.out).mono ?_
  rintro e w13 ⟨⟨yb, zb, rfl, hyb⟩, hb13⟩
  have L_13 := Lib.hid ((L_12.out.below hb13).more hb13.size)
  clear L_12
  have Xb_13 := Lib.hid ((Xb_12.out.below hb13).more hb13.size)
  clear Xb_12
  have RR_13 := Lib.hid ((RR_12.out.below hb13).more hb13.size)
  clear RR_12
  have RS_13 := Lib.hid ((RS_12.out.below hb13).more hb13.size)
  clear RS_12
  have HC13 := Lib.hid (bthen HC12.out hb13)
  clear HC12
  have Yb_13 := Lib.hid hyb
  clear hb13 hyb
  go_wp2_with fail
  refine (Park.refEnd_state A n c k gs 1 false (by omega) _ L_13.out hnl hk HG.out).mono ?_
  rintro e w14 ⟨rfl, hb14⟩
  have L_14 := Lib.hid ((L_13.out.below hb14).more hb14.size)
  clear L_13
  have Xb_14 := Lib.hid ((Xb_13.out.below hb14).more hb14.size)
  clear Xb_13
  have RR_14 := Lib.hid ((RR_13.out.below hb14).more hb14.size)
  clear RR_13
  have RS_14 := Lib.hid ((RS_13.out.below hb14).more hb14.size)
  clear RS_13
  have Yb_14 := Lib.hid ((Yb_13.out.below hb14).more hb14.size)
  clear Yb_13
  have HC14 := Lib.hid (bthen HC13.out hb14)
  clear HC13
  clear hb14
  go_wp2_with fail
  refine (Park.same_any none none 0 0 0 0 [] [] _ Reads.none_ Reads.none_ (by unfold maxLen; omega)).mono ?_
  rintro e w15 ⟨rfl, hb15⟩
  have L_15 := Lib.hid ((L_14.out.below hb15).more hb15.size)
  clear L_14
  have Xb_15 := Lib.hid ((Xb_14.out.below hb15).more hb15.size)
  clear Xb_14
  have RR_15 := Lib.hid ((RR_14.out.below hb15).more hb15.size)
  clear RR_14
  have RS_15 := Lib.hid ((RS_14.out.below hb15).more hb15.size)
  clear RS_14
  have Yb_15 := Lib.hid ((Yb_14.out.below hb15).more hb15.size)
  clear Yb_14
  have HC15 := Lib.hid (bthen HC14.out hb15)
  clear HC14
  clear hb15
  rw [decide_eq_true rfl]
  go_wp2_with fail
  refine (Park.same_any (some xb) yb n n n zb (gs.set k (0, false)) (gs.set k (0, false)) _ Xb_15.out Yb_15.out hn).mono ?_
  rintro e w16 ⟨rfl, hb16⟩
  have L_16 := Lib.hid ((L_15.out.below hb16).more hb16.size)
  clear L_15
  have Xb_16 := Lib.hid ((Xb_15.out.below hb16).more hb16.size)
  clear Xb_15
  have RR_16 := Lib.hid ((RR_15.out.below hb16).more hb16.size)
  clear RR_15
  have RS_16 := Lib.hid ((RS_15.out.below hb16).more hb16.size)
  clear RS_15
  have Yb_16 := Lib.hid ((Yb_15.out.below hb16).more hb16.size)
  clear Yb_15
  have HC16 := Lib.hid (bthen HC15.out hb16)
  clear HC15
  clear hb16
  rw [decide_eq_true rfl]
  go_wp2_with fail
  refine (Park.same_any none none 0 0 0 0 [] [] _ Reads.none_ Reads.none_ (by unfold maxLen; omega)).mono ?_
  rintro e w17 ⟨rfl, hb17⟩
  have L_17 := Lib.hid ((L_16.out.below hb17).more hb17.size)
  clear L_16
  have Xb_17 := Lib.hid ((Xb_16.out.below hb17).more hb17.size)
  clear Xb_16
  have RR_17 := Lib.hid ((RR_16.out.below hb17).more hb17.size)
  clear RR_16
  have RS_17 := Lib.hid ((RS_16.out.below hb17).more hb17.size)
  clear RS_16
  have Yb_17 := Lib.hid ((Yb_16.out.below hb17).more hb17.size)
  clear Yb_16
  have HC17 := Lib.hid (bthen HC16.out hb17)
  clear HC16
  clear hb17
  rw [decide_eq_true rfl]
  go_wp2_with fail
  all_goals go_ret
  all_goals exact ⟨rfl, HC17.out⟩

set_option maxRecDepth 100000 in
set_option maxHeartbeats 4000000 in
theorem done (A : Option Addr) (n0 n c : Nat) (gs : List Park.G) (k : Nat) (h : Park.right gs = true) (hk : k < n) (hg : gs[k]? = some (2, false)) (w : World) (hm : min n0 12 = n) (hn0 : n0 ≤ c) (hc : c ≤ maxLen) (hr : Reads w w.heap.size 2 A n (gs.flatMap Park.cells)) :
    Calls Try.prog 11 #[.slice A n0 c, .int .i64 k] w fun e w' => e = .returned (.bool true) ∧ Below w.heap.size w w' := by
  have hn : n ≤ maxLen := by unfold maxLen at hc ⊢; omega
  have hnl : n ≤ 12 := by omega
  have L_0 := Lib.hid hr
  have HNI := Lib.hid hn0
  have HCI := Lib.hid hc
  clear hr
  have hl := Park.len_ L_0.out
  have HL := Lib.hid hl
  clear hl
  have HG := Lib.hid hg
  clear hg
  go_enter Try.func11, Try.ntmps11
  go_wp2_with fail
  refine (Park.few_any A n0 c _ HNI.out HCI.out).mono ?_
  rintro e w' ⟨rfl, rfl⟩
  rw [hm]
  go_wp2_with fail
  refine (Park.parkTop_no A n c k gs 2 false _ L_0.out h hk HG.out (by decide)).mono ?_
  rintro e w1 ⟨rfl, hb1⟩
  have L_1 := Lib.hid ((L_0.out.below hb1).more hb1.size)
  clear L_0
  have HC1 := Lib.hid hb1
  clear hb1
  rw [show (Park.parkOne (2, false)).1 = 6 by decide]
  go_wp2_with fail
  refine (Park.readyTop_no A n c k gs 2 false _ L_1.out h hk HG.out (by decide)).mono ?_
  rintro e w2 ⟨rfl, hb2⟩
  have L_2 := Lib.hid ((L_1.out.below hb2).more hb2.size)
  clear L_1
  have HC2 := Lib.hid (bthen HC1.out hb2)
  clear HC1
  clear hb2
  rw [show (Park.readyOne (2, false)).1 = 6 by decide]
  go_wp2_with fail
  refine (Park.endTop_no A n c k gs 2 false _ L_2.out h hk HG.out (by decide)).mono ?_
  rintro e w3 ⟨rfl, hb3⟩
  have L_3 := Lib.hid ((L_2.out.below hb3).more hb3.size)
  clear L_2
  have HC3 := Lib.hid (bthen HC2.out hb3)
  clear HC2
  clear hb3
  rw [show (Park.endOne (2, false)).1 = 6 by decide]
  go_wp2_with fail
  refine (Park.runnable_yes A n c gs _ L_3.out h).mono ?_
  rintro e w4 ⟨ra, rm, rc, rfl, hra, hb4⟩
  have L_4 := Lib.hid ((L_3.out.below hb4).more hb4.size)
  clear L_3
  have HC4 := Lib.hid (bthen HC3.out hb4)
  clear HC3
  have RR_4 := Lib.hid hra
  have bm : rm ≤ 9223372036854775807 := by have h1 := hra.int_len; have h2 := Park.runsTo_len gs gs.length; have h3 := Park.len_ L_4.out; unfold Park.runs at h1; omega
  clear hb4 hra
  go_wp2_with fail
  refine (Park.right_any A n c gs _ L_4.out hn).mono ?_
  rintro e w5 ⟨rfl, hb5⟩
  have L_5 := Lib.hid ((L_4.out.below hb5).more hb5.size)
  clear L_4
  have RR_5 := Lib.hid ((RR_4.out.below hb5).more hb5.size)
  clear RR_4
  have HC5 := Lib.hid (bthen HC4.out hb5)
  clear HC4
  clear hb5
  rw [h]
  go_wp2_with fail
  refine (Park.refRight_any A n c gs _ L_5.out hnl).mono ?_
  rintro e w6 ⟨rfl, hb6⟩
  have L_6 := Lib.hid ((L_5.out.below hb6).more hb6.size)
  clear L_5
  have RR_6 := Lib.hid ((RR_5.out.below hb6).more hb6.size)
  clear RR_5
  have HC6 := Lib.hid (bthen HC5.out hb6)
  clear HC5
  clear hb6
  rw [h]
  go_wp2_with fail
  refine (Park.alive_any _).mono ?_
  rintro e w7 ⟨rfl, hb7⟩
  have L_7 := Lib.hid ((L_6.out.below hb7).more hb7.size)
  clear L_6
  have RR_7 := Lib.hid ((RR_6.out.below hb7).more hb7.size)
  clear RR_6
  have HC7 := Lib.hid (bthen HC6.out hb7)
  clear HC6
  clear hb7
  go_wp2_with fail
  refine (Park.refRight_any A n c gs _ L_7.out hnl).mono ?_
  rintro e w8 ⟨rfl, hb8⟩
  have L_8 := Lib.hid ((L_7.out.below hb8).more hb8.size)
  clear L_7
  have RR_8 := Lib.hid ((RR_7.out.below hb8).more hb8.size)
  clear RR_7
  have HC8 := Lib.hid (bthen HC7.out hb8)
  clear HC7
  clear hb8
  rw [h]
  go_wp2_with fail
  refine (Park.refRunnable_any A n c gs _ L_8.out hnl).mono ?_
  rintro e w9 ⟨⟨sa, sm, sc, rfl, hsa⟩, hb9⟩
  have L_9 := Lib.hid ((L_8.out.below hb9).more hb9.size)
  clear L_8
  have RR_9 := Lib.hid ((RR_8.out.below hb9).more hb9.size)
  clear RR_8
  have HC9 := Lib.hid (bthen HC8.out hb9)
  clear HC8
  have RS_9 := Lib.hid hsa
  clear hb9 hsa
  go_wp2_with fail
  refine (Park.sameInt_any ra sa rm rc sm sc (Park.runs gs) _ RR_9.out RS_9.out (by unfold maxLen; omega)).mono ?_
  rintro e w10 ⟨rfl, hb10⟩
  have L_10 := Lib.hid ((L_9.out.below hb10).more hb10.size)
  clear L_9
  have RR_10 := Lib.hid ((RR_9.out.below hb10).more hb10.size)
  clear RR_9
  have RS_10 := Lib.hid ((RS_9.out.below hb10).more hb10.size)
  clear RS_9
  have HC10 := Lib.hid (bthen HC9.out hb10)
  clear HC9
  clear hb10
  go_wp2_with fail
  refine (Park.refWhy_in A n c k gs _ L_10.out hnl h hk).mono ?_
  rintro e w11 ⟨rfl, hb11⟩
  have L_11 := Lib.hid ((L_10.out.below hb11).more hb11.size)
  clear L_10
  have RR_11 := Lib.hid ((RR_10.out.below hb11).more hb11.size)
  clear RR_10
  have RS_11 := Lib.hid ((RS_10.out.below hb11).more hb11.size)
  clear RS_10
  have HC11 := Lib.hid (bthen HC10.out hb11)
  clear HC10
  clear hb11
  go_wp2_with fail
  refine (Park.refPark_state A n c k gs 2 false (by omega) _ L_11.out hnl hk HG.out).mono ?_
  rintro e w12 ⟨rfl, hb12⟩
  have L_12 := Lib.hid ((L_11.out.below hb12).more hb12.size)
  clear L_11
  have RR_12 := Lib.hid ((RR_11.out.below hb12).more hb12.size)
  clear RR_11
  have RS_12 := Lib.hid ((RS_11.out.below hb12).more hb12.size)
  clear RS_11
  have HC12 := Lib.hid (bthen HC11.out hb12)
  clear HC11
  clear hb12
  go_wp2_with fail
  refine (Park.refReady_state A n c k gs false _ L_12.out hnl hk HG.out).mono ?_
  rintro e w13 ⟨rfl, hb13⟩
  have L_13 := Lib.hid ((L_12.out.below hb13).more hb13.size)
  clear L_12
  have RR_13 := Lib.hid ((RR_12.out.below hb13).more hb13.size)
  clear RR_12
  have RS_13 := Lib.hid ((RS_12.out.below hb13).more hb13.size)
  clear RS_12
  have HC13 := Lib.hid (bthen HC12.out hb13)
  clear HC12
  clear hb13
  go_wp2_with fail
  refine (Park.refEnd_state A n c k gs 2 false (by omega) _ L_13.out hnl hk HG.out).mono ?_
  rintro e w14 ⟨rfl, hb14⟩
  have L_14 := Lib.hid ((L_13.out.below hb14).more hb14.size)
  clear L_13
  have RR_14 := Lib.hid ((RR_13.out.below hb14).more hb14.size)
  clear RR_13
  have RS_14 := Lib.hid ((RS_13.out.below hb14).more hb14.size)
  clear RS_13
  have HC14 := Lib.hid (bthen HC13.out hb14)
  clear HC13
  clear hb14
  go_wp2_with fail
  refine (Park.same_any none none 0 0 0 0 [] [] _ Reads.none_ Reads.none_ (by unfold maxLen; omega)).mono ?_
  rintro e w15 ⟨rfl, hb15⟩
  have L_15 := Lib.hid ((L_14.out.below hb15).more hb15.size)
  clear L_14
  have RR_15 := Lib.hid ((RR_14.out.below hb15).more hb15.size)
  clear RR_14
  have RS_15 := Lib.hid ((RS_14.out.below hb15).more hb15.size)
  clear RS_14
  have HC15 := Lib.hid (bthen HC14.out hb15)
  clear HC14
  clear hb15
  rw [decide_eq_true rfl]
  go_wp2_with fail
  refine (Park.same_any none none 0 0 0 0 [] [] _ Reads.none_ Reads.none_ (by unfold maxLen; omega)).mono ?_
  rintro e w16 ⟨rfl, hb16⟩
  have L_16 := Lib.hid ((L_15.out.below hb16).more hb16.size)
  clear L_15
  have RR_16 := Lib.hid ((RR_15.out.below hb16).more hb16.size)
  clear RR_15
  have RS_16 := Lib.hid ((RS_15.out.below hb16).more hb16.size)
  clear RS_15
  have HC16 := Lib.hid (bthen HC15.out hb16)
  clear HC15
  clear hb16
  rw [decide_eq_true rfl]
  go_wp2_with fail
  refine (Park.same_any none none 0 0 0 0 [] [] _ Reads.none_ Reads.none_ (by unfold maxLen; omega)).mono ?_
  rintro e w17 ⟨rfl, hb17⟩
  have L_17 := Lib.hid ((L_16.out.below hb17).more hb17.size)
  clear L_16
  have RR_17 := Lib.hid ((RR_16.out.below hb17).more hb17.size)
  clear RR_16
  have RS_17 := Lib.hid ((RS_16.out.below hb17).more hb17.size)
  clear RS_16
  have HC17 := Lib.hid (bthen HC16.out hb17)
  clear HC16
  clear hb17
  rw [decide_eq_true rfl]
  go_wp2_with fail
  all_goals go_ret
  all_goals exact ⟨rfl, HC17.out⟩

theorem walk (A : Option Addr) (n c : Nat) (gs : List Park.G) (i : Int) (w : World) (_ : ∀ g ∈ gs, (Lit.int .i64 g.1).wf = true) (hr : Reads w w.heap.size 2 A n (gs.flatMap Park.cells)) (hc : n ≤ c ∧ c ≤ maxLen) (_ : (Lit.int .i64 i).wf = true) :
    Calls Try.prog 11 #[.slice A n c, .int .i64 i] w fun e w' => e = .returned (.bool true) ∧ Below w.heap.size w w' := by
  have hr' := Park.cells_take hr (Nat.min_le_left n 12)
  cases h : Park.right (gs.take (min n 12))
  · exact bad A n _ c i _ h w rfl hc.1 hc.2 hr'
  · by_cases hi : i < 0 ∨ ((min n 12 : Nat) : Int) ≤ i
    · exact range A n _ c i _ h hi w rfl hc.1 hc.2 hr'
    · obtain ⟨k, rfl⟩ := Int.eq_ofNat_of_zero_le (show 0 ≤ i by omega)
      have hk : k < min n 12 := by omega
      have hl := Park.len_ hr'
      obtain ⟨⟨s, p⟩, hg⟩ : ∃ g, (gs.take (min n 12))[k]? = some g := ⟨_, List.getElem?_eq_getElem (by omega)⟩
      rcases Park.valid h hg with ⟨rfl, rfl⟩ | ⟨rfl, rfl⟩ | ⟨rfl, rfl⟩ | ⟨rfl, rfl⟩
      · exact run A n _ c _ k h hk hg w rfl hc.1 hc.2 hr'
      · exact permit A n _ c _ k h hk hg w rfl hc.1 hc.2 hr'
      · exact parked A n _ c _ k h hk hg w rfl hc.1 hc.2 hr'
      · exact done A n _ c _ k h hk hg w rfl hc.1 hc.2 hr'
end parkTells
end Go.Proofs.Yteejgejeggackaa
