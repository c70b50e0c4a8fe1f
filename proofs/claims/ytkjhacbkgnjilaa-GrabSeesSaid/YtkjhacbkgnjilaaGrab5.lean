/-
  The contracts of package grab, part 5: Sleep and Wake. Printed by gen_grab5.py.
-/
import Derived.Test.YtkjhacbkgnjilaaGrab4
import Derived.Test.YtkjhacbkgnjilaaBlkAt
namespace Go.Proofs.Ytkjhacbkgnjilaa
open Go.RowKit
namespace Grab
/-- Who goes to wait. -/
def slept (si now : Int) : Int := if si = -1 then now else si
set_option maxRecDepth 100000 in
set_option maxHeartbeats 4000000 in
theorem sleep_no (si : Int) (st aw : Bool) (ro ol now : Int) (w : World) (h : right si ro ol = false) :
    Calls Try.prog 43 #[.agg #[.int .i64 si, .bool st, .bool aw, .int .i64 ro, .int .i64 ol], .int .i64 now] w fun e w' => e = .returned (.tuple #[.agg #[.int .i64 0, .bool false, .bool false, .int .i64 0, .int .i64 0], .bool false, .int .i64 1]) ∧ Below w.heap.size w w' := by
  have H := Lib.hid h
  clear h
  have hfd := fld_fresh
  have hb0 : Below w.heap.size w ((w.alloc (.cells #[.int .i64 si, .bool st, .bool aw, .int .i64 ro, .int .i64 ol] 42)).alloc (.cells #[.int .i64 0, .bool false, .bool false, .int .i64 0, .int .i64 0] 42)) := ((Below.refl _ _).alloc (Nat.le_refl _) _).alloc (by simp) _
  have hx := (Blk.new w 42 #[.int .i64 si, .bool st, .bool aw, .int .i64 ro, .int .i64 ol]).alloc (.cells #[.int .i64 0, .bool false, .bool false, .int .i64 0, .int .i64 0] 42)
  have hf := Blk.new (w.alloc (.cells #[.int .i64 si, .bool st, .bool aw, .int .i64 ro, .int .i64 ol] 42)) 42 #[.int .i64 0, .bool false, .bool false, .int .i64 0, .int .i64 0]
  rw [World.size_alloc] at hf
  have HB0 := Lib.hid hb0
  have HX := Lib.hid hx
  have HF := Lib.hid hf
  clear hb0 hx hf
  go_enter Try.func43, Try.ntmps43
  go_wp2_with fail
  obtain ⟨W, hW⟩ : ∃ W, (w.alloc (.cells #[.int .i64 si, .bool st, .bool aw, .int .i64 ro, .int .i64 ol] 42)).alloc (.cells #[.int .i64 0, .bool false, .bool false, .int .i64 0, .int .i64 0] 42) = W := ⟨_, rfl⟩
  rw [hW] at HB0 HX HF ⊢
  clear hW
  refine (right_any si st aw ro ol _).mono ?_
  rintro e w1 ⟨rfl, hbw1⟩
  have HXw1 := Lib.hid (HX.out.below hbw1 HX.out.lt)
  have HFw1 := Lib.hid (HF.out.below hbw1 HF.out.lt)
  have HBw1 := Lib.hid (bthen HB0.out hbw1)
  clear hbw1
  rw [H.out]
  have HXr := HXw1
  have HFr := HFw1
  have HBr := HBw1
  obtain ⟨c0, c1, c2, c3, c4⟩ := HXr.out.at5
  obtain ⟨r0, r1, r2, r3, r4⟩ := HFr.out.at5
  have z0 := HFr.out.frozen 0
  have z1 := HFr.out.frozen 1
  have z2 := HFr.out.frozen 2
  have z3 := HFr.out.frozen 3
  have z4 := HFr.out.frozen 4
  have y0 := HXr.out.frozen 0
  have y1 := HXr.out.frozen 1
  have y2 := HXr.out.frozen 2
  have y3 := HXr.out.frozen 3
  have y4 := HXr.out.frozen 4
  have hne : w.heap.size ≠ w.heap.size + 1 := by omega
  have hne' : w.heap.size + 1 ≠ w.heap.size := by omega
  go_wp2_with fail
  have hF0 := (((((HFr.out.set_ 0 (.int .i64 0)).set_ 1 (.bool false)).set_ 2 (.bool false)).set_ 3 (.int .i64 0)).set_ 4 (.int .i64 0))
  have hF : Blk _ _ _ #[.int .i64 0, .bool false, .bool false, .int .i64 0, .int .i64 0] := hF0
  have hB := (((((HBr.out.setCell (p := ⟨w.heap.size + 1, 0, none⟩) (by simp) (.int .i64 0)).setCell (p := ⟨w.heap.size + 1, 1, none⟩) (by simp) (.bool false)).setCell (p := ⟨w.heap.size + 1, 2, none⟩) (by simp) (.bool false)).setCell (p := ⟨w.heap.size + 1, 3, none⟩) (by simp) (.int .i64 0)).setCell (p := ⟨w.heap.size + 1, 4, none⟩) (by simp) (.int .i64 0))
  clear hF0 c0 c1 c2 c3 c4 r0 r1 r2 r3 r4 z0 z1 z2 z3 z4 y0 y1 y2 y3 y4
  revert hF hB
  generalize World.setCell _ _ _ = W9
  intro hF hB
  obtain ⟨g0, g1, g2, g3, g4⟩ := hF.at5
  exact bodyPost_ret (v := .tuple #[.agg #[.int .i64 0, .bool false, .bool false, .int .i64 0, .int .i64 0], .bool false, .int .i64 1]) (by simp [results, Try.results43, go_sem, g0, g1, g2, g3, g4]) rfl ⟨rfl, hB⟩
set_option maxRecDepth 100000 in
set_option maxHeartbeats 4000000 in
theorem sleep_out (si : Int) (st aw : Bool) (ro ol now : Int) (w : World) (h : right si ro ol = true) (hn : Clock.right now = false) :
    Calls Try.prog 43 #[.agg #[.int .i64 si, .bool st, .bool aw, .int .i64 ro, .int .i64 ol], .int .i64 now] w fun e w' => e = .returned (.tuple #[.agg #[.int .i64 0, .bool false, .bool false, .int .i64 0, .int .i64 0], .bool false, .int .i64 1]) ∧ Below w.heap.size w w' := by
  have H := Lib.hid h
  have HN := Lib.hid hn
  clear h hn
  have hfd := fld_fresh
  have hb0 : Below w.heap.size w ((w.alloc (.cells #[.int .i64 si, .bool st, .bool aw, .int .i64 ro, .int .i64 ol] 42)).alloc (.cells #[.int .i64 0, .bool false, .bool false, .int .i64 0, .int .i64 0] 42)) := ((Below.refl _ _).alloc (Nat.le_refl _) _).alloc (by simp) _
  have hx := (Blk.new w 42 #[.int .i64 si, .bool st, .bool aw, .int .i64 ro, .int .i64 ol]).alloc (.cells #[.int .i64 0, .bool false, .bool false, .int .i64 0, .int .i64 0] 42)
  have hf := Blk.new (w.alloc (.cells #[.int .i64 si, .bool st, .bool aw, .int .i64 ro, .int .i64 ol] 42)) 42 #[.int .i64 0, .bool false, .bool false, .int .i64 0, .int .i64 0]
  rw [World.size_alloc] at hf
  have HB0 := Lib.hid hb0
  have HX := Lib.hid hx
  have HF := Lib.hid hf
  clear hb0 hx hf
  go_enter Try.func43, Try.ntmps43
  go_wp2_with fail
  obtain ⟨W, hW⟩ : ∃ W, (w.alloc (.cells #[.int .i64 si, .bool st, .bool aw, .int .i64 ro, .int .i64 ol] 42)).alloc (.cells #[.int .i64 0, .bool false, .bool false, .int .i64 0, .int .i64 0] 42) = W := ⟨_, rfl⟩
  rw [hW] at HB0 HX HF ⊢
  clear hW
  refine (right_any si st aw ro ol _).mono ?_
  rintro e w1 ⟨rfl, hbw1⟩
  have HXw1 := Lib.hid (HX.out.below hbw1 HX.out.lt)
  have HFw1 := Lib.hid (HF.out.below hbw1 HF.out.lt)
  have HBw1 := Lib.hid (bthen HB0.out hbw1)
  clear hbw1
  rw [H.out]
  go_wp2_with fail
  refine (Clock.right_any now _).mono ?_
  rintro e w2 ⟨rfl, rfl⟩
  rw [HN.out]
  have HXr := HXw1
  have HFr := HFw1
  have HBr := HBw1
  obtain ⟨c0, c1, c2, c3, c4⟩ := HXr.out.at5
  obtain ⟨r0, r1, r2, r3, r4⟩ := HFr.out.at5
  have z0 := HFr.out.frozen 0
  have z1 := HFr.out.frozen 1
  have z2 := HFr.out.frozen 2
  have z3 := HFr.out.frozen 3
  have z4 := HFr.out.frozen 4
  have y0 := HXr.out.frozen 0
  have y1 := HXr.out.frozen 1
  have y2 := HXr.out.frozen 2
  have y3 := HXr.out.frozen 3
  have y4 := HXr.out.frozen 4
  have hne : w.heap.size ≠ w.heap.size + 1 := by omega
  have hne' : w.heap.size + 1 ≠ w.heap.size := by omega
  go_wp2_with fail
  have hF0 := (((((HFr.out.set_ 0 (.int .i64 0)).set_ 1 (.bool false)).set_ 2 (.bool false)).set_ 3 (.int .i64 0)).set_ 4 (.int .i64 0))
  have hF : Blk _ _ _ #[.int .i64 0, .bool false, .bool false, .int .i64 0, .int .i64 0] := hF0
  have hB := (((((HBr.out.setCell (p := ⟨w.heap.size + 1, 0, none⟩) (by simp) (.int .i64 0)).setCell (p := ⟨w.heap.size + 1, 1, none⟩) (by simp) (.bool false)).setCell (p := ⟨w.heap.size + 1, 2, none⟩) (by simp) (.bool false)).setCell (p := ⟨w.heap.size + 1, 3, none⟩) (by simp) (.int .i64 0)).setCell (p := ⟨w.heap.size + 1, 4, none⟩) (by simp) (.int .i64 0))
  clear hF0 c0 c1 c2 c3 c4 r0 r1 r2 r3 r4 z0 z1 z2 z3 z4 y0 y1 y2 y3 y4
  revert hF hB
  generalize World.setCell _ _ _ = W9
  intro hF hB
  obtain ⟨g0, g1, g2, g3, g4⟩ := hF.at5
  exact bodyPost_ret (v := .tuple #[.agg #[.int .i64 0, .bool false, .bool false, .int .i64 0, .int .i64 0], .bool false, .int .i64 1]) (by simp [results, Try.results43, go_sem, g0, g1, g2, g3, g4]) rfl ⟨rfl, hB⟩
set_option maxRecDepth 100000 in
set_option maxHeartbeats 4000000 in
theorem sleep_again (si : Int) (st aw : Bool) (ro ol now : Int) (w : World) (h : right si ro ol = true) (hn : Clock.right now = true) (hs : si ≠ -1) :
    Calls Try.prog 43 #[.agg #[.int .i64 si, .bool st, .bool aw, .int .i64 ro, .int .i64 ol], .int .i64 now] w fun e w' => e = .returned (.tuple #[.agg #[.int .i64 si, .bool st, .bool aw, .int .i64 ro, .int .i64 ol], .bool true, .int .i64 0]) ∧ Below w.heap.size w w' := by
  have H := Lib.hid h
  have HN := Lib.hid hn
  have hs1 : (si != -1) = true := by simp [hs]
  clear h hn hs
  have hfd := fld_fresh
  have hb0 : Below w.heap.size w ((w.alloc (.cells #[.int .i64 si, .bool st, .bool aw, .int .i64 ro, .int .i64 ol] 42)).alloc (.cells #[.int .i64 0, .bool false, .bool false, .int .i64 0, .int .i64 0] 42)) := ((Below.refl _ _).alloc (Nat.le_refl _) _).alloc (by simp) _
  have hx := (Blk.new w 42 #[.int .i64 si, .bool st, .bool aw, .int .i64 ro, .int .i64 ol]).alloc (.cells #[.int .i64 0, .bool false, .bool false, .int .i64 0, .int .i64 0] 42)
  have hf := Blk.new (w.alloc (.cells #[.int .i64 si, .bool st, .bool aw, .int .i64 ro, .int .i64 ol] 42)) 42 #[.int .i64 0, .bool false, .bool false, .int .i64 0, .int .i64 0]
  rw [World.size_alloc] at hf
  have HB0 := Lib.hid hb0
  have HX := Lib.hid hx
  have HF := Lib.hid hf
  clear hb0 hx hf
  go_enter Try.func43, Try.ntmps43
  go_wp2_with fail
  obtain ⟨W, hW⟩ : ∃ W, (w.alloc (.cells #[.int .i64 si, .bool st, .bool aw, .int .i64 ro, .int .i64 ol] 42)).alloc (.cells #[.int .i64 0, .bool false, .bool false, .int .i64 0, .int .i64 0] 42) = W := ⟨_, rfl⟩
  rw [hW] at HB0 HX HF ⊢
  clear hW
  refine (right_any si st aw ro ol _).mono ?_
  rintro e w1 ⟨rfl, hbw1⟩
  have HXw1 := Lib.hid (HX.out.below hbw1 HX.out.lt)
  have HFw1 := Lib.hid (HF.out.below hbw1 HF.out.lt)
  have HBw1 := Lib.hid (bthen HB0.out hbw1)
  clear hbw1
  rw [H.out]
  go_wp2_with fail
  refine (Clock.right_any now _).mono ?_
  rintro e w2 ⟨rfl, rfl⟩
  rw [HN.out]
  go_wp2_with fail
  obtain ⟨c0, c1, c2, c3, c4⟩ := HXw1.out.at5
  have hltw1 := HXw1.out.lt
  have hD0 := (Below.refl w1.heap.size w1).drew
  go_region_held3 (fun w' => Below w1.heap.size w1 w' ∧ w'.cell? ⟨w.heap.size, 0, none⟩ = some (.int .i64 si)) (first | exact ⟨hD0, c0⟩ | exact ⟨by assumption, by assumption⟩ | go_keep)
    ((go_at_call 36; refine (fresh_b _).mono ?_; rintro e w' ⟨rfl, hb⟩; have hB' := bthen ‹Below w1.heap.size w1 _› hb; have k0 := (hB'.cell (p := ⟨w.heap.size, 0, none⟩) hltw1).trans c0; clear hb))
  have HXr := Lib.hid (HXw1.out.below hB' HXw1.out.lt)
  have HFr := Lib.hid (HFw1.out.below hB' HFw1.out.lt)
  have HBr := Lib.hid (bthen HBw1.out hB')
  clear hB' hD0 k0 c0 c1 c2 c3 c4
  obtain ⟨c0, c1, c2, c3, c4⟩ := HXr.out.at5
  obtain ⟨r0, r1, r2, r3, r4⟩ := HFr.out.at5
  have z0 := HFr.out.frozen 0
  have z1 := HFr.out.frozen 1
  have z2 := HFr.out.frozen 2
  have z3 := HFr.out.frozen 3
  have z4 := HFr.out.frozen 4
  have y0 := HXr.out.frozen 0
  have y1 := HXr.out.frozen 1
  have y2 := HXr.out.frozen 2
  have y3 := HXr.out.frozen 3
  have y4 := HXr.out.frozen 4
  have hne : w.heap.size ≠ w.heap.size + 1 := by omega
  have hne' : w.heap.size + 1 ≠ w.heap.size := by omega
  go_wp2_with fail
  have hF0 := (((((HFr.out.set_ 0 (.int .i64 si)).set_ 1 (.bool st)).set_ 2 (.bool aw)).set_ 3 (.int .i64 ro)).set_ 4 (.int .i64 ol))
  have hF : Blk _ _ _ #[.int .i64 si, .bool st, .bool aw, .int .i64 ro, .int .i64 ol] := hF0
  have hB := (((((HBr.out.setCell (p := ⟨w.heap.size + 1, 0, none⟩) (by simp) (.int .i64 si)).setCell (p := ⟨w.heap.size + 1, 1, none⟩) (by simp) (.bool st)).setCell (p := ⟨w.heap.size + 1, 2, none⟩) (by simp) (.bool aw)).setCell (p := ⟨w.heap.size + 1, 3, none⟩) (by simp) (.int .i64 ro)).setCell (p := ⟨w.heap.size + 1, 4, none⟩) (by simp) (.int .i64 ol))
  clear hF0 c0 c1 c2 c3 c4 r0 r1 r2 r3 r4 z0 z1 z2 z3 z4 y0 y1 y2 y3 y4
  revert hF hB
  generalize World.setCell _ _ _ = W9
  intro hF hB
  obtain ⟨g0, g1, g2, g3, g4⟩ := hF.at5
  exact bodyPost_ret (v := .tuple #[.agg #[.int .i64 si, .bool st, .bool aw, .int .i64 ro, .int .i64 ol], .bool true, .int .i64 0]) (by simp [results, Try.results43, go_sem, g0, g1, g2, g3, g4]) rfl ⟨rfl, hB⟩
set_option maxRecDepth 100000 in
set_option maxHeartbeats 4000000 in
theorem sleep_first (si : Int) (st aw : Bool) (ro ol now : Int) (w : World) (h : right si ro ol = true) (hn : Clock.right now = true) (hs : si = -1) :
    Calls Try.prog 43 #[.agg #[.int .i64 si, .bool st, .bool aw, .int .i64 ro, .int .i64 ol], .int .i64 now] w fun e w' => e = .returned (.tuple #[.agg #[.int .i64 now, .bool st, .bool aw, .int .i64 ro, .int .i64 ol], .bool false, .int .i64 0]) ∧ Below w.heap.size w w' := by
  have H := Lib.hid h
  have HN := Lib.hid hn
  have hs1 : (si != -1) = false := by simp [hs]
  clear h hn hs
  have hfd := fld_fresh
  have hb0 : Below w.heap.size w ((w.alloc (.cells #[.int .i64 si, .bool st, .bool aw, .int .i64 ro, .int .i64 ol] 42)).alloc (.cells #[.int .i64 0, .bool false, .bool false, .int .i64 0, .int .i64 0] 42)) := ((Below.refl _ _).alloc (Nat.le_refl _) _).alloc (by simp) _
  have hx := (Blk.new w 42 #[.int .i64 si, .bool st, .bool aw, .int .i64 ro, .int .i64 ol]).alloc (.cells #[.int .i64 0, .bool false, .bool false, .int .i64 0, .int .i64 0] 42)
  have hf := Blk.new (w.alloc (.cells #[.int .i64 si, .bool st, .bool aw, .int .i64 ro, .int .i64 ol] 42)) 42 #[.int .i64 0, .bool false, .bool false, .int .i64 0, .int .i64 0]
  rw [World.size_alloc] at hf
  have HB0 := Lib.hid hb0
  have HX := Lib.hid hx
  have HF := Lib.hid hf
  clear hb0 hx hf
  go_enter Try.func43, Try.ntmps43
  go_wp2_with fail
  obtain ⟨W, hW⟩ : ∃ W, (w.alloc (.cells #[.int .i64 si, .bool st, .bool aw, .int .i64 ro, .int .i64 ol] 42)).alloc (.cells #[.int .i64 0, .bool false, .bool false, .int .i64 0, .int .i64 0] 42) = W := ⟨_, rfl⟩
  rw [hW] at HB0 HX HF ⊢
  clear hW
  refine (right_any si st aw ro ol _).mono ?_
  rintro e w1 ⟨rfl, hbw1⟩
  have HXw1 := Lib.hid (HX.out.below hbw1 HX.out.lt)
  have HFw1 := Lib.hid (HF.out.below hbw1 HF.out.lt)
  have HBw1 := Lib.hid (bthen HB0.out hbw1)
  clear hbw1
  rw [H.out]
  go_wp2_with fail
  refine (Clock.right_any now _).mono ?_
  rintro e w2 ⟨rfl, rfl⟩
  rw [HN.out]
  go_wp2_with fail
  obtain ⟨c0, c1, c2, c3, c4⟩ := HXw1.out.at5
  have hltw1 := HXw1.out.lt
  have hD0 := (Below.refl w1.heap.size w1).drew
  go_region_held3 (fun w' => Below w1.heap.size w1 w' ∧ w'.cell? ⟨w.heap.size, 0, none⟩ = some (.int .i64 si)) (first | exact ⟨hD0, c0⟩ | exact ⟨by assumption, by assumption⟩ | go_keep)
    ((go_at_call 36; refine (fresh_b _).mono ?_; rintro e w' ⟨rfl, hb⟩; have hB' := bthen ‹Below w1.heap.size w1 _› hb; have k0 := (hB'.cell (p := ⟨w.heap.size, 0, none⟩) hltw1).trans c0; clear hb))
  have HXr := Lib.hid (HXw1.out.below hB' HXw1.out.lt)
  have HFr := Lib.hid (HFw1.out.below hB' HFw1.out.lt)
  have HBr := Lib.hid (bthen HBw1.out hB')
  clear hB' hD0 k0 c0 c1 c2 c3 c4
  obtain ⟨c0, c1, c2, c3, c4⟩ := HXr.out.at5
  obtain ⟨r0, r1, r2, r3, r4⟩ := HFr.out.at5
  have z0 := HFr.out.frozen 0
  have z1 := HFr.out.frozen 1
  have z2 := HFr.out.frozen 2
  have z3 := HFr.out.frozen 3
  have z4 := HFr.out.frozen 4
  have y0 := HXr.out.frozen 0
  have y1 := HXr.out.frozen 1
  have y2 := HXr.out.frozen 2
  have y3 := HXr.out.frozen 3
  have y4 := HXr.out.frozen 4
  have hne : w.heap.size ≠ w.heap.size + 1 := by omega
  have hne' : w.heap.size + 1 ≠ w.heap.size := by omega
  go_wp2_with fail
  have hF0 := ((((((HFr.out.far hne' (p := ⟨w.heap.size, 0, none⟩) (.int .i64 now)).set_ 0 (.int .i64 now)).set_ 1 (.bool st)).set_ 2 (.bool aw)).set_ 3 (.int .i64 ro)).set_ 4 (.int .i64 ol))
  have hF : Blk _ _ _ #[.int .i64 now, .bool st, .bool aw, .int .i64 ro, .int .i64 ol] := hF0
  have hB := ((((((HBr.out.setCell (p := ⟨w.heap.size, 0, none⟩) (Nat.le_refl _) (.int .i64 now)).setCell (p := ⟨w.heap.size + 1, 0, none⟩) (by simp) (.int .i64 now)).setCell (p := ⟨w.heap.size + 1, 1, none⟩) (by simp) (.bool st)).setCell (p := ⟨w.heap.size + 1, 2, none⟩) (by simp) (.bool aw)).setCell (p := ⟨w.heap.size + 1, 3, none⟩) (by simp) (.int .i64 ro)).setCell (p := ⟨w.heap.size + 1, 4, none⟩) (by simp) (.int .i64 ol))
  clear hF0 c0 c1 c2 c3 c4 r0 r1 r2 r3 r4 z0 z1 z2 z3 z4 y0 y1 y2 y3 y4
  revert hF hB
  generalize World.setCell _ _ _ = W9
  intro hF hB
  obtain ⟨g0, g1, g2, g3, g4⟩ := hF.at5
  exact bodyPost_ret (v := .tuple #[.agg #[.int .i64 now, .bool st, .bool aw, .int .i64 ro, .int .i64 ol], .bool false, .int .i64 0]) (by simp [results, Try.results43, go_sem, g0, g1, g2, g3, g4]) rfl ⟨rfl, hB⟩
/-- Who is told: does he starve now, and how often did he go round? -/
def wst (st : Bool) (si now : Int) : Bool := st || (si != -1 && decide (1000000 < max (now - si) 0))
def wro (ro wd : Int) : Int := if Flags.has wd 2 = true then ro else 0
set_option maxRecDepth 100000 in
set_option maxHeartbeats 4000000 in
theorem wake_bad (si : Int) (st aw : Bool) (ro ol now : Int) (wd : Int) (w : World) (hw : wd < 0 ∨ 2147483648 ≤ wd) :
    Calls Try.prog 44 #[.agg #[.int .i64 si, .bool st, .bool aw, .int .i64 ro, .int .i64 ol], .int .i64 now, .int .i64 wd] w fun e w' => e = .returned (.tuple #[.agg #[.int .i64 0, .bool false, .bool false, .int .i64 0, .int .i64 0], .bool false, .int .i64 1]) ∧ Below w.heap.size w w' := by
  have hfd := fld_fresh
  have hb0 : Below w.heap.size w ((w.alloc (.cells #[.int .i64 si, .bool st, .bool aw, .int .i64 ro, .int .i64 ol] 42)).alloc (.cells #[.int .i64 0, .bool false, .bool false, .int .i64 0, .int .i64 0] 42)) := ((Below.refl _ _).alloc (Nat.le_refl _) _).alloc (by simp) _
  have hx := (Blk.new w 42 #[.int .i64 si, .bool st, .bool aw, .int .i64 ro, .int .i64 ol]).alloc (.cells #[.int .i64 0, .bool false, .bool false, .int .i64 0, .int .i64 0] 42)
  have hf := Blk.new (w.alloc (.cells #[.int .i64 si, .bool st, .bool aw, .int .i64 ro, .int .i64 ol] 42)) 42 #[.int .i64 0, .bool false, .bool false, .int .i64 0, .int .i64 0]
  rw [World.size_alloc] at hf
  have HB0 := Lib.hid hb0
  have HX := Lib.hid hx
  have HF := Lib.hid hf
  clear hb0 hx hf
  go_enter Try.func44, Try.ntmps44
  go_wp2_with fail
  obtain ⟨W, hW⟩ : ∃ W, (w.alloc (.cells #[.int .i64 si, .bool st, .bool aw, .int .i64 ro, .int .i64 ol] 42)).alloc (.cells #[.int .i64 0, .bool false, .bool false, .int .i64 0, .int .i64 0] 42) = W := ⟨_, rfl⟩
  rw [hW] at HB0 HX HF ⊢
  clear hW
  refine (Flags.unpack_no wd hw _).mono ?_
  rintro e w1 ⟨rfl, hbw1⟩
  have HXw1 := Lib.hid (HX.out.below hbw1 HX.out.lt)
  have HFw1 := Lib.hid (HF.out.below hbw1 HF.out.lt)
  have HBw1 := Lib.hid (bthen HB0.out hbw1)
  clear hbw1
  have HXr := HXw1
  have HFr := HFw1
  have HBr := HBw1
  have hg1 : w.heap.size + 1 < w1.heap.size := HFw1.out.lt
  obtain ⟨c0, c1, c2, c3, c4⟩ := HXr.out.at5
  obtain ⟨r0, r1, r2, r3, r4⟩ := HFr.out.at5
  have z0 := HFr.out.frozen 0
  have z1 := HFr.out.frozen 1
  have z2 := HFr.out.frozen 2
  have z3 := HFr.out.frozen 3
  have z4 := HFr.out.frozen 4
  have y0 := HXr.out.frozen 0
  have y1 := HXr.out.frozen 1
  have y2 := HXr.out.frozen 2
  have y3 := HXr.out.frozen 3
  have y4 := HXr.out.frozen 4
  have hne : w.heap.size ≠ w.heap.size + 1 := by omega
  have hne' : w.heap.size + 1 ≠ w.heap.size := by omega
  have hn2 : w.heap.size + 1 ≠ w1.heap.size := by omega
  have hn3 : w1.heap.size ≠ w.heap.size + 1 := by omega
  go_wp2_with fail
  have hF0 := (((((HFr.out.set_ 0 (.int .i64 0)).set_ 1 (.bool false)).set_ 2 (.bool false)).set_ 3 (.int .i64 0)).set_ 4 (.int .i64 0)).alloc (.cells #[.bool false, .bool false, .bool false, .int .i64 0] 48)
  have hF : Blk _ _ _ #[.int .i64 0, .bool false, .bool false, .int .i64 0, .int .i64 0] := hF0
  have hB := (((((HBr.out.setCell (p := ⟨w.heap.size + 1, 0, none⟩) (by simp) (.int .i64 0)).setCell (p := ⟨w.heap.size + 1, 1, none⟩) (by simp) (.bool false)).setCell (p := ⟨w.heap.size + 1, 2, none⟩) (by simp) (.bool false)).setCell (p := ⟨w.heap.size + 1, 3, none⟩) (by simp) (.int .i64 0)).setCell (p := ⟨w.heap.size + 1, 4, none⟩) (by simp) (.int .i64 0)).alloc (by simp; omega) (.cells #[.bool false, .bool false, .bool false, .int .i64 0] 48)
  clear hF0 c0 c1 c2 c3 c4 r0 r1 r2 r3 r4 z0 z1 z2 z3 z4 y0 y1 y2 y3 y4
  revert hF hB
  generalize World.alloc _ _ = W9
  intro hF hB
  obtain ⟨g0, g1, g2, g3, g4⟩ := hF.at5
  exact bodyPost_ret (v := .tuple #[.agg #[.int .i64 0, .bool false, .bool false, .int .i64 0, .int .i64 0], .bool false, .int .i64 1]) (by simp [results, Try.results44, go_sem, g0, g1, g2, g3, g4]) rfl ⟨rfl, hB⟩
set_option maxRecDepth 100000 in
set_option maxHeartbeats 4000000 in
theorem wake_no (si : Int) (st aw : Bool) (ro ol now : Int) (wd : Int) (w : World) (hw : 0 ≤ wd ∧ wd < 2147483648) (h : right si ro ol = false) :
    Calls Try.prog 44 #[.agg #[.int .i64 si, .bool st, .bool aw, .int .i64 ro, .int .i64 ol], .int .i64 now, .int .i64 wd] w fun e w' => e = .returned (.tuple #[.agg #[.int .i64 0, .bool false, .bool false, .int .i64 0, .int .i64 0], .bool false, .int .i64 1]) ∧ Below w.heap.size w w' := by
  have H := Lib.hid h
  clear h
  have hfd := fld_fresh
  have hb0 : Below w.heap.size w ((w.alloc (.cells #[.int .i64 si, .bool st, .bool aw, .int .i64 ro, .int .i64 ol] 42)).alloc (.cells #[.int .i64 0, .bool false, .bool false, .int .i64 0, .int .i64 0] 42)) := ((Below.refl _ _).alloc (Nat.le_refl _) _).alloc (by simp) _
  have hx := (Blk.new w 42 #[.int .i64 si, .bool st, .bool aw, .int .i64 ro, .int .i64 ol]).alloc (.cells #[.int .i64 0, .bool false, .bool false, .int .i64 0, .int .i64 0] 42)
  have hf := Blk.new (w.alloc (.cells #[.int .i64 si, .bool st, .bool aw, .int .i64 ro, .int .i64 ol] 42)) 42 #[.int .i64 0, .bool false, .bool false, .int .i64 0, .int .i64 0]
  rw [World.size_alloc] at hf
  have HB0 := Lib.hid hb0
  have HX := Lib.hid hx
  have HF := Lib.hid hf
  clear hb0 hx hf
  go_enter Try.func44, Try.ntmps44
  go_wp2_with fail
  obtain ⟨W, hW⟩ : ∃ W, (w.alloc (.cells #[.int .i64 si, .bool st, .bool aw, .int .i64 ro, .int .i64 ol] 42)).alloc (.cells #[.int .i64 0, .bool false, .bool false, .int .i64 0, .int .i64 0] 42) = W := ⟨_, rfl⟩
  rw [hW] at HB0 HX HF ⊢
  clear hW
  refine (Flags.unpack_yes wd hw.1 hw.2 _).mono ?_
  rintro e w1 ⟨rfl, hbw1⟩
  have HXw1 := Lib.hid (HX.out.below hbw1 HX.out.lt)
  have HFw1 := Lib.hid (HF.out.below hbw1 HF.out.lt)
  have HBw1 := Lib.hid (bthen HB0.out hbw1)
  clear hbw1
  have HX2 := Lib.hid (HXw1.out.alloc (.cells #[.bool (Flags.has wd 0), .bool (Flags.has wd 1), .bool (Flags.has wd 2), .int .i64 (wd / 8)] 48))
  have HF2 := Lib.hid (HFw1.out.alloc (.cells #[.bool (Flags.has wd 0), .bool (Flags.has wd 1), .bool (Flags.has wd 2), .int .i64 (wd / 8)] 48))
  have HG2 := Lib.hid (Blk.new w1 48 #[.bool (Flags.has wd 0), .bool (Flags.has wd 1), .bool (Flags.has wd 2), .int .i64 (wd / 8)])
  have HB2 := Lib.hid (HBw1.out.alloc HBw1.out.size (.cells #[.bool (Flags.has wd 0), .bool (Flags.has wd 1), .bool (Flags.has wd 2), .int .i64 (wd / 8)] 48))
  have hg1 : w.heap.size + 1 < w1.heap.size := HFw1.out.lt
  obtain ⟨W2, hW2⟩ : ∃ W2, w1.alloc (.cells #[.bool (Flags.has wd 0), .bool (Flags.has wd 1), .bool (Flags.has wd 2), .int .i64 (wd / 8)] 48) = W2 := ⟨_, rfl⟩
  rw [hW2] at HX2 HF2 HG2 HB2
  obtain ⟨g, hg⟩ : ∃ g, w1.heap.size = g := ⟨_, rfl⟩
  rw [hg] at HG2 hg1
  obtain ⟨c0, c1, c2, c3, c4⟩ := HX2.out.at5
  go_wp2_with fail
  clear hW2 hg c0 c1 c2 c3 c4
  refine (right_any si st aw ro ol _).mono ?_
  rintro e w3 ⟨rfl, hbw3⟩
  have HXw3 := Lib.hid (HX2.out.below hbw3 HX2.out.lt)
  have HFw3 := Lib.hid (HF2.out.below hbw3 HF2.out.lt)
  have HBw3 := Lib.hid (bthen HB2.out hbw3)
  clear hbw3
  rw [H.out]
  have HXr := HXw3
  have HFr := HFw3
  have HBr := HBw3
  obtain ⟨c0, c1, c2, c3, c4⟩ := HXr.out.at5
  obtain ⟨r0, r1, r2, r3, r4⟩ := HFr.out.at5
  have z0 := HFr.out.frozen 0
  have z1 := HFr.out.frozen 1
  have z2 := HFr.out.frozen 2
  have z3 := HFr.out.frozen 3
  have z4 := HFr.out.frozen 4
  have y0 := HXr.out.frozen 0
  have y1 := HXr.out.frozen 1
  have y2 := HXr.out.frozen 2
  have y3 := HXr.out.frozen 3
  have y4 := HXr.out.frozen 4
  have hne : w.heap.size ≠ w.heap.size + 1 := by omega
  have hne' : w.heap.size + 1 ≠ w.heap.size := by omega
  go_wp2_with fail
  have hF0 := (((((HFr.out.set_ 0 (.int .i64 0)).set_ 1 (.bool false)).set_ 2 (.bool false)).set_ 3 (.int .i64 0)).set_ 4 (.int .i64 0))
  have hF : Blk _ _ _ #[.int .i64 0, .bool false, .bool false, .int .i64 0, .int .i64 0] := hF0
  have hB := (((((HBr.out.setCell (p := ⟨w.heap.size + 1, 0, none⟩) (by simp) (.int .i64 0)).setCell (p := ⟨w.heap.size + 1, 1, none⟩) (by simp) (.bool false)).setCell (p := ⟨w.heap.size + 1, 2, none⟩) (by simp) (.bool false)).setCell (p := ⟨w.heap.size + 1, 3, none⟩) (by simp) (.int .i64 0)).setCell (p := ⟨w.heap.size + 1, 4, none⟩) (by simp) (.int .i64 0))
  clear hF0 c0 c1 c2 c3 c4 r0 r1 r2 r3 r4 z0 z1 z2 z3 z4 y0 y1 y2 y3 y4
  revert hF hB
  generalize World.setCell _ _ _ = W9
  intro hF hB
  obtain ⟨g0, g1, g2, g3, g4⟩ := hF.at5
  exact bodyPost_ret (v := .tuple #[.agg #[.int .i64 0, .bool false, .bool false, .int .i64 0, .int .i64 0], .bool false, .int .i64 1]) (by simp [results, Try.results44, go_sem, g0, g1, g2, g3, g4]) rfl ⟨rfl, hB⟩
set_option maxRecDepth 100000 in
set_option maxHeartbeats 4000000 in
theorem wake_out (si : Int) (st aw : Bool) (ro ol now : Int) (wd : Int) (w : World) (hw : 0 ≤ wd ∧ wd < 2147483648) (h : right si ro ol = true) (hn : Clock.right now = false) :
    Calls Try.prog 44 #[.agg #[.int .i64 si, .bool st, .bool aw, .int .i64 ro, .int .i64 ol], .int .i64 now, .int .i64 wd] w fun e w' => e = .returned (.tuple #[.agg #[.int .i64 0, .bool false, .bool false, .int .i64 0, .int .i64 0], .bool false, .int .i64 1]) ∧ Below w.heap.size w w' := by
  have H := Lib.hid h
  have HN := Lib.hid hn
  clear h hn
  have hfd := fld_fresh
  have hb0 : Below w.heap.size w ((w.alloc (.cells #[.int .i64 si, .bool st, .bool aw, .int .i64 ro, .int .i64 ol] 42)).alloc (.cells #[.int .i64 0, .bool false, .bool false, .int .i64 0, .int .i64 0] 42)) := ((Below.refl _ _).alloc (Nat.le_refl _) _).alloc (by simp) _
  have hx := (Blk.new w 42 #[.int .i64 si, .bool st, .bool aw, .int .i64 ro, .int .i64 ol]).alloc (.cells #[.int .i64 0, .bool false, .bool false, .int .i64 0, .int .i64 0] 42)
  have hf := Blk.new (w.alloc (.cells #[.int .i64 si, .bool st, .bool aw, .int .i64 ro, .int .i64 ol] 42)) 42 #[.int .i64 0, .bool false, .bool false, .int .i64 0, .int .i64 0]
  rw [World.size_alloc] at hf
  have HB0 := Lib.hid hb0
  have HX := Lib.hid hx
  have HF := Lib.hid hf
  clear hb0 hx hf
  go_enter Try.func44, Try.ntmps44
  go_wp2_with fail
  obtain ⟨W, hW⟩ : ∃ W, (w.alloc (.cells #[.int .i64 si, .bool st, .bool aw, .int .i64 ro, .int .i64 ol] 42)).alloc (.cells #[.int .i64 0, .bool false, .bool false, .int .i64 0, .int .i64 0] 42) = W := ⟨_, rfl⟩
  rw [hW] at HB0 HX HF ⊢
  clear hW
  refine (Flags.unpack_yes wd hw.1 hw.2 _).mono ?_
  rintro e w1 ⟨rfl, hbw1⟩
  have HXw1 := Lib.hid (HX.out.below hbw1 HX.out.lt)
  have HFw1 := Lib.hid (HF.out.below hbw1 HF.out.lt)
  have HBw1 := Lib.hid (bthen HB0.out hbw1)
  clear hbw1
  have HX2 := Lib.hid (HXw1.out.alloc (.cells #[.bool (Flags.has wd 0), .bool (Flags.has wd 1), .bool (Flags.has wd 2), .int .i64 (wd / 8)] 48))
  have HF2 := Lib.hid (HFw1.out.alloc (.cells #[.bool (Flags.has wd 0), .bool (Flags.has wd 1), .bool (Flags.has wd 2), .int .i64 (wd / 8)] 48))
  have HG2 := Lib.hid (Blk.new w1 48 #[.bool (Flags.has wd 0), .bool (Flags.has wd 1), .bool (Flags.has wd 2), .int .i64 (wd / 8)])
  have HB2 := Lib.hid (HBw1.out.alloc HBw1.out.size (.cells #[.bool (Flags.has wd 0), .bool (Flags.has wd 1), .bool (Flags.has wd 2), .int .i64 (wd / 8)] 48))
  have hg1 : w.heap.size + 1 < w1.heap.size := HFw1.out.lt
  obtain ⟨W2, hW2⟩ : ∃ W2, w1.alloc (.cells #[.bool (Flags.has wd 0), .bool (Flags.has wd 1), .bool (Flags.has wd 2), .int .i64 (wd / 8)] 48) = W2 := ⟨_, rfl⟩
  rw [hW2] at HX2 HF2 HG2 HB2
  obtain ⟨g, hg⟩ : ∃ g, w1.heap.size = g := ⟨_, rfl⟩
  rw [hg] at HG2 hg1
  obtain ⟨c0, c1, c2, c3, c4⟩ := HX2.out.at5
  go_wp2_with fail
  clear hW2 hg c0 c1 c2 c3 c4
  refine (right_any si st aw ro ol _).mono ?_
  rintro e w3 ⟨rfl, hbw3⟩
  have HXw3 := Lib.hid (HX2.out.below hbw3 HX2.out.lt)
  have HFw3 := Lib.hid (HF2.out.below hbw3 HF2.out.lt)
  have HBw3 := Lib.hid (bthen HB2.out hbw3)
  clear hbw3
  rw [H.out]
  go_wp2_with fail
  refine (Clock.right_any now _).mono ?_
  rintro e w4 ⟨rfl, rfl⟩
  rw [HN.out]
  have HXr := HXw3
  have HFr := HFw3
  have HBr := HBw3
  obtain ⟨c0, c1, c2, c3, c4⟩ := HXr.out.at5
  obtain ⟨r0, r1, r2, r3, r4⟩ := HFr.out.at5
  have z0 := HFr.out.frozen 0
  have z1 := HFr.out.frozen 1
  have z2 := HFr.out.frozen 2
  have z3 := HFr.out.frozen 3
  have z4 := HFr.out.frozen 4
  have y0 := HXr.out.frozen 0
  have y1 := HXr.out.frozen 1
  have y2 := HXr.out.frozen 2
  have y3 := HXr.out.frozen 3
  have y4 := HXr.out.frozen 4
  have hne : w.heap.size ≠ w.heap.size + 1 := by omega
  have hne' : w.heap.size + 1 ≠ w.heap.size := by omega
  go_wp2_with fail
  have hF0 := (((((HFr.out.set_ 0 (.int .i64 0)).set_ 1 (.bool false)).set_ 2 (.bool false)).set_ 3 (.int .i64 0)).set_ 4 (.int .i64 0))
  have hF : Blk _ _ _ #[.int .i64 0, .bool false, .bool false, .int .i64 0, .int .i64 0] := hF0
  have hB := (((((HBr.out.setCell (p := ⟨w.heap.size + 1, 0, none⟩) (by simp) (.int .i64 0)).setCell (p := ⟨w.heap.size + 1, 1, none⟩) (by simp) (.bool false)).setCell (p := ⟨w.heap.size + 1, 2, none⟩) (by simp) (.bool false)).setCell (p := ⟨w.heap.size + 1, 3, none⟩) (by simp) (.int .i64 0)).setCell (p := ⟨w.heap.size + 1, 4, none⟩) (by simp) (.int .i64 0))
  clear hF0 c0 c1 c2 c3 c4 r0 r1 r2 r3 r4 z0 z1 z2 z3 z4 y0 y1 y2 y3 y4
  revert hF hB
  generalize World.setCell _ _ _ = W9
  intro hF hB
  obtain ⟨g0, g1, g2, g3, g4⟩ := hF.at5
  exact bodyPost_ret (v := .tuple #[.agg #[.int .i64 0, .bool false, .bool false, .int .i64 0, .int .i64 0], .bool false, .int .i64 1]) (by simp [results, Try.results44, go_sem, g0, g1, g2, g3, g4]) rfl ⟨rfl, hB⟩
set_option maxRecDepth 100000 in
set_option maxHeartbeats 4000000 in
theorem wake_yes (si : Int) (st aw : Bool) (ro ol now : Int) (wd : Int) (w : World) (hw : 0 ≤ wd ∧ wd < 2147483648) (h : right si ro ol = true) (hn : Clock.right now = true) :
    Calls Try.prog 44 #[.agg #[.int .i64 si, .bool st, .bool aw, .int .i64 ro, .int .i64 ol], .int .i64 now, .int .i64 wd] w fun e w' => e = .returned (.tuple #[.agg #[.int .i64 si, .bool (wst st si now), .bool (aw || !Flags.has wd 2), .int .i64 (wro ro wd), .int .i64 wd], .bool (Flags.has wd 2), .int .i64 0]) ∧ Below w.heap.size w w' := by
  have H := Lib.hid h
  have HN := Lib.hid hn
  clear h hn
  have hfd := fld_fresh
  have hb0 : Below w.heap.size w ((w.alloc (.cells #[.int .i64 si, .bool st, .bool aw, .int .i64 ro, .int .i64 ol] 42)).alloc (.cells #[.int .i64 0, .bool false, .bool false, .int .i64 0, .int .i64 0] 42)) := ((Below.refl _ _).alloc (Nat.le_refl _) _).alloc (by simp) _
  have hx := (Blk.new w 42 #[.int .i64 si, .bool st, .bool aw, .int .i64 ro, .int .i64 ol]).alloc (.cells #[.int .i64 0, .bool false, .bool false, .int .i64 0, .int .i64 0] 42)
  have hf := Blk.new (w.alloc (.cells #[.int .i64 si, .bool st, .bool aw, .int .i64 ro, .int .i64 ol] 42)) 42 #[.int .i64 0, .bool false, .bool false, .int .i64 0, .int .i64 0]
  rw [World.size_alloc] at hf
  have HB0 := Lib.hid hb0
  have HX := Lib.hid hx
  have HF := Lib.hid hf
  clear hb0 hx hf
  go_enter Try.func44, Try.ntmps44
  go_wp2_with fail
  obtain ⟨W, hW⟩ : ∃ W, (w.alloc (.cells #[.int .i64 si, .bool st, .bool aw, .int .i64 ro, .int .i64 ol] 42)).alloc (.cells #[.int .i64 0, .bool false, .bool false, .int .i64 0, .int .i64 0] 42) = W := ⟨_, rfl⟩
  rw [hW] at HB0 HX HF ⊢
  clear hW
  refine (Flags.unpack_yes wd hw.1 hw.2 _).mono ?_
  rintro e w1 ⟨rfl, hbw1⟩
  have HXw1 := Lib.hid (HX.out.below hbw1 HX.out.lt)
  have HFw1 := Lib.hid (HF.out.below hbw1 HF.out.lt)
  have HBw1 := Lib.hid (bthen HB0.out hbw1)
  clear hbw1
  have HX2 := Lib.hid (HXw1.out.alloc (.cells #[.bool (Flags.has wd 0), .bool (Flags.has wd 1), .bool (Flags.has wd 2), .int .i64 (wd / 8)] 48))
  have HF2 := Lib.hid (HFw1.out.alloc (.cells #[.bool (Flags.has wd 0), .bool (Flags.has wd 1), .bool (Flags.has wd 2), .int .i64 (wd / 8)] 48))
  have HG2 := Lib.hid (Blk.new w1 48 #[.bool (Flags.has wd 0), .bool (Flags.has wd 1), .bool (Flags.has wd 2), .int .i64 (wd / 8)])
  have HB2 := Lib.hid (HBw1.out.alloc HBw1.out.size (.cells #[.bool (Flags.has wd 0), .bool (Flags.has wd 1), .bool (Flags.has wd 2), .int .i64 (wd / 8)] 48))
  have hg1 : w.heap.size + 1 < w1.heap.size := HFw1.out.lt
  obtain ⟨W2, hW2⟩ : ∃ W2, w1.alloc (.cells #[.bool (Flags.has wd 0), .bool (Flags.has wd 1), .bool (Flags.has wd 2), .int .i64 (wd / 8)] 48) = W2 := ⟨_, rfl⟩
  rw [hW2] at HX2 HF2 HG2 HB2
  obtain ⟨g, hg⟩ : ∃ g, w1.heap.size = g := ⟨_, rfl⟩
  rw [hg] at HG2 hg1
  obtain ⟨c0, c1, c2, c3, c4⟩ := HX2.out.at5
  go_wp2_with fail
  clear hW2 hg c0 c1 c2 c3 c4
  have HG3 := HG2
  refine (right_any si st aw ro ol _).mono ?_
  rintro e w3 ⟨rfl, hbw3⟩
  have HXw3 := Lib.hid (HX2.out.below hbw3 HX2.out.lt)
  have HFw3 := Lib.hid (HF2.out.below hbw3 HF2.out.lt)
  have HGw3 := Lib.hid (HG2.out.below hbw3 HG2.out.lt)
  have HBw3 := Lib.hid (bthen HB2.out hbw3)
  clear hbw3
  rw [H.out]
  go_wp2_with fail
  refine (Clock.right_any now _).mono ?_
  rintro e w4 ⟨rfl, rfl⟩
  rw [HN.out]
  go_wp2_with fail
  obtain ⟨c0, c1, c2, c3, c4⟩ := HXw3.out.at5
  have hltw3 := HXw3.out.lt
  have hD0 := (Below.refl w3.heap.size w3).drew
  go_region_held3 (fun w' => Below w3.heap.size w3 w' ∧ w'.cell? ⟨w.heap.size, 0, none⟩ = some (.int .i64 si)) (first | exact ⟨hD0, c0⟩ | exact ⟨by assumption, by assumption⟩ | go_keep)
    ((go_at_call 36; refine (fresh_b _).mono ?_; rintro e w' ⟨rfl, hb⟩; have hB' := bthen ‹Below w3.heap.size w3 _› hb; have k0 := (hB'.cell (p := ⟨w.heap.size, 0, none⟩) hltw3).trans c0; clear hb))
  have HXr := Lib.hid (HXw3.out.below hB' HXw3.out.lt)
  have HFr := Lib.hid (HFw3.out.below hB' HFw3.out.lt)
  have HBr := Lib.hid (bthen HBw3.out hB')
  have hBsave := hB'
  clear hB' hD0 k0 c0 c1 c2 c3 c4
  have HGr := Lib.hid (HGw3.out.below hBsave HGw3.out.lt)
  clear hBsave
  obtain ⟨G, hG⟩ : ∃ G, Flags.has wd 2 = G := ⟨_, rfl⟩
  rw [hG] at HGr ⊢
  have HGG := Lib.hid hG
  clear hG
  by_cases hs : si = -1
  · have hs1 : (si != -1) = false := by simp [hs]
    have HST : Hid (wst st si now = st) := by unfold Hid wst; rw [hs1]; simp
    clear hs
    cases G
    · obtain ⟨c0, c1, c2, c3, c4⟩ := HXr.out.at5
      obtain ⟨g0, g1, g2, g3⟩ := HGr.out.at4
      have y1 := HXr.out.frozen 1
      have y2 := HXr.out.frozen 2
      have y3 := HXr.out.frozen 3
      have y4 := HXr.out.frozen 4
      have hgx : g ≠ w.heap.size := by omega
      have hxg : w.heap.size ≠ g := by omega
      have hgf : g ≠ w.heap.size + 1 := by omega
      have hfg : w.heap.size + 1 ≠ g := by omega
      have hne : w.heap.size ≠ w.heap.size + 1 := by omega
      have hne' : w.heap.size + 1 ≠ w.heap.size := by omega
      have hX10 : Blk _ _ _ #[.int .i64 si, .bool st, .bool true, .int .i64 0, .int .i64 wd] := (((HXr.out.set_ 4 (.int .i64 wd)).set_ 2 (.bool true)).set_ 3 (.int .i64 0))
      have hF10 := (((HFr.out.far hne' (p := ⟨w.heap.size, 4, none⟩) (.int .i64 wd)).far hne' (p := ⟨w.heap.size, 2, none⟩) (.bool true)).far hne' (p := ⟨w.heap.size, 3, none⟩) (.int .i64 0))
      have hG10 := (((HGr.out.far hgx (p := ⟨w.heap.size, 4, none⟩) (.int .i64 wd)).far hgx (p := ⟨w.heap.size, 2, none⟩) (.bool true)).far hgx (p := ⟨w.heap.size, 3, none⟩) (.int .i64 0))
      have hB10 := (((HBr.out.setCell (p := ⟨w.heap.size, 4, none⟩) (Nat.le_refl _) (.int .i64 wd)).setCell (p := ⟨w.heap.size, 2, none⟩) (Nat.le_refl _) (.bool true)).setCell (p := ⟨w.heap.size, 3, none⟩) (Nat.le_refl _) (.int .i64 0))

      go_wp2_with fail
      clear c0 c1 c2 c3 c4 g0 g1 g2 g3 y1 y2 y3 y4
      revert hX10 hF10 hG10 hB10
      generalize World.setCell _ _ _ = W10
      intro hX10 hF10 hG10 hB10
      obtain ⟨c0, c1, c2, c3, c4⟩ := hX10.at5
      obtain ⟨r0, r1, r2, r3, r4⟩ := hF10.at5
      obtain ⟨g0, g1, g2, g3⟩ := hG10.at4
      have z0 := hF10.frozen 0
      have z1 := hF10.frozen 1
      have z2 := hF10.frozen 2
      have z3 := hF10.frozen 3
      have z4 := hF10.frozen 4
      have hF11 : Hid (Blk _ _ _ #[.int .i64 si, .bool st, .bool true, .int .i64 0, .int .i64 wd]) := Lib.hid (show Blk _ _ _ #[.int .i64 si, .bool st, .bool true, .int .i64 0, .int .i64 wd] from (((((hF10.set_ 0 (.int .i64 si)).set_ 1 (.bool st)).set_ 2 (.bool true)).set_ 3 (.int .i64 0)).set_ 4 (.int .i64 wd)))
      have hB11 := Lib.hid (((((hB10.setCell (p := ⟨w.heap.size + 1, 0, none⟩) (by simp) (.int .i64 si)).setCell (p := ⟨w.heap.size + 1, 1, none⟩) (by simp) (.bool st)).setCell (p := ⟨w.heap.size + 1, 2, none⟩) (by simp) (.bool true)).setCell (p := ⟨w.heap.size + 1, 3, none⟩) (by simp) (.int .i64 0)).setCell (p := ⟨w.heap.size + 1, 4, none⟩) (by simp) (.int .i64 wd))
      clear hX10 hF10 hG10 hB10
      have HRES := Lib.hid (show wst _ si now = st ∧ (aw || !Flags.has wd 2) = true ∧ wro ro wd = 0 ∧ Flags.has wd 2 = false from ⟨HST.out, by rw [HGG.out]; simp, by unfold wro; rw [HGG.out]; rfl, HGG.out⟩)
      clear H HN hfd HB0 HXw1 HFw1 HBw1 HX2 HF2 HG2 HB2 HG3 HXw3 HFw3 HGw3 HBw3 HXr HFr HGr HBr HGG HST hg1 g0 g1 g3
      skip
      go_region
      go_wp2_with fail
      have hF := hF11.out.drew
      have hB := hB11.out.drew
      clear hF11 hB11 c0 c1 c2 c3 c4 r0 r1 r2 r3 r4 z0 z1 z2 z3 z4
      revert hF hB
      generalize World.drew _ = W12
      intro hF hB
      obtain ⟨g0, g1, g2, g3, g4⟩ := hF.at5
      refine bodyPost_ret (v := .tuple #[.agg #[.int .i64 si, .bool st, .bool true, .int .i64 0, .int .i64 wd], .bool false, .int .i64 0]) (by simp [results, Try.results44, go_sem, g0, g1, g2, g3, g4]) rfl ⟨?_, hB⟩
      rw [HRES.out.1, HRES.out.2.1, HRES.out.2.2.1, HRES.out.2.2.2]
    · obtain ⟨c0, c1, c2, c3, c4⟩ := HXr.out.at5
      obtain ⟨g0, g1, g2, g3⟩ := HGr.out.at4
      have y1 := HXr.out.frozen 1
      have y2 := HXr.out.frozen 2
      have y3 := HXr.out.frozen 3
      have y4 := HXr.out.frozen 4
      have hgx : g ≠ w.heap.size := by omega
      have hxg : w.heap.size ≠ g := by omega
      have hgf : g ≠ w.heap.size + 1 := by omega
      have hfg : w.heap.size + 1 ≠ g := by omega
      have hne : w.heap.size ≠ w.heap.size + 1 := by omega
      have hne' : w.heap.size + 1 ≠ w.heap.size := by omega
      have hX10 : Blk _ _ _ #[.int .i64 si, .bool st, .bool aw, .int .i64 ro, .int .i64 wd] := (HXr.out.set_ 4 (.int .i64 wd))
      have hF10 := (HFr.out.far hne' (p := ⟨w.heap.size, 4, none⟩) (.int .i64 wd))
      have hG10 := (HGr.out.far hgx (p := ⟨w.heap.size, 4, none⟩) (.int .i64 wd))
      have hB10 := (HBr.out.setCell (p := ⟨w.heap.size, 4, none⟩) (Nat.le_refl _) (.int .i64 wd))

      go_wp2_with fail
      clear c0 c1 c2 c3 c4 g0 g1 g2 g3 y1 y2 y3 y4
      revert hX10 hF10 hG10 hB10
      generalize World.setCell _ _ _ = W10
      intro hX10 hF10 hG10 hB10
      obtain ⟨c0, c1, c2, c3, c4⟩ := hX10.at5
      obtain ⟨r0, r1, r2, r3, r4⟩ := hF10.at5
      obtain ⟨g0, g1, g2, g3⟩ := hG10.at4
      have z0 := hF10.frozen 0
      have z1 := hF10.frozen 1
      have z2 := hF10.frozen 2
      have z3 := hF10.frozen 3
      have z4 := hF10.frozen 4
      have hF11 : Hid (Blk _ _ _ #[.int .i64 si, .bool st, .bool aw, .int .i64 ro, .int .i64 wd]) := Lib.hid (show Blk _ _ _ #[.int .i64 si, .bool st, .bool aw, .int .i64 ro, .int .i64 wd] from (((((hF10.set_ 0 (.int .i64 si)).set_ 1 (.bool st)).set_ 2 (.bool aw)).set_ 3 (.int .i64 ro)).set_ 4 (.int .i64 wd)))
      have hB11 := Lib.hid (((((hB10.setCell (p := ⟨w.heap.size + 1, 0, none⟩) (by simp) (.int .i64 si)).setCell (p := ⟨w.heap.size + 1, 1, none⟩) (by simp) (.bool st)).setCell (p := ⟨w.heap.size + 1, 2, none⟩) (by simp) (.bool aw)).setCell (p := ⟨w.heap.size + 1, 3, none⟩) (by simp) (.int .i64 ro)).setCell (p := ⟨w.heap.size + 1, 4, none⟩) (by simp) (.int .i64 wd))
      clear hX10 hF10 hG10 hB10
      have HRES := Lib.hid (show wst _ si now = st ∧ (aw || !Flags.has wd 2) = aw ∧ wro ro wd = ro ∧ Flags.has wd 2 = true from ⟨HST.out, by rw [HGG.out]; simp, by unfold wro; rw [HGG.out]; rfl, HGG.out⟩)
      clear H HN hfd HB0 HXw1 HFw1 HBw1 HX2 HF2 HG2 HB2 HG3 HXw3 HFw3 HGw3 HBw3 HXr HFr HGr HBr HGG HST hg1 g0 g1 g3
      skip
      go_region
      go_wp2_with fail
      have hF := hF11.out.drew
      have hB := hB11.out.drew
      clear hF11 hB11 c0 c1 c2 c3 c4 r0 r1 r2 r3 r4 z0 z1 z2 z3 z4
      revert hF hB
      generalize World.drew _ = W12
      intro hF hB
      obtain ⟨g0, g1, g2, g3, g4⟩ := hF.at5
      refine bodyPost_ret (v := .tuple #[.agg #[.int .i64 si, .bool st, .bool aw, .int .i64 ro, .int .i64 wd], .bool true, .int .i64 0]) (by simp [results, Try.results44, go_sem, g0, g1, g2, g3, g4]) rfl ⟨?_, hB⟩
      rw [HRES.out.1, HRES.out.2.1, HRES.out.2.2.1, HRES.out.2.2.2]
  · have hs1 : (si != -1) = true := by simp [hs]
    have hsr : Clock.right si = true := by
      have := H.out
      unfold right at this
      simp only [Bool.and_eq_true, Bool.or_eq_true] at this
      rcases this.1.2 with h | h
      · exact absurd (by simpa using h) hs
      · exact h
    have HSR := Lib.hid hsr
    have HLT : Hid (wst st si now = (st || decide (1000000 < max (now - si) 0))) := by unfold Hid wst; rw [hs1, Bool.true_and]
    obtain ⟨l, hl⟩ : ∃ l, decide (1000000 < max (now - si) 0) = l := ⟨_, rfl⟩
    rw [hl] at HLT
    have HL := Lib.hid hl
    have c0 := HXr.out.at5.1
    clear hs hsr hl
    go_wp2_with fail
    refine (Clock.late_yes now si HN.out HSR.out _).mono ?_
    rintro e w5 ⟨rfl, hb5⟩
    rw [HL.out]
    have HX5 := Lib.hid (HXr.out.below hb5 HXr.out.lt)
    have HF5 := Lib.hid (HFr.out.below hb5 HFr.out.lt)
    have HG5 := Lib.hid (HGr.out.below hb5 HGr.out.lt)
    have HB5 := Lib.hid (bthen HBr.out hb5)
    clear hb5 c0 HXr HFr HGr HBr
    have HXr := HX5
    have HFr := HF5
    have HGr := HG5
    have HBr := HB5
    clear HX5 HF5 HG5 HB5
    cases st with
    | true =>
      have HST : Hid (wst true si now = true) := HLT.out
      cases G
      · obtain ⟨c0, c1, c2, c3, c4⟩ := HXr.out.at5
        obtain ⟨g0, g1, g2, g3⟩ := HGr.out.at4
        have y1 := HXr.out.frozen 1
        have y2 := HXr.out.frozen 2
        have y3 := HXr.out.frozen 3
        have y4 := HXr.out.frozen 4
        have hgx : g ≠ w.heap.size := by omega
        have hxg : w.heap.size ≠ g := by omega
        have hgf : g ≠ w.heap.size + 1 := by omega
        have hfg : w.heap.size + 1 ≠ g := by omega
        have hne : w.heap.size ≠ w.heap.size + 1 := by omega
        have hne' : w.heap.size + 1 ≠ w.heap.size := by omega
        have hX10 : Blk _ _ _ #[.int .i64 si, .bool true, .bool true, .int .i64 0, .int .i64 wd] := ((((HXr.out.set_ 1 (.bool true)).set_ 4 (.int .i64 wd)).set_ 2 (.bool true)).set_ 3 (.int .i64 0))
        have hF10 := ((((HFr.out.far hne' (p := ⟨w.heap.size, 1, none⟩) (.bool true)).far hne' (p := ⟨w.heap.size, 4, none⟩) (.int .i64 wd)).far hne' (p := ⟨w.heap.size, 2, none⟩) (.bool true)).far hne' (p := ⟨w.heap.size, 3, none⟩) (.int .i64 0))
        have hG10 := ((((HGr.out.far hgx (p := ⟨w.heap.size, 1, none⟩) (.bool true)).far hgx (p := ⟨w.heap.size, 4, none⟩) (.int .i64 wd)).far hgx (p := ⟨w.heap.size, 2, none⟩) (.bool true)).far hgx (p := ⟨w.heap.size, 3, none⟩) (.int .i64 0))
        have hB10 := ((((HBr.out.setCell (p := ⟨w.heap.size, 1, none⟩) (Nat.le_refl _) (.bool true)).setCell (p := ⟨w.heap.size, 4, none⟩) (Nat.le_refl _) (.int .i64 wd)).setCell (p := ⟨w.heap.size, 2, none⟩) (Nat.le_refl _) (.bool true)).setCell (p := ⟨w.heap.size, 3, none⟩) (Nat.le_refl _) (.int .i64 0))

        go_wp2_with fail
        clear c0 c1 c2 c3 c4 g0 g1 g2 g3 y1 y2 y3 y4
        revert hX10 hF10 hG10 hB10
        generalize World.setCell _ _ _ = W10
        intro hX10 hF10 hG10 hB10
        obtain ⟨c0, c1, c2, c3, c4⟩ := hX10.at5
        obtain ⟨r0, r1, r2, r3, r4⟩ := hF10.at5
        obtain ⟨g0, g1, g2, g3⟩ := hG10.at4
        have z0 := hF10.frozen 0
        have z1 := hF10.frozen 1
        have z2 := hF10.frozen 2
        have z3 := hF10.frozen 3
        have z4 := hF10.frozen 4
        have hF11 : Hid (Blk _ _ _ #[.int .i64 si, .bool true, .bool true, .int .i64 0, .int .i64 wd]) := Lib.hid (show Blk _ _ _ #[.int .i64 si, .bool true, .bool true, .int .i64 0, .int .i64 wd] from (((((hF10.set_ 0 (.int .i64 si)).set_ 1 (.bool true)).set_ 2 (.bool true)).set_ 3 (.int .i64 0)).set_ 4 (.int .i64 wd)))
        have hB11 := Lib.hid (((((hB10.setCell (p := ⟨w.heap.size + 1, 0, none⟩) (by simp) (.int .i64 si)).setCell (p := ⟨w.heap.size + 1, 1, none⟩) (by simp) (.bool true)).setCell (p := ⟨w.heap.size + 1, 2, none⟩) (by simp) (.bool true)).setCell (p := ⟨w.heap.size + 1, 3, none⟩) (by simp) (.int .i64 0)).setCell (p := ⟨w.heap.size + 1, 4, none⟩) (by simp) (.int .i64 wd))
        clear hX10 hF10 hG10 hB10
        have HRES := Lib.hid (show wst _ si now = true ∧ (aw || !Flags.has wd 2) = true ∧ wro ro wd = 0 ∧ Flags.has wd 2 = false from ⟨HST.out, by rw [HGG.out]; simp, by unfold wro; rw [HGG.out]; rfl, HGG.out⟩)
        clear H HN hfd HB0 HXw1 HFw1 HBw1 HX2 HF2 HG2 HB2 HG3 HXw3 HFw3 HGw3 HBw3 HXr HFr HGr HBr HGG HST hg1 g0 g1 g3
        clear HSR HLT HL
        go_region
        go_wp2_with fail
        have hF := hF11.out.drew
        have hB := hB11.out.drew
        clear hF11 hB11 c0 c1 c2 c3 c4 r0 r1 r2 r3 r4 z0 z1 z2 z3 z4
        revert hF hB
        generalize World.drew _ = W12
        intro hF hB
        obtain ⟨g0, g1, g2, g3, g4⟩ := hF.at5
        refine bodyPost_ret (v := .tuple #[.agg #[.int .i64 si, .bool true, .bool true, .int .i64 0, .int .i64 wd], .bool false, .int .i64 0]) (by simp [results, Try.results44, go_sem, g0, g1, g2, g3, g4]) rfl ⟨?_, hB⟩
        rw [HRES.out.1, HRES.out.2.1, HRES.out.2.2.1, HRES.out.2.2.2]
      · obtain ⟨c0, c1, c2, c3, c4⟩ := HXr.out.at5
        obtain ⟨g0, g1, g2, g3⟩ := HGr.out.at4
        have y1 := HXr.out.frozen 1
        have y2 := HXr.out.frozen 2
        have y3 := HXr.out.frozen 3
        have y4 := HXr.out.frozen 4
        have hgx : g ≠ w.heap.size := by omega
        have hxg : w.heap.size ≠ g := by omega
        have hgf : g ≠ w.heap.size + 1 := by omega
        have hfg : w.heap.size + 1 ≠ g := by omega
        have hne : w.heap.size ≠ w.heap.size + 1 := by omega
        have hne' : w.heap.size + 1 ≠ w.heap.size := by omega
        have hX10 : Blk _ _ _ #[.int .i64 si, .bool true, .bool aw, .int .i64 ro, .int .i64 wd] := ((HXr.out.set_ 1 (.bool true)).set_ 4 (.int .i64 wd))
        have hF10 := ((HFr.out.far hne' (p := ⟨w.heap.size, 1, none⟩) (.bool true)).far hne' (p := ⟨w.heap.size, 4, none⟩) (.int .i64 wd))
        have hG10 := ((HGr.out.far hgx (p := ⟨w.heap.size, 1, none⟩) (.bool true)).far hgx (p := ⟨w.heap.size, 4, none⟩) (.int .i64 wd))
        have hB10 := ((HBr.out.setCell (p := ⟨w.heap.size, 1, none⟩) (Nat.le_refl _) (.bool true)).setCell (p := ⟨w.heap.size, 4, none⟩) (Nat.le_refl _) (.int .i64 wd))

        go_wp2_with fail
        clear c0 c1 c2 c3 c4 g0 g1 g2 g3 y1 y2 y3 y4
        revert hX10 hF10 hG10 hB10
        generalize World.setCell _ _ _ = W10
        intro hX10 hF10 hG10 hB10
        obtain ⟨c0, c1, c2, c3, c4⟩ := hX10.at5
        obtain ⟨r0, r1, r2, r3, r4⟩ := hF10.at5
        obtain ⟨g0, g1, g2, g3⟩ := hG10.at4
        have z0 := hF10.frozen 0
        have z1 := hF10.frozen 1
        have z2 := hF10.frozen 2
        have z3 := hF10.frozen 3
        have z4 := hF10.frozen 4
        have hF11 : Hid (Blk _ _ _ #[.int .i64 si, .bool true, .bool aw, .int .i64 ro, .int .i64 wd]) := Lib.hid (show Blk _ _ _ #[.int .i64 si, .bool true, .bool aw, .int .i64 ro, .int .i64 wd] from (((((hF10.set_ 0 (.int .i64 si)).set_ 1 (.bool true)).set_ 2 (.bool aw)).set_ 3 (.int .i64 ro)).set_ 4 (.int .i64 wd)))
        have hB11 := Lib.hid (((((hB10.setCell (p := ⟨w.heap.size + 1, 0, none⟩) (by simp) (.int .i64 si)).setCell (p := ⟨w.heap.size + 1, 1, none⟩) (by simp) (.bool true)).setCell (p := ⟨w.heap.size + 1, 2, none⟩) (by simp) (.bool aw)).setCell (p := ⟨w.heap.size + 1, 3, none⟩) (by simp) (.int .i64 ro)).setCell (p := ⟨w.heap.size + 1, 4, none⟩) (by simp) (.int .i64 wd))
        clear hX10 hF10 hG10 hB10
        have HRES := Lib.hid (show wst _ si now = true ∧ (aw || !Flags.has wd 2) = aw ∧ wro ro wd = ro ∧ Flags.has wd 2 = true from ⟨HST.out, by rw [HGG.out]; simp, by unfold wro; rw [HGG.out]; rfl, HGG.out⟩)
        clear H HN hfd HB0 HXw1 HFw1 HBw1 HX2 HF2 HG2 HB2 HG3 HXw3 HFw3 HGw3 HBw3 HXr HFr HGr HBr HGG HST hg1 g0 g1 g3
        clear HSR HLT HL
        go_region
        go_wp2_with fail
        have hF := hF11.out.drew
        have hB := hB11.out.drew
        clear hF11 hB11 c0 c1 c2 c3 c4 r0 r1 r2 r3 r4 z0 z1 z2 z3 z4
        revert hF hB
        generalize World.drew _ = W12
        intro hF hB
        obtain ⟨g0, g1, g2, g3, g4⟩ := hF.at5
        refine bodyPost_ret (v := .tuple #[.agg #[.int .i64 si, .bool true, .bool aw, .int .i64 ro, .int .i64 wd], .bool true, .int .i64 0]) (by simp [results, Try.results44, go_sem, g0, g1, g2, g3, g4]) rfl ⟨?_, hB⟩
        rw [HRES.out.1, HRES.out.2.1, HRES.out.2.2.1, HRES.out.2.2.2]
    | false =>
      have HST : Hid (wst false si now = l) := by unfold Hid; rw [HLT.out, Bool.false_or]
      cases G
      · obtain ⟨c0, c1, c2, c3, c4⟩ := HXr.out.at5
        obtain ⟨g0, g1, g2, g3⟩ := HGr.out.at4
        have y1 := HXr.out.frozen 1
        have y2 := HXr.out.frozen 2
        have y3 := HXr.out.frozen 3
        have y4 := HXr.out.frozen 4
        have hgx : g ≠ w.heap.size := by omega
        have hxg : w.heap.size ≠ g := by omega
        have hgf : g ≠ w.heap.size + 1 := by omega
        have hfg : w.heap.size + 1 ≠ g := by omega
        have hne : w.heap.size ≠ w.heap.size + 1 := by omega
        have hne' : w.heap.size + 1 ≠ w.heap.size := by omega
        have hX10 : Blk _ _ _ #[.int .i64 si, .bool l, .bool true, .int .i64 0, .int .i64 wd] := ((((HXr.out.set_ 1 (.bool l)).set_ 4 (.int .i64 wd)).set_ 2 (.bool true)).set_ 3 (.int .i64 0))
        have hF10 := ((((HFr.out.far hne' (p := ⟨w.heap.size, 1, none⟩) (.bool l)).far hne' (p := ⟨w.heap.size, 4, none⟩) (.int .i64 wd)).far hne' (p := ⟨w.heap.size, 2, none⟩) (.bool true)).far hne' (p := ⟨w.heap.size, 3, none⟩) (.int .i64 0))
        have hG10 := ((((HGr.out.far hgx (p := ⟨w.heap.size, 1, none⟩) (.bool l)).far hgx (p := ⟨w.heap.size, 4, none⟩) (.int .i64 wd)).far hgx (p := ⟨w.heap.size, 2, none⟩) (.bool true)).far hgx (p := ⟨w.heap.size, 3, none⟩) (.int .i64 0))
        have hB10 := ((((HBr.out.setCell (p := ⟨w.heap.size, 1, none⟩) (Nat.le_refl _) (.bool l)).setCell (p := ⟨w.heap.size, 4, none⟩) (Nat.le_refl _) (.int .i64 wd)).setCell (p := ⟨w.heap.size, 2, none⟩) (Nat.le_refl _) (.bool true)).setCell (p := ⟨w.heap.size, 3, none⟩) (Nat.le_refl _) (.int .i64 0))

        go_wp2_with fail
        clear c0 c1 c2 c3 c4 g0 g1 g2 g3 y1 y2 y3 y4
        revert hX10 hF10 hG10 hB10
        generalize World.setCell _ _ _ = W10
        intro hX10 hF10 hG10 hB10
        obtain ⟨c0, c1, c2, c3, c4⟩ := hX10.at5
        obtain ⟨r0, r1, r2, r3, r4⟩ := hF10.at5
        obtain ⟨g0, g1, g2, g3⟩ := hG10.at4
        have z0 := hF10.frozen 0
        have z1 := hF10.frozen 1
        have z2 := hF10.frozen 2
        have z3 := hF10.frozen 3
        have z4 := hF10.frozen 4
        have hF11 : Hid (Blk _ _ _ #[.int .i64 si, .bool l, .bool true, .int .i64 0, .int .i64 wd]) := Lib.hid (show Blk _ _ _ #[.int .i64 si, .bool l, .bool true, .int .i64 0, .int .i64 wd] from (((((hF10.set_ 0 (.int .i64 si)).set_ 1 (.bool l)).set_ 2 (.bool true)).set_ 3 (.int .i64 0)).set_ 4 (.int .i64 wd)))
        have hB11 := Lib.hid (((((hB10.setCell (p := ⟨w.heap.size + 1, 0, none⟩) (by simp) (.int .i64 si)).setCell (p := ⟨w.heap.size + 1, 1, none⟩) (by simp) (.bool l)).setCell (p := ⟨w.heap.size + 1, 2, none⟩) (by simp) (.bool true)).setCell (p := ⟨w.heap.size + 1, 3, none⟩) (by simp) (.int .i64 0)).setCell (p := ⟨w.heap.size + 1, 4, none⟩) (by simp) (.int .i64 wd))
        clear hX10 hF10 hG10 hB10
        have HRES := Lib.hid (show wst _ si now = l ∧ (aw || !Flags.has wd 2) = true ∧ wro ro wd = 0 ∧ Flags.has wd 2 = false from ⟨HST.out, by rw [HGG.out]; simp, by unfold wro; rw [HGG.out]; rfl, HGG.out⟩)
        clear H HN hfd HB0 HXw1 HFw1 HBw1 HX2 HF2 HG2 HB2 HG3 HXw3 HFw3 HGw3 HBw3 HXr HFr HGr HBr HGG HST hg1 g0 g1 g3
        clear HSR HLT HL
        go_region
        go_wp2_with fail
        have hF := hF11.out.drew
        have hB := hB11.out.drew
        clear hF11 hB11 c0 c1 c2 c3 c4 r0 r1 r2 r3 r4 z0 z1 z2 z3 z4
        revert hF hB
        generalize World.drew _ = W12
        intro hF hB
        obtain ⟨g0, g1, g2, g3, g4⟩ := hF.at5
        refine bodyPost_ret (v := .tuple #[.agg #[.int .i64 si, .bool l, .bool true, .int .i64 0, .int .i64 wd], .bool false, .int .i64 0]) (by simp [results, Try.results44, go_sem, g0, g1, g2, g3, g4]) rfl ⟨?_, hB⟩
        rw [HRES.out.1, HRES.out.2.1, HRES.out.2.2.1, HRES.out.2.2.2]
      · obtain ⟨c0, c1, c2, c3, c4⟩ := HXr.out.at5
        obtain ⟨g0, g1, g2, g3⟩ := HGr.out.at4
        have y1 := HXr.out.frozen 1
        have y2 := HXr.out.frozen 2
        have y3 := HXr.out.frozen 3
        have y4 := HXr.out.frozen 4
        have hgx : g ≠ w.heap.size := by omega
        have hxg : w.heap.size ≠ g := by omega
        have hgf : g ≠ w.heap.size + 1 := by omega
        have hfg : w.heap.size + 1 ≠ g := by omega
        have hne : w.heap.size ≠ w.heap.size + 1 := by omega
        have hne' : w.heap.size + 1 ≠ w.heap.size := by omega
        have hX10 : Blk _ _ _ #[.int .i64 si, .bool l, .bool aw, .int .i64 ro, .int .i64 wd] := ((HXr.out.set_ 1 (.bool l)).set_ 4 (.int .i64 wd))
        have hF10 := ((HFr.out.far hne' (p := ⟨w.heap.size, 1, none⟩) (.bool l)).far hne' (p := ⟨w.heap.size, 4, none⟩) (.int .i64 wd))
        have hG10 := ((HGr.out.far hgx (p := ⟨w.heap.size, 1, none⟩) (.bool l)).far hgx (p := ⟨w.heap.size, 4, none⟩) (.int .i64 wd))
        have hB10 := ((HBr.out.setCell (p := ⟨w.heap.size, 1, none⟩) (Nat.le_refl _) (.bool l)).setCell (p := ⟨w.heap.size, 4, none⟩) (Nat.le_refl _) (.int .i64 wd))

        go_wp2_with fail
        clear c0 c1 c2 c3 c4 g0 g1 g2 g3 y1 y2 y3 y4
        revert hX10 hF10 hG10 hB10
        generalize World.setCell _ _ _ = W10
        intro hX10 hF10 hG10 hB10
        obtain ⟨c0, c1, c2, c3, c4⟩ := hX10.at5
        obtain ⟨r0, r1, r2, r3, r4⟩ := hF10.at5
        obtain ⟨g0, g1, g2, g3⟩ := hG10.at4
        have z0 := hF10.frozen 0
        have z1 := hF10.frozen 1
        have z2 := hF10.frozen 2
        have z3 := hF10.frozen 3
        have z4 := hF10.frozen 4
        have hF11 : Hid (Blk _ _ _ #[.int .i64 si, .bool l, .bool aw, .int .i64 ro, .int .i64 wd]) := Lib.hid (show Blk _ _ _ #[.int .i64 si, .bool l, .bool aw, .int .i64 ro, .int .i64 wd] from (((((hF10.set_ 0 (.int .i64 si)).set_ 1 (.bool l)).set_ 2 (.bool aw)).set_ 3 (.int .i64 ro)).set_ 4 (.int .i64 wd)))
        have hB11 := Lib.hid (((((hB10.setCell (p := ⟨w.heap.size + 1, 0, none⟩) (by simp) (.int .i64 si)).setCell (p := ⟨w.heap.size + 1, 1, none⟩) (by simp) (.bool l)).setCell (p := ⟨w.heap.size + 1, 2, none⟩) (by simp) (.bool aw)).setCell (p := ⟨w.heap.size + 1, 3, none⟩) (by simp) (.int .i64 ro)).setCell (p := ⟨w.heap.size + 1, 4, none⟩) (by simp) (.int .i64 wd))
        clear hX10 hF10 hG10 hB10
        have HRES := Lib.hid (show wst _ si now = l ∧ (aw || !Flags.has wd 2) = aw ∧ wro ro wd = ro ∧ Flags.has wd 2 = true from ⟨HST.out, by rw [HGG.out]; simp, by unfold wro; rw [HGG.out]; rfl, HGG.out⟩)
        clear H HN hfd HB0 HXw1 HFw1 HBw1 HX2 HF2 HG2 HB2 HG3 HXw3 HFw3 HGw3 HBw3 HXr HFr HGr HBr HGG HST hg1 g0 g1 g3
        clear HSR HLT HL
        go_region
        go_wp2_with fail
        have hF := hF11.out.drew
        have hB := hB11.out.drew
        clear hF11 hB11 c0 c1 c2 c3 c4 r0 r1 r2 r3 r4 z0 z1 z2 z3 z4
        revert hF hB
        generalize World.drew _ = W12
        intro hF hB
        obtain ⟨g0, g1, g2, g3, g4⟩ := hF.at5
        refine bodyPost_ret (v := .tuple #[.agg #[.int .i64 si, .bool l, .bool aw, .int .i64 ro, .int .i64 wd], .bool true, .int .i64 0]) (by simp [results, Try.results44, go_sem, g0, g1, g2, g3, g4]) rfl ⟨?_, hB⟩
        rw [HRES.out.1, HRES.out.2.1, HRES.out.2.2.1, HRES.out.2.2.2]
end Grab
end Go.Proofs.Ytkjhacbkgnjilaa
