/-
  The document's own functions of layer 14 (grab): Right, Sleep, Wake. Printed by gen_grabref.py.
-/
import Derived.Test.YtkjhacbkgnjilaaGrab5
import Derived.Test.YtkjhacbkgnjilaaRef03
import Derived.Test.YtkjhacbkgnjilaaRef04
namespace Go.Proofs.Ytkjhacbkgnjilaa
open Go.RowKit
namespace Grab
set_option maxHeartbeats 4000000 in
theorem refRight_any (si : Int) (st aw : Bool) (ro ol : Int) (w : World) :
    Calls Try.prog 35 #[.agg #[.int .i64 si, .bool st, .bool aw, .int .i64 ro, .int .i64 ol]] w fun e w' => e = .returned (.bool (right si ro ol)) ∧ Below w.heap.size w w' := by
  have hb0 := (Below.refl w.heap.size w).alloc (Nat.le_refl _) (.cells #[.int .i64 si, .bool st, .bool aw, .int .i64 ro, .int .i64 ol] 42)
  have HB0 := Lib.hid hb0
  clear hb0
  go_enter Try.func35, Try.ntmps35
  by_cases hs : si = -1
  · have hs1 : (si == -1) = true := by simp [hs]
    have hcl : ((si == -1) || Clock.right si) = true := by rw [hs1]; rfl
    have HCL := Lib.hid hcl
    clear hs hcl
    by_cases h0 : 0 ≤ ro
    · have d0 : decide (0 ≤ ro) = true := decide_eq_true h0
      by_cases h4 : ro ≤ 4
      · have d4 : decide (ro ≤ 4) = true := decide_eq_true h4
        go_wp2_with fail
        refine (Ref03.refWord_any ol _).mono ?_
        rintro e w2 ⟨rfl, rfl⟩
        have HR : Hid (right si ro ol = Flags.isWord ol) := by unfold Hid right; rw [HCL.out, decide_eq_true (And.intro h0 h4)]; simp
        go_wp2_with fail
        go_ret
        exact ⟨ret_bool HR.out.symm, HB0.out⟩
      · have d4 : decide (ro ≤ 4) = false := decide_eq_false h4
        have HR : Hid (right si ro ol = false) := by unfold Hid right; rw [decide_eq_false (fun h : 0 ≤ ro ∧ ro ≤ 4 => h4 h.2), Bool.and_false]
        go_wp2_with fail
        go_ret
        exact ⟨ret_bool HR.out.symm, HB0.out⟩
    · have d0 : decide (0 ≤ ro) = false := decide_eq_false h0
      have HR : Hid (right si ro ol = false) := by unfold Hid right; rw [decide_eq_false (fun h : 0 ≤ ro ∧ ro ≤ 4 => h0 h.1), Bool.and_false]
      go_wp2_with fail
      go_ret
      exact ⟨ret_bool HR.out.symm, HB0.out⟩
  · have hs1 : (si == -1) = false := by simp [hs]
    clear hs
    go_wp2_with fail
    refine (Clock.refRight_any si _).mono ?_
    rintro e w2 ⟨rfl, rfl⟩
    cases hc : Clock.right si with
    | true =>
      have hcl : ((si == -1) || Clock.right si) = true := by rw [hc, Bool.or_true]
      have HCL := Lib.hid hcl
      clear hc hcl
      by_cases h0 : 0 ≤ ro
      · have d0 : decide (0 ≤ ro) = true := decide_eq_true h0
        by_cases h4 : ro ≤ 4
        · have d4 : decide (ro ≤ 4) = true := decide_eq_true h4
          go_wp2_with fail
          refine (Ref03.refWord_any ol _).mono ?_
          rintro e w2 ⟨rfl, rfl⟩
          have HR : Hid (right si ro ol = Flags.isWord ol) := by unfold Hid right; rw [HCL.out, decide_eq_true (And.intro h0 h4)]; simp
          go_wp2_with fail
          go_ret
          exact ⟨ret_bool HR.out.symm, HB0.out⟩
        · have d4 : decide (ro ≤ 4) = false := decide_eq_false h4
          have HR : Hid (right si ro ol = false) := by unfold Hid right; rw [decide_eq_false (fun h : 0 ≤ ro ∧ ro ≤ 4 => h4 h.2), Bool.and_false]
          go_wp2_with fail
          go_ret
          exact ⟨ret_bool HR.out.symm, HB0.out⟩
      · have d0 : decide (0 ≤ ro) = false := decide_eq_false h0
        have HR : Hid (right si ro ol = false) := by unfold Hid right; rw [decide_eq_false (fun h : 0 ≤ ro ∧ ro ≤ 4 => h0 h.1), Bool.and_false]
        go_wp2_with fail
        go_ret
        exact ⟨ret_bool HR.out.symm, HB0.out⟩
    | false =>
      have HR : Hid (right si ro ol = false) := by unfold Hid right; rw [hs1, hc]; simp
      clear hc
      go_wp2_with fail
      go_ret
      exact ⟨ret_bool HR.out.symm, HB0.out⟩
set_option maxRecDepth 100000 in
theorem refSleep_again (si : Int) (st aw : Bool) (ro ol now : Int) (w : World) (hs : si ≠ -1) :
    Calls Try.prog 46 #[.agg #[.int .i64 si, .bool st, .bool aw, .int .i64 ro, .int .i64 ol], .int .i64 now] w fun e w' => e = .returned (.tuple #[.agg #[.int .i64 si, .bool st, .bool aw, .int .i64 ro, .int .i64 ol], .bool true]) ∧ Below w.heap.size w w' := by
  have hs1 : (si != -1) = true := by simp [hs]
  clear hs
  go_enter Try.func46, Try.ntmps46
  go_wp2_with fail
  refine bodyPost_ret (v := .tuple #[.agg #[.int .i64 si, .bool st, .bool aw, .int .i64 ro, .int .i64 ol], .bool true]) (by simp [results, Try.results46, go_sem]) rfl ⟨rfl, ?_⟩
  exact ((Below.refl _ _).alloc (Nat.le_refl _) _).alloc (by simp) _
set_option maxRecDepth 100000 in
theorem refSleep_first (si : Int) (st aw : Bool) (ro ol now : Int) (w : World) (hs : si = -1) :
    Calls Try.prog 46 #[.agg #[.int .i64 si, .bool st, .bool aw, .int .i64 ro, .int .i64 ol], .int .i64 now] w fun e w' => e = .returned (.tuple #[.agg #[.int .i64 now, .bool st, .bool aw, .int .i64 ro, .int .i64 ol], .bool false]) ∧ Below w.heap.size w w' := by
  have hs1 : (si != -1) = false := by simp [hs]
  clear hs
  go_enter Try.func46, Try.ntmps46
  go_wp2_with fail
  refine bodyPost_ret (v := .tuple #[.agg #[.int .i64 now, .bool st, .bool aw, .int .i64 ro, .int .i64 ol], .bool false]) (by simp [results, Try.results46, go_sem]) rfl ⟨rfl, ?_⟩
  exact ((Below.refl _ _).alloc (Nat.le_refl _) _).alloc (by simp) _
set_option maxRecDepth 100000 in
set_option maxHeartbeats 4000000 in
theorem refWake_any (si : Int) (st aw : Bool) (ro ol now wd : Int) (w : World) (hw : 0 ≤ wd ∧ wd < 2147483648) (hsi : si = -1 ∨ Clock.right si = true) (hn : Clock.right now = true) :
    Calls Try.prog 48 #[.agg #[.int .i64 si, .bool st, .bool aw, .int .i64 ro, .int .i64 ol], .int .i64 now, .int .i64 wd] w fun e w' => e = .returned (.tuple #[.agg #[.int .i64 si, .bool (wst st si now), .bool (aw || !Flags.has wd 2), .int .i64 (wro ro wd), .int .i64 wd], .bool (Flags.has wd 2)]) ∧ Below w.heap.size w w' := by
  have HN := Lib.hid hn
  have HSI := Lib.hid hsi
  clear hn hsi
  go_enter Try.func48, Try.ntmps48
  by_cases hs : si = -1
  · have hs1 : (si != -1) = false := by simp [hs]
    have HST : Hid (wst st si now = st) := by unfold Hid wst; rw [hs1]; simp
    clear hs
    have hb0 : Below w.heap.size w ((w.alloc (.cells #[.int .i64 si, .bool st, .bool aw, .int .i64 ro, .int .i64 wd] 42)).alloc (.cells #[.int .i64 0, .bool false, .bool false, .int .i64 0, .int .i64 0] 42)) := ((Below.refl _ _).alloc (Nat.le_refl _) _).alloc (by simp) _
    have hx := (Blk.new w 42 #[.int .i64 si, .bool st, .bool aw, .int .i64 ro, .int .i64 wd]).alloc (.cells #[.int .i64 0, .bool false, .bool false, .int .i64 0, .int .i64 0] 42)
    have hf := Blk.new (w.alloc (.cells #[.int .i64 si, .bool st, .bool aw, .int .i64 ro, .int .i64 wd] 42)) 42 #[.int .i64 0, .bool false, .bool false, .int .i64 0, .int .i64 0]
    rw [World.size_alloc] at hf
    have HB0 := Lib.hid hb0
    have HX := Lib.hid hx
    have HF := Lib.hid hf
    clear hb0 hx hf
    go_wp2_with fail
    refine (Ref03.refUnpack_any wd hw.1 hw.2 _).mono ?_
    rintro e w1 ⟨rfl, hb1⟩
    have HX1 := Lib.hid (HX.out.below hb1 HX.out.lt)
    have HF1 := Lib.hid (HF.out.below hb1 HF.out.lt)
    have HB1 := Lib.hid (HB0.out.trans (hb1.mono HB0.out.size))
    clear hb1
    obtain ⟨G, hG⟩ : ∃ G, Flags.has wd 2 = G := ⟨_, rfl⟩
    rw [hG]
    have HGG := Lib.hid hG
    clear hG
    have hfl := fun a b c d w => Ref03.fld2 a b c d w
    obtain ⟨c0, c1, c2, c3, c4⟩ := HX1.out.at5
    obtain ⟨r0, r1, r2, r3, r4⟩ := HF1.out.at5
    have z0 := HF1.out.frozen 0
    have z1 := HF1.out.frozen 1
    have z2 := HF1.out.frozen 2
    have z3 := HF1.out.frozen 3
    have z4 := HF1.out.frozen 4
    have y2 := HX1.out.frozen 2
    have y3 := HX1.out.frozen 3
    have hne : w.heap.size ≠ w.heap.size + 1 := by omega
    have hne' : w.heap.size + 1 ≠ w.heap.size := by omega
    cases G
    · have HRES := Lib.hid (show wst _ si now = st ∧ (aw || !Flags.has wd 2) = true ∧ wro ro wd = 0 ∧ Flags.has wd 2 = false from ⟨HST.out, by rw [HGG.out]; simp, by unfold wro; rw [HGG.out]; rfl, HGG.out⟩)
      go_wp2_with fail
      have hF0 := (((((((HF1.out.far hne' (p := ⟨w.heap.size, 2, none⟩) (.bool true)).far hne' (p := ⟨w.heap.size, 3, none⟩) (.int .i64 0)).set_ 0 (.int .i64 si)).set_ 1 (.bool st)).set_ 2 (.bool true)).set_ 3 (.int .i64 0)).set_ 4 (.int .i64 wd))
      have hF : Blk _ _ _ #[.int .i64 si, .bool st, .bool true, .int .i64 0, .int .i64 wd] := hF0
      have hB := (((((((HB1.out.setCell (p := ⟨w.heap.size, 2, none⟩) (Nat.le_refl _) (.bool true)).setCell (p := ⟨w.heap.size, 3, none⟩) (Nat.le_refl _) (.int .i64 0)).setCell (p := ⟨w.heap.size + 1, 0, none⟩) (by simp) (.int .i64 si)).setCell (p := ⟨w.heap.size + 1, 1, none⟩) (by simp) (.bool st)).setCell (p := ⟨w.heap.size + 1, 2, none⟩) (by simp) (.bool true)).setCell (p := ⟨w.heap.size + 1, 3, none⟩) (by simp) (.int .i64 0)).setCell (p := ⟨w.heap.size + 1, 4, none⟩) (by simp) (.int .i64 wd))
      clear hF0 c0 c1 c2 c3 c4 r0 r1 r2 r3 r4 z0 z1 z2 z3 z4 y2 y3
      revert hF hB
      generalize World.setCell _ _ _ = W12
      intro hF hB
      obtain ⟨g0, g1, g2, g3, g4⟩ := hF.at5
      refine bodyPost_ret (v := .tuple #[.agg #[.int .i64 si, .bool st, .bool true, .int .i64 0, .int .i64 wd], .bool false]) (by simp [results, Try.results48, go_sem, g0, g1, g2, g3, g4]) rfl ⟨?_, hB⟩
      rw [HRES.out.1, HRES.out.2.1, HRES.out.2.2.1, HRES.out.2.2.2]
    · have HRES := Lib.hid (show wst _ si now = st ∧ (aw || !Flags.has wd 2) = aw ∧ wro ro wd = ro ∧ Flags.has wd 2 = true from ⟨HST.out, by rw [HGG.out]; simp, by unfold wro; rw [HGG.out]; rfl, HGG.out⟩)
      go_wp2_with fail
      have hF0 := (((((HF1.out.set_ 0 (.int .i64 si)).set_ 1 (.bool st)).set_ 2 (.bool aw)).set_ 3 (.int .i64 ro)).set_ 4 (.int .i64 wd))
      have hF : Blk _ _ _ #[.int .i64 si, .bool st, .bool aw, .int .i64 ro, .int .i64 wd] := hF0
      have hB := (((((HB1.out.setCell (p := ⟨w.heap.size + 1, 0, none⟩) (by simp) (.int .i64 si)).setCell (p := ⟨w.heap.size + 1, 1, none⟩) (by simp) (.bool st)).setCell (p := ⟨w.heap.size + 1, 2, none⟩) (by simp) (.bool aw)).setCell (p := ⟨w.heap.size + 1, 3, none⟩) (by simp) (.int .i64 ro)).setCell (p := ⟨w.heap.size + 1, 4, none⟩) (by simp) (.int .i64 wd))
      clear hF0 c0 c1 c2 c3 c4 r0 r1 r2 r3 r4 z0 z1 z2 z3 z4 y2 y3
      revert hF hB
      generalize World.setCell _ _ _ = W12
      intro hF hB
      obtain ⟨g0, g1, g2, g3, g4⟩ := hF.at5
      refine bodyPost_ret (v := .tuple #[.agg #[.int .i64 si, .bool st, .bool aw, .int .i64 ro, .int .i64 wd], .bool true]) (by simp [results, Try.results48, go_sem, g0, g1, g2, g3, g4]) rfl ⟨?_, hB⟩
      rw [HRES.out.1, HRES.out.2.1, HRES.out.2.2.1, HRES.out.2.2.2]
  · have hs1 : (si != -1) = true := by simp [hs]
    have HSR := Lib.hid (show Clock.right si = true from HSI.out.resolve_left hs)
    have HLT : Hid (wst st si now = (st || decide (1000000 < max (now - si) 0))) := by unfold Hid wst; rw [hs1, Bool.true_and]
    obtain ⟨l, hl⟩ : ∃ l, decide (1000000 < max (now - si) 0) = l := ⟨_, rfl⟩
    rw [hl] at HLT
    have HL := Lib.hid hl
    clear hs hl
    go_wp2_with fail
    refine (Clock.refLate_any now si HN.out HSR.out _).mono ?_
    rintro e w9 ⟨rfl, rfl⟩
    rw [HL.out]
    cases l with
    | true =>
      have HST : Hid (wst st si now = true) := by unfold Hid; rw [HLT.out, Bool.or_true]
      have hb0 : Below w.heap.size w ((w.alloc (.cells #[.int .i64 si, .bool true, .bool aw, .int .i64 ro, .int .i64 wd] 42)).alloc (.cells #[.int .i64 0, .bool false, .bool false, .int .i64 0, .int .i64 0] 42)) := ((Below.refl _ _).alloc (Nat.le_refl _) _).alloc (by simp) _
      have hx := (Blk.new w 42 #[.int .i64 si, .bool true, .bool aw, .int .i64 ro, .int .i64 wd]).alloc (.cells #[.int .i64 0, .bool false, .bool false, .int .i64 0, .int .i64 0] 42)
      have hf := Blk.new (w.alloc (.cells #[.int .i64 si, .bool true, .bool aw, .int .i64 ro, .int .i64 wd] 42)) 42 #[.int .i64 0, .bool false, .bool false, .int .i64 0, .int .i64 0]
      rw [World.size_alloc] at hf
      have HB0 := Lib.hid hb0
      have HX := Lib.hid hx
      have HF := Lib.hid hf
      clear hb0 hx hf
      go_wp2_with fail
      refine (Ref03.refUnpack_any wd hw.1 hw.2 _).mono ?_
      rintro e w1 ⟨rfl, hb1⟩
      have HX1 := Lib.hid (HX.out.below hb1 HX.out.lt)
      have HF1 := Lib.hid (HF.out.below hb1 HF.out.lt)
      have HB1 := Lib.hid (HB0.out.trans (hb1.mono HB0.out.size))
      clear hb1
      obtain ⟨G, hG⟩ : ∃ G, Flags.has wd 2 = G := ⟨_, rfl⟩
      rw [hG]
      have HGG := Lib.hid hG
      clear hG
      have hfl := fun a b c d w => Ref03.fld2 a b c d w
      obtain ⟨c0, c1, c2, c3, c4⟩ := HX1.out.at5
      obtain ⟨r0, r1, r2, r3, r4⟩ := HF1.out.at5
      have z0 := HF1.out.frozen 0
      have z1 := HF1.out.frozen 1
      have z2 := HF1.out.frozen 2
      have z3 := HF1.out.frozen 3
      have z4 := HF1.out.frozen 4
      have y2 := HX1.out.frozen 2
      have y3 := HX1.out.frozen 3
      have hne : w.heap.size ≠ w.heap.size + 1 := by omega
      have hne' : w.heap.size + 1 ≠ w.heap.size := by omega
      cases G
      · have HRES := Lib.hid (show wst _ si now = true ∧ (aw || !Flags.has wd 2) = true ∧ wro ro wd = 0 ∧ Flags.has wd 2 = false from ⟨HST.out, by rw [HGG.out]; simp, by unfold wro; rw [HGG.out]; rfl, HGG.out⟩)
        go_wp2_with fail
        have hF0 := (((((((HF1.out.far hne' (p := ⟨w.heap.size, 2, none⟩) (.bool true)).far hne' (p := ⟨w.heap.size, 3, none⟩) (.int .i64 0)).set_ 0 (.int .i64 si)).set_ 1 (.bool true)).set_ 2 (.bool true)).set_ 3 (.int .i64 0)).set_ 4 (.int .i64 wd))
        have hF : Blk _ _ _ #[.int .i64 si, .bool true, .bool true, .int .i64 0, .int .i64 wd] := hF0
        have hB := (((((((HB1.out.setCell (p := ⟨w.heap.size, 2, none⟩) (Nat.le_refl _) (.bool true)).setCell (p := ⟨w.heap.size, 3, none⟩) (Nat.le_refl _) (.int .i64 0)).setCell (p := ⟨w.heap.size + 1, 0, none⟩) (by simp) (.int .i64 si)).setCell (p := ⟨w.heap.size + 1, 1, none⟩) (by simp) (.bool true)).setCell (p := ⟨w.heap.size + 1, 2, none⟩) (by simp) (.bool true)).setCell (p := ⟨w.heap.size + 1, 3, none⟩) (by simp) (.int .i64 0)).setCell (p := ⟨w.heap.size + 1, 4, none⟩) (by simp) (.int .i64 wd))
        clear hF0 c0 c1 c2 c3 c4 r0 r1 r2 r3 r4 z0 z1 z2 z3 z4 y2 y3
        revert hF hB
        generalize World.setCell _ _ _ = W12
        intro hF hB
        obtain ⟨g0, g1, g2, g3, g4⟩ := hF.at5
        refine bodyPost_ret (v := .tuple #[.agg #[.int .i64 si, .bool true, .bool true, .int .i64 0, .int .i64 wd], .bool false]) (by simp [results, Try.results48, go_sem, g0, g1, g2, g3, g4]) rfl ⟨?_, hB⟩
        rw [HRES.out.1, HRES.out.2.1, HRES.out.2.2.1, HRES.out.2.2.2]
      · have HRES := Lib.hid (show wst _ si now = true ∧ (aw || !Flags.has wd 2) = aw ∧ wro ro wd = ro ∧ Flags.has wd 2 = true from ⟨HST.out, by rw [HGG.out]; simp, by unfold wro; rw [HGG.out]; rfl, HGG.out⟩)
        go_wp2_with fail
        have hF0 := (((((HF1.out.set_ 0 (.int .i64 si)).set_ 1 (.bool true)).set_ 2 (.bool aw)).set_ 3 (.int .i64 ro)).set_ 4 (.int .i64 wd))
        have hF : Blk _ _ _ #[.int .i64 si, .bool true, .bool aw, .int .i64 ro, .int .i64 wd] := hF0
        have hB := (((((HB1.out.setCell (p := ⟨w.heap.size + 1, 0, none⟩) (by simp) (.int .i64 si)).setCell (p := ⟨w.heap.size + 1, 1, none⟩) (by simp) (.bool true)).setCell (p := ⟨w.heap.size + 1, 2, none⟩) (by simp) (.bool aw)).setCell (p := ⟨w.heap.size + 1, 3, none⟩) (by simp) (.int .i64 ro)).setCell (p := ⟨w.heap.size + 1, 4, none⟩) (by simp) (.int .i64 wd))
        clear hF0 c0 c1 c2 c3 c4 r0 r1 r2 r3 r4 z0 z1 z2 z3 z4 y2 y3
        revert hF hB
        generalize World.setCell _ _ _ = W12
        intro hF hB
        obtain ⟨g0, g1, g2, g3, g4⟩ := hF.at5
        refine bodyPost_ret (v := .tuple #[.agg #[.int .i64 si, .bool true, .bool aw, .int .i64 ro, .int .i64 wd], .bool true]) (by simp [results, Try.results48, go_sem, g0, g1, g2, g3, g4]) rfl ⟨?_, hB⟩
        rw [HRES.out.1, HRES.out.2.1, HRES.out.2.2.1, HRES.out.2.2.2]
    | false =>
      have HST : Hid (wst st si now = st) := by unfold Hid; rw [HLT.out, Bool.or_false]
      have hb0 : Below w.heap.size w ((w.alloc (.cells #[.int .i64 si, .bool st, .bool aw, .int .i64 ro, .int .i64 wd] 42)).alloc (.cells #[.int .i64 0, .bool false, .bool false, .int .i64 0, .int .i64 0] 42)) := ((Below.refl _ _).alloc (Nat.le_refl _) _).alloc (by simp) _
      have hx := (Blk.new w 42 #[.int .i64 si, .bool st, .bool aw, .int .i64 ro, .int .i64 wd]).alloc (.cells #[.int .i64 0, .bool false, .bool false, .int .i64 0, .int .i64 0] 42)
      have hf := Blk.new (w.alloc (.cells #[.int .i64 si, .bool st, .bool aw, .int .i64 ro, .int .i64 wd] 42)) 42 #[.int .i64 0, .bool false, .bool false, .int .i64 0, .int .i64 0]
      rw [World.size_alloc] at hf
      have HB0 := Lib.hid hb0
      have HX := Lib.hid hx
      have HF := Lib.hid hf
      clear hb0 hx hf
      go_wp2_with fail
      refine (Ref03.refUnpack_any wd hw.1 hw.2 _).mono ?_
      rintro e w1 ⟨rfl, hb1⟩
      have HX1 := Lib.hid (HX.out.below hb1 HX.out.lt)
      have HF1 := Lib.hid (HF.out.below hb1 HF.out.lt)
      have HB1 := Lib.hid (HB0.out.trans (hb1.mono HB0.out.size))
      clear hb1
      obtain ⟨G, hG⟩ : ∃ G, Flags.has wd 2 = G := ⟨_, rfl⟩
      rw [hG]
      have HGG := Lib.hid hG
      clear hG
      have hfl := fun a b c d w => Ref03.fld2 a b c d w
      obtain ⟨c0, c1, c2, c3, c4⟩ := HX1.out.at5
      obtain ⟨r0, r1, r2, r3, r4⟩ := HF1.out.at5
      have z0 := HF1.out.frozen 0
      have z1 := HF1.out.frozen 1
      have z2 := HF1.out.frozen 2
      have z3 := HF1.out.frozen 3
      have z4 := HF1.out.frozen 4
      have y2 := HX1.out.frozen 2
      have y3 := HX1.out.frozen 3
      have hne : w.heap.size ≠ w.heap.size + 1 := by omega
      have hne' : w.heap.size + 1 ≠ w.heap.size := by omega
      cases G
      · have HRES := Lib.hid (show wst _ si now = st ∧ (aw || !Flags.has wd 2) = true ∧ wro ro wd = 0 ∧ Flags.has wd 2 = false from ⟨HST.out, by rw [HGG.out]; simp, by unfold wro; rw [HGG.out]; rfl, HGG.out⟩)
        go_wp2_with fail
        have hF0 := (((((((HF1.out.far hne' (p := ⟨w.heap.size, 2, none⟩) (.bool true)).far hne' (p := ⟨w.heap.size, 3, none⟩) (.int .i64 0)).set_ 0 (.int .i64 si)).set_ 1 (.bool st)).set_ 2 (.bool true)).set_ 3 (.int .i64 0)).set_ 4 (.int .i64 wd))
        have hF : Blk _ _ _ #[.int .i64 si, .bool st, .bool true, .int .i64 0, .int .i64 wd] := hF0
        have hB := (((((((HB1.out.setCell (p := ⟨w.heap.size, 2, none⟩) (Nat.le_refl _) (.bool true)).setCell (p := ⟨w.heap.size, 3, none⟩) (Nat.le_refl _) (.int .i64 0)).setCell (p := ⟨w.heap.size + 1, 0, none⟩) (by simp) (.int .i64 si)).setCell (p := ⟨w.heap.size + 1, 1, none⟩) (by simp) (.bool st)).setCell (p := ⟨w.heap.size + 1, 2, none⟩) (by simp) (.bool true)).setCell (p := ⟨w.heap.size + 1, 3, none⟩) (by simp) (.int .i64 0)).setCell (p := ⟨w.heap.size + 1, 4, none⟩) (by simp) (.int .i64 wd))
        clear hF0 c0 c1 c2 c3 c4 r0 r1 r2 r3 r4 z0 z1 z2 z3 z4 y2 y3
        revert hF hB
        generalize World.setCell _ _ _ = W12
        intro hF hB
        obtain ⟨g0, g1, g2, g3, g4⟩ := hF.at5
        refine bodyPost_ret (v := .tuple #[.agg #[.int .i64 si, .bool st, .bool true, .int .i64 0, .int .i64 wd], .bool false]) (by simp [results, Try.results48, go_sem, g0, g1, g2, g3, g4]) rfl ⟨?_, hB⟩
        rw [HRES.out.1, HRES.out.2.1, HRES.out.2.2.1, HRES.out.2.2.2]
      · have HRES := Lib.hid (show wst _ si now = st ∧ (aw || !Flags.has wd 2) = aw ∧ wro ro wd = ro ∧ Flags.has wd 2 = true from ⟨HST.out, by rw [HGG.out]; simp, by unfold wro; rw [HGG.out]; rfl, HGG.out⟩)
        go_wp2_with fail
        have hF0 := (((((HF1.out.set_ 0 (.int .i64 si)).set_ 1 (.bool st)).set_ 2 (.bool aw)).set_ 3 (.int .i64 ro)).set_ 4 (.int .i64 wd))
        have hF : Blk _ _ _ #[.int .i64 si, .bool st, .bool aw, .int .i64 ro, .int .i64 wd] := hF0
        have hB := (((((HB1.out.setCell (p := ⟨w.heap.size + 1, 0, none⟩) (by simp) (.int .i64 si)).setCell (p := ⟨w.heap.size + 1, 1, none⟩) (by simp) (.bool st)).setCell (p := ⟨w.heap.size + 1, 2, none⟩) (by simp) (.bool aw)).setCell (p := ⟨w.heap.size + 1, 3, none⟩) (by simp) (.int .i64 ro)).setCell (p := ⟨w.heap.size + 1, 4, none⟩) (by simp) (.int .i64 wd))
        clear hF0 c0 c1 c2 c3 c4 r0 r1 r2 r3 r4 z0 z1 z2 z3 z4 y2 y3
        revert hF hB
        generalize World.setCell _ _ _ = W12
        intro hF hB
        obtain ⟨g0, g1, g2, g3, g4⟩ := hF.at5
        refine bodyPost_ret (v := .tuple #[.agg #[.int .i64 si, .bool st, .bool aw, .int .i64 ro, .int .i64 wd], .bool true]) (by simp [results, Try.results48, go_sem, g0, g1, g2, g3, g4]) rfl ⟨?_, hB⟩
        rw [HRES.out.1, HRES.out.2.1, HRES.out.2.2.1, HRES.out.2.2.2]
end Grab
end Go.Proofs.Ytkjhacbkgnjilaa
