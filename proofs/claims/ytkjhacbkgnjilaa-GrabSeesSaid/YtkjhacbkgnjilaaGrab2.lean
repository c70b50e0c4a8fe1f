/-
  The contracts of package grab, part 2: what may be remembered, what was seen.
-/
import Derived.Test.YtkjhacbkgnjilaaGrab
namespace Go.Proofs.Ytkjhacbkgnjilaa
open Go.RowKit
namespace Grab
theorem fresh_b (w : World) : Calls Try.prog 36 #[] w fun e w' => e = .returned (.agg #[.int .i64 (-1), .bool false, .bool false, .int .i64 0, .int .i64 0]) ∧ Below w.heap.size w w' :=
  (fresh_any w).mono fun _ _ ⟨he, hw⟩ => ⟨he, hw ▸ (Below.refl _ _).alloc (Nat.le_refl _) _⟩
theorem fld_fresh (w : World) : (Instr.field 42 (.agg #[.int .i64 (-1), .bool false, .bool false, .int .i64 0, .int .i64 0]) 0).run Try.prog w = .ok (.int .i64 (-1)) w := by kernel_rfl
set_option maxRecDepth 100000 in
set_option maxHeartbeats 2000000 in
theorem right_any (si : Int) (st aw : Bool) (ro ol : Int) (w : World) :
    Calls Try.prog 34 #[.agg #[.int .i64 si, .bool st, .bool aw, .int .i64 ro, .int .i64 ol]] w fun e w' => e = .returned (.bool (right si ro ol)) ∧ Below w.heap.size w w' := by
  have hx := Blk.new w 42 #[.int .i64 si, .bool st, .bool aw, .int .i64 ro, .int .i64 ol]
  have hb0 := (Below.refl w.heap.size w).alloc (Nat.le_refl _) (.cells #[.int .i64 si, .bool st, .bool aw, .int .i64 ro, .int .i64 ol] 42)
  have HX := Lib.hid hx
  have HB0 := Lib.hid hb0
  have hfd := fld_fresh
  have hcl : (Clock.right si = true ∨ Clock.right si = false) := by cases Clock.right si <;> simp
  clear hx hb0
  go_enter Try.func34, Try.ntmps34
  go_wp2_with fail
  obtain ⟨W, hW⟩ : ∃ W, w.alloc (.cells #[.int .i64 si, .bool st, .bool aw, .int .i64 ro, .int .i64 ol] 42) = W := ⟨_, rfl⟩
  rw [hW] at HX HB0 ⊢
  clear hW
  by_cases hw : 0 ≤ ol ∧ ol < 2147483648
  · have hiw : Flags.isWord ol = true := decide_eq_true hw
    have HIW := Lib.hid hiw
    clear hiw
    refine (Flags.unpack_yes ol hw.1 hw.2 _).mono ?_
    rintro e w1 ⟨rfl, hb1⟩
    have HX1 := Lib.hid (HX.out.below hb1 HX.out.lt)
    have HB1 := Lib.hid (bthen HB0.out (hb1.mono (Nat.le_refl _)))
    have hlt1 := Nat.lt_of_lt_of_le HX.out.lt hb1.size
    have c0 : w1.cell? ⟨w.heap.size, 0, none⟩ = some (.int .i64 si) := by rw [HX1.out.cell]; rfl
    have c3 : w1.cell? ⟨w.heap.size, 3, none⟩ = some (.int .i64 ro) := by rw [HX1.out.cell]; rfl
    clear hb1
    go_wp2_with fail
    have hlt2 : w.heap.size < w1.heap.size + 1 := by omega
    have hC0 : ((w1.alloc (.cells #[.bool (Flags.has ol 0), .bool (Flags.has ol 1), .bool (Flags.has ol 2), .int .i64 (ol / 8)] 48))).cell? ⟨w.heap.size, 0, none⟩ = some (.int .i64 si) := by rw [(HX1.out.alloc _).cell]; rfl
    have hC3 : ((w1.alloc (.cells #[.bool (Flags.has ol 0), .bool (Flags.has ol 1), .bool (Flags.has ol 2), .int .i64 (ol / 8)] 48))).cell? ⟨w.heap.size, 3, none⟩ = some (.int .i64 ro) := by rw [(HX1.out.alloc _).cell]; rfl
    have hB2 := HB1.out.alloc (HB1.out.size) (.cells #[.bool (Flags.has ol 0), .bool (Flags.has ol 1), .bool (Flags.has ol 2), .int .i64 (ol / 8)] 48)
    obtain ⟨W2, hW2⟩ : ∃ W2, w1.alloc (.cells #[.bool (Flags.has ol 0), .bool (Flags.has ol 1), .bool (Flags.has ol 2), .int .i64 (ol / 8)] 48) = W2 := ⟨_, rfl⟩
    rw [hW2] at hC0 hC3 hB2 ⊢
    have hlt3 : w.heap.size < W2.heap.size := by rw [← hW2]; simpa using hlt2
    have HB2 := Lib.hid hB2
    have hD0 := (Below.refl W2.heap.size W2).drew
    clear hW2 hB2 c0 c3 hlt2
    go_region_held3 (fun w' => Below W2.heap.size W2 w' ∧ w'.cell? ⟨w.heap.size, 0, none⟩ = some (.int .i64 si) ∧ w'.cell? ⟨w.heap.size, 3, none⟩ = some (.int .i64 ro)) (first | exact ⟨hD0, hC0, hC3⟩ | exact ⟨by assumption, by assumption, by assumption⟩ | go_keep)
      ((go_at_call 36; refine (fresh_b _).mono ?_; rintro e w' ⟨rfl, hb⟩; have hB' := bthen ‹Below W2.heap.size W2 _› hb; have k0 := (hB'.cell (p := ⟨w.heap.size, 0, none⟩) hlt3).trans hC0; have k3 := (hB'.cell (p := ⟨w.heap.size, 3, none⟩) hlt3).trans hC3; clear hb))
    have HE := Lib.hid (bthen HB2.out hB')
    clear hB' hD0 hC0 hC3
    by_cases hs : si = -1
    · have hn : (si != -1) = false := by simp [hs]
      have HS : Hid ((si == -1) = true) := by unfold Hid; simp [hs]
      clear hs
      by_cases h0 : 0 ≤ ro
      · have d0 : decide (0 ≤ ro) = true := decide_eq_true h0
        by_cases h4 : ro ≤ 4
        · have d4 : decide (ro ≤ 4) = true := decide_eq_true h4
          have HR : Hid (right si ro ol = true) := by unfold Hid right; rw [HIW.out, HS.out, Bool.true_or, decide_eq_true (And.intro h0 h4)]; rfl
          go_wp2_with fail
          go_ret
          exact ⟨ret_bool HR.out.symm, HE.out⟩
        · have d4 : decide (ro ≤ 4) = false := decide_eq_false h4
          have HR : Hid (right si ro ol = false) := by unfold Hid right; rw [decide_eq_false (fun h : 0 ≤ ro ∧ ro ≤ 4 => h4 h.2), Bool.and_false]
          go_wp2_with fail
          go_ret
          exact ⟨ret_bool HR.out.symm, HE.out⟩
      · have d0 : decide (0 ≤ ro) = false := decide_eq_false h0
        have HR : Hid (right si ro ol = false) := by unfold Hid right; rw [decide_eq_false (fun h : 0 ≤ ro ∧ ro ≤ 4 => h0 h.1), Bool.and_false]
        go_wp2_with fail
        go_ret
        exact ⟨ret_bool HR.out.symm, HE.out⟩
    · have hn : (si != -1) = true := by simp [hs]
      have HS : Hid ((si == -1) = false) := by unfold Hid; simp [hs]
      clear hs
      go_wp2_with fail
      refine (Clock.right_any si _).mono ?_
      rintro e w5 ⟨rfl, rfl⟩
      cases hc : Clock.right si with
      | true =>
        have HC := Lib.hid hc
        clear hc
        by_cases h0 : 0 ≤ ro
        · have d0 : decide (0 ≤ ro) = true := decide_eq_true h0
          by_cases h4 : ro ≤ 4
          · have d4 : decide (ro ≤ 4) = true := decide_eq_true h4
            have HR : Hid (right si ro ol = true) := by unfold Hid right; rw [HIW.out, HC.out, Bool.or_true, decide_eq_true (And.intro h0 h4)]; rfl
            go_wp2_with fail
            go_ret
            exact ⟨ret_bool HR.out.symm, HE.out⟩
          · have d4 : decide (ro ≤ 4) = false := decide_eq_false h4
            have HR : Hid (right si ro ol = false) := by unfold Hid right; rw [decide_eq_false (fun h : 0 ≤ ro ∧ ro ≤ 4 => h4 h.2), Bool.and_false]
            go_wp2_with fail
            go_ret
            exact ⟨ret_bool HR.out.symm, HE.out⟩
        · have d0 : decide (0 ≤ ro) = false := decide_eq_false h0
          have HR : Hid (right si ro ol = false) := by unfold Hid right; rw [decide_eq_false (fun h : 0 ≤ ro ∧ ro ≤ 4 => h0 h.1), Bool.and_false]
          go_wp2_with fail
          go_ret
          exact ⟨ret_bool HR.out.symm, HE.out⟩
      | false =>
        have HR : Hid (right si ro ol = false) := by unfold Hid right; rw [HS.out, hc]; simp
        clear hc
        go_wp2_with fail
        go_ret
        exact ⟨ret_bool HR.out.symm, HE.out⟩
  · have hiw : Flags.isWord ol = false := decide_eq_false hw
    have HR : Hid (right si ro ol = false) := by unfold Hid right; rw [hiw]; rfl
    clear hiw
    refine (Flags.unpack_no ol (by omega) _).mono ?_
    rintro e w1 ⟨rfl, hb1⟩
    have HX1 := Lib.hid (HX.out.below hb1 HX.out.lt)
    have HB1 := Lib.hid (bthen HB0.out (hb1.mono (Nat.le_refl _)))
    have hlt1 := Nat.lt_of_lt_of_le HX.out.lt hb1.size
    have c0 : w1.cell? ⟨w.heap.size, 0, none⟩ = some (.int .i64 si) := by rw [HX1.out.cell]; rfl
    clear hb1
    go_wp2_with fail
    have hC0 : ((w1.alloc (.cells #[.bool false, .bool false, .bool false, .int .i64 0] 48))).cell? ⟨w.heap.size, 0, none⟩ = some (.int .i64 si) := by rw [(HX1.out.alloc _).cell]; rfl
    have hB2 := HB1.out.alloc (HB1.out.size) (.cells #[.bool false, .bool false, .bool false, .int .i64 0] 48)
    obtain ⟨W2, hW2⟩ : ∃ W2, w1.alloc (.cells #[.bool false, .bool false, .bool false, .int .i64 0] 48) = W2 := ⟨_, rfl⟩
    rw [hW2] at hC0 hB2 ⊢
    have hlt3 : w.heap.size < W2.heap.size := by rw [← hW2]; simp; omega
    have HB2 := Lib.hid hB2
    have hD0 := (Below.refl W2.heap.size W2).drew
    clear hW2 hB2 c0
    go_region_held3 (fun w' => Below W2.heap.size W2 w' ∧ w'.cell? ⟨w.heap.size, 0, none⟩ = some (.int .i64 si)) (first | exact ⟨hD0, hC0⟩ | exact ⟨by assumption, by assumption⟩ | go_keep)
      ((go_at_call 36; refine (fresh_b _).mono ?_; rintro e w' ⟨rfl, hb⟩; have hB' := bthen ‹Below W2.heap.size W2 _› hb; have k0 := (hB'.cell (p := ⟨w.heap.size, 0, none⟩) hlt3).trans hC0; clear hb))
    have HE := Lib.hid (bthen HB2.out hB')
    clear hB' hD0 hC0
    go_wp2_with fail
    go_ret
    exact ⟨ret_bool HR.out.symm, HE.out⟩
theorem right_word {si ro ol : Int} (h : right si ro ol = true) : 0 ≤ ol ∧ ol < 2147483648 := by
  unfold right at h
  simp only [Bool.and_eq_true] at h
  exact of_decide_eq_true h.1.1
theorem seen_yes (si : Int) (st aw : Bool) (ro ol : Int) (w : World) (h : right si ro ol = true) :
    Calls Try.prog 56 #[.agg #[.int .i64 si, .bool st, .bool aw, .int .i64 ro, .int .i64 ol]] w fun e w' => e = .returned (.agg #[.bool (Flags.has ol 0), .bool (Flags.has ol 1), .bool (Flags.has ol 2), .int .i64 (ol / 8)]) ∧ Below w.heap.size w w' := by
  have hw := right_word h
  have H := Lib.hid h
  clear h
  go_enter Try.func56, Try.ntmps56
  go_wp2_with fail
  have hb0 : Below w.heap.size w ((w.alloc (.cells #[.int .i64 si, .bool st, .bool aw, .int .i64 ro, .int .i64 ol] 42)).alloc (.cells #[.bool false, .bool false, .bool false, .int .i64 0] 48)) := ((Below.refl _ _).alloc (Nat.le_refl _) _).alloc (by simp) _
  have hx := (Blk.new w 42 #[.int .i64 si, .bool st, .bool aw, .int .i64 ro, .int .i64 ol]).alloc (.cells #[.bool false, .bool false, .bool false, .int .i64 0] 48)
  have hf := Blk.new (w.alloc (.cells #[.int .i64 si, .bool st, .bool aw, .int .i64 ro, .int .i64 ol] 42)) 48 #[.bool false, .bool false, .bool false, .int .i64 0]
  rw [World.size_alloc] at hf
  obtain ⟨W, hW⟩ : ∃ W, (w.alloc (.cells #[.int .i64 si, .bool st, .bool aw, .int .i64 ro, .int .i64 ol] 42)).alloc (.cells #[.bool false, .bool false, .bool false, .int .i64 0] 48) = W := ⟨_, rfl⟩
  rw [hW] at hb0 hx hf ⊢
  clear hW
  have HB0 := Lib.hid hb0
  have HX := Lib.hid hx
  have HF := Lib.hid hf
  clear hb0 hx hf
  refine (right_any si st aw ro ol _).mono ?_
  rintro e w1 ⟨rfl, hb1⟩
  rw [H.out]
  have HX1 := Lib.hid (HX.out.below hb1 HX.out.lt)
  have HF1 := Lib.hid (HF.out.below hb1 HF.out.lt)
  have HB1 := Lib.hid (bthen HB0.out (hb1.mono (Nat.le_refl _)))
  clear hb1 HB0 HX HF
  have c4 : w1.cell? ⟨w.heap.size, 4, none⟩ = some (.int .i64 ol) := by rw [HX1.out.cell]; rfl
  go_wp2_with fail
  refine (Flags.unpack_yes ol hw.1 hw.2 _).mono ?_
  rintro e w2 ⟨rfl, hb2⟩
  have HF2 := Lib.hid (HF1.out.below hb2 HF1.out.lt)
  have HB2 := Lib.hid (bthen HB1.out (hb2.mono (Nat.le_refl _)))
  have hlt2 := HF2.out.lt
  have f0 : w2.cell? ⟨w.heap.size + 1, 0, none⟩ = some (.bool false) := by rw [HF2.out.cell]; rfl
  have f1 : w2.cell? ⟨w.heap.size + 1, 1, none⟩ = some (.bool false) := by rw [HF2.out.cell]; rfl
  have f2 : w2.cell? ⟨w.heap.size + 1, 2, none⟩ = some (.bool false) := by rw [HF2.out.cell]; rfl
  have f3 : w2.cell? ⟨w.heap.size + 1, 3, none⟩ = some (.int .i64 0) := by rw [HF2.out.cell]; rfl
  have z0 := HF2.out.frozen 0
  have z1 := HF2.out.frozen 1
  have z2 := HF2.out.frozen 2
  have z3 := HF2.out.frozen 3
  have hne : w.heap.size + 1 ≠ w2.heap.size := by omega
  have hne' : w2.heap.size ≠ w.heap.size + 1 := by omega
  clear hb2 c4
  go_wp2_with fail
  have hF3 := ((((HF2.out.set_ 0 (.bool (Flags.has ol 0))).set_ 1 (.bool (Flags.has ol 1))).set_ 2 (.bool (Flags.has ol 2))).set_ 3 (.int .i64 (ol / 8))).alloc (.cells #[.bool (Flags.has ol 0), .bool (Flags.has ol 1), .bool (Flags.has ol 2), .int .i64 (ol / 8)] 48)
  have hB3 := ((((HB2.out.setCell (p := ⟨w.heap.size + 1, 0, none⟩) (by simp) (.bool (Flags.has ol 0))).setCell (p := ⟨w.heap.size + 1, 1, none⟩) (by simp) (.bool (Flags.has ol 1))).setCell (p := ⟨w.heap.size + 1, 2, none⟩) (by simp) (.bool (Flags.has ol 2))).setCell (p := ⟨w.heap.size + 1, 3, none⟩) (by simp) (.int .i64 (ol / 8))).alloc (by simp; omega) (.cells #[.bool (Flags.has ol 0), .bool (Flags.has ol 1), .bool (Flags.has ol 2), .int .i64 (ol / 8)] 48)
  revert hF3 hB3
  generalize World.alloc _ _ = W3
  intro hF3 hB3
  have g0 : W3.cell? ⟨w.heap.size + 1, 0, none⟩ = some (.bool (Flags.has ol 0)) := by rw [hF3.cell]; rfl
  have g1 : W3.cell? ⟨w.heap.size + 1, 1, none⟩ = some (.bool (Flags.has ol 1)) := by rw [hF3.cell]; rfl
  have g2 : W3.cell? ⟨w.heap.size + 1, 2, none⟩ = some (.bool (Flags.has ol 2)) := by rw [hF3.cell]; rfl
  have g3 : W3.cell? ⟨w.heap.size + 1, 3, none⟩ = some (.int .i64 (ol / 8)) := by rw [hF3.cell]; rfl
  exact bodyPost_ret (v := .agg #[.bool (Flags.has ol 0), .bool (Flags.has ol 1), .bool (Flags.has ol 2), .int .i64 (ol / 8)]) (by simp [results, Try.results56, go_sem, g0, g1, g2, g3]) rfl ⟨rfl, hB3⟩
theorem seen_no (si : Int) (st aw : Bool) (ro ol : Int) (w : World) (h : right si ro ol = false) :
    Calls Try.prog 56 #[.agg #[.int .i64 si, .bool st, .bool aw, .int .i64 ro, .int .i64 ol]] w fun e w' => e = gives 1 ∧ Below w.heap.size w w' := by
  have H := Lib.hid h
  clear h
  go_enter Try.func56, Try.ntmps56
  go_wp2_with fail
  have hb0 : Below w.heap.size w ((w.alloc (.cells #[.int .i64 si, .bool st, .bool aw, .int .i64 ro, .int .i64 ol] 42)).alloc (.cells #[.bool false, .bool false, .bool false, .int .i64 0] 48)) := ((Below.refl _ _).alloc (Nat.le_refl _) _).alloc (by simp) _
  have hx := (Blk.new w 42 #[.int .i64 si, .bool st, .bool aw, .int .i64 ro, .int .i64 ol]).alloc (.cells #[.bool false, .bool false, .bool false, .int .i64 0] 48)
  have hf := Blk.new (w.alloc (.cells #[.int .i64 si, .bool st, .bool aw, .int .i64 ro, .int .i64 ol] 42)) 48 #[.bool false, .bool false, .bool false, .int .i64 0]
  rw [World.size_alloc] at hf
  obtain ⟨W, hW⟩ : ∃ W, (w.alloc (.cells #[.int .i64 si, .bool st, .bool aw, .int .i64 ro, .int .i64 ol] 42)).alloc (.cells #[.bool false, .bool false, .bool false, .int .i64 0] 48) = W := ⟨_, rfl⟩
  rw [hW] at hb0 hx hf ⊢
  clear hW
  have HB0 := Lib.hid hb0
  have HX := Lib.hid hx
  have HF := Lib.hid hf
  clear hb0 hx hf
  refine (right_any si st aw ro ol _).mono ?_
  rintro e w1 ⟨rfl, hb1⟩
  rw [H.out]
  have HX1 := Lib.hid (HX.out.below hb1 HX.out.lt)
  have HF1 := Lib.hid (HF.out.below hb1 HF.out.lt)
  have HB1 := Lib.hid (bthen HB0.out (hb1.mono (Nat.le_refl _)))
  clear hb1 HB0 HX HF
  go_wp2_with fail
  refine (must_bad 1 rfl _).mono ?_
  rintro e w2 ⟨rfl, rfl⟩
  unfold gives
  go_wp2_with fail
  exact ⟨rfl, rfl, HB1.out⟩
end Grab
end Go.Proofs.Ytkjhacbkgnjilaa
