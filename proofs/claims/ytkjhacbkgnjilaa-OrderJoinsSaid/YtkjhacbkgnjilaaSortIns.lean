/-
  The contract of slices.insertionSortCmpFunc over floats.
-/
import Derived.Test.YtkjhacbkgnjilaaSortCmp
import Derived.Test.YtkjhacbkgnjilaaSortDone
import Derived.Test.YtkjhacbkgnjilaaSortSwap
namespace Go.Proofs.Ytkjhacbkgnjilaa
open Go.RowKit
namespace Sorts
/-- One more is on its way to its place. -/
def Ins (rk : Nat → Int) (a i : Nat) (L D : List Nat) (j : Nat) : Prop := ∃ P X v Y Z M, L = P ++ ((M ++ [v]) ++ Z) ∧ D = P ++ (X ++ v :: (Y ++ Z)) ∧ P.length = a ∧ a + X.length = j ∧ j + Y.length = i ∧ a + M.length = i ∧ Srt rk (X ++ Y) ∧ (∀ y ∈ Y, rk v ≤ rk y) ∧ (X ++ Y).Perm M
section
variable {rk : Nat → Int} {a i j : Nat} {L D : List Nat}
theorem Ins.le (h : Ins rk a i L D j) : a ≤ j ∧ j ≤ i ∧ i < D.length ∧ D.length = L.length := by
  obtain ⟨P, X, v, Y, Z, M, rfl, rfl, h1, h2, h3, h4, _, _, p⟩ := h
  have := p.length_eq
  simp at this ⊢
  omega
theorem ins_start (h : Done rk a i L D) (hi : i < L.length) : Ins rk a i L D i := by
  obtain ⟨P, M, M', Q, rfl, rfl, h1, h2, p, s⟩ := h
  have hl := p.length_eq
  cases Q with
  | nil => simp at hi; omega
  | cons v Z => exact ⟨P, M', v, [], Z, M, by simp, by simp, h1, by omega, by simp, by omega, by simpa using s, by simp, by simpa using p⟩
theorem ins_stop (h : Ins rk a i L D j) (hs : j = a ∨ rk (D.getD (j - 1) 0) ≤ rk (D.getD j 0)) : Done rk a (i + 1) L D := by
  obtain ⟨P, X, v, Y, Z, M, rfl, rfl, h1, h2, h3, h4, s, hv, p⟩ := h
  have hl := p.length_eq
  have hx : ∀ x ∈ X, rk x ≤ rk v := by
    by_cases hn : X = []
    · rw [hn]; simp
    · obtain ⟨X', u, rfl⟩ := last_of hn
      have e1 : (P ++ (X' ++ [u] ++ v :: (Y ++ Z))).getD j 0 = v := by
        have := getD_mid (P ++ (X' ++ [u])) (Y ++ Z) v
        rw [show (P ++ (X' ++ [u])).length = j by simp at h2 ⊢; omega] at this
        simpa using this
      have e2 : (P ++ (X' ++ [u] ++ v :: (Y ++ Z))).getD (j - 1) 0 = u := by
        have := getD_mid (P ++ X') (v :: (Y ++ Z)) u
        rw [show (P ++ X').length = j - 1 by simp at h2 ⊢; omega] at this
        simpa using this
      rcases hs with hs | hs
      · simp at h2; omega
      · rw [e1, e2] at hs
        exact srt_last (srt_app.1 s).1 hs
  have e : P ++ (X ++ v :: (Y ++ Z)) = P ++ ((X ++ v :: Y) ++ Z) := by simp
  rw [e]
  refine Done.of' h1 (by simp; omega) ?_ (srt_insert s hx hv)
  exact (List.perm_middle (a := v) (l₁ := X) (l₂ := Y)).trans ((p.cons v).trans (List.perm_append_singleton v M).symm)
theorem ins_swap (h : Ins rk a i L D j) (hj : a < j) (hlt : rk (D.getD j 0) < rk (D.getD (j - 1) 0)) : Ins rk a i L (swp D j (j - 1)) (j - 1) := by
  obtain ⟨P, X, v, Y, Z, M, rfl, rfl, h1, h2, h3, h4, s, hv, p⟩ := h
  have hn : X ≠ [] := fun e => by rw [e] at h2; simp at h2; omega
  obtain ⟨X', u, rfl⟩ := last_of hn
  simp at h2
  have e1 : (P ++ (X' ++ [u] ++ v :: (Y ++ Z))).getD j 0 = v := by
    have := getD_mid (P ++ (X' ++ [u])) (Y ++ Z) v
    rw [show (P ++ (X' ++ [u])).length = j by simp; omega] at this
    simpa using this
  have e2 : (P ++ (X' ++ [u] ++ v :: (Y ++ Z))).getD (j - 1) 0 = u := by
    have := getD_mid (P ++ X') (v :: (Y ++ Z)) u
    rw [show (P ++ X').length = j - 1 by simp; omega] at this
    simpa using this
  rw [e1, e2] at hlt
  have e3 : swp (P ++ (X' ++ [u] ++ v :: (Y ++ Z))) j (j - 1) = P ++ (X' ++ v :: (u :: Y ++ Z)) := by
    have := swp_adj' (P ++ X') (Y ++ Z) u v
    rw [show (P ++ X').length = j - 1 by simp; omega, show j - 1 + 1 = j by omega] at this
    simpa using this
  rw [e3]
  refine ⟨P, X', v, u :: Y, Z, M, by simp, rfl, h1, by omega, by simp; omega, h4, by simpa using s, ?_, by simpa using p⟩
  intro y hy
  rcases List.mem_cons.1 hy with rfl | hy
  · omega
  · exact hv y hy
end
set_option maxRecDepth 100000 in
set_option maxHeartbeats 4000000 in
theorem insert_any (C : CmpF) (g N c a b : Nat) (L : List Nat) (hN : N ≤ 1000) (hab : a < b) (hbN : b ≤ N) (hok : okF L) (hgo : ¬ C.own g) (w : World) (hr : RowF w g N c L) (hI : C.I w) :
    Calls Try.prog 87 #[.slice (some ⟨g, 0, none⟩) N c, .int .i64 a, .int .i64 b, .func (.func C.K) #[] C.caps] w fun e w' => e = .returned (.tuple #[]) ∧ ∃ D, Done Fl.rank a b L D ∧ RowF w' g N c D ∧ Kp (fun q => q = g) w w' := by
  have hl := hr.len
  have HL := Lib.hid hl
  have HR := Lib.hid hr
  have HI := Lib.hid hI
  have HOK := Lib.hid hok
  have HGO := Lib.hid hgo
  have hD0 : Done Fl.rank a (a + 1) L L := by
    have e := split3 L (show a ≤ a + 1 by omega)
    have := Done.mk (rk := Fl.rank) (D := L) (a := a) (b := a + 1) (by omega) (by omega) (M' := seg L a (a + 1)) (List.Perm.refl _) (by
      have h1 := seg_len L (show a ≤ a + 1 by omega) (by omega)
      obtain ⟨x, hx⟩ : ∃ x, seg L a (a + 1) = [x] := by
        cases h : seg L a (a + 1) with
        | nil => rw [h] at h1; simp at h1
        | cons x l =>
          cases l with
          | nil => exact ⟨x, rfl⟩
          | cons y l => rw [h] at h1; simp at h1
      rw [hx]; exact srt_one x)
    rwa [← e] at this
  have HD0 := Lib.hid hD0
  clear hl hr hI hok hgo hD0
  go_enter Try.func87, Try.ntmps87
  go_wp2_with fail
  go_loopw [8] (fun v wr => ∃ (i : Nat) (D : List Nat), a < i ∧ i ≤ b ∧ v = .int .i64 i ∧ Done Fl.rank a i L D ∧ RowF wr g N c D ∧ Kp (fun q => q = g) w wr) (fun v _ => b - (intOf v).toNat)
  case atStart => exact ⟨a + 1, L, by omega, by omega, rfl, HD0.out, HR.out, Kp.refl _ _⟩
  case round =>
    obtain ⟨i, D, hai, hib, rfl, hdn, hrow, hkp⟩ := hrel
    obtain ⟨wo, rfl⟩ : ∃ wo : World, wo = wr := ⟨_, rfl⟩
    have HDN := Lib.hid hdn
    have HROW := Lib.hid hrow
    have HKP := Lib.hid hkp
    clear hdn hrow hkp
    by_cases hlt : i < b
    · have d0 : decide ((i : Int) < b) = true := decide_eq_true (by omega)
      have HINS := Lib.hid (ins_start HDN.out (by have := HL.out; omega))
      go_wp2_with fail
      go_loopw [9] (fun v wr => ∃ (j : Nat) (D' : List Nat), a ≤ j ∧ j ≤ i ∧ v = .int .i64 j ∧ Ins Fl.rank a i L D' j ∧ RowF wr g N c D' ∧ Kp (fun q => q = g) w wr) (fun v _ => (intOf v).toNat)
      case atStart => exact ⟨i, D, by omega, Nat.le_refl _, rfl, HINS.out, HROW.out, HKP.out⟩
      case round =>
        obtain ⟨j, D', haj, hji, rfl, hins, hrow, hkp⟩ := hrel
        have HINS2 := Lib.hid hins
        have HROW2 := Lib.hid hrow
        have HKP2 := Lib.hid hkp
        by_cases hj : a < j
        · have dj : decide ((a : Int) < j) = true := decide_eq_true (by omega)
          have cj := hrow.get (i := j) (by omega)
          have cj1 := hrow.get (i := j - 1) (by omega)
          have hok2 : okF D' := okF.perm HOK.out (by
            obtain ⟨P, X, v, Y, Z, M, rfl, rfl, _, _, _, _, _, _, p⟩ := hins
            have e : P ++ (X ++ v :: (Y ++ Z)) = P ++ ((X ++ v :: Y) ++ Z) := by simp
            rw [e]
            refine seg_perm ?_
            exact (List.perm_middle (a := v) (l₁ := X) (l₂ := Y)).trans ((p.cons v).trans (List.perm_append_singleton v M).symm))
          have hx := hok2.get j
          have hy := hok2.get (j - 1)
          have e1 : (j : Int) - 1 = ((j - 1 : Nat) : Int) := by omega
          have hin := hins.le
          obtain ⟨x, hxe⟩ : ∃ x, D'.getD j 0 = x := ⟨_, rfl⟩
          obtain ⟨y, hye⟩ : ∃ y, D'.getD (j - 1) 0 = y := ⟨_, rfl⟩
          rw [hxe] at cj hx
          rw [hye] at cj1 hy
          have HXE := Lib.hid hxe
          have HYE := Lib.hid hye
          have HX := Lib.hid hx
          have HY := Lib.hid hy
          have hen := fun W => C.enter x y W
          have hIr : C.I wr.drew := C.keep HI.out (fun q hq => hkp.same q (C.lt HI.out q hq) (fun e => HGO.out (e ▸ hq)))
          have HIR := Lib.hid hIr
          have hD1 := (Below.refl wr.heap.size wr).drew
          have hlt1 := hrow.lt
          have q1 : (j : Int) < N := by omega
          have q2 : ((j - 1 : Nat) : Int) < N := by omega
          have q3 : (0 : Int) ≤ j := by omega
          have q4 : (0 : Int) ≤ ((j - 1 : Nat) : Int) := by omega
          have ew : IntKind.i64.wrap ((j : Int) - 1) = ((j - 1 : Nat) : Int) := by rw [IntKind.wrap_i64]; omega
          have ew2 : IntKind.i64.wrap ((j - 1 : Nat) : Int) = ((j - 1 : Nat) : Int) := by rw [IntKind.wrap_i64]; omega
          clear hrow hkp hins hxe hye hx hy hok2 hIr hin
          obtain ⟨z, hz⟩ : ∃ z, cmpI x y = z := ⟨_, rfl⟩
          have hzd : decide (z < 0) = decide (Fl.rank x < Fl.rank y) := by rw [← hz, cmpI_neg]
          have hrun := C.run (w := wr.drew) x y HX.out HY.out HIR.out
          rw [hz] at hrun
          have RUN := Lib.hid hrun
          clear hrun hz
          by_cases hc : Fl.rank x < Fl.rank y
          · have dz : decide (z < 0) = true := by rw [hzd]; exact decide_eq_true hc
            clear hzd
            go_wp2_with fail
            go_region_held3 (fun w' => Below wr.heap.size wr w' ∧ w'.cell? ⟨g, j, none⟩ = some (.float .f64 x) ∧ w'.cell? ⟨g, j - 1, none⟩ = some (.float .f64 y)) (first | exact ⟨hD1, cj, cj1⟩ | exact ⟨by assumption, by assumption, by assumption⟩)
              (first | (refine RUN.out.mono ?_; rintro e w2 ⟨rfl, hb2⟩; have hb3 := bthen hD1 hb2; have k1 := (hb3.cell (p := ⟨g, j, none⟩) hlt1).trans cj; have k2 := (hb3.cell (p := ⟨g, j - 1, none⟩) hlt1).trans cj1; clear hb2))
            rename_i hHeld
            have hrow3 := HROW2.out.block (hb3.block g hlt1)
            have hkp3 := HKP2.out.trans (Kp.of_below (own := fun q => q = g) hb3) (fun _ h => .inl h)
            have HROW3 := Lib.hid hrow3
            have HKP3 := Lib.hid hkp3
            have fj := hrow3.fr j
            have fj1 := hrow3.fr (j - 1)
            clear hHeld hb3 hD1 hlt1 ew ew2 cj cj1 hrow3 hkp3 hen
            have HSWP := Lib.hid (ins_swap HINS2.out hj (by rw [HXE.out, HYE.out]; exact hc))
            have hsw := HROW3.out.swap (i := j) (j := j - 1) (by omega) (by omega)
            rw [HXE.out, HYE.out] at hsw
            have HSW := Lib.hid hsw
            have hne : j ≠ j - 1 := by omega
            have hne2 : j - 1 ≠ j := by omega
            clear hsw hc
            go_wp2_with fail
            go_region
            have hkp4 := ((HKP3.out.setCell (p := ⟨g, j, none⟩) (.inl rfl) (.float .f64 y)).setCell (p := ⟨g, j - 1, none⟩) (.inl rfl) (.float .f64 x)).drew
            have hrow4 : RowF ((w2.setCell ⟨g, j, none⟩ (.float .f64 y)).setCell ⟨g, j - 1, none⟩ (.float .f64 x)).drew g N c (swp D' j (j - 1)) := HSW.out
            obtain ⟨W, hW⟩ : ∃ W, ((w2.setCell ⟨g, j, none⟩ (.float .f64 y)).setCell ⟨g, j - 1, none⟩ (.float .f64 x)).drew = W := ⟨_, rfl⟩
            rw [hW] at hkp4 hrow4 ⊢
            have HROW4 := Lib.hid hrow4
            have HKP4 := Lib.hid hkp4
            clear hW hrow4 hkp4 k1 k2 fj fj1
            go_wp2_with fail
            exact ⟨⟨j - 1, _, by omega, by omega, rfl, HSWP.out, HROW4.out, HKP4.out⟩, by simp only [intOf]; omega⟩
          · have dz : decide (z < 0) = false := by rw [hzd]; exact decide_eq_false hc
            clear hzd
            go_wp2_with fail
            go_region_held3 (fun w' => Below wr.heap.size wr w' ∧ w'.cell? ⟨g, j, none⟩ = some (.float .f64 x) ∧ w'.cell? ⟨g, j - 1, none⟩ = some (.float .f64 y)) (first | exact ⟨hD1, cj, cj1⟩ | exact ⟨by assumption, by assumption, by assumption⟩)
              (first | (refine RUN.out.mono ?_; rintro e w2 ⟨rfl, hb2⟩; have hb3 := bthen hD1 hb2; have k1 := (hb3.cell (p := ⟨g, j, none⟩) hlt1).trans cj; have k2 := (hb3.cell (p := ⟨g, j - 1, none⟩) hlt1).trans cj1; clear hb2))
            rename_i hHeld
            have hrow3 := HROW2.out.block (hb3.block g hlt1)
            have hkp3 := HKP2.out.trans (Kp.of_below (own := fun q => q = g) hb3) (fun _ h => .inl h)
            have HROW3 := Lib.hid hrow3
            have HKP3 := Lib.hid hkp3
            have fj := hrow3.fr j
            have fj1 := hrow3.fr (j - 1)
            clear hHeld hb3 hD1 hlt1 ew ew2 cj cj1 hrow3 hkp3 hen
            have HST := Lib.hid (ins_stop HINS2.out (.inr (by rw [HXE.out, HYE.out]; omega)))
            clear hc
            go_wp2_with fail
            exact ⟨⟨i + 1, D', by omega, by omega, rfl, HST.out, HROW3.out, HKP3.out⟩, by simp only [intOf]; omega⟩
        · have dj : decide ((a : Int) < j) = false := decide_eq_false (by omega)
          have HST := Lib.hid (ins_stop HINS2.out (.inl (by omega)))
          clear hrow hkp hins
          go_wp2_with fail
          go_quiet (fail)
          have hkp5 := HKP2.out.more (below_drewN (Below.refl wr.heap.size wr) nq)
          have hrow5 : RowF (wr.drewN nq) g N c D' := HROW2.out
          obtain ⟨W, hW⟩ : ∃ W, wr.drewN nq = W := ⟨_, rfl⟩
          rw [hW] at hkp5 hrow5 ⊢
          have HROW5 := Lib.hid hrow5
          have HKP5 := Lib.hid hkp5
          clear hW hkp5 hrow5
          go_wp2_with fail
          exact ⟨⟨i + 1, D', by omega, by omega, rfl, HST.out, HROW5.out, HKP5.out⟩, by simp only [intOf]; omega⟩
    · have d0 : decide ((i : Int) < b) = false := decide_eq_false (by omega)
      obtain rfl : i = b := by omega
      go_wp2_with fail
      go_end0
      exact ⟨rfl, D, HDN.out, HROW.out, HKP.out⟩
end Sorts
end Go.Proofs.Ytkjhacbkgnjilaa
