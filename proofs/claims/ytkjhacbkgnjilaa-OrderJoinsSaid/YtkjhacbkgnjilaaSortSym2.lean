/-
  slices.symMergeCmpFunc over floats, where one alone is behind a run.
-/
import Derived.Test.YtkjhacbkgnjilaaSortSym1
namespace Go.Proofs.Ytkjhacbkgnjilaa
open Go.RowKit
namespace Sorts
theorem movD_step {P R S D : List Nat} {v k : Nat} (h : MovU P v R S k D) (hk : P.length < k) : MovU P v R S (k - 1) (swp D k (k - 1)) := by
  obtain ⟨X, Y, rfl, rfl, rfl⟩ := h
  have hn : X ≠ [] := fun e => by rw [e] at hk; simp at hk
  obtain ⟨X', u, rfl⟩ := last_of hn
  refine ⟨X', u :: Y, by simp, ?_, by simp⟩
  have := swp_adj' (P ++ X') (Y ++ S) u v
  rw [show (P ++ X').length = P.length + (X' ++ [u]).length - 1 by simp, show P.length + (X' ++ [u]).length - 1 + 1 = P.length + (X' ++ [u]).length by simp; omega] at this
  simpa using this
theorem movD_end {P R S D : List Nat} {v k : Nat} (h : MovU P v R S k D) (hk : k = P.length) : D = P ++ v :: (R ++ S) := by
  obtain ⟨X, Y, rfl, rfl, h3⟩ := h
  have : X = [] := List.eq_nil_of_length_eq_zero (by omega)
  subst this
  simp
set_option maxRecDepth 100000 in
set_option maxHeartbeats 8000000 in
theorem sym2_any (C : CmpF) (g N c a m b : Nat) (L : List Nat) (hN : N ≤ 1000) (ham : a < m) (hm1 : m ≠ a + 1) (hm : b = m + 1) (hbN : b ≤ N) (hok : okF L) (hgo : ¬ C.own g) (w : World) (hr : RowF w g N c L) (hI : C.I w) (hsR : Srt Fl.rank (seg L a m)) :
    Calls Try.prog 88 #[.slice (some ⟨g, 0, none⟩) N c, .int .i64 a, .int .i64 m, .int .i64 b, .func (.func C.K) #[] C.caps] w (SymPost g N c a b L w) := by
  have HL := Lib.hid hr.len
  have HR := Lib.hid hr
  have HI := Lib.hid hI
  have HOK := Lib.hid hok
  have HGO := Lib.hid hgo
  have HSR := Lib.hid hsR
  have d1 : ((m : Int) - a == 1) = false := beq_eq_false_iff_ne.2 (by omega)
  have d2 : ((b : Int) - m == 1) = true := beq_iff_eq.2 (by omega)
  have HM := Lib.hid hm
  have hmb : m < b := by omega
  clear hm hm1 hr hI hok hgo hsR
  go_enter Try.func88, Try.ntmps88
  go_wp2_with fail
  go_loopw [14, 15] (fun v10 v11 wr => ∃ (i j : Nat), a ≤ i ∧ i ≤ j ∧ j ≤ m ∧ v10 = .int .i64 i ∧ v11 = .int .i64 j ∧ (i = a ∨ Fl.rank (L.getD (i - 1) 0) ≤ Fl.rank (L.getD m 0)) ∧ (j = m ∨ Fl.rank (L.getD m 0) < Fl.rank (L.getD j 0)) ∧ RowF wr g N c L ∧ Kp (fun q => q = g) w wr) (fun v10 v11 _ => (intOf v11).toNat - (intOf v10).toNat)
  case atStart => exact ⟨a, m, Nat.le_refl _, by omega, Nat.le_refl _, rfl, rfl, .inl rfl, .inl rfl, HR.out, Kp.refl _ _⟩
  case round =>
    obtain ⟨i, j, hmi, hij, hjb, rfl, rfl, hlo, hhi, hrow, hkp⟩ := hrel
    obtain ⟨wo, rfl⟩ : ∃ wo : World, wo = wr := ⟨_, rfl⟩
    have HLO := Lib.hid hlo
    have HHI := Lib.hid hhi
    have HROW := Lib.hid hrow
    have HKP := Lib.hid hkp
    clear hlo hhi
    by_cases hlt : i < j
    · have d0 : decide ((i : Int) < j) = true := decide_eq_true (by omega)
      have hhl : (i + j) / 2 < j ∧ i ≤ (i + j) / 2 := by omega
      have hh : ((i : Int) + j) / 2 = (((i + j) / 2 : Nat) : Int) := by omega
      obtain ⟨h, hhe⟩ : ∃ h, (i + j) / 2 = h := ⟨_, rfl⟩
      rw [hhe] at hhl hh
      obtain ⟨hhj, hih⟩ := hhl
      have ch := hrow.get (i := h) (by omega)
      have ca := hrow.get (i := m) (by omega)
      have hy := HOK.out.get h
      have hx := HOK.out.get m
      obtain ⟨y, hye⟩ : ∃ x, L.getD h 0 = x := ⟨_, rfl⟩
      obtain ⟨x, hxe⟩ : ∃ y, L.getD m 0 = y := ⟨_, rfl⟩
      rw [hye] at ch hy
      rw [hxe] at ca hx
      have HXE := Lib.hid hxe
      have HYE := Lib.hid hye
      have hen := fun W => C.enter x y W
      have hIr : C.I wo.drew := C.keep HI.out (fun q hq => hkp.same q (C.lt HI.out q hq) (fun e => HGO.out (e ▸ hq)))
      have hrun := C.run (w := wo.drew) x y hx hy hIr
      obtain ⟨z, hz⟩ : ∃ z, cmpI x y = z := ⟨_, rfl⟩
      have hzd : decide (z < 0) = decide (Fl.rank x < Fl.rank y) := by rw [← hz, cmpI_neg]
      rw [hz] at hrun
      have RUN := Lib.hid hrun
      have hD1 := (Below.refl wo.heap.size wo).drew
      have hlt1 := hrow.lt
      have q1 : (h : Int) < N := by omega
      have q2 : (m : Int) < N := by omega
      have q3 : (0 : Int) ≤ h := by omega
      have q4 : (0 : Int) ≤ m := by omega
      have HKEEP : Hid (∀ w2, Below wo.heap.size wo w2 → RowF w2 g N c L ∧ Kp (fun q => q = g) w w2) := fun w2 hb => ⟨HROW.out.block (hb.block g hlt1), HKP.out.trans (Kp.of_below (own := fun q => q = g) hb) (fun _ h => .inl h)⟩
      clear hrow hkp hxe hye hx hy hIr hrun hz hhe
      by_cases hc : Fl.rank x < Fl.rank y
      · have dz : decide (z < 0) = true := by rw [hzd]; exact decide_eq_true hc
        have HC : Hid (Fl.rank (L.getD m 0) < Fl.rank (L.getD h 0)) := by unfold Hid; rw [HXE.out, HYE.out]; exact hc
        clear hzd hc
        go_wp2_with fail
        go_region_held3 (fun w' => Below wo.heap.size wo w' ∧ w'.cell? ⟨g, h, none⟩ = some (.float .f64 y) ∧ w'.cell? ⟨g, m, none⟩ = some (.float .f64 x)) (first | exact ⟨hD1, ch, ca⟩ | exact ⟨by assumption, by assumption, by assumption⟩)
          (first | (refine RUN.out.mono ?_; rintro e w2 ⟨rfl, hb2⟩; have hb3 := bthen hD1 hb2; have k1 := (hb3.cell (p := ⟨g, h, none⟩) hlt1).trans ch; have k2 := (hb3.cell (p := ⟨g, m, none⟩) hlt1).trans ca; clear hb2))
        rename_i hHeld
        have HK2 := Lib.hid (HKEEP.out w2 hb3)
        clear hHeld hb3 hD1 hlt1 ch ca k1 k2 hen q1 q2 q3 q4
        go_wp2_with fail
        exact ⟨⟨i, h, hmi, by omega, by omega, rfl, rfl, HLO.out, .inr HC.out, HK2.out.1, HK2.out.2⟩, by simp only [intOf]; omega⟩
      · have dz : decide (z < 0) = false := by rw [hzd]; exact decide_eq_false hc
        have HC : Hid (Fl.rank (L.getD h 0) ≤ Fl.rank (L.getD m 0)) := by unfold Hid; rw [HXE.out, HYE.out]; omega
        clear hzd hc
        go_wp2_with fail
        go_region_held3 (fun w' => Below wo.heap.size wo w' ∧ w'.cell? ⟨g, h, none⟩ = some (.float .f64 y) ∧ w'.cell? ⟨g, m, none⟩ = some (.float .f64 x)) (first | exact ⟨hD1, ch, ca⟩ | exact ⟨by assumption, by assumption, by assumption⟩)
          (first | (refine RUN.out.mono ?_; rintro e w2 ⟨rfl, hb2⟩; have hb3 := bthen hD1 hb2; have k1 := (hb3.cell (p := ⟨g, h, none⟩) hlt1).trans ch; have k2 := (hb3.cell (p := ⟨g, m, none⟩) hlt1).trans ca; clear hb2))
        rename_i hHeld
        have HK2 := Lib.hid (HKEEP.out w2 hb3)
        clear hHeld hb3 hD1 hlt1 ch ca k1 k2 hen q1 q2 q3 q4
        go_wp2_with fail
        exact ⟨⟨h + 1, j, by omega, by omega, hjb, rfl, rfl, .inr (by rw [Nat.add_sub_cancel]; exact HC.out), HHI.out, HK2.out.1, HK2.out.2⟩, by simp only [intOf]; omega⟩
    · have d0 : decide ((i : Int) < j) = false := decide_eq_false (by omega)
      obtain rfl : i = j := by omega
      obtain ⟨P, L1, L2, R1, R2, Q, h5⟩ := five L (a := a) (s := i) (m := m) (e := b) (b := b) hmi hjb (by omega) (Nat.le_refl _) (by have := HL.out; omega)
      have hr2 : R2 = [] := List.eq_nil_of_length_eq_zero (by have := h5.r2; omega)
      have hl2 : ∃ v, R1 = [v] := by
        have h2 := h5.r1
        have := HM.out
        cases R1 with
        | nil => simp at h2; omega
        | cons v l =>
          cases l with
          | nil => exact ⟨v, rfl⟩
          | cons y l => simp at h2; omega
      obtain ⟨v, rfl⟩ := hl2
      subst hr2
      have hmv : MovU (P ++ L1) v L2 Q m L := ⟨L2, [], by simp, by rw [h5.eq]; simp, by have := h5.p; have := h5.l1; have := h5.l2; simp; omega⟩
      have hPl : (P ++ L1).length = i := by have := h5.p; have := h5.l1; simp; omega
      have hone : ∀ D, D = (P ++ L1) ++ v :: (L2 ++ Q) → Done Fl.rank a b L D := fun D hD => by
        have hv : L.getD m 0 = v := by
          have e : L = (P ++ (L1 ++ L2)) ++ v :: Q := by rw [h5.eq]; simp
          have hlen : (P ++ (L1 ++ L2)).length = m := by have := h5.p; have := h5.l1; have := h5.l2; simp; omega
          have := getD_mid (P ++ (L1 ++ L2)) Q v
          rw [hlen, ← e] at this
          exact this
        refine one_high h5 HSR.out ?_ ?_ (by rw [hD]; simp)
        · rcases HLO.out with e | e
          · exact .inl (List.eq_nil_of_length_eq_zero (by have := h5.l1; omega))
          · rw [hv] at e; exact .inr e
        · rcases HHI.out with e | e
          · exact .inl (List.eq_nil_of_length_eq_zero (by have := h5.l2; omega))
          · rw [hv] at e; exact .inr (Int.le_of_lt e)
      have HMV := Lib.hid hmv
      have HONE := Lib.hid hone
      have HPL := Lib.hid hPl
      clear hrow hkp hmv hone h5 hPl
      go_wp2_with fail
      go_loopw [17] (fun v13 wr => ∃ (k : Nat) (D : List Nat), i ≤ k ∧ k ≤ m ∧ v13 = .int .i64 k ∧ MovU (P ++ L1) v L2 Q k D ∧ RowF wr g N c D ∧ Kp (fun q => q = g) w wr) (fun v13 _ => (intOf v13).toNat)
      case atStart => exact ⟨m, L, by omega, Nat.le_refl _, rfl, HMV.out, HROW.out, HKP.out⟩
      case round =>
        obtain ⟨k, D, hik, hkm, rfl, hmv, hrow, hkp⟩ := hrel
        have HMV2 := Lib.hid hmv
        have HROW2 := Lib.hid hrow
        have HKP2 := Lib.hid hkp
        by_cases hk : i < k
        · have dk : decide ((i : Int) < k) = true := decide_eq_true (by omega)
          have ek : (k : Int) - 1 = ((k - 1 : Nat) : Int) := by omega
          have ck := hrow.get (i := k) (by omega)
          have ck1 := hrow.get (i := k - 1) (by omega)
          have fk := hrow.fr k
          have fk1 := hrow.fr (k - 1)
          have hne : k ≠ k - 1 := by omega
          have hne2 : k - 1 ≠ k := by omega
          have q5 : ((k - 1 : Nat) : Int) < N := by omega
          have HSW := Lib.hid (hrow.swap (i := k) (j := k - 1) (by omega) (by omega))
          have HST := Lib.hid (movD_step HMV2.out (by have := HPL.out; omega))
          obtain ⟨va, hva⟩ : ∃ x, D.getD k 0 = x := ⟨_, rfl⟩
          obtain ⟨vb, hvb⟩ : ∃ x, D.getD (k - 1) 0 = x := ⟨_, rfl⟩
          rw [hva] at ck HSW
          rw [hvb] at ck1 HSW
          clear hrow hkp hmv hva hvb
          go_wp2_with fail
          go_region
          have hkp4 := ((HKP2.out.setCell (p := ⟨g, k, none⟩) (.inl rfl) (.float .f64 vb)).setCell (p := ⟨g, k - 1, none⟩) (.inl rfl) (.float .f64 va)).drew
          have hrow4 : RowF ((wr.setCell ⟨g, k, none⟩ (.float .f64 vb)).setCell ⟨g, k - 1, none⟩ (.float .f64 va)).drew g N c (swp D k (k - 1)) := HSW.out
          obtain ⟨W, hW⟩ : ∃ W, ((wr.setCell ⟨g, k, none⟩ (.float .f64 vb)).setCell ⟨g, k - 1, none⟩ (.float .f64 va)).drew = W := ⟨_, rfl⟩
          rw [hW] at hkp4 hrow4 ⊢
          have HROW4 := Lib.hid hrow4
          have HKP4 := Lib.hid hkp4
          clear hW hrow4 hkp4 ck ck1 fk fk1
          go_wp2_with fail
          exact ⟨⟨k - 1, _, by omega, by omega, rfl, HST.out, HROW4.out, HKP4.out⟩, by simp only [intOf]; omega⟩
        · have dk : decide ((i : Int) < k) = false := decide_eq_false (by omega)
          have HFIN := Lib.hid (HONE.out D (movD_end HMV2.out (by have := HPL.out; omega)))
          clear hrow hkp hmv
          go_wp2_with fail
          go_end0
          exact ⟨rfl, D, HFIN.out, HROW2.out, HKP2.out⟩
end Sorts
end Go.Proofs.Ytkjhacbkgnjilaa
