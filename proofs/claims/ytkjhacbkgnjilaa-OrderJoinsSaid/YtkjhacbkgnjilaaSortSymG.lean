/-
  slices.symMergeCmpFunc over floats: two runs of more than one.
-/
import Derived.Test.YtkjhacbkgnjilaaSortSym2
import Derived.Deep.DeepCutAuto
namespace Go.Proofs.Ytkjhacbkgnjilaa
open Go.RowKit
namespace Sorts
def SymCalls (C : CmpF) (g N c a m b : Nat) (L : List Nat) (w : World) : Prop := Calls Try.prog 88 #[.slice (some ⟨g, 0, none⟩) N c, .int .i64 a, .int .i64 m, .int .i64 b, .func (.func C.K) #[] C.caps] w (SymPost g N c a b L w)
def SymHyp (C : CmpF) (g N c d : Nat) : Prop := ∀ (a m b : Nat) (L : List Nat) (w : World), b - a < d → a < m → m < b → b ≤ N → okF L → RowF w g N c L → C.I w → Srt Fl.rank (seg L a m) → Srt Fl.rank (seg L m b) → SymCalls C g N c a m b L w
set_option maxRecDepth 100000 in
set_option maxHeartbeats 8000000 in
theorem symG_any (C : CmpF) (g N c a m b : Nat) (L : List Nat) (hN : N ≤ 1000) (ham : a + 1 < m) (hmb : m + 1 < b) (hbN : b ≤ N) (hok : okF L) (hgo : ¬ C.own g) (ih : SymHyp C g N c (b - a)) (w : World) (hr : RowF w g N c L) (hI : C.I w) (hsL : Srt Fl.rank (seg L a m)) (hsR : Srt Fl.rank (seg L m b)) : SymCalls C g N c a m b L w := by
  unfold SymCalls
  have HL := Lib.hid hr.len
  have HR := Lib.hid hr
  have HI := Lib.hid hI
  have HOK := Lib.hid hok
  have HGO := Lib.hid hgo
  have HSL := Lib.hid hsL
  have HSR := Lib.hid hsR
  have IH := Lib.hid ih
  have d1 : ((m : Int) - a == 1) = false := beq_eq_false_iff_ne.2 (by omega)
  have d2 : ((b : Int) - m == 1) = false := beq_eq_false_iff_ne.2 (by omega)
  obtain ⟨mid, hmid⟩ : ∃ mid, (a + b) / 2 = mid := ⟨_, rfl⟩
  have hmi : ((a : Int) + b) / 2 = (mid : Nat) := by omega
  have hmb2 : a < mid ∧ mid < b ∧ 2 * mid ≤ a + b ∧ a + b ≤ 2 * mid + 1 := by omega
  clear hr hI hok hgo hsL hsR ih hmid
  go_enter Try.func88, Try.ntmps88
  go_upto_if 140 with (fail)
  go_cut [20, 21] (fun v20 v21 wx => w = wx ∧ ∃ lo hi : Nat, v20 = .int .i64 lo ∧ v21 = .int .i64 hi ∧ a ≤ lo ∧ lo ≤ hi ∧ hi ≤ mid ∧ hi ≤ m ∧ mid + m ≤ lo + b ∧ (lo = a ∨ mid + m = lo + b) ∧ (hi = m ∨ hi = mid))
  case first =>
    by_cases h : mid < m
    · have d3 : decide ((mid : Int) < m) = true := decide_eq_true (by omega)
      have e1 : (mid : Int) + m - b = ((mid + m - b : Nat) : Int) := by omega
      go_wp2_with fail
      go_meet
      exact ⟨rfl, mid + m - b, mid, rfl, rfl, by omega, by omega, by omega, by omega, by omega, .inr (by omega), .inr rfl⟩
    · have d3 : decide ((mid : Int) < m) = false := decide_eq_false (by omega)
      go_wp2_with fail
      go_meet
      exact ⟨rfl, a, m, rfl, rfl, by omega, by omega, by omega, by omega, by omega, .inl rfl, .inl rfl⟩
  case rest =>
    as_aux_lemma =>
      obtain ⟨rfl, lo, hi, rfl, rfl, h1, h2, h3, h4, h5, h6, h7⟩ := hcut
      have ep : (mid : Int) + m - 1 = ((mid + m - 1 : Nat) : Int) := by omega
      go_wp2_with fail
      go_loopw [20, 21] (fun v20 v21 wr => ∃ s r : Nat, lo ≤ s ∧ s ≤ r ∧ r ≤ hi ∧ v20 = .int .i64 s ∧ v21 = .int .i64 r ∧ (s = lo ∨ Fl.rank (L.getD (s - 1) 0) ≤ Fl.rank (L.getD (mid + m - s) 0)) ∧ (r = hi ∨ Fl.rank (L.getD (mid + m - r - 1) 0) < Fl.rank (L.getD r 0)) ∧ RowF wr g N c L ∧ Kp (fun q => q = g) w wr) (fun v20 v21 _ => (intOf v21).toNat - (intOf v20).toNat)
      case atStart => exact ⟨lo, hi, Nat.le_refl _, h2, Nat.le_refl _, rfl, rfl, .inl rfl, .inl rfl, HR.out, Kp.refl _ _⟩
      case round =>
        obtain ⟨i, j, hmi', hij, hjb, rfl, rfl, hlo, hhi, hrow, hkp⟩ := hrel
        obtain ⟨wo, rfl⟩ : ∃ wo : World, wo = wr := ⟨_, rfl⟩
        have HLO := Lib.hid hlo
        have HHI := Lib.hid hhi
        have HROW := Lib.hid hrow
        have HKP := Lib.hid hkp
        clear hlo hhi
        by_cases hlt : i < j
        · have d0 : decide ((i : Int) < j) = true := decide_eq_true (by omega)
          have hhl : (i + j) / 2 < j ∧ i ≤ (i + j) / 2 := by omega
          have hh : ((i : Int) + j) / 2 = (((i + j) / 2 : Nat) : Int) := by omega
          obtain ⟨h, hhe⟩ : ∃ h, (i + j) / 2 = h := ⟨_, rfl⟩
          rw [hhe] at hhl hh
          obtain ⟨hhj, hih⟩ := hhl
          obtain ⟨q, hq⟩ : ∃ q, mid + m - h - 1 = q := ⟨_, rfl⟩
          have hqh : mid + m - 1 - h = q := by omega
          have hqN : q < N := by omega
          have ch := hrow.get (i := h) (by omega)
          have cq := hrow.get (i := q) hqN
          have hy := HOK.out.get h
          have hx := HOK.out.get q
          obtain ⟨y, hye⟩ : ∃ x, L.getD h 0 = x := ⟨_, rfl⟩
          obtain ⟨x, hxe⟩ : ∃ y, L.getD q 0 = y := ⟨_, rfl⟩
          rw [hye] at ch hy
          rw [hxe] at cq hx
          have HXE := Lib.hid hxe
          have HYE := Lib.hid hye
          have HQ := Lib.hid hq
          have hen := fun W => C.enter x y W
          have hIr : C.I wo.drew := C.keep HI.out (fun q hq => hkp.same q (C.lt HI.out q hq) (fun e => HGO.out (e ▸ hq)))
          have hrun := C.run (w := wo.drew) x y hx hy hIr
          obtain ⟨z, hz⟩ : ∃ z, cmpI x y = z := ⟨_, rfl⟩
          have hzd : decide (z < 0) = decide (Fl.rank x < Fl.rank y) := by rw [← hz, cmpI_neg]
          rw [hz] at hrun
          have RUN := Lib.hid hrun
          have hD1 := (Below.refl wo.heap.size wo).drew
          have hlt1 := hrow.lt
          have q1 : (h : Int) < N := by omega
          have q2 : (q : Int) < N := by omega
          have q3 : (0 : Int) ≤ h := by omega
          have q4 : (0 : Int) ≤ q := by omega
          have q5 : ((mid + m - 1 : Nat) : Int) - h = q := by omega
          have HKEEP : Hid (∀ w2, Below wo.heap.size wo w2 → RowF w2 g N c L ∧ Kp (fun q => q = g) w w2) := fun w2 hb => ⟨HROW.out.block (hb.block g hlt1), HKP.out.trans (Kp.of_below (own := fun q => q = g) hb) (fun _ h => .inl h)⟩
          have ew : IntKind.i64.wrap (((mid + m - 1 : Nat) : Int) - h) = q := by rw [IntKind.wrap_i64]; omega
          have ew2 : IntKind.i64.wrap (q : Int) = q := by rw [IntKind.wrap_i64]; omega
          clear hrow hkp hxe hye hx hy hIr hrun hz hhe hq hqh
          by_cases hc : Fl.rank x < Fl.rank y
          · have dz : decide (z < 0) = true := by rw [hzd]; exact decide_eq_true hc
            have HC : Hid (Fl.rank (L.getD (mid + m - h - 1) 0) < Fl.rank (L.getD h 0)) := by unfold Hid; rw [HQ.out, HXE.out, HYE.out]; exact hc
            clear hzd hc
            go_wp2_with fail
            go_region_held3 (fun w' => Below wo.heap.size wo w' ∧ w'.cell? ⟨g, h, none⟩ = some (.float .f64 y) ∧ w'.cell? ⟨g, q, none⟩ = some (.float .f64 x)) (first | exact ⟨hD1, ch, cq⟩ | exact ⟨by assumption, by assumption, by assumption⟩)
              (first | (refine RUN.out.mono ?_; rintro e w2 ⟨rfl, hb2⟩; have hb3 := bthen hD1 hb2; have k1 := (hb3.cell (p := ⟨g, h, none⟩) hlt1).trans ch; have k2 := (hb3.cell (p := ⟨g, q, none⟩) hlt1).trans cq; clear hb2))
            rename_i hHeld
            have HK2 := Lib.hid (HKEEP.out w2 hb3)
            clear hHeld hb3 hD1 hlt1 ch cq k1 k2 hen q1 q2 q3 q4 q5 ew ew2
            go_wp2_with fail
            exact ⟨⟨i, h, hmi', by omega, by omega, rfl, rfl, HLO.out, .inr HC.out, HK2.out.1, HK2.out.2⟩, by simp only [intOf]; omega⟩
          · have dz : decide (z < 0) = false := by rw [hzd]; exact decide_eq_false hc
            have HC : Hid (Fl.rank (L.getD (h + 1 - 1) 0) ≤ Fl.rank (L.getD (mid + m - (h + 1)) 0)) := by unfold Hid; rw [Nat.add_sub_cancel, show mid + m - (h + 1) = mid + m - h - 1 by omega, HQ.out, HXE.out, HYE.out]; omega
            clear hzd hc
            go_wp2_with fail
            go_region_held3 (fun w' => Below wo.heap.size wo w' ∧ w'.cell? ⟨g, h, none⟩ = some (.float .f64 y) ∧ w'.cell? ⟨g, q, none⟩ = some (.float .f64 x)) (first | exact ⟨hD1, ch, cq⟩ | exact ⟨by assumption, by assumption, by assumption⟩)
              (first | (refine RUN.out.mono ?_; rintro e w2 ⟨rfl, hb2⟩; have hb3 := bthen hD1 hb2; have k1 := (hb3.cell (p := ⟨g, h, none⟩) hlt1).trans ch; have k2 := (hb3.cell (p := ⟨g, q, none⟩) hlt1).trans cq; clear hb2))
            rename_i hHeld
            have HK2 := Lib.hid (HKEEP.out w2 hb3)
            clear hHeld hb3 hD1 hlt1 ch cq k1 k2 hen q1 q2 q3 q4 q5 ew ew2
            go_wp2_with fail
            exact ⟨⟨h + 1, j, by omega, by omega, hjb, rfl, rfl, .inr HC.out, HHI.out, HK2.out.1, HK2.out.2⟩, by simp only [intOf]; omega⟩
        · have d0 : decide ((i : Int) < j) = false := decide_eq_false (by omega)
          obtain rfl : i = j := by omega
          obtain ⟨e, he⟩ : ∃ e, mid + m - i = e := ⟨_, rfl⟩
          have hie : mid + m = i + e := by omega
          have ee : (mid : Int) + m - i = (e : Nat) := by omega
          have g1 : a ≤ i := by omega
          have g2 : i ≤ m := by omega
          have g3 : m ≤ e := by omega
          have g4 : e ≤ b := by omega
          obtain ⟨P, L1, L2, R1, R2, Q, h5'⟩ := five L (a := a) (s := i) (m := m) (e := e) (b := b) g1 g2 g3 g4 (by have := HL.out; omega)
          have H5 := Lib.hid h5'
          have HLOW : Hid (i = a ∨ e = b ∨ Fl.rank (L.getD (i - 1) 0) ≤ Fl.rank (L.getD e 0)) := by
            unfold Hid
            rcases HLO.out with h | h
            · rcases h6 with h6 | h6
              · exact .inl (by omega)
              · exact .inr (.inl (by omega))
            · rw [he] at h; exact .inr (.inr h)
          have HHIGH : Hid (i = m ∨ e = m ∨ Fl.rank (L.getD (e - 1) 0) ≤ Fl.rank (L.getD i 0)) := by
            unfold Hid
            rcases HHI.out with h | h
            · rcases h7 with h7 | h7
              · exact .inl (by omega)
              · exact .inr (.inl (by omega))
            · rw [he] at h; exact .inr (.inr (Int.le_of_lt h))
          obtain ⟨T, hT⟩ : ∃ T, T = P ++ (L1 ++ (R1 ++ (L2 ++ (R2 ++ Q)))) := ⟨_, rfl⟩
          have HT := Lib.hid hT
          have HROT : Hid (Rot T (m - i) (e - m) m L) := ⟨P ++ L1, L2, R1, R2 ++ Q, by rw [h5'.eq]; simp, by have := h5'.l2; omega, by have := h5'.r1; omega, by have := h5'.p; have := h5'.l1; simp; omega, by rw [hT]; simp⟩
          have HTL : Hid (i = m ∨ e = m → T = L) := by
            intro h
            rw [hT, h5'.eq]
            rcases h with h | h
            · rw [List.eq_nil_of_length_eq_zero (show L2.length = 0 by have := h5'.l2; omega)]; simp
            · rw [List.eq_nil_of_length_eq_zero (show R1.length = 0 by have := h5'.r1; omega)]; simp
          have HTP : Hid (T.Perm L) := by
            have e1 : L = P ++ ((L1 ++ (L2 ++ (R1 ++ R2))) ++ Q) := by rw [h5'.eq]; simp
            have e2 : T = P ++ ((L1 ++ (R1 ++ (L2 ++ R2))) ++ Q) := by rw [hT]; simp
            rw [e1, e2]
            refine seg_perm (List.Perm.append_left L1 ?_)
            rw [← List.append_assoc, ← List.append_assoc]
            exact List.perm_append_comm.append_right R2
          have HIK : Hid (∀ wx, Kp (fun q => q = g) w wx → C.I wx) := fun wx hk => C.keep HI.out (fun q hq => hk.same q (C.lt HI.out q hq) (fun e => HGO.out (e ▸ hq)))
          have HIE := Lib.hid hie
          clear hrow hkp h5' hT he ep h6 h7 hie
          go_upto_region 39 with (fail)
          go_cut [185] (fun v wx => wo = wx ∧ v = .bool (decide (i < m ∧ m < e)))
          case first =>
            by_cases c1 : i < m
            · have d4 : decide ((i : Int) < m) = true := decide_eq_true (by omega)
              by_cases c2 : m < e
              · have d5 : decide ((m : Int) < e) = true := decide_eq_true (by omega)
                have HE : Hid (Value.bool true = .bool (decide (i < m ∧ m < e))) := by unfold Hid; simp [c1, c2]
                go_wp2_with fail
                go_meet
                exact ⟨rfl, HE.out⟩
              · have d5 : decide ((m : Int) < e) = false := decide_eq_false (by omega)
                have HE : Hid (Value.bool false = .bool (decide (i < m ∧ m < e))) := by unfold Hid; simp [c2]
                go_wp2_with fail
                go_meet
                exact ⟨rfl, HE.out⟩
            · have d4 : decide ((i : Int) < m) = false := decide_eq_false (by omega)
              have HE : Hid (Value.bool false = .bool (decide (i < m ∧ m < e))) := by unfold Hid; simp [c1]
              go_wp2_with fail
              go_meet
              exact ⟨rfl, HE.out⟩
          case rest =>
            as_aux_lemma =>
              obtain ⟨rfl, rfl⟩ := hcut
              obtain ⟨zb, hzb⟩ : ∃ zb, decide (i < m ∧ m < e) = zb := ⟨_, rfl⟩
              rw [hzb]
              have HZB := Lib.hid hzb
              clear hzb
              go_upto_if 185 with (fail)
              go_cut [] (fun wx => RowF wx g N c T ∧ Kp (fun q => q = g) w wx)
              case first =>
                cases zb with
                | true =>
                  as_aux_lemma =>
                    have hcc := of_decide_eq_true HZB.out
                    obtain ⟨c1, c2⟩ := hcc
                    have HC1 := Lib.hid c1
                    have HC2 := Lib.hid c2
                    go_wp2_with fail
                    refine (rotate_any _ g N c i m e T L hN HC1.out HC2.out wo HROW.out HROT.out).mono ?_
                    rintro e' w3 ⟨rfl, hrow3, hkp3⟩
                    have HROW3 := Lib.hid hrow3
                    have HKP3 := Lib.hid (HKP.out.trans hkp3 (fun _ h => .inl h))
                    clear hrow3 hkp3
                    go_wp2_with fail
                    go_meet
                    exact ⟨HROW3.out, HKP3.out⟩
                | false =>
                  have hcc := of_decide_eq_false HZB.out
                  have hTL := HTL.out (by omega)
                  have HFIN : Hid (RowF wo g N c T ∧ Kp (fun q => q = g) w wo) := ⟨by rw [hTL]; exact HROW.out, HKP.out⟩
                  clear hTL hcc
                  go_wp2_with fail
                  go_meet
                  exact HFIN.out
              case rest =>
                as_aux_lemma =>
                  obtain ⟨hrow1, hkp1⟩ := hcut
                  have HROW1 := Lib.hid hrow1
                  have HKP1 := Lib.hid hkp1
                  clear hrow1 hkp1
                  obtain ⟨wo1, rfl⟩ : ∃ wo1 : World, wo1 = wc := ⟨_, rfl⟩
                  go_upto_region 41 with (fail)
                  go_cut [199] (fun v wx => wo1 = wx ∧ v = .bool (decide (a < i ∧ i < mid)))
                  case first =>
                    by_cases c1 : a < i
                    · have d4 : decide ((a : Int) < i) = true := decide_eq_true (by omega)
                      by_cases c2 : i < mid
                      · have d5 : decide ((i : Int) < mid) = true := decide_eq_true (by omega)
                        have HE : Hid (Value.bool true = .bool (decide (a < i ∧ i < mid))) := by unfold Hid; simp [c1, c2]
                        go_wp2_with fail
                        go_meet
                        exact ⟨rfl, HE.out⟩
                      · have d5 : decide ((i : Int) < mid) = false := decide_eq_false (by omega)
                        have HE : Hid (Value.bool false = .bool (decide (a < i ∧ i < mid))) := by unfold Hid; simp [c2]
                        go_wp2_with fail
                        go_meet
                        exact ⟨rfl, HE.out⟩
                    · have d4 : decide ((a : Int) < i) = false := decide_eq_false (by omega)
                      have HE : Hid (Value.bool false = .bool (decide (a < i ∧ i < mid))) := by unfold Hid; simp [c1]
                      go_wp2_with fail
                      go_meet
                      exact ⟨rfl, HE.out⟩
                  case rest =>
                    as_aux_lemma =>
                      obtain ⟨rfl, rfl⟩ := hcut
                      obtain ⟨zb, hzb⟩ : ∃ zb, decide (a < i ∧ i < mid) = zb := ⟨_, rfl⟩
                      rw [hzb]
                      have HZB := Lib.hid hzb
                      clear hzb
                      go_upto_if 199 with (fail)
                      go_cut [] (fun wx => ∃ D2, (Done Fl.rank a mid T D2 ∨ (D2 = T ∧ (i = a ∨ e = m))) ∧ RowF wx g N c D2 ∧ Kp (fun q => q = g) w wx)
                      case first =>
                        cases zb with
                        | true =>
                          as_aux_lemma =>
                            have hcc := of_decide_eq_true HZB.out
                            obtain ⟨c1, c2⟩ := hcc
                            have HCALL := Lib.hid (IH.out a i mid T wo1 (by omega) c1 c2 (by omega) (HOK.out.perm HTP.out) HROW1.out (HIK.out _ HKP1.out) (five_pre1 H5.out HIE.out HSL.out HSR.out HT.out).1 (five_pre1 H5.out HIE.out HSL.out HSR.out HT.out).2)
                            clear c1 c2
                            go_wp2_with fail
                            refine HCALL.out.mono ?_
                            rintro e' w3 ⟨rfl, D3, hd3, hrow3, hkp3⟩
                            have HFIN : Hid (∃ D2, (Done Fl.rank a mid T D2 ∨ (D2 = T ∧ (i = a ∨ e = m))) ∧ RowF w3 g N c D2 ∧ Kp (fun q => q = g) w w3) := ⟨D3, .inl hd3, hrow3, HKP1.out.trans hkp3 (fun _ h => .inl h)⟩
                            clear hd3 hrow3 hkp3
                            go_wp2_with fail
                            go_meet
                            exact HFIN.out
                        | false =>
                          have hcc := of_decide_eq_false HZB.out
                          have HFIN : Hid (∃ D2, (Done Fl.rank a mid T D2 ∨ (D2 = T ∧ (i = a ∨ e = m))) ∧ RowF wo1 g N c D2 ∧ Kp (fun q => q = g) w wo1) := ⟨T, .inr ⟨rfl, by have := HIE.out; omega⟩, HROW1.out, HKP1.out⟩
                          clear hcc
                          go_wp2_with fail
                          go_meet
                          exact HFIN.out
                      case rest =>
                        as_aux_lemma =>
                          obtain ⟨D2, hd2, hrow2, hkp2⟩ := hcut
                          have HD2 := Lib.hid hd2
                          have HROW2 := Lib.hid hrow2
                          have HKP2 := Lib.hid hkp2
                          have HOK2 : Hid (okF D2) := by
                            rcases HD2.out with h | ⟨h, _⟩
                            · exact (HOK.out.perm HTP.out).perm h.perm
                            · rw [h]; exact HOK.out.perm HTP.out
                          clear hd2 hrow2 hkp2
                          obtain ⟨wo2, rfl⟩ : ∃ wo2 : World, wo2 = wc := ⟨_, rfl⟩
                          go_upto_region 43 with (fail)
                          go_cut [213] (fun v wx => wo2 = wx ∧ v = .bool (decide (mid < e ∧ e < b)))
                          case first =>
                            by_cases c1 : mid < e
                            · have d4 : decide ((mid : Int) < e) = true := decide_eq_true (by omega)
                              by_cases c2 : e < b
                              · have d5 : decide ((e : Int) < b) = true := decide_eq_true (by omega)
                                have HE : Hid (Value.bool true = .bool (decide (mid < e ∧ e < b))) := by unfold Hid; simp [c1, c2]
                                go_wp2_with fail
                                go_meet
                                exact ⟨rfl, HE.out⟩
                              · have d5 : decide ((e : Int) < b) = false := decide_eq_false (by omega)
                                have HE : Hid (Value.bool false = .bool (decide (mid < e ∧ e < b))) := by unfold Hid; simp [c2]
                                go_wp2_with fail
                                go_meet
                                exact ⟨rfl, HE.out⟩
                            · have d4 : decide ((mid : Int) < e) = false := decide_eq_false (by omega)
                              have HE : Hid (Value.bool false = .bool (decide (mid < e ∧ e < b))) := by unfold Hid; simp [c1]
                              go_wp2_with fail
                              go_meet
                              exact ⟨rfl, HE.out⟩
                          case rest =>
                            as_aux_lemma =>
                              obtain ⟨rfl, rfl⟩ := hcut
                              obtain ⟨zb, hzb⟩ : ∃ zb, decide (mid < e ∧ e < b) = zb := ⟨_, rfl⟩
                              rw [hzb]
                              have HZB := Lib.hid hzb
                              clear hzb
                              cases zb with
                              | true =>
                                as_aux_lemma =>
                                  have hcc := of_decide_eq_true HZB.out
                                  obtain ⟨c1, c2⟩ := hcc
                                  have HCALL := Lib.hid (IH.out mid e b D2 wo2 (by omega) c1 c2 hbN HOK2.out HROW2.out (HIK.out _ HKP2.out) (five_pre2 H5.out HIE.out HSL.out HSR.out HT.out HD2.out).1 (five_pre2 H5.out HIE.out HSL.out HSR.out HT.out HD2.out).2)
                                  clear c1 c2
                                  go_wp2_with fail
                                  refine HCALL.out.mono ?_
                                  rintro e' w3 ⟨rfl, D3, hd3, hrow3, hkp3⟩
                                  have HFIN := Lib.hid (five_join H5.out HIE.out HSL.out HSR.out HLOW.out HHIGH.out HT.out HD2.out (.inl hd3))
                                  have HROW3 := Lib.hid hrow3
                                  have HKP3 := Lib.hid (HKP2.out.trans hkp3 (fun _ h => .inl h))
                                  clear hd3 hrow3 hkp3
                                  go_wp2_with fail
                                  go_end0
                                  exact ⟨rfl, D3, HFIN.out, HROW3.out, HKP3.out⟩
                              | false =>
                                have hcc := of_decide_eq_false HZB.out
                                have HFIN := Lib.hid (five_join H5.out HIE.out HSL.out HSR.out HLOW.out HHIGH.out HT.out HD2.out (.inr ⟨rfl, by have := HIE.out; omega⟩))
                                clear hcc
                                go_wp2_with fail
                                go_end0
                                exact ⟨rfl, D2, HFIN.out, HROW2.out, HKP2.out⟩
end Sorts
end Go.Proofs.Ytkjhacbkgnjilaa
