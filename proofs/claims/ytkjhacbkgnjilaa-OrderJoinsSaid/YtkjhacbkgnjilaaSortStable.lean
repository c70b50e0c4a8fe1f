/-
  Go's stable sort over floats, by a comparer: the whole of it.
-/
import Derived.Test.YtkjhacbkgnjilaaSortSymG
namespace Go.Proofs.Ytkjhacbkgnjilaa
open Go.RowKit
namespace Sorts
theorem sym_all (C : CmpF) (g N c : Nat) (hN : N ≤ 1000) (hgo : ¬ C.own g) : ∀ d, SymHyp C g N c d := by
  intro d
  induction d with
  | zero => intro a m b L w hd; omega
  | succ d ih =>
    intro a m b L w hd ham hmb hbN hok hr hI sL sR
    by_cases h1 : m = a + 1
    · exact sym1_any C g N c a m b L hN h1 hmb hbN hok hgo w hr hI sR
    · by_cases h2 : b = m + 1
      · exact sym2_any C g N c a m b L hN ham h1 h2 hbN hok hgo w hr hI sL
      · refine symG_any C g N c a m b L hN (by omega) (by omega) hbN hok hgo ?_ w hr hI sL sR
        intro a' m' b' L' w' h'
        exact ih a' m' b' L' w' (by omega)
theorem sym_any (C : CmpF) (g N c a m b : Nat) (L : List Nat) (hN : N ≤ 1000) (ham : a < m) (hmb : m < b) (hbN : b ≤ N) (hok : okF L) (hgo : ¬ C.own g) (w : World) (hr : RowF w g N c L) (hI : C.I w) (sL : Srt Fl.rank (seg L a m)) (sR : Srt Fl.rank (seg L m b)) : SymCalls C g N c a m b L w := sym_all C g N c hN hgo (b - a + 1) a m b L w (by omega) ham hmb hbN hok hr hI sL sR
theorem done_none {rk : Nat → Int} {a : Nat} {D : List Nat} (h : a ≤ D.length) : Done rk a a D D := ⟨D.take a, [], [], D.drop a, by simp, by simp, by rw [List.length_take]; omega, by rw [List.length_take]; simp; omega, List.Perm.refl _, List.Pairwise.nil⟩
/-- The insertion over nothing at all too. -/
def InsPost (g N c a b : Nat) (L : List Nat) (w : World) (e : Ending) (w' : World) : Prop := e = .returned (.tuple #[]) ∧ ∃ D, Done Fl.rank a b L D ∧ RowF w' g N c D ∧ Kp (fun q => q = g) w w'
set_option maxRecDepth 100000 in
set_option maxHeartbeats 2000000 in
theorem insert_none (C : CmpF) (g N c a : Nat) (L : List Nat) (hN : N ≤ 1000) (haN : a ≤ N) (w : World) (hr : RowF w g N c L) :
    Calls Try.prog 87 #[.slice (some ⟨g, 0, none⟩) N c, .int .i64 a, .int .i64 a, .func (.func C.K) #[] C.caps] w (InsPost g N c a a L w) := by
  have HFIN : Hid (Done Fl.rank a a L L ∧ RowF w g N c L ∧ Kp (fun q => q = g) w w) := ⟨done_none (by have := hr.len; omega), hr, Kp.refl _ _⟩
  have d0 : decide ((a : Int) + 1 < a) = false := decide_eq_false (by omega)
  clear hr
  go_enter Try.func87, Try.ntmps87
  go_wp2_with fail
  go_loopw [8] (fun v wr => wr = w ∧ v = .int .i64 ((a : Int) + 1)) (fun _ _ => 0)
  case atStart => exact ⟨rfl, rfl⟩
  case round =>
    obtain ⟨rfl, rfl⟩ := hrel
    go_wp2_with fail
    go_end0
    exact ⟨rfl, L, HFIN.out⟩
theorem ins_any (C : CmpF) (g N c a b : Nat) (L : List Nat) (hN : N ≤ 1000) (hab : a ≤ b) (hbN : b ≤ N) (hok : okF L) (hgo : ¬ C.own g) (w : World) (hr : RowF w g N c L) (hI : C.I w) :
    Calls Try.prog 87 #[.slice (some ⟨g, 0, none⟩) N c, .int .i64 a, .int .i64 b, .func (.func C.K) #[] C.caps] w (InsPost g N c a b L w) := by
  by_cases h : a < b
  · exact insert_any C g N c a b L hN h hbN hok hgo w hr hI
  · obtain rfl : a = b := by omega
    exact insert_none C g N c a L hN hbN w hr
def StPost (g N c : Nat) (L : List Nat) (w : World) (e : Ending) (w' : World) : Prop := e = .returned (.tuple #[]) ∧ ∃ D, Srt Fl.rank D ∧ D.Perm L ∧ RowF w' g N c D ∧ Kp (fun q => q = g) w w'
def St1 (g N c : Nat) (L : List Nat) (w : World) (i : Nat) (wr : World) : Prop := ∃ D, Up1 Fl.rank 20 i D ∧ D.Perm L ∧ RowF wr g N c D ∧ Kp (fun q => q = g) w wr
def St2 (g N c : Nat) (L : List Nat) (w : World) (bs : Nat) (wr : World) : Prop := ∃ D, BS Fl.rank bs D ∧ D.Perm L ∧ RowF wr g N c D ∧ Kp (fun q => q = g) w wr
def St3 (g N c : Nat) (L : List Nat) (w : World) (bs A : Nat) (wr : World) : Prop := ∃ i D, A = i * (2 * bs) ∧ Up2 Fl.rank bs i D ∧ D.Perm L ∧ RowF wr g N c D ∧ Kp (fun q => q = g) w wr
section
variable {C : CmpF} {g N c : Nat} {L : List Nat} {w wr : World}
theorem keepI (hI : C.I w) (hgo : ¬ C.own g) (hk : Kp (fun q => q = g) w wr) : C.I wr := C.keep hI (fun q hq => hk.same q (C.lt hI q hq) (fun e => hgo (e ▸ hq)))
theorem st1_ins (hN : N ≤ 1000) (hok : okF L) (hgo : ¬ C.own g) (hI : C.I w) {i : Nat} (h : St1 g N c L w i wr) (hi : i * 20 + 20 ≤ N) :
    Calls Try.prog 87 #[.slice (some ⟨g, 0, none⟩) N c, .int .i64 (i * 20 : Nat), .int .i64 (((i * 20 : Nat) : Int) + 20), .func (.func C.K) #[] C.caps] wr fun e w' => e = .returned (.tuple #[]) ∧ St1 g N c L w (i + 1) w' := by
  obtain ⟨D, hu, hp, hr, hk⟩ := h
  rw [show (((i * 20 : Nat) : Int) + 20) = ((i * 20 + 20 : Nat) : Int) by omega]
  refine (ins_any C g N c (i * 20) (i * 20 + 20) D hN (by omega) hi (hok.perm hp) hgo wr hr (keepI hI hgo hk)).mono ?_
  rintro e w' ⟨rfl, D', hd, hr', hk'⟩
  exact ⟨rfl, D', up1_step hu (by rw [Nat.add_mul, Nat.one_mul]; exact hd), hd.perm.trans hp, hr', hk.trans hk' (fun _ h => .inl h)⟩
theorem st1_end (hN : N ≤ 1000) (hok : okF L) (hgo : ¬ C.own g) (hI : C.I w) {i : Nat} (h : St1 g N c L w i wr) (hi : i * 20 ≤ N) (hi2 : N < i * 20 + 20) :
    Calls Try.prog 87 #[.slice (some ⟨g, 0, none⟩) N c, .int .i64 (i * 20 : Nat), .int .i64 N, .func (.func C.K) #[] C.caps] wr fun e w' => e = .returned (.tuple #[]) ∧ St2 g N c L w 20 w' := by
  obtain ⟨D, hu, hp, hr, hk⟩ := h
  have hl := hr.len
  refine (ins_any C g N c (i * 20) N D hN hi (Nat.le_refl _) (hok.perm hp) hgo wr hr (keepI hI hgo hk)).mono ?_
  rintro e w' ⟨rfl, D', hd, hr', hk'⟩
  exact ⟨rfl, D', up1_end hu (by rw [hl]; exact hd) (by rw [hl]; omega), hd.perm.trans hp, hr', hk.trans hk' (fun _ h => .inl h)⟩
theorem st3_start {bs : Nat} (h : St2 g N c L w bs wr) : St3 g N c L w bs 0 wr := by
  obtain ⟨D, hb, h2⟩ := h
  exact ⟨0, D, by simp, up2_start hb, h2⟩
theorem st3_sym (hN : N ≤ 1000) (hok : okF L) (hgo : ¬ C.own g) (hI : C.I w) {bs A : Nat} (hb : 0 < bs) (h : St3 g N c L w bs A wr) (hi : A + 2 * bs ≤ N) :
    Calls Try.prog 88 #[.slice (some ⟨g, 0, none⟩) N c, .int .i64 A, .int .i64 ((A : Int) + bs), .int .i64 ((A : Int) + 2 * bs), .func (.func C.K) #[] C.caps] wr fun e w' => e = .returned (.tuple #[]) ∧ St3 g N c L w bs (A + 2 * bs) w' := by
  rw [show ((A : Int) + bs) = ((A + bs : Nat) : Int) by omega, show ((A : Int) + 2 * bs) = ((A + 2 * bs : Nat) : Int) by omega]
  obtain ⟨i, D, rfl, hu, hp, hr, hk⟩ := h
  obtain ⟨s1, s2⟩ := up2_two hu
  refine (sym_any C g N c (i * (2 * bs)) (i * (2 * bs) + bs) (i * (2 * bs) + 2 * bs) D hN (by omega) (by omega) hi (hok.perm hp) hgo wr hr (keepI hI hgo hk) s1 s2).mono ?_
  rintro e w' ⟨rfl, D', hd, hr', hk'⟩
  exact ⟨rfl, i + 1, D', by rw [Nat.add_mul, Nat.one_mul], up2_step hu (by rw [Nat.add_mul, Nat.one_mul]; exact hd), hd.perm.trans hp, hr', hk.trans hk' (fun _ h => .inl h)⟩
theorem st3_end1 (hN : N ≤ 1000) (hok : okF L) (hgo : ¬ C.own g) (hI : C.I w) {bs A : Nat} (_hb : 0 < bs) (h : St3 g N c L w bs A wr) (hi : A + bs < N) (hi2 : N < A + 2 * bs) :
    Calls Try.prog 88 #[.slice (some ⟨g, 0, none⟩) N c, .int .i64 A, .int .i64 ((A : Int) + bs), .int .i64 N, .func (.func C.K) #[] C.caps] wr fun e w' => e = .returned (.tuple #[]) ∧ St2 g N c L w (2 * bs) w' := by
  rw [show ((A : Int) + bs) = ((A + bs : Nat) : Int) by omega]
  obtain ⟨i, D, rfl, hu, hp, hr, hk⟩ := h
  have hl := hr.len
  obtain ⟨s1, s2⟩ := up2_two hu
  rw [seg_over D (a := i * (2 * bs) + bs) (by omega), hl] at s2
  refine (sym_any C g N c (i * (2 * bs)) (i * (2 * bs) + bs) N D hN (by omega) hi (Nat.le_refl _) (hok.perm hp) hgo wr hr (keepI hI hgo hk) s1 s2).mono ?_
  rintro e w' ⟨rfl, D', hd, hr', hk'⟩
  exact ⟨rfl, D', up2_end1 hu (by rw [hl]; exact hd) (by rw [hl, Nat.add_mul, Nat.one_mul]; exact hi2), hd.perm.trans hp, hr', hk.trans hk' (fun _ h => .inl h)⟩
theorem st3_end2 {bs A : Nat} (h : St3 g N c L w bs A wr) (hi : N ≤ A + bs) : St2 g N c L w (2 * bs) wr := by
  obtain ⟨i, D, rfl, hu, hp, hr, hk⟩ := h
  exact ⟨D, up2_end2 hu (by rw [hr.len]; exact hi), hp, hr, hk⟩
theorem st2_end {bs : Nat} (h : St2 g N c L w bs wr) (hi : N ≤ bs) : ∃ D, Srt Fl.rank D ∧ D.Perm L ∧ RowF wr g N c D ∧ Kp (fun q => q = g) w wr := by
  obtain ⟨D, hb, hp, hr, hk⟩ := h
  exact ⟨D, bs_all hb (by rw [hr.len]; exact hi), hp, hr, hk⟩
end
set_option maxRecDepth 100000 in
set_option maxHeartbeats 4000000 in
theorem stable_any (C : CmpF) (g N c : Nat) (L : List Nat) (hN : N ≤ 1000) (hok : okF L) (hgo : ¬ C.own g) (w : World) (hr : RowF w g N c L) (hI : C.I w) :
    Calls Try.prog 86 #[.slice (some ⟨g, 0, none⟩) N c, .int .i64 N, .func (.func C.K) #[] C.caps] w (StPost g N c L w) := by
  have HI := Lib.hid hI
  have HOK := Lib.hid hok
  have HGO := Lib.hid hgo
  have H0 : Hid (St1 g N c L w 0 w) := ⟨L, fun j hj => by omega, List.Perm.refl _, hr, Kp.refl _ _⟩
  clear hr hI hok hgo
  go_enter Try.func86, Try.ntmps86
  go_wp2_with fail
  go_loopw [7, 8] (fun v7 v8 wr => ∃ i : Nat, i * 20 ≤ N ∧ v7 = .int .i64 (i * 20 : Nat) ∧ v8 = .int .i64 (((i * 20 : Nat) : Int) + 20) ∧ St1 g N c L w i wr) (fun v7 _ _ => N - (intOf v7).toNat)
  case atStart => exact ⟨0, by omega, rfl, rfl, H0.out⟩
  case round =>
    obtain ⟨i, hi, rfl, rfl, hst⟩ := hrel
    have HST := Lib.hid hst
    clear hst
    obtain ⟨A, hA⟩ : ∃ A, i * 20 = A := ⟨_, rfl⟩
    by_cases hlt : i * 20 + 20 ≤ N
    · have d0 : decide (((A : Int) + 20) ≤ N) = true := decide_eq_true (by omega)
      have HC := Lib.hid (st1_ins hN HOK.out HGO.out HI.out HST.out hlt)
      rw [hA] at HC hlt hi ⊢
      go_wp2_with fail
      refine HC.out.mono ?_
      rintro e w2 ⟨rfl, hst2⟩
      have HST2 := Lib.hid hst2
      clear hst2
      go_wp2_with fail
      exact ⟨⟨i + 1, by omega, congrArg (Value.int .i64) (by omega), congrArg (Value.int .i64) (by omega), HST2.out⟩, by simp only [intOf]; omega⟩
    · have d0 : decide (((A : Int) + 20) ≤ N) = false := decide_eq_false (by omega)
      have HC := Lib.hid (st1_end hN HOK.out HGO.out HI.out HST.out hi (by omega))
      rw [hA] at HC hlt hi ⊢
      go_wp2_with fail
      refine HC.out.mono ?_
      rintro e w2 ⟨rfl, hst2⟩
      have HST2 := Lib.hid hst2
      clear hst2 HC HST
      go_wp2_with fail
      go_loopw [6] (fun v6 wr => ∃ bs : Nat, 0 < bs ∧ bs ≤ 2000 ∧ v6 = .int .i64 bs ∧ St2 g N c L w bs wr) (fun v6 _ => N - (intOf v6).toNat)
      case atStart => exact ⟨20, by omega, by omega, rfl, HST2.out⟩
      case round =>
        obtain ⟨bs, hb, hb2, rfl, hst⟩ := hrel
        have HS := Lib.hid hst
        clear hst
        by_cases hbn : bs < N
        · have d1 : decide ((bs : Int) < N) = true := decide_eq_true (by omega)
          go_wp2_with fail
          go_loopw [7, 8] (fun v7 v8 wr => ∃ A : Nat, A ≤ N ∧ v7 = .int .i64 A ∧ v8 = .int .i64 ((A : Int) + 2 * bs) ∧ St3 g N c L w bs A wr) (fun v7 _ _ => N - (intOf v7).toNat)
          case atStart => exact ⟨0, by omega, rfl, congrArg (Value.int .i64) (by omega), st3_start HS.out⟩
          case round =>
            obtain ⟨B, hB, rfl, rfl, hst⟩ := hrel
            have HS3 := Lib.hid hst
            clear hst
            by_cases hle : B + 2 * bs ≤ N
            · have d2 : decide (((B : Int) + 2 * bs) ≤ N) = true := decide_eq_true (by omega)
              have HC := Lib.hid (st3_sym hN HOK.out HGO.out HI.out hb HS3.out hle)
              go_wp2_with fail
              refine HC.out.mono ?_
              rintro e w2 ⟨rfl, hst2⟩
              have HST3 := Lib.hid hst2
              clear hst2
              go_wp2_with fail
              exact ⟨⟨B + 2 * bs, hle, congrArg (Value.int .i64) (by omega), congrArg (Value.int .i64) (by omega), HST3.out⟩, by simp only [intOf]; omega⟩
            · have d2 : decide (((B : Int) + 2 * bs) ≤ N) = false := decide_eq_false (by omega)
              by_cases hm : B + bs < N
              · have d3 : decide (((B : Int) + bs) < N) = true := decide_eq_true (by omega)
                have HC := Lib.hid (st3_end1 hN HOK.out HGO.out HI.out hb HS3.out hm (by omega))
                go_wp2_with fail
                refine HC.out.mono ?_
                rintro e w2 ⟨rfl, hst2⟩
                have HST3 := Lib.hid hst2
                clear hst2
                go_wp2_with fail
                exact ⟨⟨2 * bs, by omega, by omega, congrArg (Value.int .i64) (by omega), HST3.out⟩, by simp only [intOf]; omega⟩
              · have d3 : decide (((B : Int) + bs) < N) = false := decide_eq_false (by omega)
                have HST3 := Lib.hid (st3_end2 HS3.out (by omega))
                go_wp2_with fail
                exact ⟨⟨2 * bs, by omega, by omega, congrArg (Value.int .i64) (by omega), HST3.out⟩, by simp only [intOf]; omega⟩
        · have d1 : decide ((bs : Int) < N) = false := decide_eq_false (by omega)
          have HFIN := Lib.hid (st2_end HS.out (by omega))
          go_wp2_with fail
          go_end0
          exact ⟨rfl, HFIN.out⟩
end Sorts
end Go.Proofs.Ytkjhacbkgnjilaa
