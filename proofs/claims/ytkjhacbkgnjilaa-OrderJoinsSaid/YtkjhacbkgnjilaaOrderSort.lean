/-
  The contract of order.Sort: a row of floats of the call's own, in order, of the same.
-/
import Derived.Test.YtkjhacbkgnjilaaSortStable
import Derived.Test.YtkjhacbkgnjilaaOrder
import Derived.Test.YtkjhacbkgnjilaaBlkAt
namespace Go.Proofs.Ytkjhacbkgnjilaa
open Go.RowKit
namespace Sorts
def Fs (L : List Nat) : List Value := L.map (Value.float .f64)
theorem one_fs (L : List Nat) : ∀ u ∈ Fs L, u.oneCell' = true := by
  intro u hu
  obtain ⟨x, _, rfl⟩ := List.mem_map.1 hu
  rfl
theorem infoF : (Try.prog.info? 22).map (fun i => (i.zero, i.size, i.bytes)) = some (some (.float .f64 0), 1, 8) := by kernel_rfl
theorem own_empty (w : World) (B : Nat) (e : TypeId) (size : Nat) (hB : B ≤ w.heap.size) : (w.alloc (.cells #[] e)).ownsRow B e size (.slice (some ⟨w.heap.size, 0, none⟩) 0 0) 0 [] :=
  ⟨by simp, .inr ⟨w.heap.size, 0, #[], rfl, hB, heap_alloc_new w _, Nat.le_refl _, by simp [maxLen], by simp, by simp⟩⟩
theorem own_lower {w : World} {b b' n size : Nat} {e : TypeId} {v : Value} {xs : List Value} (h : w.ownsRow b e size v n xs) (hb : b' ≤ b) : w.ownsRow b' e size v n xs := by
  obtain ⟨h1, h2 | ⟨g, cap, cur, hv, hg, r⟩⟩ := h
  · exact ⟨h1, .inl h2⟩
  · exact ⟨h1, .inr ⟨g, cap, cur, hv, by omega, r⟩⟩
/-- A row of the call's own that holds something, and back. -/
theorem row_of_own {w : World} {base n : Nat} {v : Value} {L : List Nat} (h : w.ownsRow base 22 1 v n (Fs L)) (hn : 0 < n) : ∃ g c, v = .slice (some ⟨g, 0, none⟩) n c ∧ base ≤ g ∧ c ≤ maxLen ∧ RowF w g n c L := by
  obtain ⟨hl, h | ⟨g, c, cur, rfl, hb, hh, hc, hm, hs, ht⟩⟩ := h
  · omega
  · exact ⟨g, c, rfl, hb, hm, by simpa [Fs] using hl, cur, hh, by omega, hc, by rw [← Nat.mul_one n]; exact ht⟩
theorem own_of_row {w : World} {base g n c : Nat} {L : List Nat} (h : RowF w g n c L) (hb : base ≤ g) (hm : c ≤ maxLen) : w.ownsRow base 22 1 (.slice (some ⟨g, 0, none⟩) n c) n (Fs L) := by
  obtain ⟨hl, cur, hh, hs, hc, ht⟩ := h
  exact ⟨by simp [Fs, hl], .inr ⟨g, c, cur, rfl, hb, hh, hc, hm, by omega, by rw [Nat.mul_one]; exact ht⟩⟩
def OwnF (w0 : World) (n : Nat) (L : List Nat) (e : Ending) (w' : World) : Prop := ∃ v, e = .returned v ∧ w'.ownsRow w0.heap.size 22 1 v n (Fs L) ∧ Below w0.heap.size w0 w'
set_option maxRecDepth 100000 in
set_option maxHeartbeats 2000000 in
theorem clone_any (A : Option Addr) (n c : Nat) (L : List Nat) (hn : n ≤ 1000) (w : World) (hr : Reads w w.heap.size 1 A n (Fs L)) :
    Calls Try.prog 76 #[.slice A n c] w (OwnF w n L) := by
  obtain ⟨i0, hi, hz0, hz1, hz2⟩ := info_parts infoF
  cases A with
  | none =>
    have h0 : n = 0 := by
      rcases Nat.eq_zero_or_pos n with h | h
      · exact h
      · obtain ⟨ad, h, _⟩ := hr.2 h; cases h
    subst h0
    have hnil : Fs L = [] := List.eq_nil_of_length_eq_zero (by simpa using hr.1)
    have HNIL := Lib.hid hnil
    have hq := fun w : World => Lib.run_eql_slice_nil (P := Try.prog) w 29 22 none 0 c 0 0 Try.underlying29
    clear hnil hr
    go_enter Try.func76, Try.ntmps76
    go_wp2_with fail
    go_ret
    exact ⟨_, rfl, by rw [HNIL.out]; exact World.ownsRow_nil _ _ _ _, Below.refl _ _⟩
  | some ad =>
    have HR := Lib.hid hr
    have hq := fun w : World => Lib.run_eql_slice_nil (P := Try.prog) w 29 22 (some ad) n c 0 0 Try.underlying29
    clear hr
    have hE := own_empty w w.heap.size 22 1 (Nat.le_refl _)
    have hRe := HR.out.alloc (Nat.le_refl _) (.cells #[] 22)
    have hBe := (Below.refl w.heap.size w).alloc (Nat.le_refl _) (.cells #[] 22)
    go_enter Try.func76, Try.ntmps76
    go_wp2_with (first
      | (at_builtin; refine wpList_append_any _ rfl _ _ 29 rfl w.heap.size 22 i0 (.float .f64 0) 1 8 Try.underlying29 hi hz0 hz1 hz2 rfl (by decide) _ _ _ rfl hE w.heap.size (some ad) n c (Fs L) rfl hRe (one_fs L) ?c3 ?c4 ?c5 ?_)
      | go_in)
    case c3 => simp [maxLen]; omega
    case c4 => omega
    case c5 => simp
    intro v' w1 hown' hg1 _
    have hB1 := hBe.grown hg1 (by simp) (fun g hg => Nat.le_of_eq (Option.some.inj (show some w.heap.size = some g from hg)))
    have HO := Lib.hid hown'
    have HB1 := Lib.hid hB1
    clear hown' hg1 hB1 hE hRe hBe
    go_wp2_with fail
    go_ret
    exact ⟨v', rfl, by simpa using HO.out, HB1.out⟩
set_option maxRecDepth 100000 in
set_option maxHeartbeats 2000000 in
/-- By whom sorted compares: by order.Ahead, both ways. -/
theorem cmp_any (gb x y : Nat) (hx : x < 18446744073709551616) (hy : y < 18446744073709551616) (w : World) (hb : Blk w gb 26 #[.func (.func 17) #[] #[]]) :
    Calls Try.prog 78 #[.float .f64 x, .float .f64 y, .pointer (some ⟨gb, 0, none⟩)] w fun e w' => e = .returned (.int .i64 (cmpI x y)) ∧ Below w.heap.size w w' := by
  have hc := hb.at1
  have hxy : Hid (Fl.ahead x y = decide (Fl.rank x < Fl.rank y)) := rfl
  have hyx : Hid (Fl.ahead y x = decide (Fl.rank y < Fl.rank x)) := rfl
  clear hb
  by_cases h1 : Fl.rank x < Fl.rank y
  · have HV : Hid (cmpI x y = -1) := by unfold Hid cmpI; rw [if_pos h1]
    rw [decide_eq_true h1] at hxy
    clear h1 hyx
    go_enter Try.func78, Try.ntmps78
    go_wp2_with fail
    refine (Order.ahead_ x y hx hy _).mono ?_
    rintro e w1 ⟨rfl, rfl⟩
    rw [hxy.out]
    go_wp2_with fail
    go_ret
    exact ⟨by rw [HV.out]; rfl, Below.refl _ _⟩
  · rw [decide_eq_false h1] at hxy
    by_cases h2 : Fl.rank y < Fl.rank x
    · have HV : Hid (cmpI x y = 1) := by unfold Hid cmpI; rw [if_neg h1, if_pos h2]
      rw [decide_eq_true h2] at hyx
      clear h1 h2
      go_enter Try.func78, Try.ntmps78
      go_wp2_with fail
      refine (Order.ahead_ x y hx hy _).mono ?_
      rintro e w1 ⟨rfl, rfl⟩
      rw [hxy.out]
      go_wp2_with fail
      refine (Order.ahead_ y x hy hx _).mono ?_
      rintro e w1 ⟨rfl, rfl⟩
      rw [hyx.out]
      go_wp2_with fail
      go_ret
      exact ⟨by rw [HV.out]; rfl, Below.refl _ _⟩
    · have HV : Hid (cmpI x y = 0) := by unfold Hid cmpI; rw [if_neg h1, if_neg h2]
      rw [decide_eq_false h2] at hyx
      clear h1 h2
      go_enter Try.func78, Try.ntmps78
      go_wp2_with fail
      refine (Order.ahead_ x y hx hy _).mono ?_
      rintro e w1 ⟨rfl, rfl⟩
      rw [hxy.out]
      go_wp2_with fail
      refine (Order.ahead_ y x hy hx _).mono ?_
      rintro e w1 ⟨rfl, rfl⟩
      rw [hyx.out]
      go_wp2_with fail
      go_ret
      exact ⟨by rw [HV.out]; rfl, Below.refl _ _⟩
def cmpOf (gb : Nat) : CmpF where
  K := 78
  caps := #[.pointer (some ⟨gb, 0, none⟩)]
  own := fun k => k = gb
  I := fun w => Blk w gb 26 #[.func (.func 17) #[] #[]]
  enter := fun x y w => by simp [go_sem]
  keep := fun h hk => (hk gb rfl).trans h
  lt := fun h k hk => by subst hk; exact h.lt
  run := fun x y hx hy h => cmp_any gb x y hx hy _ h
set_option maxRecDepth 100000 in
set_option maxHeartbeats 2000000 in
theorem insert_zero (A : Option Addr) (c : Nat) (F : Value) (w : World) :
    Calls Try.prog 87 #[.slice A 0 c, .int .i64 0, .int .i64 0, F] w fun e w' => e = .returned (.tuple #[]) ∧ Below w.heap.size w w' := by
  go_enter Try.func87, Try.ntmps87
  go_wp2_with fail
  go_loopw [8] (fun v wr => wr = w ∧ v = .int .i64 1) (fun _ _ => 0)
  case atStart => exact ⟨rfl, rfl⟩
  case round =>
    obtain ⟨rfl, rfl⟩ := hrel
    go_wp2_with fail
    go_end0
    exact ⟨rfl, Below.refl _ _⟩
set_option maxRecDepth 100000 in
set_option maxHeartbeats 2000000 in
theorem stable_zero (A : Option Addr) (c : Nat) (F : Value) (w : World) :
    Calls Try.prog 86 #[.slice A 0 c, .int .i64 0, F] w fun e w' => e = .returned (.tuple #[]) ∧ Below w.heap.size w w' := by
  go_enter Try.func86, Try.ntmps86
  go_wp2_with fail
  go_loopw [7, 8] (fun v7 v8 wr => wr = w ∧ v7 = .int .i64 0 ∧ v8 = .int .i64 20) (fun _ _ _ => 0)
  case atStart => exact ⟨rfl, rfl, rfl⟩
  case round =>
    obtain ⟨rfl, rfl, rfl⟩ := hrel
    go_wp2_with fail
    refine (insert_zero A c F _).mono ?_
    rintro e w2 ⟨rfl, hb⟩
    have HB := Lib.hid hb
    clear hb
    go_wp2_with fail
    go_loopw [6] (fun v6 wr2 => wr2 = w2 ∧ v6 = .int .i64 20) (fun _ _ => 0)
    case atStart => exact ⟨rfl, rfl⟩
    case round =>
      obtain ⟨rfl, rfl⟩ := hrel
      go_wp2_with fail
      go_end0
      exact ⟨rfl, HB.out⟩
set_option maxRecDepth 100000 in
set_option maxHeartbeats 2000000 in
theorem stf_any (C : CmpF) (g N c : Nat) (L : List Nat) (hN : N ≤ 1000) (hok : okF L) (hgo : ¬ C.own g) (w : World) (hr : RowF w g N c L) (hI : C.I w) :
    Calls Try.prog 77 #[.slice (some ⟨g, 0, none⟩) N c, .func (.func C.K) #[] C.caps] w (StPost g N c L w) := by
  have HC := Lib.hid (stable_any C g N c L hN hok hgo w hr hI)
  clear hok hgo hr hI
  go_enter Try.func77, Try.ntmps77
  go_wp2_with fail
  refine HC.out.mono ?_
  rintro e w2 ⟨rfl, h⟩
  have H := Lib.hid h
  clear h
  go_wp2_with fail
  go_end0
  exact ⟨rfl, H.out⟩
set_option maxRecDepth 100000 in
set_option maxHeartbeats 2000000 in
theorem stf_zero (A : Option Addr) (c : Nat) (F : Value) (w : World) :
    Calls Try.prog 77 #[.slice A 0 c, F] w fun e w' => e = .returned (.tuple #[]) ∧ Below w.heap.size w w' := by
  go_enter Try.func77, Try.ntmps77
  go_wp2_with fail
  refine (stable_zero A c F w).mono ?_
  rintro e w2 ⟨rfl, h⟩
  have H := Lib.hid h
  clear h
  go_wp2_with fail
  go_end0
  exact ⟨rfl, H.out⟩
def Sorted (n : Nat) (L : List Nat) (w : World) (e : Ending) (w' : World) : Prop := ∃ D v, Srt Fl.rank D ∧ D.Perm L ∧ e = .returned v ∧ w'.ownsRow w.heap.size 22 1 v n (Fs D) ∧ Below w.heap.size w w'
set_option maxRecDepth 100000 in
set_option maxHeartbeats 2000000 in
theorem sorted_any (A : Option Addr) (n c : Nat) (L : List Nat) (hn : n ≤ 1000) (hok : okF L) (w : World) (hr : Reads w w.heap.size 1 A n (Fs L)) :
    Calls Try.prog 53 #[.slice A n c, .func (.func 17) #[] #[]] w (Sorted n L w) := by
  obtain ⟨gb, hgb⟩ : ∃ gb, w.heap.size = gb := ⟨_, rfl⟩
  have hB0 := Blk.new w 26 #[.func (.func 17) #[] #[]]
  have hw0 := (Below.refl w.heap.size w).alloc (Nat.le_refl _) (.cells #[.func (.func 17) #[] #[]] 26)
  have hr0 := (hr.alloc (Nat.le_refl _) (.cells #[.func (.func 17) #[] #[]] 26)).more (B' := (w.alloc (.cells #[.func (.func 17) #[] #[]] 26)).heap.size) (by simp)
  have hs0 : w.heap.size < (w.alloc (.cells #[.func (.func 17) #[] #[]] 26)).heap.size := by simp
  have HOK := Lib.hid hok
  clear hr hok
  go_enter Try.func53, Try.ntmps53
  go_wp2_with fail
  obtain ⟨w1, hw1⟩ : ∃ w1, w.alloc (.cells #[.func (.func 17) #[] #[]] 26) = w1 := ⟨_, rfl⟩
  rw [hw1] at hB0 hw0 hr0 hs0 ⊢
  rw [hgb] at hB0 hs0
  have HB0 := Lib.hid hB0
  have HW0 := Lib.hid hw0
  have HR0 := Lib.hid hr0
  have HS0 := Lib.hid hs0
  have HGB := Lib.hid hgb
  clear hw1 hB0 hw0 hr0 hs0 hgb
  refine (clone_any A n c L hn w1 HR0.out).mono ?_
  rintro e w2 ⟨v, rfl, hown, hb2⟩
  rcases Nat.eq_zero_or_pos n with h0 | h0
  · subst h0
    have hv : ∃ A c, v = .slice A 0 c := by
      obtain ⟨_, h | ⟨g, c, cur, rfl, _⟩⟩ := hown
      · exact ⟨_, _, h.1⟩
      · exact ⟨_, _, rfl⟩
    obtain ⟨A', c', rfl⟩ := hv
    have hL : L = [] := List.eq_nil_of_length_eq_zero (by have := hown.1; simpa [Fs] using this)
    have HO := Lib.hid hown
    have HB2 := Lib.hid hb2
    clear hown hb2
    go_wp2_with fail
    refine (stf_zero A' c' _ w2).mono ?_
    rintro e w3 ⟨rfl, hb3⟩
    have HB3 := Lib.hid hb3
    clear hb3
    go_wp2_with fail
    go_ret
    have h3 := own_kp HO.out (Kp.of_below (own := fun _ => False) HB3.out) (fun _ _ h => h)
    refine ⟨[], _, List.Pairwise.nil, by rw [hL], rfl, ?_, ?_⟩
    · have := own_lower h3 (show w.heap.size ≤ w1.heap.size from HW0.out.size)
      rw [hL] at this
      exact this
    · exact bthen (bthen HW0.out HB2.out) HB3.out
  · obtain ⟨g, c', rfl, hbg, hm, hrow⟩ := row_of_own hown h0
    have HROW := Lib.hid hrow
    have HB2 := Lib.hid hb2
    have hbl : Blk w2 gb 26 #[.func (.func 17) #[] #[]] := HB0.out.below hb2 HS0.out
    have HBL := Lib.hid hbl
    have hgg : Hid (¬ (cmpOf gb).own g) := fun e : g = gb => by have := HS0.out; omega
    clear hown hrow hb2 hbl
    go_wp2_with fail
    refine (stf_any (cmpOf gb) g n c' L hn HOK.out hgg.out w2 HROW.out HBL.out).mono ?_
    rintro e w3 ⟨rfl, D, hs, hp, hrow3, hk3⟩
    have HROW3 := Lib.hid hrow3
    have HK3 := Lib.hid hk3
    have HS := Lib.hid hs
    have HP := Lib.hid hp
    clear hrow3 hk3 hs hp
    go_wp2_with fail
    go_ret
    refine ⟨D, _, HS.out, HP.out, rfl, own_of_row HROW3.out (by have := HS0.out; have := HGB.out; omega) hm, ?_⟩
    refine (bthen HW0.out HB2.out).trans (HK3.out.below_ (by have := HW0.out.size; have := HB2.out.size; omega) (fun k hk => ?_))
    subst hk
    have := HW0.out.size
    omega
set_option maxRecDepth 100000 in
set_option maxHeartbeats 2000000 in
theorem sort_any (A : Option Addr) (n c : Nat) (L : List Nat) (hn : n ≤ 1000) (hok : okF L) (w : World) (hr : Reads w w.heap.size 1 A n (Fs L)) :
    Calls Try.prog 23 #[.slice A n c] w (Sorted n L w) := by
  have HC := Lib.hid (sorted_any A n c L hn hok w hr)
  clear hok hr
  go_enter Try.func23, Try.ntmps23
  go_wp2_with fail
  refine HC.out.mono ?_
  rintro e w2 ⟨D, v, hs, hp, rfl, ho, hb⟩
  have H : Hid (Srt Fl.rank D ∧ D.Perm L ∧ w2.ownsRow w.heap.size 22 1 v n (Fs D) ∧ Below w.heap.size w w2) := ⟨hs, hp, ho, hb⟩
  clear hs hp ho hb
  go_wp2_with fail
  go_ret
  exact ⟨D, v, H.out.1, H.out.2.1, rfl, H.out.2.2.1, H.out.2.2.2⟩
end Sorts
end Go.Proofs.Ytkjhacbkgnjilaa
