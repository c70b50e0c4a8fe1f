/-
  The walk of OrderTells.
-/
import Derived.Test.YtkjhacbkgnjilaaOrderAlive
import Derived.Test.YtkjhacbkgnjilaaOrderRefAll
namespace Go.Proofs.Ytkjhacbkgnjilaa
open Go.RowKit
namespace OrderRef
theorem share (a b : Int) (w : World) : Calls Try.prog 25 #[.int .i64 a, .int .i64 b] w fun e w' => Order.ShareOf a b e ∧ Below w.heap.size w w' := by
  cases h : floatBits .quo .f64 (floatOfInt .f64 a) (floatOfInt .f64 b) with
  | some q =>
    have hd : ∀ w, (binOp .quo 22 (.float .f64 (floatOfInt .f64 a)) (.float .f64 (floatOfInt .f64 b))).run Try.prog w = .ok (.float .f64 q) w := fun w => run_float_arith w .quo _ .f64 _ _ _ h
    have H : Hid (Fl.isShare a b q) := ⟨Fl.bits_lt h, fun x hx => by rw [h] at hx; exact Option.some.inj hx, fun hx => by rw [h] at hx; cases hx⟩
    clear h
    go_enter Try.func25, Try.ntmps25
    go_wp2_with fail
    go_ret
    exact ⟨⟨q, rfl, H.out⟩, Below.refl _ _⟩
  | none =>
    obtain ⟨n, hd⟩ := Fl.run_nan Try.prog .quo (.inl rfl) 22 _ _ h w
    have H : Hid (Fl.isShare a b (Fl.anyNan n)) := ⟨Fl.anyNan_lt n, fun x hx => by (rw [h] at hx; cases hx), fun _ => Fl.anyNan_nan n⟩
    clear h
    go_enter Try.func25, Try.ntmps25
    go_wp2_with fail
    go_ret
    exact ⟨⟨_, rfl, H.out⟩, (Below.refl _ _).drew⟩
end OrderRef
namespace Sorts
/-- Two rows of three, just made. -/
theorem made3 (w : World) (a b c d e f : Nat) :
    let W := (w.alloc (.cells #[.float .f64 a, .float .f64 b, .float .f64 c] 22)).alloc (.cells #[.float .f64 d, .float .f64 e, .float .f64 f] 22)
    Reads W W.heap.size 1 (some ⟨w.heap.size, 0, none⟩) 3 (Fs [a, b, c]) ∧ Reads W W.heap.size 1 (some ⟨w.heap.size + 1, 0, none⟩) 3 (Fs [d, e, f]) ∧ Below w.heap.size w W := by
  refine ⟨(Reads.of_blk (Blk.alloc (Blk.new w 22 #[.float .f64 a, .float .f64 b, .float .f64 c]) _) rfl), ?_, ?_⟩
  · have h := Blk.new (w.alloc (.cells #[.float .f64 a, .float .f64 b, .float .f64 c] 22)) 22 #[.float .f64 d, .float .f64 e, .float .f64 f]
    rw [World.size_alloc] at h
    exact Reads.of_blk h rfl
  · exact ((Below.refl _ _).alloc (Nat.le_refl _) _).alloc (by simp) _
end Sorts
namespace orderTells
open Sorts
set_option maxRecDepth 100000 in
set_option maxHeartbeats 8000000 in
theorem walk (f g : Nat) (A : Option Addr) (n c : Nat) (L : List Nat) (a b : Int) (w : World) (wf : (Lit.float .f64 f).wf = true) (wg : (Lit.float .f64 g).wf = true) (hok0 : okF L) (hr0 : Reads w w.heap.size 1 A n (Fs L)) (hc0 : n ≤ c ∧ c ≤ maxLen) (_wa : (Lit.int .i64 a).wf = true) (_wb : (Lit.int .i64 b).wf = true) :
    Calls Try.prog 5 #[.float .f64 f, .float .f64 g, .slice A n c, .int .i64 a, .int .i64 b] w fun e w' => e = .returned (.bool true) ∧ Below w.heap.size w w' := by
  have hnc := hc0.1
  clear _wa _wb hc0
  have lf := Lib.hid (Fl.wf_lt wf)
  have lg := Lib.hid (Fl.wf_lt wg)
  obtain ⟨N, hN⟩ : ∃ N, min n 60 = N := ⟨_, rfl⟩
  have hN60 : N ≤ 60 := by omega
  have HR : Hid (Reads w w.heap.size 1 A N (Fs (L.take N))) := f_take hr0 (by omega)
  have HOK : Hid (okF (L.take N)) := fun x hx => hok0 x (List.mem_of_mem_take hx)
  have hNc : N ≤ c := by omega
  obtain ⟨M, hM⟩ : ∃ M, L.take N = M := ⟨_, rfl⟩
  rw [hM] at HR HOK
  have HML := Lib.hid (f_len HR.out)
  have HFEW := Lib.hid (few_any A n c hnc w)
  rw [hN] at HFEW
  clear wf wg hok0 hr0 hN hnc hM
  go_enter Try.func5, Try.ntmps5
  go_wp2_with fail
  refine HFEW.out.mono ?_
  rintro e w' ⟨rfl, rfl⟩
  go_wp2_with fail
  have hAll : Calls Try.prog 19 #[.slice A N c] w fun e w' => ∃ s0 s1 s2 : Nat, ∃ ec : Int, e = .returned (.tuple #[.agg #[.float .f64 s0, .float .f64 s1, .float .f64 s2], .int .i64 ec]) ∧ (N = 0 ∧ s0 = 0 ∧ s1 = 0 ∧ s2 = 0 ∧ ec = 4 ∨ 0 < N ∧ ec = 0 ∧ Fl.AllOf M s0 s1 s2) ∧ Below w.heap.size w w' := by
    rcases Nat.eq_zero_or_pos N with h0 | h0
    · rw [h0]
      exact (all_zero A c w).mono fun e w' ⟨he, hb⟩ => ⟨0, 0, 0, 4, he, .inl ⟨rfl, rfl, rfl, rfl, rfl⟩, hb⟩
    · exact (all_any A N c M (by omega) h0 hNc HOK.out w HR.out).mono fun e w' ⟨s0, s1, s2, he, ha, _, hb⟩ => ⟨s0, s1, s2, 0, he, .inr ⟨h0, rfl, ha⟩, hb⟩
  refine hAll.mono ?_
  rintro e w1 ⟨s0, s1, s2, ec, rfl, hs, hb1⟩
  have HS := Lib.hid hs
  have HB1 := Lib.hid hb1
  obtain ⟨T, hT⟩ : ∃ T, w1.heap.size = T := ⟨_, rfl⟩
  have hbl := Blk.new w1 32 #[.float .f64 s0, .float .f64 s1, .float .f64 s2]
  rw [hT] at hbl
  have hbw := (Below.refl w1.heap.size w1).alloc (Nat.le_refl _) (.cells #[.float .f64 s0, .float .f64 s1, .float .f64 s2] 32)
  have HBL := Lib.hid hbl
  have HBW := Lib.hid hbw
  clear hs hb1 hbl hbw hAll
  go_wp2_with fail
  obtain ⟨w2, hw2⟩ : ∃ w2, w1.alloc (.cells #[.float .f64 s0, .float .f64 s1, .float .f64 s2] 32) = w2 := ⟨_, rfl⟩
  rw [hw2] at HBL HBW ⊢
  have HB2 := Lib.hid (bthen HB1.out HBW.out)
  clear hw2 hT
  refine (Order.class_ f lf.out _).mono ?_
  rintro e w' ⟨rfl, rfl⟩
  go_wp2_with fail
  refine (OrderRef.class_ f _).mono ?_
  rintro e w' ⟨rfl, rfl⟩
  go_wp2_with fail
  refine (Order.ahead_ f g lf.out lg.out _).mono ?_
  rintro e w' ⟨rfl, rfl⟩
  go_wp2_with fail
  refine (OrderRef.ahead_ f g _).mono ?_
  rintro e w' ⟨rfl, rfl⟩
  go_wp2_with fail
  refine (sort_any A N c M (by omega) HOK.out w2 ((HR.out.below HB2.out).more HB2.out.size)).mono ?_
  rintro e w3 ⟨D1, v1, hs1, hp1, rfl, ho1, hb3⟩
  obtain ⟨A1, c1, rfl, hc1, hm1, hr1⟩ := own_sl ho1
  have HR1 := Lib.hid hr1
  have HS1 : Hid (Srt Fl.rank D1 ∧ D1.Perm M) := ⟨hs1, hp1⟩
  have HB3 := Lib.hid hb3
  clear hs1 hp1 ho1 hb3 hr1 hc1 hm1
  go_wp2_with fail
  refine (rsort_any A N c M (by omega) w3 ((HR.out.below (bthen HB2.out HB3.out)).more (bthen HB2.out HB3.out).size)).mono ?_
  rintro e w4 ⟨v2, rfl, ho2, hb4⟩
  obtain ⟨A2, c2, rfl, hc2, hm2, hr2⟩ := own_sl ho2
  have HR2 := Lib.hid hr2
  have HB4 := Lib.hid hb4
  have HRK : Hid (D1.map Fl.rank = (sortF Fl.rank M).map Fl.rank) := by
    have h := sortF_spec (rk := Fl.rank) M [] List.Pairwise.nil
    exact ranks_eq HS1.out.1 h.1 (HS1.out.2.trans h.2.symm)
  clear ho2 hb4 hr2 hc2 hm2
  go_wp2_with fail
  refine (rows_any A1 A2 N c1 c2 D1 _ (by omega) HRK.out w4 ((HR1.out.below HB4.out).more HB4.out.size) HR2.out).mono ?_
  rintro e w5 ⟨rfl, hb5⟩
  have HB5 := Lib.hid (bthen (bthen HB3.out HB4.out) hb5)
  clear hb5
  go_wp2_with fail
  refine (Order.share a b _).mono ?_
  rintro e w6 ⟨⟨r, rfl, hr⟩, hb6⟩
  have HB6 := Lib.hid (bthen HB5.out hb6)
  have HSH := Lib.hid hr
  clear hb6 hr
  go_wp2_with fail
  refine (OrderRef.share a b _).mono ?_
  rintro e w7 ⟨⟨r2, rfl, hr⟩, hb7⟩
  have HB7 := Lib.hid (bthen HB6.out hb7)
  have HAL := Lib.hid (Fl.alike_of (Fl.share_rank HSH.out hr))
  clear hb7 hr
  go_wp2_with fail
  refine (OrderRef.alike_ r r2 _).mono ?_
  rintro e w' ⟨rfl, rfl⟩
  rw [HAL.out]
  go_wp2_with fail
  refine (Order.alive _).mono ?_
  rintro e w8 ⟨rfl, hb8⟩
  have HB8 := Lib.hid (bthen HB7.out hb8)
  have HBZ := Lib.hid (bthen HB2.out HB8.out)
  have hbl := HBL.out.below HB8.out HBL.out.lt
  obtain ⟨k0, k1, k2⟩ := hbl.at3
  clear hb8 hbl
  rcases HS.out with ⟨h0, rfl, rfl, rfl, rfl⟩ | ⟨h0, rfl, hall⟩
  · have d0 : ((N : Int) == 0) = true := by rw [h0]; rfl
    obtain ⟨h3, h4, h5⟩ := made3 w8 0 0 0 0 0 0
    have H3 := Lib.hid h3
    have H4 := Lib.hid h4
    have H5 := Lib.hid (bthen HBZ.out h5)
    clear h0 h3 h4 h5
    go_wp2_with fail
    refine (rows_any _ _ 3 _ _ [0, 0, 0] [0, 0, 0] (by omega) rfl _ H3.out H4.out).mono ?_
    rintro e w9 ⟨rfl, hb9⟩
    have HB9 := Lib.hid (bthen H5.out hb9)
    clear hb9
    go_wp2_with fail
    go_ret
    exact ⟨rfl, HB9.out⟩
  · have d0 : ((N : Int) == 0) = false := by simp; omega
    have HALL := Lib.hid hall
    clear hall
    go_wp2_with fail
    refine (rall_any A N c M (by omega) h0 hNc w8 ((HR.out.below HBZ.out).more HBZ.out.size)).mono ?_
    rintro e w9 ⟨t0, t1, t2, rfl, hall2, hb9⟩
    have HALL2 := Lib.hid hall2
    have hlt := lt_of_cell k0
    obtain ⟨kc, _⟩ := bcell hb9
    have hT9 : T < w9.heap.size := Nat.lt_of_lt_of_le hlt hb9.size
    have q0 : ∀ c1 : Array Value, (w9.alloc (.cells c1 32)).cell? ⟨T, 0, none⟩ = some (.float .f64 s0) := fun c1 => (World.cell?_alloc_lt w9 _ _ hT9).trans ((kc T 0 hlt).trans k0)
    have q1 : ∀ c1 : Array Value, (w9.alloc (.cells c1 32)).cell? ⟨T, 1, none⟩ = some (.float .f64 s1) := fun c1 => (World.cell?_alloc_lt w9 _ _ hT9).trans ((kc T 1 hlt).trans k1)
    have q2 : ∀ c1 : Array Value, (w9.alloc (.cells c1 32)).cell? ⟨T, 2, none⟩ = some (.float .f64 s2) := fun c1 => (World.cell?_alloc_lt w9 _ _ hT9).trans ((kc T 2 hlt).trans k2)
    have HB9 := Lib.hid (bthen HBZ.out hb9)
    obtain ⟨h3, h4, h5⟩ := made3 (w9.alloc (.cells #[.float .f64 t0, .float .f64 t1, .float .f64 t2] 32)) s0 s1 s2 t0 t1 t2
    have H3 := Lib.hid h3
    have H4 := Lib.hid h4
    have H5 := Lib.hid (bthen (HB9.out.alloc HB9.out.size (.cells #[.float .f64 t0, .float .f64 t1, .float .f64 t2] 32)) h5)
    have HR3 : Hid ([s0, s1, s2].map Fl.rank = [t0, t1, t2].map Fl.rank) := by
      obtain ⟨e1, e2, e3⟩ := Fl.allOf_alike HALL.out HALL2.out
      unfold Hid
      simp [e1, e2, e3]
    clear hall2 k0 k1 k2 kc hlt hb9 h3 h4 h5
    unfold sumsV
    go_wp2_with fail
    refine (rows_any _ _ 3 _ _ [s0, s1, s2] [t0, t1, t2] (by omega) HR3.out _ ?_ ?_).mono ?_
    · simpa using H3.out
    · simpa using H4.out
    rintro e w10 ⟨rfl, hb10⟩
    have HB10 := Lib.hid hb10
    clear hb10
    go_wp2_with fail
    go_ret
    exact ⟨rfl, bthen H5.out HB10.out⟩
end orderTells
end Go.Proofs.Ytkjhacbkgnjilaa
