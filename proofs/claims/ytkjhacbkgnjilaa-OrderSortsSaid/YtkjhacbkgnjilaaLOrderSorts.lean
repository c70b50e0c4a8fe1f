/-
  The walk of OrderSorts.
-/
import Derived.Test.YtkjhacbkgnjilaaOrderAlive
import Derived.Test.YtkjhacbkgnjilaaOrderRefAll
import Derived.Deep.RegionHeldLaw
namespace Go.Proofs.Ytkjhacbkgnjilaa
open Go.RowKit
namespace orderSorts
open Sorts
theorem rem_bd (a : Int) {N : Nat} (h : 0 < N) : ∃ z r : Nat, Int.tmod a N = (z : Int) - N ∧ z < 2 * N ∧ Int.tmod ((z : Int)) N = r ∧ r < N := by
  have h1 := Int.tmod_lt_of_pos a (show (0 : Int) < N by omega)
  have h2 : -(N : Int) < Int.tmod a N := by
    have := Int.tmod_lt_of_pos (-a) (show (0 : Int) < N by omega)
    rw [Int.neg_tmod] at this
    omega
  refine ⟨(Int.tmod a N + N).toNat, (Int.tmod ((Int.tmod a N + N).toNat : Int) N).toNat, by omega, by omega, ?_, ?_⟩
  · have := Int.tmod_nonneg (N : Int) (show (0 : Int) ≤ ((Int.tmod a N + N).toNat : Int) by omega)
    omega
  · have := Int.tmod_lt_of_pos ((Int.tmod a N + N).toNat : Int) (show (0 : Int) < N by omega)
    omega
set_option maxRecDepth 100000 in
set_option maxHeartbeats 8000000 in
theorem walk (A : Option Addr) (n c : Nat) (L : List Nat) (a : Int) (w : World) (hok0 : okF L) (hr0 : Reads w w.heap.size 1 A n (Fs L)) (hc0 : n ≤ c ∧ c ≤ maxLen) (wa : (Lit.int .i64 a).wf = true) :
    Calls Try.prog 6 #[.slice A n c, .int .i64 a] w fun e w' => e = .returned (.bool true) ∧ Below w.heap.size w w' := by
  obtain ⟨i0, hi0, hz0, hz1, hz2⟩ := info_parts infoF
  have HA := Lib.hid (wf_bd wa)
  obtain ⟨N, hN⟩ : ∃ N, min n 60 = N := ⟨_, rfl⟩
  have hN60 : N ≤ 60 := by omega
  have HR : Hid (Reads w w.heap.size 1 A N (Fs (L.take N))) := f_take hr0 (by omega)
  have HOK : Hid (okF (L.take N)) := fun x hx => hok0 x (List.mem_of_mem_take hx)
  have hNc : N ≤ c := by omega
  obtain ⟨M, hM⟩ : ∃ M, L.take N = M := ⟨_, rfl⟩
  rw [hM] at HR HOK
  have HML := Lib.hid (f_len HR.out)
  have HFEW := Lib.hid (few_any A n c hc0.1 w)
  rw [hN] at HFEW
  clear wa hok0 hr0 hN hc0 hM
  go_enter Try.func6, Try.ntmps6
  go_wp2_with fail
  refine HFEW.out.mono ?_
  rintro e w' ⟨rfl, rfl⟩
  go_wp2_with fail
  refine (sort_any A N c M (by omega) HOK.out w HR.out).mono ?_
  rintro e w1 ⟨D, v1, hs1, hp1, rfl, ho1, hb1⟩
  obtain ⟨A1, c1, rfl, hc1, hm1, hr1⟩ := own_sl ho1
  have HR1 := Lib.hid hr1
  have HS1 : Hid (Srt Fl.rank D ∧ D.Perm M) := ⟨hs1, hp1⟩
  have HB1 := Lib.hid hb1
  clear hs1 hp1 ho1 hb1 hr1 hm1
  go_wp2_with fail
  refine (Order.alive _).mono ?_
  rintro e w2 ⟨rfl, hb2⟩
  have HB2 := Lib.hid (bthen HB1.out hb2)
  have HR2 := Lib.hid ((HR1.out.below hb2).more hb2.size)
  clear hb2
  rcases Nat.eq_zero_or_pos N with h0 | h0
  · have d0 : ((N : Int) == 0) = true := by rw [h0]; rfl
    go_wp2_with fail
    go_ret
    exact ⟨rfl, HB2.out⟩
  have d0 : ((N : Int) == 0) = false := by simp; omega
  have dN : (N : Int) ≠ 0 := by omega
  obtain ⟨z, r, hz, hz2N, hr, hrN⟩ := rem_bd a h0
  obtain ⟨ad, rfl, _, _⟩ := f_at HR.out h0
  have hcr : ¬ c = r := by omega
  have hcr0 : ¬ c = 0 := by omega
  have hcut := run_upto (some ad) N c r (by omega)
  have hcut2 : ∀ w, (Instr.slice 29 (.slice (some ad) N c) (some (.int .i64 r)) none none).run Try.prog w = .ok (.slice (some (ad.add r)) (N - r) (c - r)) w := fun w => by
    rw [run_from (some ad) N c r (by omega) w]
    simp [cutF, hcr]
  have hE1 : ((w2.alloc (.cells #[] 22)).drew).ownsRow w2.heap.size 22 1 (.slice (some ⟨w2.heap.size, 0, none⟩) 0 0) 0 [] := own_empty w2 w2.heap.size 22 1 (Nat.le_refl _)
  have HE1 := Lib.hid hE1
  have hD0 : Below w2.heap.size w2 w2.drew := (Below.refl _ _).drew
  have hD1 : Below w2.heap.size w2 ((w2.alloc (.cells #[] 22)).drew) := ((Below.refl _ _).alloc (Nat.le_refl _) _).drew
  have HRM := Lib.hid ((HR.out.below HB2.out).more HB2.out.size)
  have HRD : Hid (Reads ((w2.alloc (.cells #[] 22)).drew) w2.heap.size 1 (some (ad.add r)) (N - r) (Fs (M.drop r))) := by
    have := (f_drop HRM.out (k := r) (by omega) hNc).below hD1
    rwa [show cutF (some ad) c r = some (ad.add r) from by simp [cutF, hcr]] at this
  have HRT := Lib.hid (f_take HRM.out (k := r) (by omega))
  have hokR : okF (M.drop r ++ M.take r) := fun x hx => HOK.out x ((List.mem_append.1 hx).elim List.mem_of_mem_drop List.mem_of_mem_take)
  have HOKR := Lib.hid hokR
  have g1 : 0 + (N - r) ≤ maxLen := by simp [maxLen]; omega
  have g2 : (0 + (N - r)) * 8 ≤ 140737488355328 := by omega
  have g4 : N - r + r ≤ maxLen := by simp [maxLen]; omega
  have g5 : (N - r + r) * 8 ≤ 140737488355328 := by omega
  have e5 : N - r + r = N := by omega
  have FAPP : Hid (∀ (w4 : World) (v2 : Value), w4.ownsRow w2.heap.size 22 1 v2 (N - r + r) (Fs (M.drop r) ++ Fs (M.take r)) → w4.ownsRow w2.heap.size 22 1 v2 N (Fs (M.drop r ++ M.take r))) := fun w4 v2 h => by
    rw [e5] at h
    rwa [show Fs (M.drop r ++ M.take r) = Fs (M.drop r) ++ Fs (M.take r) from List.map_append]
  have G : Hid ((0 + (N - r) ≤ maxLen) ∧ ((0 + (N - r)) * 8 ≤ 140737488355328) ∧ (N - r + r ≤ maxLen) ∧ ((N - r + r) * 8 ≤ 140737488355328) ∧ N - r + r = N) := ⟨g1, g2, g4, g5, e5⟩
  clear hE1 hokR g1 g2 g4 g5 e5
  go_wp2_with fail
  clear hr hz
  go_region_held_law (fun w' => Below w2.heap.size w2 w') (first | exact hD0 | exact hD1 | exact hBC | exact hBB | exact hBA)
    (first
      | (refine step_append_any _ (by rfl) _ _ 29 (by rfl) w2.heap.size 22 i0 (.float .f64 0) 1 8 Try.underlying29 hi0 hz0 hz1 hz2 rfl (by decide) (.slice (some ⟨w2.heap.size, 0, none⟩) 0 0) 0 [] (by rfl) HE1.out w2.heap.size (some (ad.add r)) (N - r) (c - r) (Fs (M.drop r)) (by rfl) HRD.out (one_fs _) G.out.1 G.out.2.1 hD1.size ?_; intro v1 w3 ho1 hg1 _; have hBA : Below w2.heap.size w2 w3 := hD1.grown hg1 hD1.size (fun g hg => Nat.le_of_eq (Option.some.inj (show some w2.heap.size = some g from hg))); have ho1' : w3.ownsRow w2.heap.size 22 1 v1 (N - r) (Fs (M.drop r)) := by simpa using ho1)
      | (refine step_append_any _ (by rfl) _ _ 29 (by rfl) w2.heap.size 22 i0 (.float .f64 0) 1 8 Try.underlying29 hi0 hz0 hz1 hz2 rfl (by decide) v1 (N - r) (Fs (M.drop r)) (by rfl) ho1' w2.heap.size (some ad) r c (Fs (M.take r)) (by rfl) (HRT.out.below hBA) (one_fs _) G.out.2.2.1 G.out.2.2.2.1 hBA.size ?_; intro v2 w4 ho2 hg2 _; have hBB : Below w2.heap.size w2 w4 := hBA.grown hg2 hBA.size (own_ge ho1'); have ho2' := FAPP.out _ _ ho2; obtain ⟨A2, c2, rfl, _, _, hr2⟩ := own_sl ho2')
      | (go_at_call 23; refine (sort_any A2 N c2 (M.drop r ++ M.take r) (by omega) HOKR.out w4 hr2).mono ?_; rintro e w5 ⟨D2, v3, hs2, hp2, rfl, ho3, hb5⟩; have hBC := bthen hBB hb5))
  obtain ⟨A3, c3, rfl, _, _, hr3⟩ := own_sl ho3
  have HR3 := Lib.hid hr3
  have HRK : Hid (D.map Fl.rank = D2.map Fl.rank) := by
    refine ranks_eq HS1.out.1 hs2 (HS1.out.2.trans (List.Perm.symm (hp2.trans ?_)))
    have := (List.perm_append_comm (l₁ := M.take r) (l₂ := M.drop r))
    rw [List.take_append_drop] at this
    exact this.symm
  have HB5 := Lib.hid (bthen HB2.out hBC)
  have HRM5 := Lib.hid ((HRM.out.below hBC).more hBC.size)
  have HRS5 := Lib.hid ((HR2.out.below hBC).more hBC.size)
  clear hs2 hp2 ho3 hBC hr3 hb5 hBB hBA ho1 ho2 ho1' ho2' hg1 hg2 hr2 hD0 hD1 hcut hcut2
  go_wp2_with fail
  refine (all_any (some ad) N c M (by omega) h0 hNc HOK.out w5 HRM5.out).mono ?_
  rintro e w6 ⟨va, vb, vs, rfl, hall, hlt, hb6⟩
  have HALL := Lib.hid hall
  have HB6 := Lib.hid hb6
  obtain ⟨T, hT⟩ : ∃ T, w6.heap.size = T := ⟨_, rfl⟩
  have hbl := Blk.new w6 32 #[.float .f64 va, .float .f64 vb, .float .f64 vs]
  rw [hT] at hbl
  have hbw := (Below.refl w6.heap.size w6).alloc (Nat.le_refl _) (.cells #[.float .f64 va, .float .f64 vb, .float .f64 vs] 32)
  have HBL := Lib.hid hbl
  have HBW := Lib.hid (bthen HB6.out hbw)
  clear hall hlt hb6 hbl hbw
  unfold sumsV
  go_wp2_with fail
  obtain ⟨w7, hw7⟩ : ∃ w7, w6.alloc (.cells #[.float .f64 va, .float .f64 vb, .float .f64 vs] 32) = w7 := ⟨_, rfl⟩
  rw [hw7] at HBL HBW ⊢
  have HB7 := Lib.hid (bthen HB5.out HBW.out)
  have HRS := Lib.hid ((HRS5.out.below HBW.out).more HBW.out.size)
  have HRT7 := Lib.hid ((HR3.out.below HBW.out).more HBW.out.size)
  have HRM7 := Lib.hid ((HRM5.out.below HBW.out).more HBW.out.size)
  clear hw7 hT
  obtain ⟨ax, rfl, _, hx0⟩ := f_at HRS.out h0
  obtain ⟨_, hq, _, hx1⟩ := f_at HRS.out (show N - 1 < N by omega)
  obtain rfl := Option.some.inj hq
  have hx0' : w7.cell? ax = some (.float .f64 (D.getD 0 0)) := by
    have h := hx0
    rwa [show ax.add 0 = ax from by simp [Addr.add]] at h
  have hmin : Fl.alike va (D.getD 0 0) = true := by
    have h := Fl.allOf_of HS1.out.1 HS1.out.2 (by rw [HML.out]; exact h0) HALL.out.sum
    exact Fl.alike_of (Fl.allOf_alike HALL.out h).1
  have hmax : Fl.alike vb (D.getD (N - 1) 0) = true := by
    have h := Fl.allOf_of HS1.out.1 HS1.out.2 (by rw [HML.out]; exact h0) HALL.out.sum
    rw [HML.out] at h
    exact Fl.alike_of (Fl.allOf_alike HALL.out h).2.1
  obtain ⟨x0, hX0⟩ : ∃ x, D.getD 0 0 = x := ⟨_, rfl⟩
  obtain ⟨x1, hX1⟩ : ∃ x, D.getD (N - 1) 0 = x := ⟨_, rfl⟩
  rw [hX0] at hx0 hx0' hmin
  rw [hX1] at hx1 hmax
  have HMIN := Lib.hid hmin
  have HMAX := Lib.hid hmax
  obtain ⟨q0, q1, _⟩ := HBL.out.at3
  have hT7 := lt_of_cell q0
  have hs7 := lt_of_cell hx1
  have e1 : (N : Int) - 1 = ((N - 1 : Nat) : Int) := by omega
  have HQ : Hid (T < w7.heap.size ∧ ax.block < w7.heap.size ∧ w7.cell? ⟨T, 0, none⟩ = some (.float .f64 va) ∧ w7.cell? ⟨T, 1, none⟩ = some (.float .f64 vb) ∧ w7.cell? ax = some (.float .f64 x0) ∧ w7.cell? (ax.add (N - 1)) = some (.float .f64 x1)) := ⟨hT7, by rwa [block_of_add] at hs7, q0, q1, hx0', hx1⟩
  clear hmin hmax hX0 hX1 hq hx0 hs7 hT7
  have hD0 : Below w7.heap.size w7 w7.drew := (Below.refl _ _).drew
  have HCK : Hid (∀ w', Below w7.heap.size w7 w' → w'.cell? ⟨T, 0, none⟩ = some (.float .f64 va) ∧ w'.cell? ⟨T, 1, none⟩ = some (.float .f64 vb) ∧ w'.cell? ax = some (.float .f64 x0) ∧ w'.cell? (ax.add (N - 1)) = some (.float .f64 x1)) := fun w' hb =>
    ⟨(hb.cell (p := ⟨T, 0, none⟩) HQ.out.1).trans HQ.out.2.2.1, (hb.cell (p := ⟨T, 1, none⟩) HQ.out.1).trans HQ.out.2.2.2.1, (hb.cell (p := ax) HQ.out.2.1).trans HQ.out.2.2.2.2.1, (hb.cell (p := ax.add (N - 1)) (by rw [block_of_add]; exact HQ.out.2.1)).trans HQ.out.2.2.2.2.2⟩
  have hi1 : ((N - 1 : Nat) : Int) < (N : Int) := by omega
  have hi2 : (0 : Int) ≤ ((N - 1 : Nat) : Int) := by omega
  have hw1 : IntKind.i64.wrap ((N : Int) - 1) = ((N - 1 : Nat) : Int) := by rw [IntKind.wrap_i64]; omega
  have hw2 : IntKind.i64.wrap ((N - 1 : Nat) : Int) = ((N - 1 : Nat) : Int) := by rw [IntKind.wrap_i64]; omega
  go_region_held3 (fun w' => Below w7.heap.size w7 w' ∧ w'.cell? ⟨T, 0, none⟩ = some (.float .f64 va) ∧ w'.cell? ⟨T, 1, none⟩ = some (.float .f64 vb) ∧ w'.cell? ax = some (.float .f64 x0) ∧ w'.cell? (ax.add (N - 1)) = some (.float .f64 x1)) (first | exact ⟨hD0, HCK.out _ hD0⟩ | exact ⟨hB', HCK.out _ hB'⟩)
    (first
      | (go_at_call 22; refine (rows_any (some ax) A3 N c1 c3 D D2 (by omega) HRK.out _ ((HRS.out.below ‹Below w7.heap.size w7 _›).more (Below.size ‹Below w7.heap.size w7 _›)) ((HRT7.out.below ‹Below w7.heap.size w7 _›).more (Below.size ‹Below w7.heap.size w7 _›))).mono ?_; rintro e w' ⟨rfl, hb⟩; have hB' := bthen ‹Below w7.heap.size w7 _› hb; clear hb)
      | (go_at_call 16; with_reducible refine (OrderRef.alike_ va x0 _).mono ?_; rintro e w' ⟨rfl, rfl⟩; rw [HMIN.out])
      | (go_at_call 16; with_reducible refine (OrderRef.alike_ vb x1 _).mono ?_; rintro e w' ⟨rfl, rfl⟩; rw [HMAX.out]))
  have HB8 := Lib.hid (bthen HB7.out hB')
  have HS8 := Lib.hid ((HRS.out.below hB').more hB'.size)
  have HM8 := Lib.hid ((HRM7.out.below hB').more hB'.size)
  have HOKD := Lib.hid (HOK.out.perm HS1.out.2)
  obtain ⟨w8, hw8⟩ : ∃ w8, w' = w8 := ⟨_, rfl⟩
  subst hw8
  clear hB' hD0 hx0' hx1 q0 q1 hi1 hi2 hw1 hw2 e1
  go_wp2_with fail
  go_loopw [86] (fun v wr => ∃ i : Nat, i ≤ N ∧ v = .int .i64 i ∧ wr = w') (fun v _ => N - (intOf v).toNat)
  case atStart => exact ⟨0, Nat.zero_le _, rfl, rfl⟩
  case round =>
    obtain ⟨i, hi, rfl, rfl⟩ := hrel
    by_cases hlt : i < N
    · have d1 : decide ((i : Int) < N) = true := decide_eq_true (by omega)
      obtain ⟨_, hq, _, hci⟩ := f_at HS8.out hlt
      obtain rfl := Option.some.inj hq
      obtain ⟨f, hf⟩ : ∃ f, D.getD i 0 = f := ⟨_, rfl⟩
      rw [hf] at hci
      have HF := Lib.hid hf
      clear hf hq
      go_wp2_with fail
      go_loopw [11, 93] (fun v11 v93 wq => ∃ (k : Nat) (z : Int), k ≤ N ∧ v93 = .int .i64 k ∧ v11 = .int .i64 z ∧ z = (Fl.often f D k : Int) - Fl.often f M k ∧ wq = wr) (fun _ v93 _ => N - (intOf v93).toNat)
      case atStart => exact ⟨0, 0, Nat.zero_le _, rfl, rfl, by simp [Fl.often], by first | trivial | rfl⟩
      case round =>
        obtain ⟨k, z, hk, rfl, rfl, hz, rfl⟩ := hrel
        have hz1 : -60 ≤ z := by have := Fl.often_le f M k; omega
        have hz2 : z ≤ 60 := by have := Fl.often_le f D k; omega
        have HZ := Lib.hid hz
        clear hz
        by_cases hkN : k < N
        · have d2 : decide ((k : Int) < N) = true := decide_eq_true (by omega)
          obtain ⟨_, hq, _, hcy⟩ := f_at HS8.out hkN
          obtain rfl := Option.some.inj hq
          obtain ⟨_, hq2, _, hcu⟩ := f_at HM8.out hkN
          obtain rfl := Option.some.inj hq2
          have HSD := Lib.hid (Fl.often_succ f D (k := k) (by have := HS1.out.2.length_eq; have := HML.out; omega))
          have HSM := Lib.hid (Fl.often_succ f M (k := k) (by have := HML.out; omega))
          obtain ⟨y, hy⟩ : ∃ y, D.getD k 0 = y := ⟨_, rfl⟩
          obtain ⟨u, hu⟩ : ∃ u, M.getD k 0 = u := ⟨_, rfl⟩
          rw [hy] at hcy HSD
          rw [hu] at hcu HSM
          clear hy hu hq hq2
          cases h1 : Fl.alike f y <;> cases h2 : Fl.alike f u <;> rw [h1] at HSD <;> rw [h2] at HSM
          all_goals
            have H1 := Lib.hid h1
            have H2 := Lib.hid h2
            clear h1 h2
            go_wp2_with fail
            refine (OrderRef.alike_ f y _).mono ?_
            rintro e w9 ⟨rfl, rfl⟩
            rw [H1.out]
            go_wp2_with fail
            refine (OrderRef.alike_ f u _).mono ?_
            rintro e w9 ⟨rfl, rfl⟩
            rw [H2.out]
            go_wp2_with fail
            refine ⟨⟨k + 1, _, by omega, rfl, rfl, ?_, by first | trivial | rfl⟩, by simp only [intOf]; omega⟩
            rw [HSD.out, HSM.out, HZ.out]
            simp
            try omega
        · have d2 : decide ((k : Int) < N) = false := decide_eq_false (by omega)
          obtain rfl : k = N := by omega
          have hz0 : z = 0 := by
            have h := Fl.often_perm (f := f) HS1.out.2 (k := k) HML.out.symm
            have := HZ.out
            omega
          subst hz0
          clear HZ hz1 hz2
          rcases Nat.eq_zero_or_pos i with hi0 | hi0
          · subst hi0
            go_wp2_with fail
            exact ⟨⟨1, by omega, rfl, by first | trivial | rfl⟩, by simp only [intOf]; omega⟩
          · have d3 : decide ((0 : Int) < i) = true := decide_eq_true (by omega)
            have e1 : (i : Int) - 1 = ((i - 1 : Nat) : Int) := by omega
            obtain ⟨_, hq, _, hcp⟩ := f_at HS8.out (show i - 1 < k by omega)
            obtain rfl := Option.some.inj hq
            have hah : Fl.ahead f (D.getD (i - 1) 0) = false := by
              refine decide_eq_false ?_
              have hl := HS1.out.2.length_eq
              have hm := HML.out
              have := List.pairwise_iff_getElem.1 HS1.out.1 (i - 1) i (by omega) (by omega) (by omega)
              rw [← HF.out, List.getD_eq_getElem?_getD, List.getElem?_eq_getElem (by omega), List.getD_eq_getElem?_getD, List.getElem?_eq_getElem (by omega)]
              simp only [Option.getD_some]
              omega
            have hl1 := HOKD.out.get (i - 1)
            have hl2 := HOKD.out.get i
            rw [HF.out] at hl2
            obtain ⟨p, hp⟩ : ∃ p, D.getD (i - 1) 0 = p := ⟨_, rfl⟩
            rw [hp] at hcp hah hl1
            have HAH := Lib.hid hah
            clear hah hp hq
            go_wp2_with fail
            refine (Order.ahead_ f p hl2 hl1 _).mono ?_
            rintro e w9 ⟨rfl, rfl⟩
            rw [HAH.out]
            go_wp2_with fail
            exact ⟨⟨i + 1, by omega, rfl, by first | trivial | rfl⟩, by simp only [intOf]; omega⟩
    · have d1 : decide ((i : Int) < N) = false := decide_eq_false (by omega)
      obtain rfl : i = N := by omega
      go_wp2_with fail
      go_ret
      exact ⟨rfl, HB8.out⟩
end orderSorts
end Go.Proofs.Ytkjhacbkgnjilaa
