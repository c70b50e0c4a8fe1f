/-
  The contract of the reference's All: the least, the greatest and the sum of some floats.
-/
import Derived.Test.YtkjhacbkgnjilaaOrderAll
import Derived.Test.YtkjhacbkgnjilaaOrderRefSort
namespace Go.Proofs.Ytkjhacbkgnjilaa
open Go.RowKit
namespace Sorts
def AllR (L : List Nat) (w : World) (e : Ending) (w' : World) : Prop := ∃ a b s, e = .returned (sumsV a b s) ∧ Fl.AllOf L a b s ∧ Below w.heap.size w w'
theorem results_sums1 {fn : Func} {p : Tmp} (h : fn.results = #[.cell p 32]) (tmps : Array Value) (w : World) (g : Nat) (a b c : Value)
    (hp : tmps.getD p undef = .pointer (some ⟨g, 0, none⟩)) (hg : Blk w g 32 #[a, b, c]) : (results fn tmps).run Try.prog w = .ok (.agg #[a, b, c]) w :=
  results_cell_row h tmps w g 32 #[a, b, c] (0, 0) _ hp hg Try.underlying32 rfl (by kernel_rfl)
set_option maxRecDepth 100000 in
set_option maxHeartbeats 2000000 in
theorem rall_any (A : Option Addr) (n c : Nat) (L : List Nat) (hn : n ≤ 1000) (h0 : 0 < n) (hnc : n ≤ c) (w : World) (hr : Reads w w.heap.size 1 A n (Fs L)) :
    Calls Try.prog 26 #[.slice A n c] w (AllR L w) := by
  obtain ⟨gb, hgb⟩ : ∃ gb, w.heap.size = gb := ⟨_, rfl⟩
  have hB0 := Blk.new w 32 #[.float .f64 0, .float .f64 0, .float .f64 0]
  have hw0 := (Below.refl w.heap.size w).alloc (Nat.le_refl _) (.cells #[.float .f64 0, .float .f64 0, .float .f64 0] 32)
  have hr0 := (hr.alloc (Nat.le_refl _) (.cells #[.float .f64 0, .float .f64 0, .float .f64 0] 32)).more (B' := (w.alloc (.cells #[.float .f64 0, .float .f64 0, .float .f64 0] 32)).heap.size) (by simp)
  have hs0 : w.heap.size < (w.alloc (.cells #[.float .f64 0, .float .f64 0, .float .f64 0] 32)).heap.size := by simp
  have hlen := f_len hr
  clear hr
  go_enter Try.func26, Try.ntmps26
  go_wp2_with fail
  obtain ⟨w1, hw1⟩ : ∃ w1, w.alloc (.cells #[.float .f64 0, .float .f64 0, .float .f64 0] 32) = w1 := ⟨_, rfl⟩
  rw [hw1] at hB0 hw0 hr0 hs0 ⊢
  rw [hgb] at hB0 hs0
  have HB0 := Lib.hid hB0
  have HW0 := Lib.hid hw0
  have HR0 := Lib.hid hr0
  have HS0 := Lib.hid hs0
  have HGB := Lib.hid hgb
  clear hw1 hB0 hw0 hr0 hs0 hgb
  refine (rsort_any A n c L hn w1 HR0.out).mono ?_
  rintro e w2 ⟨v, rfl, hown, hb2⟩
  obtain ⟨D, hD⟩ : ∃ D, sortF Fl.rank L = D := ⟨_, rfl⟩
  have hsp := sortF_spec (rk := Fl.rank) L [] List.Pairwise.nil
  rw [show L.foldl (fun out v => insF Fl.rank v out) [] = D from hD] at hsp
  have HSP : Hid (Srt Fl.rank D ∧ D.Perm L) := hsp
  rw [hD] at hown
  obtain ⟨g, c', rfl, hbg, hm, hrow⟩ := row_of_own hown h0
  have HROW := Lib.hid hrow
  have HB2 := Lib.hid hb2
  have HBL := Lib.hid (HB0.out.below hb2 HS0.out)
  have hR2 := (HR0.out.below hb2)
  obtain ⟨a1, rfl, hb1, hc1⟩ := f_at hR2 h0
  have hc1' : w2.cell? a1 = some (.float .f64 (L.getD 0 0)) := by
    have h := hc1
    rwa [show a1.add 0 = a1 from by simp [Addr.add]] at h
  obtain ⟨x0, hx0⟩ : ∃ x, L.getD 0 0 = x := ⟨_, rfl⟩
  rw [hx0] at hc1' hc1
  have HX0 := Lib.hid hx0
  have HSL : Hid (∀ w, (Instr.slice 29 (.slice (some a1) n c) (some (.int .i64 1)) none none).run Try.prog w = .ok (.slice (cutF (some a1) c 1) (n - 1) (c - 1)) w) := fun w => run_from (some a1) n c 1 (by omega) w
  have HR2 := Lib.hid ((f_drop hR2 (k := 1) (by omega) hnc).more (HB2.out.size))
  obtain ⟨A1, hA1⟩ : ∃ A1, cutF (some a1) c 1 = A1 := ⟨_, rfl⟩
  rw [hA1] at HSL HR2
  have ca := hrow.get (i := 0) h0
  have cb := hrow.get (i := n - 1) (by omega)
  obtain ⟨va, hva⟩ : ∃ x, D.getD 0 0 = x := ⟨_, rfl⟩
  obtain ⟨vb, hvb⟩ : ∃ x, D.getD (n - 1) 0 = x := ⟨_, rfl⟩
  rw [hva] at ca
  rw [hvb] at cb
  have HALL : Hid (∀ m, Fl.sumOf x0 L.tail m → Fl.AllOf L va vb m) := fun m hs => by
    have := Fl.allOf_of HSP.out.1 HSP.out.2 (by omega) (sm := m) (by rw [HX0.out]; exact hs)
    rwa [hlen, hva, hvb] at this
  have e1 : (n : Int) - 1 = ((n - 1 : Nat) : Int) := by omega
  obtain ⟨g4, hg4⟩ : ∃ g4, w2.heap.size = g4 := ⟨_, rfl⟩
  have hg4r : g4 ≠ g := by have := hrow.lt; omega
  have hg4g : g ≠ g4 := fun e => hg4r e.symm
  have hk1 : ∀ c1 : Array Value, (w2.alloc (.cells c1 32)).cell? a1 = some (.float .f64 x0) := fun c1 => (World.cell?_alloc_lt w2 _ a1 (lt_of_cell hc1')).trans hc1'
  have hka : ∀ c1 : Array Value, (w2.alloc (.cells c1 32)).cell? ⟨g, 0, none⟩ = some (.float .f64 va) := fun c1 => (World.cell?_alloc_lt w2 _ _ (lt_of_cell ca)).trans ca
  have hkb : ∀ c1 : Array Value, (w2.alloc (.cells c1 32)).cell? ⟨g, n - 1, none⟩ = some (.float .f64 vb) := fun c1 => (World.cell?_alloc_lt w2 _ _ (lt_of_cell cb)).trans cb
  clear hown hb2 hrow hR2 hb1 hx0 hA1 hsp hD hva hvb
  have hb4 : Blk ((w2.alloc (.cells #[.float .f64 va, .float .f64 vb, .float .f64 x0] 32)).drew) g4 32 #[.float .f64 va, .float .f64 vb, .float .f64 x0] := by rw [← hg4]; exact (Blk.new w2 _ _).drew
  have hw4 : Below w2.heap.size w2 ((w2.alloc (.cells #[.float .f64 va, .float .f64 vb, .float .f64 x0] 32)).drew) := ((Below.refl _ _).alloc (Nat.le_refl _) _).drew
  have HB4 := Lib.hid hb4
  have HW4 := Lib.hid hw4
  clear hb4 hw4
  go_wp2_with fail
  go_region
  obtain ⟨w3, hw3⟩ : ∃ w3, (w2.alloc (.cells #[.float .f64 va, .float .f64 vb, .float .f64 x0] 32)).drew = w3 := ⟨_, rfl⟩
  rw [hw3] at HB4 HW4 ⊢
  have HG4 := Lib.hid hg4
  clear hw3 hg4 hk1 hka hkb ca cb hc1 hc1'
  have hsl := HSL.out
  go_wp2_with fail
  go_loopw [25] (fun v25 wr => ∃ i m : Nat, i ≤ n - 1 ∧ v25 = .int .i64 i ∧ Fl.sumOf x0 (L.tail.take i) m ∧ Blk wr g4 32 #[.float .f64 va, .float .f64 vb, .float .f64 m] ∧ Below w2.heap.size w2 wr) (fun v25 _ => n - 1 - (intOf v25).toNat)
  case atStart => exact ⟨0, x0, Nat.zero_le _, rfl, rfl, HB4.out, HW4.out⟩
  case round =>
    obtain ⟨i, m, hi, rfl, hsum, hbl, hbr⟩ := hrel
    have HSUM := Lib.hid hsum
    have HBR := Lib.hid hbr
    have HBLR := Lib.hid hbl
    obtain ⟨k0, k1, k2⟩ := hbl.at3
    have hf0 := hbl.frozen 0
    have hf1 := hbl.frozen 1
    have hf2 := hbl.frozen 2
    by_cases hlt : i < n - 1
    · have d0 : decide ((i : Int) < ((n - 1 : Nat) : Int)) = true := decide_eq_true (by omega)
      obtain ⟨a2, rfl, hb2, hc2⟩ := f_at (HR2.out.below hbr) hlt
      obtain ⟨x, hx⟩ : ∃ x, (L.drop 1).getD i 0 = x := ⟨_, rfl⟩
      rw [hx] at hc2
      have HX := Lib.hid hx
      have hstep : Hid (∀ r, Fl.addOf m x r → Fl.sumOf x0 (L.tail.take (i + 1)) r) := fun r hr => by
        have e1 : L.tail.take (i + 1) = L.tail.take i ++ [x] := by
          have hl : i < L.tail.length := by rw [List.length_tail]; omega
          rw [List.take_succ_eq_append_getElem hl, ← HX.out, List.drop_one, List.getD_eq_getElem?_getD, List.getElem?_eq_getElem hl]
          rfl
        rw [e1]
        exact Fl.sumOf_more HSUM.out hr
      clear hsum hbr hbl hx hb2
      cases hfb : floatBits .add .f64 m x with
      | some q =>
        have hd : ∀ w, (binOp .add 22 (.float .f64 m) (.float .f64 x)).run Try.prog w = .ok (.float .f64 q) w := fun w => run_float_arith w .add _ .f64 _ _ _ hfb
        have HQ := Lib.hid (Fl.addOf_some hfb)
        clear hfb
        go_wp2_with fail
        exact ⟨⟨i + 1, q, by omega, rfl, hstep.out q HQ.out, HBLR.out.set_ 2 _, HBR.out.setCell (p := ⟨g4, 2, none⟩) (Nat.le_of_eq HG4.out) _⟩, by simp only [intOf]; omega⟩
      | none =>
        obtain ⟨k, hd⟩ := Fl.run_nan Try.prog .add (.inr rfl) 22 m x hfb wr
        have HQ := Lib.hid (Fl.addOf_none hfb k)
        clear hfb
        go_wp2_with fail
        exact ⟨⟨i + 1, _, by omega, rfl, hstep.out _ HQ.out, HBLR.out.drew.set_ 2 _, HBR.out.drew.setCell (p := ⟨g4, 2, none⟩) (Nat.le_of_eq HG4.out) _⟩, by simp only [intOf]; omega⟩
    · have d0 : decide ((i : Int) < ((n - 1 : Nat) : Int)) = false := decide_eq_false (by omega)
      obtain rfl : i = n - 1 := by omega
      have hsm := HSUM.out
      rw [List.take_of_length_le (by rw [List.length_tail]; omega)] at hsm
      have HF := Lib.hid (HALL.out m hsm)
      have hblr := HBL.out.below hbr (HBL.out.lt)
      obtain ⟨z0, z1, z2⟩ := hblr.at3
      have hz0 := hblr.frozen 0
      have hz1 := hblr.frozen 1
      have hz2 := hblr.frozen 2
      have HBLR2 := Lib.hid hblr
      have hne : gb ≠ g4 := by have := HS0.out; have := HB2.out.size; have := HG4.out; omega
      have hne2 : g4 ≠ gb := fun e => hne e.symm
      have hz := ((hblr.set_ 0 (.float .f64 va)).set_ 1 (.float .f64 vb)).set_ 2 (.float .f64 m)
      have hbz : Below w.heap.size w (((wr.setCell ⟨gb, 0, none⟩ (.float .f64 va)).setCell ⟨gb, 1, none⟩ (.float .f64 vb)).setCell ⟨gb, 2, none⟩ (.float .f64 m)) := by
        have h1 := bthen (bthen HW0.out HB2.out) HBR.out
        have e := HGB.out
        exact (((h1.setCell (p := ⟨gb, 0, none⟩) (Nat.le_of_eq e) _).setCell (p := ⟨gb, 1, none⟩) (Nat.le_of_eq e) _).setCell (p := ⟨gb, 2, none⟩) (Nat.le_of_eq e) _)
      have HZ := Lib.hid hz
      have HBZ := Lib.hid hbz
      clear hsum hbr hbl hblr hsm hz hbz
      go_wp2_with fail
      refine bodyPost_ret (results_sums1 (p := 2) (by kernel_rfl) _ _ _ _ _ _ rfl HZ.out) rfl ?_
      exact ⟨va, vb, m, rfl, HF.out, HBZ.out⟩
end Sorts
end Go.Proofs.Ytkjhacbkgnjilaa
