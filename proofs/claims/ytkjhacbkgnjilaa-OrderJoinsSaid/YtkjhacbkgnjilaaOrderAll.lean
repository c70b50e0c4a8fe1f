/-
  The contract of order.All: the least, the greatest and the sum of some floats.
-/
import Derived.Test.YtkjhacbkgnjilaaOrderRow
namespace Go.Proofs.Ytkjhacbkgnjilaa
open Go.RowKit
namespace Sorts
def sumsV (a b s : Nat) : Value := .agg #[.float .f64 a, .float .f64 b, .float .f64 s]
def AllP (L : List Nat) (w : World) (e : Ending) (w' : World) : Prop := ∃ a b s, e = .returned (.tuple #[sumsV a b s, .int .i64 0]) ∧ Fl.AllOf L a b s ∧ (a < 18446744073709551616 ∧ b < 18446744073709551616 ∧ s < 18446744073709551616) ∧ Below w.heap.size w w'
theorem infoS : (Try.prog.info? 32).map (·.size) = some 3 := by kernel_rfl
theorem results_sums {fn : Func} {p u : Tmp} (h : fn.results = #[.cell p 32, .tmp u]) (tmps : Array Value) (w : World) (g : Nat) (a b c : Value)
    (hp : tmps.getD p undef = .pointer (some ⟨g, 0, none⟩)) (hg : Blk w g 32 #[a, b, c]) :
    (results fn tmps).run Try.prog w = .ok (.tuple #[.agg #[a, b, c], tmps.getD u undef]) w := by
  have hp' : tmps[p]?.getD undef = .pointer (some ⟨g, 0, none⟩) := by simpa using hp
  simp [results, h, hp', asAddr, run_loadVar_row w g 32 32 #[a, b, c] (0, 0) _ hg Try.underlying32 rfl infoS]
set_option maxRecDepth 100000 in
set_option maxHeartbeats 2000000 in
theorem all_zero (A : Option Addr) (c : Nat) (w : World) : Calls Try.prog 19 #[.slice A 0 c] w fun e w' => e = .returned (.tuple #[sumsV 0 0 0, .int .i64 4]) ∧ Below w.heap.size w w' := by
  go_enter Try.func19, Try.ntmps19
  go_wp2_with fail
  have hz := Blk.new w 32 #[.float .f64 0, .float .f64 0, .float .f64 0]
  refine bodyPost_ret (results_sums (p := 2) (u := 3) (by kernel_rfl) _ _ _ _ _ _ rfl hz) rfl ?_
  exact ⟨rfl, (Below.refl _ _).alloc (Nat.le_refl _) _⟩
set_option maxRecDepth 100000 in
set_option maxHeartbeats 2000000 in
theorem all_any (A : Option Addr) (n c : Nat) (L : List Nat) (hn : n ≤ 1000) (h0 : 0 < n) (hnc : n ≤ c) (hok : okF L) (w : World) (hr : Reads w w.heap.size 1 A n (Fs L)) :
    Calls Try.prog 19 #[.slice A n c] w (AllP L w) := by
  obtain ⟨gb, hgb⟩ : ∃ gb, w.heap.size = gb := ⟨_, rfl⟩
  have hB0 := Blk.new w 32 #[.float .f64 0, .float .f64 0, .float .f64 0]
  have hw0 := (Below.refl w.heap.size w).alloc (Nat.le_refl _) (.cells #[.float .f64 0, .float .f64 0, .float .f64 0] 32)
  have hr0 := (hr.alloc (Nat.le_refl _) (.cells #[.float .f64 0, .float .f64 0, .float .f64 0] 32)).more (B' := (w.alloc (.cells #[.float .f64 0, .float .f64 0, .float .f64 0] 32)).heap.size) (by simp)
  have hs0 : w.heap.size < (w.alloc (.cells #[.float .f64 0, .float .f64 0, .float .f64 0] 32)).heap.size := by simp
  have hlen := f_len hr
  have HOK := Lib.hid hok
  clear hr hok
  go_enter Try.func19, Try.ntmps19
  go_wp2_with fail
  obtain ⟨w1, hw1⟩ : ∃ w1, w.alloc (.cells #[.float .f64 0, .float .f64 0, .float .f64 0] 32) = w1 := ⟨_, rfl⟩
  rw [hw1] at hB0 hw0 hr0 hs0 ⊢
  rw [hgb] at hB0 hs0
  have HB0 := Lib.hid hB0
  have HW0 := Lib.hid hw0
  have HR0 := Lib.hid hr0
  have HS0 := Lib.hid hs0
  have HGB := Lib.hid hgb
  clear hw1 hB0 hw0 hr0 hs0 hgb
  refine (sort_any A n c L hn HOK.out w1 HR0.out).mono ?_
  rintro e w2 ⟨D, v, hs, hp, rfl, hown, hb2⟩
  obtain ⟨g, c', rfl, hbg, hm, hrow⟩ := row_of_own hown h0
  have HROW := Lib.hid hrow
  have HB2 := Lib.hid hb2
  have HS := Lib.hid hs
  have HP := Lib.hid hp
  have HBL := Lib.hid (HB0.out.below hb2 HS0.out)
  have hR2 := (HR0.out.below hb2)
  obtain ⟨a1, rfl, hb1, hc1⟩ := f_at hR2 h0
  have hc1' : w2.cell? a1 = some (.float .f64 (L.getD 0 0)) := by
    have h := hc1
    rwa [show a1.add 0 = a1 from by simp [Addr.add]] at h
  obtain ⟨x0, hx0⟩ : ∃ x, L.getD 0 0 = x := ⟨_, rfl⟩
  rw [hx0] at hc1'
  have HX0 := Lib.hid hx0
  have hsl : ∀ w, (Instr.slice 29 (.slice (some a1) n c) (some (.int .i64 1)) none none).run Try.prog w = .ok (.slice (cutF (some a1) c 1) (n - 1) (c - 1)) w := fun w => run_from (some a1) n c 1 (by omega) w
  have HR2 := Lib.hid ((f_drop hR2 (k := 1) (by omega) hnc).more (HB2.out.size))
  obtain ⟨A1, hA1⟩ : ∃ A1, cutF (some a1) c 1 = A1 := ⟨_, rfl⟩
  rw [hA1] at hsl HR2
  rw [hx0] at hc1
  clear hown hb2 hrow hs hp hR2 hb1 hx0 hA1
  go_wp2_with fail
  go_loopw [5, 20] (fun v5 v20 wr => ∃ i m : Nat, i ≤ n - 1 ∧ v5 = .float .f64 m ∧ v20 = .int .i64 i ∧ Fl.sumOf x0 (L.tail.take i) m ∧ m < 18446744073709551616 ∧ Below w2.heap.size w2 wr) (fun _ v20 _ => n - 1 - (intOf v20).toNat)
  case atStart => exact ⟨0, x0, Nat.zero_le _, rfl, rfl, rfl, by rw [← HX0.out]; exact HOK.out.get 0, Below.refl _ _⟩
  case round =>
    obtain ⟨i, m, hi, rfl, rfl, hsum, hm64, hbr⟩ := hrel
    have HSUM := Lib.hid hsum
    have HM := Lib.hid hm64
    have HBR := Lib.hid hbr
    by_cases hlt : i < n - 1
    · have d0 : decide ((i : Int) < ((n - 1 : Nat) : Int)) = true := decide_eq_true (by omega)
      obtain ⟨a2, rfl, hb2, hc2⟩ := f_at (HR2.out.below hbr) hlt
      obtain ⟨x, hx⟩ : ∃ x, (L.drop 1).getD i 0 = x := ⟨_, rfl⟩
      rw [hx] at hc2
      have HX := Lib.hid hx
      have hstep : Hid (∀ r, Fl.addOf m x r → Fl.sumOf x0 (L.tail.take (i + 1)) r) := fun r hr => by
        have e1 : L.tail.take (i + 1) = L.tail.take i ++ [x] := by
          have hl : i < L.tail.length := by rw [List.length_tail]; omega
          rw [List.take_succ_eq_append_getElem hl, ← HX.out, List.drop_one, List.getD_eq_getElem?_getD, List.getElem?_eq_getElem hl]
          rfl
        rw [e1]
        exact Fl.sumOf_more HSUM.out hr
      clear hsum hm64 hbr hx hb2 hc1'
      cases hfb : floatBits .add .f64 m x with
      | some q =>
        have hd : ∀ w, (binOp .add 22 (.float .f64 m) (.float .f64 x)).run Try.prog w = .ok (.float .f64 q) w := fun w => run_float_arith w .add _ .f64 _ _ _ hfb
        have HQ := Lib.hid (Fl.addOf_some hfb)
        clear hfb
        go_wp2_with fail
        exact ⟨⟨i + 1, q, by omega, rfl, rfl, hstep.out q HQ.out, HQ.out.1, HBR.out⟩, by simp only [intOf]; omega⟩
      | none =>
        obtain ⟨k, hd⟩ := Fl.run_nan Try.prog .add (.inr rfl) 22 m x hfb wr
        have HQ := Lib.hid (Fl.addOf_none hfb k)
        clear hfb
        go_wp2_with fail
        exact ⟨⟨i + 1, _, by omega, rfl, rfl, hstep.out _ HQ.out, HQ.out.1, HBR.out.drew⟩, by simp only [intOf]; omega⟩
    · have d0 : decide ((i : Int) < ((n - 1 : Nat) : Int)) = false := decide_eq_false (by omega)
      obtain rfl : i = n - 1 := by omega
      have hrowr := HROW.out.block (hbr.block g HROW.out.lt)
      have hblr := HBL.out.below hbr (HBL.out.lt)
      have ca := hrowr.get (i := 0) h0
      have cb := hrowr.get (i := n - 1) (by omega)
      have hall : Fl.AllOf L (D.getD 0 0) (D.getD (n - 1) 0) m := by
        have := Fl.allOf_of HS.out HP.out (by omega) (sm := m) (by
          rw [HX0.out]
          have := HSUM.out
          rwa [List.take_of_length_le (by rw [List.length_tail]; omega)] at this)
        rwa [hlen] at this
      have HALL := Lib.hid hall
      have hlt1 := HOK.out.perm HP.out |>.get 0
      have hlt2 := HOK.out.perm HP.out |>.get (n - 1)
      obtain ⟨va, hva⟩ : ∃ x, D.getD 0 0 = x := ⟨_, rfl⟩
      obtain ⟨vb, hvb⟩ : ∃ x, D.getD (n - 1) 0 = x := ⟨_, rfl⟩
      rw [hva] at ca HALL hlt1
      rw [hvb] at cb HALL hlt2
      have HLT : Hid (va < 18446744073709551616 ∧ vb < 18446744073709551616) := ⟨hlt1, hlt2⟩
      have e1 : (n : Int) - 1 = ((n - 1 : Nat) : Int) := by omega
      obtain ⟨k0, k1, k2⟩ := hblr.at3
      have hf0 := hblr.frozen 0
      have hf1 := hblr.frozen 1
      have hf2 := hblr.frozen 2
      have HBLR := Lib.hid hblr
      have hne : gb ≠ g := by have := HS0.out; have := HW0.out.size; have := HGB.out; omega
      have hne2 : g ≠ gb := fun e => hne e.symm
      clear hsum hm64 hbr hrowr hblr hc1' hsl hall hva hvb hlt1 hlt2
      go_wp2_with fail
      go_region
      have hz := (((HBLR.out.set_ 0 (.float .f64 va)).set_ 1 (.float .f64 vb)).set_ 2 (.float .f64 m)).drew
      have hb : Below w.heap.size w ((((wr.setCell ⟨gb, 0, none⟩ (.float .f64 va)).setCell ⟨gb, 1, none⟩ (.float .f64 vb)).setCell ⟨gb, 2, none⟩ (.float .f64 m))).drew := by
        have h1 := bthen (bthen HW0.out HB2.out) HBR.out
        have e := HGB.out
        exact (((h1.setCell (p := ⟨gb, 0, none⟩) (Nat.le_of_eq e) _).setCell (p := ⟨gb, 1, none⟩) (Nat.le_of_eq e) _).setCell (p := ⟨gb, 2, none⟩) (Nat.le_of_eq e) _).drew
      have HZ := Lib.hid hz
      have HB := Lib.hid hb
      clear hz hb
      go_wp2_with fail
      refine bodyPost_ret (results_sums (p := 2) (u := 3) (by kernel_rfl) _ _ _ _ _ _ rfl HZ.out) rfl ?_
      exact ⟨va, vb, m, rfl, HALL.out, ⟨HLT.out.1, HLT.out.2, HM.out⟩, HB.out⟩
end Sorts
end Go.Proofs.Ytkjhacbkgnjilaa
