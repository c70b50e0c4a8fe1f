/-
  Rows of floats: one out of them, a part of them; the contracts of 'few' and of the reference's Rows.
-/
import Derived.Test.YtkjhacbkgnjilaaOrderSort
import Derived.Test.YtkjhacbkgnjilaaOrderSum
import Derived.BigQuiet
namespace Go.Proofs.Ytkjhacbkgnjilaa
open Go.RowKit
namespace Sorts
theorem f_at {w : World} {B n k : Nat} {A : Option Addr} {L : List Nat} (h : Reads w B 1 A n (Fs L)) (hk : k < n) : ∃ ad, A = some ad ∧ ad.block < B ∧ w.cell? (ad.add k) = some (.float .f64 (L.getD k 0)) := by
  obtain ⟨ad, u, hA, hb, hx, hc⟩ := h.at_ hk
  refine ⟨ad, hA, hb, ?_⟩
  rw [Fs, List.getElem?_map] at hx
  cases hz : L[k]? with
  | none => rw [hz] at hx; cases hx
  | some z =>
    rw [hz] at hx
    simp at hx
    rw [hc, List.getD_eq_getElem?_getD, hz, ← hx]
    rfl
theorem f_len {w : World} {B n : Nat} {A : Option Addr} {L : List Nat} (h : Reads w B 1 A n (Fs L)) : L.length = n := by
  have := h.1
  simpa [Fs] using this
theorem f_take {w : World} {B n k : Nat} {A : Option Addr} {L : List Nat} (h : Reads w B 1 A n (Fs L)) (hk : k ≤ n) : Reads w B 1 A k (Fs (L.take k)) := by
  have := h.take_ hk
  rwa [Nat.mul_one, Fs, ← List.map_take] at this
def cutF (A : Option Addr) (c k : Nat) : Option Addr := if c = k then A else A.map (·.add (k * 1))
theorem f_drop {w : World} {B n k c : Nat} {A : Option Addr} {L : List Nat} (h : Reads w B 1 A n (Fs L)) (hk : k ≤ n) (hc : n ≤ c) : Reads w B 1 (cutF A c k) (n - k) (Fs (L.drop k)) := by
  have e : Fs (L.drop k) = (Fs L).drop (k * 1) := by rw [Nat.mul_one, Fs, Fs, List.map_drop]
  rw [e]
  exact h.cut hk hc
theorem run_from (A : Option Addr) (n c k : Nat) (hk : k ≤ n) (w : World) : (Instr.slice 29 (.slice A n c) (some (.int .i64 k)) none none).run Try.prog w = .ok (.slice (cutF A c k) (n - k) (c - k)) w := by
  obtain ⟨i0, hi, hz0, hz1, hz2⟩ := info_parts infoF
  have he : Try.prog.elem 29 = 22 := by kernel_rfl
  rw [run_slice_l w 29 A n c (by rw [he]; exact Try.underlying29) .i64 k (by omega) (by omega), he]
  simp [sizeOf, typeInfo, hi, hz1, sliced, cutF]
theorem run_upto (A : Option Addr) (n c k : Nat) (hk : k ≤ c) (w : World) : (Instr.slice 29 (.slice A n c) none (some (.int .i64 k)) none).run Try.prog w = .ok (.slice A k c) w := by
  obtain ⟨i0, hi, hz0, hz1, hz2⟩ := info_parts infoF
  have he : Try.prog.elem 29 = 22 := by kernel_rfl
  rw [run_slice_h w 29 A n c (by rw [he]; exact Try.underlying29) .i64 k (by omega) (by omega), he]
  simp [sizeOf, typeInfo, hi, hz1, sliced]
  cases A <;> simp [Addr.add]
set_option maxRecDepth 100000 in
set_option maxHeartbeats 2000000 in
theorem few_any (A : Option Addr) (n c : Nat) (hc : n ≤ c) (w : World) : Calls Try.prog 18 #[.slice A n c] w fun e w' => e = .returned (.slice A (min n 60) c) ∧ w = w' := by
  obtain ⟨N, hN⟩ : ∃ N, min n 60 = N := ⟨_, rfl⟩
  have hmn : ∀ (ts : Array TypeId) (t : TypeId) (w : World), (Builtin.min_ ts t #[.int .i64 n, .int .i64 60]).run Try.prog w = .ok (.int .i64 N) w := fun ts t w => by
    rw [run_min_int2]
    rw [← hN]
    by_cases h : n ≤ 60
    · rw [Nat.min_eq_left h]; simp; omega
    · rw [Nat.min_eq_right (by omega)]; simp; omega
  have hs := run_upto A n c N (by omega)
  rw [hN]
  go_enter Try.func18, Try.ntmps18
  go_wp2_with fail
  go_ret
  exact ⟨rfl, rfl⟩
def rowsF (L M : List Nat) : Bool := L.length == M.length && (List.range L.length).all (fun i => Fl.alike (L.getD i 0) (M.getD i 0))
theorem rowsF_of {L M : List Nat} (h : L.map Fl.rank = M.map Fl.rank) : rowsF L M = true := by
  have hl : L.length = M.length := by have := congrArg List.length h; simpa using this
  unfold rowsF
  rw [hl]
  simp only [beq_self_eq_true, Bool.true_and, List.all_eq_true, List.mem_range]
  intro i hi
  refine decide_eq_true ?_
  have h1 : (L.map Fl.rank)[i]? = (M.map Fl.rank)[i]? := by rw [h]
  rw [List.getElem?_map, List.getElem?_map, List.getElem?_eq_getElem (by omega), List.getElem?_eq_getElem hi] at h1
  rw [List.getD_eq_getElem?_getD, List.getD_eq_getElem?_getD, List.getElem?_eq_getElem (by omega), List.getElem?_eq_getElem hi]
  exact Option.some.inj h1
set_option maxRecDepth 100000 in
set_option maxHeartbeats 2000000 in
/-- Rows that are alike are told so. -/
theorem rows_any (A B : Option Addr) (n c d : Nat) (L M : List Nat) (hn : n ≤ 1000) (h : L.map Fl.rank = M.map Fl.rank) (w : World) (hr : Reads w w.heap.size 1 A n (Fs L)) (hq : Reads w w.heap.size 1 B n (Fs M)) :
    Calls Try.prog 22 #[.slice A n c, .slice B n d] w fun e w' => e = .returned (.bool true) ∧ Below w.heap.size w w' := by
  have HR := Lib.hid hr
  have HQ := Lib.hid hq
  have HA : Hid (∀ i, Fl.alike (L.getD i 0) (M.getD i 0) = true) := fun i => by
    refine decide_eq_true ?_
    have h1 : (L.map Fl.rank)[i]? = (M.map Fl.rank)[i]? := by rw [h]
    rw [List.getElem?_map, List.getElem?_map] at h1
    rw [List.getD_eq_getElem?_getD, List.getD_eq_getElem?_getD]
    cases e1 : L[i]? <;> cases e2 : M[i]? <;> rw [e1, e2] at h1 <;> simp_all
  clear hr hq h
  go_enter Try.func22, Try.ntmps22
  go_wp2_with fail
  go_loopw [13] (fun v wr => ∃ i : Nat, i ≤ n ∧ v = .int .i64 i ∧ Below w.heap.size w wr) (fun v _ => n - (intOf v).toNat)
  case atStart => exact ⟨0, Nat.zero_le _, rfl, Below.refl _ _⟩
  case round =>
    obtain ⟨i, hi, rfl, hb⟩ := hrel
    have HB := Lib.hid hb
    by_cases hlt : i < n
    · have d0 : decide ((i : Int) < n) = true := decide_eq_true (by omega)
      obtain ⟨a1, rfl, hb1, hc1⟩ := f_at (HR.out.below hb) hlt
      obtain ⟨a2, rfl, hb2, hc2⟩ := f_at (HQ.out.below hb) hlt
      have hal := Lib.hid (HA.out i)
      obtain ⟨x, hx⟩ : ∃ x, L.getD i 0 = x := ⟨_, rfl⟩
      obtain ⟨y, hy⟩ : ∃ y, M.getD i 0 = y := ⟨_, rfl⟩
      rw [hx] at hc1 hal
      rw [hy] at hc2 hal
      have HC : Hid (wr.cell? (a1.add i) = some (.float .f64 x) ∧ wr.cell? (a2.add i) = some (.float .f64 y)) := ⟨hc1, hc2⟩
      clear hb hx hy
      go_wp2_with fail
      go_quiet ((go_at_call 16; refine Calls.quiet_of ((OrderRef.alike_ x y _).mono fun _ _ ⟨he, hw⟩ => ⟨he.trans (by rw [hal.out]), 0, hw.symm⟩)))
      go_wp2_with fail
      exact ⟨⟨i + 1, by omega, rfl, by first | exact HB.out | exact HB.out.drew | exact HB.out.trans ⟨rfl, rfl, rfl, Nat.le_refl _, fun _ _ => rfl⟩⟩, by simp only [intOf]; omega⟩
    · have d0 : decide ((i : Int) < n) = false := decide_eq_false (by omega)
      obtain rfl : i = n := by omega
      clear hb
      go_wp2_with fail
      go_ret
      exact ⟨rfl, HB.out⟩
end Sorts
end Go.Proofs.Ytkjhacbkgnjilaa
