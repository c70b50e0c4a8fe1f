/-
  The document's own Share and Time of layer 13, the laws' own 'alive' and 'few'.
-/
import Derived.Test.YteejgejeggackaaScriptRef
namespace Go.Proofs.Yteejgejeggackaa
open Go.RowKit Go.Shelf
namespace ScriptRef
open Script
theorem share_any (A : Option Addr) (n c : Nat) (zs : List Int) (who : Int) (hlen : n ≤ 1000000) (w : World) (hr : Reads w w.heap.size 1 A n (zs.map (Value.int .i64))) (hz : ∀ z ∈ zs, -9223372036854775808 ≤ z ∧ z ≤ 9223372036854775807) :
    Calls Try.prog 58 #[.slice A n c, .int .i64 who] w fun e W' => e = .returned (.int .i64 (share who zs)) ∧ Below w.heap.size w W' := by
  have hl := Lib.hid hr.int_len
  have HR := Lib.hid hr
  have HZ := Lib.hid hz
  clear hr hz
  have hf0 : ∀ (a b : Int) (w : World), (Instr.field 69 (.agg #[.int .i64 a, .int .i64 b]) 0).run Try.prog w = .ok (.int .i64 a) w := fun a b w => by kernel_rfl
  have hf1 : ∀ (a b : Int) (w : World), (Instr.field 69 (.agg #[.int .i64 a, .int .i64 b]) 1).run Try.prog w = .ok (.int .i64 b) w := fun a b w => by kernel_rfl
  go_enter Try.func58, Try.ntmps58
  go_wp2_with fail
  go_loopw [5, 10] (fun s i wr => ∃ k : Nat, k ≤ n ∧ i = .int .i64 k ∧ s = .int .i64 (share who (zs.take k)) ∧ Below w.heap.size w wr) (fun _ i _ => n - (intOf i).toNat)
  case atStart => exact ⟨0, Nat.zero_le _, rfl, rfl, Below.refl _ _⟩
  case round =>
    obtain ⟨k, hk, rfl, rfl, hb⟩ := hrel
    by_cases hlt : k < n
    · obtain ⟨ad, z, rfl, _, hzk, hc⟩ := (HR.out.below hb).int_at hlt
      have hzb := HZ.out z (List.mem_of_getElem? hzk)
      have hsn : Hid (share who (zs.take (k + 1)) = share who (zs.take k) + if ((pick z).1 == 0 && (pick z).2 == who) = true then 1 else 0) := by
        unfold Hid
        rw [List.take_add_one, hzk, Option.toList_some, share_snoc]
      have hle := share_le who (zs.take k)
      rw [List.length_take, hl.out] at hle
      have HB := Lib.hid hb
      clear hb hzk
      obtain ⟨a, ha⟩ : ∃ a, (pick z).1 = a := ⟨_, rfl⟩
      obtain ⟨b, hb⟩ : ∃ b, (pick z).2 = b := ⟨_, rfl⟩
      have hv : Hid (val (pick z) = .agg #[.int .i64 a, .int .i64 b]) := by unfold Hid; rw [val, ha, hb]
      rw [ha, hb] at hsn
      clear ha hb
      go_wp2_with fail
      refine (read_any z hzb.1 hzb.2 _).mono ?_
      rintro e w1 ⟨rfl, hb1⟩
      rw [hv.out]
      by_cases h0 : a = 0
      · subst h0
        go_wp2_with fail
        refine (read_any z hzb.1 hzb.2 _).mono ?_
        rintro e w2 ⟨rfl, hb2⟩
        rw [hv.out]
        have HB2 := Lib.hid (bmore (bmore HB.out HB.out.size hb1) (Nat.le_trans HB.out.size hb1.size) hb2)
        clear hb1 hb2
        by_cases h1 : b = who
        · subst h1
          have hs2 : Hid (share b (zs.take (k + 1)) = share b (zs.take k) + 1) := by unfold Hid; rw [hsn.out]; simp
          clear hsn
          go_wp2_with fail
          go_roundw
          case rel => exact ⟨k + 1, by omega, by go_num, by rw [hs2.out]; go_num, HB2.out⟩
          case measure => simp [intOf]; omega
        · have hs2 : Hid (share who (zs.take (k + 1)) = share who (zs.take k)) := by unfold Hid; rw [hsn.out]; simp [h1]
          clear hsn
          go_wp2_with fail
          go_roundw
          case rel => exact ⟨k + 1, by omega, by go_num, by rw [hs2.out], HB2.out⟩
          case measure => simp [intOf]; omega
      · have hs2 : Hid (share who (zs.take (k + 1)) = share who (zs.take k)) := by unfold Hid; rw [hsn.out]; simp [h0]
        clear hsn
        have HB2 := Lib.hid (bmore HB.out HB.out.size hb1)
        clear hb1
        go_wp2_with fail
        go_roundw
        case rel => exact ⟨k + 1, by omega, by go_num, by rw [hs2.out], HB2.out⟩
        case measure => simp [intOf]; omega
    · obtain rfl : k = n := by omega
      go_wp2_with fail
      go_ret
      refine ⟨ret_int ?_, hb⟩
      rw [← hl.out, List.take_length]

/-- What the document's Time hands back. -/
def TimeOf2 (zs : List Int) (e : Ending) : Prop := (∃ t, timeOf zs = some t ∧ 0 ≤ t ∧ t ≤ 4611686018427387904 ∧ e = .returned (.tuple #[.int .i64 t, .bool true])) ∨ (timeOf zs = none ∧ e = .returned (.tuple #[.int .i64 0, .bool false]))
theorem time_any (A : Option Addr) (n c : Nat) (zs : List Int) (hlen : n ≤ 1000000) (w : World) (hr : Reads w w.heap.size 1 A n (zs.map (Value.int .i64))) (hz : ∀ z ∈ zs, -9223372036854775808 ≤ z ∧ z ≤ 9223372036854775807) :
    Calls Try.prog 61 #[.slice A n c] w fun e W' => TimeOf2 zs e ∧ Below w.heap.size w W' := by
  have hl := Lib.hid hr.int_len
  have HR := Lib.hid hr
  have HZ := Lib.hid hz
  clear hr hz
  go_enter Try.func61, Try.ntmps61
  go_wp2_with fail
  go_loopw [4, 10] (fun s i wr => ∃ (k : Nat) (t : Int), k ≤ n ∧ i = .int .i64 k ∧ s = .int .i64 t ∧ timeOf (zs.take k) = some t ∧ 0 ≤ t ∧ t ≤ 4611686018427387904 ∧ Below w.heap.size w wr) (fun _ i _ => n - (intOf i).toNat)
  case atStart => exact ⟨0, 0, Nat.zero_le _, rfl, rfl, rfl, by omega, by omega, Below.refl _ _⟩
  case round =>
    obtain ⟨k, t, hk, rfl, rfl, ht, t0, t1, hb⟩ := hrel
    by_cases hlt : k < n
    · obtain ⟨ad, z, rfl, _, hzk, hc⟩ := (HR.out.below hb).int_at hlt
      have hzb := HZ.out z (List.mem_of_getElem? hzk)
      have hpb := pick_bd z
      have hpk := pick_kind z
      have hstep : Hid (timeOf (zs.take (k + 1)) = if (pick z).1 = 1 then if t + (pick z).2 ≤ 4611686018427387904 then some (t + (pick z).2) else none else some t) := by
        unfold Hid
        rw [List.take_add_one, hzk, Option.toList_some, timeOf_snoc, ht]
        rfl
      have HB := Lib.hid hb
      obtain ⟨a, ha⟩ : ∃ a, (pick z).1 = a := ⟨_, rfl⟩
      obtain ⟨b, hb'⟩ : ∃ b, (pick z).2 = b := ⟨_, rfl⟩
      have hv : Hid (val (pick z) = .agg #[.int .i64 a, .int .i64 b]) := by unfold Hid; rw [val, ha, hb']
      rw [ha, hb'] at hstep
      rw [ha] at hpk
      rw [hb'] at hpb
      clear ha hb' hb hzk ht
      go_wp2_with fail
      refine (read_any z hzb.1 hzb.2 _).mono ?_
      rintro e w1 ⟨rfl, hb1⟩
      rw [hv.out]
      have HB2 := Lib.hid ((bmore HB.out HB.out.size hb1).alloc (Nat.le_trans HB.out.size hb1.size) (.cells #[.int .i64 a, .int .i64 b] 69))
      clear hb1
      rcases hpk with rfl | rfl
      · have hs2 : Hid (timeOf (zs.take (k + 1)) = some t) := by unfold Hid; rw [hstep.out]; rfl
        clear hstep
        go_wp2_with fail
        go_roundw
        case rel => exact ⟨k + 1, t, by omega, by go_num, rfl, hs2.out, t0, t1, HB2.out⟩
        case measure => simp [intOf]; omega
      · by_cases hov : 4611686018427387904 - t < b
        · have hs2 : Hid (timeOf (zs.take (k + 1)) = none) := by unfold Hid; rw [hstep.out, if_pos rfl, if_neg (by omega)]
          clear hstep
          go_wp2_with fail
          go_ret2
          exact ⟨.inr ⟨timeOf_prefix (List.take_prefix _ _) hs2.out, rfl⟩, HB2.out⟩
        · have hs2 : Hid (timeOf (zs.take (k + 1)) = some (t + b)) := by unfold Hid; rw [hstep.out, if_pos rfl, if_pos (by omega)]
          clear hstep
          go_wp2_with fail
          go_roundw
          case rel => exact ⟨k + 1, t + b, by omega, by go_num, rfl, hs2.out, by omega, by omega, HB2.out⟩
          case measure => simp [intOf]; omega
    · obtain rfl : k = n := by omega
      go_wp2_with fail
      go_ret2
      refine ⟨.inl ⟨t, ?_, t0, t1, rfl⟩, hb⟩
      rw [← hl.out, List.take_length] at ht
      exact ht
end ScriptRef

namespace Script
theorem few_any (A : Option Addr) (n c : Nat) (w : World) (hn : n ≤ c) (hc : c ≤ maxLen) :
    Calls Try.prog 49 #[.slice A n c] w fun e w' => e = .returned (.slice A (min n 200) c) ∧ w = w' := by
  unfold maxLen at hc
  by_cases h : (n : Int) ≤ 200
  · have e : min n 200 = n := by omega
    rw [e]
    go_enter Try.func49, Try.ntmps49
    go_wp2_with fail
    go_ret
    exact ⟨rfl, rfl⟩
  · have e : min n 200 = 200 := by omega
    rw [e]
    go_enter Try.func49, Try.ntmps49
    go_wp2_with fail
    go_ret
    exact ⟨rfl, rfl⟩
theorem alive (w : World) : Calls Try.prog 59 #[] w fun e w' => e = .returned (.bool true) ∧ Below w.heap.size w w' := by
  have hr : Reads (w.alloc (.cells #[.int .i64 17, .int .i64 (-5)] 3)) (w.alloc (.cells #[.int .i64 17, .int .i64 (-5)] 3)).heap.size 1 (some ⟨w.heap.size, 0, none⟩) 2 (([17, -5] : List Int).map (Value.int .i64)) :=
    Reads.of_blk (Blk.new w _ _) rfl
  have HR := Lib.hid hr
  clear hr
  have e1 : ∀ w, _ := fun w => pick_eql 0 1 0 1 w
  have e2 : ∀ w, _ := fun w => pick_eql 1 5 1 5 w
  have g1 : ∀ x y w, _ := fun x y w => pick_guard .eql x y 0 1 0 1 w
  have g2 : ∀ x y w, _ := fun x y w => pick_guard .eql x y 1 5 1 5 w
  go_enter Try.func59, Try.ntmps59
  go_wp2_with fail
  refine (all_any _ 2 2 [17, -5] (by omega) _ HR.out (by simp)).mono ?_
  rintro e w1 ⟨⟨B, c, rfl, hx, hc1, hc2, _⟩, hb1⟩
  obtain ⟨ad, rfl, _, hat⟩ := hx.2 (by simp)
  have c0 : w1.cell? ad = _ := hat 0 (.int .i64 0) rfl
  have c1 : w1.cell? ⟨ad.block, ad.off + 1, none⟩ = _ := hat 1 (.int .i64 1) rfl
  have c2 : w1.cell? ⟨ad.block, ad.off + 2, none⟩ = _ := hat 2 (.int .i64 1) rfl
  have c3 : w1.cell? ⟨ad.block, ad.off + 2 + 1, none⟩ = _ := hat 3 (.int .i64 5) rfl
  have HB := Lib.hid (((Below.refl _ w).alloc (Nat.le_refl _) (.cells #[.int .i64 17, .int .i64 (-5)] 3)).trans (hb1.mono (by simp)))
  clear hb1 hat hx
  go_wp2_with fail
  go_ret
  exact ⟨rfl, HB.out⟩
end Script
end Go.Proofs.Yteejgejeggackaa
