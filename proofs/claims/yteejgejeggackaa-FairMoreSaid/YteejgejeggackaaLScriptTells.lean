/-
  The walk of ScriptTells.
-/
import Derived.Test.YteejgejeggackaaScriptRef2
import Derived.Deep.RegionHeld3
namespace Go.Proofs.Yteejgejeggackaa
open Go.RowKit Go.Shelf
namespace Script
def WriteOf (a b : Int) (e : Ending) : Prop := (right a b = true ∧ e = .returned (.tuple #[.int .i64 (wr a b), .int .i64 0])) ∨ (right a b = false ∧ e = .returned (.tuple #[.int .i64 0, .int .i64 1]))
theorem write_any (a b : Int) (w : World) : Calls Try.prog 50 #[.agg #[.int .i64 a, .int .i64 b]] w fun e w' => WriteOf a b e ∧ Below w.heap.size w w' := by
  cases h : right a b
  · exact (write_no a b h w).mono fun e w' ⟨he, hb⟩ => ⟨.inr ⟨h, he⟩, hb⟩
  · exact (write_yes a b h w).mono fun e w' ⟨he, hb⟩ => ⟨.inl ⟨h, he⟩, hb⟩
theorem pair_at {w : World} {B n k : Nat} {A : Option Addr} {zs : List Int} {z : Int} (h : Reads w B 2 A n (zs.flatMap pcells)) (hk : k < n) (hz : zs[k]? = some z) :
    ∃ ad, A = some ad ∧ ad.block < B ∧ w.cell? (ad.add (k * 2)) = some (.int .i64 (pick z).1) ∧ w.cell? ⟨(ad.add (k * 2)).block, (ad.add (k * 2)).off + 1, none⟩ = some (.int .i64 (pick z).2) := by
  obtain ⟨ad, hA, hb, hc⟩ := h.2 (by omega)
  exact ⟨ad, hA, hb, hc _ _ (flat_at pcells 2 (fun _ => rfl) zs k 0 _ hz (by omega)), by
    rw [show (⟨(ad.add (k * 2)).block, (ad.add (k * 2)).off + 1, none⟩ : Addr) = (ad.add (k * 2)).add 1 from rfl, add_of_add]; exact hc _ _ (flat_at pcells 2 (fun _ => rfl) zs k 1 _ hz (by omega))⟩
end Script
namespace scriptTells
open Script
set_option maxHeartbeats 8000000 in
theorem walk1 (v a b who : Int) (A : Option Addr) (n0 n c : Nat) (zs : List Int) (w : World) (hv0 : -9223372036854775808 ≤ v) (hv1 : v ≤ 9223372036854775807) (hz : ∀ z ∈ zs, -9223372036854775808 ≤ z ∧ z ≤ 9223372036854775807)
    (hm : n = min n0 200) (hn0 : n0 ≤ c) (hc : c ≤ maxLen) (hr : Reads w w.heap.size 1 A n (zs.map (Value.int .i64))) :
    Calls Try.prog 12 #[.int .i64 v, .agg #[.int .i64 a, .int .i64 b], .slice A n0 c, .int .i64 who] w fun e w' => e = .returned (.bool true) ∧ Below w.heap.size w w' := by
  have hn : n ≤ 1000000 := by omega
  have hl := Lib.hid hr.int_len
  have HR := Lib.hid hr
  have HZ := Lib.hid hz
  have HM := Lib.hid hm
  obtain ⟨p, hp⟩ : ∃ p, (pick v).1 = p := ⟨_, rfl⟩
  obtain ⟨q, hq⟩ : ∃ q, (pick v).2 = q := ⟨_, rfl⟩
  have hv : Hid (val (pick v) = .agg #[.int .i64 p, .int .i64 q]) := by unfold Hid; rw [val, hp, hq]
  have n1 := fun w => pick_neq p q p q w
  have g1 := fun x y w => pick_guard .neq x y p q p q w
  have HC := Lib.hid hc
  clear hr hz hm hp hq hc
  go_enter Try.func12, Try.ntmps12
  go_wp2_with fail
  refine (few_any A n0 c _ hn0 HC.out).mono ?_
  rintro e w1 ⟨rfl, rfl⟩
  rw [← HM.out]
  have hB0 := (Below.refl w.heap.size w).alloc (Nat.le_refl _) (.cells #[.int .i64 a, .int .i64 b] 69)
  have hbx := Blk.new w 69 #[.int .i64 a, .int .i64 b]
  obtain ⟨W0, hW0⟩ : ∃ W0, w.alloc (.cells #[.int .i64 a, .int .i64 b] 69) = W0 := ⟨_, rfl⟩
  rw [hW0] at hB0 hbx ⊢
  have hs0 : w.heap.size < W0.heap.size := hbx.lt
  clear hW0
  have HB0 := Lib.hid hB0
  have HX := Lib.hid hbx
  clear hB0 hbx
  have c0 : W0.cell? ⟨w.heap.size, 0, none⟩ = some (.int .i64 a) := by rw [HX.out.cell]; rfl
  have c1 : W0.cell? ⟨w.heap.size, 1, none⟩ = some (.int .i64 b) := by rw [HX.out.cell]; rfl
  go_wp2_with fail
  refine (write_any a b _).mono ?_
  rintro e w1 ⟨hwr, hb1⟩
  obtain ⟨wn, we, rfl, hwe⟩ : ∃ wn we, e = .returned (.tuple #[.int .i64 wn, .int .i64 we]) ∧ ((right a b = true ∧ wn = wr a b ∧ we = 0) ∨ (right a b = false ∧ wn = 0 ∧ we = 1)) := by
    rcases hwr with ⟨h, he⟩ | ⟨h, he⟩
    · exact ⟨_, _, he, .inl ⟨h, rfl, rfl⟩⟩
    · exact ⟨_, _, he, .inr ⟨h, rfl, rfl⟩⟩
  have HW := Lib.hid hwe
  have HB1 := Lib.hid hb1
  clear hwr hwe hb1
  go_wp2_with fail
  refine (all_any A n c zs hn _ ((HR.out.below (bthen HB0.out (HB1.out.mono (Nat.le_refl _)))).more (bthen HB0.out HB1.out).size) HZ.out).mono ?_
  rintro e w2 ⟨⟨B, c2, rfl, hx, hc21, hc22, _⟩, hb2⟩
  rw [hl.out] at hx hc21 ⊢
  have HB2 := Lib.hid (bthen HB1.out hb2)
  have HA := Lib.hid hx
  have HC2 := Lib.hid hc22
  clear hb2 HB1 hx hc22
  go_wp2_with fail
  refine (time_any A n c zs hn _ ((HR.out.below (bthen HB0.out HB2.out)).more (bthen HB0.out HB2.out).size) HZ.out).mono ?_
  rintro e w3 ⟨htm, hb3⟩
  obtain ⟨tt, te, rfl, hte⟩ : ∃ tt te, e = .returned (.tuple #[.int .i64 tt, .int .i64 te]) ∧ ((timeOf zs = some tt ∧ te = 0) ∨ (timeOf zs = none ∧ tt = 0 ∧ te = 10)) := by
    rcases htm with ⟨t, h, _, _, he⟩ | ⟨h, he⟩
    · exact ⟨_, _, he, .inl ⟨h, rfl⟩⟩
    · exact ⟨_, _, he, .inr ⟨h, rfl, rfl⟩⟩
  have HT := Lib.hid hte
  have HB3 := Lib.hid (bthen HB2.out hb3)
  have HA3 := Lib.hid ((HA.out.below hb3).more hb3.size)
  clear htm hte hb3 HA
  have c0' := (HB3.out.cell (p := ⟨w.heap.size, 0, none⟩) hs0).trans c0
  have c1' := (HB3.out.cell (p := ⟨w.heap.size, 1, none⟩) hs0).trans c1
  have hS3 : w.heap.size < w3.heap.size := Nat.lt_of_lt_of_le hs0 HB3.out.size
  clear c0 c1
  have HR3 := Lib.hid ((HR.out.below (bthen HB0.out HB3.out)).more (bthen HB0.out HB3.out).size)
  go_wp2_with fail
  have hD0 := (Below.refl w3.heap.size w3).drew
  go_region_held3 (fun w' => Below w3.heap.size w3 w' ∧ w'.cell? ⟨w.heap.size, 0, none⟩ = some (.int .i64 a) ∧ w'.cell? ⟨w.heap.size, 1, none⟩ = some (.int .i64 b)) (first | exact ⟨(Below.refl _ _).drew, c0', c1'⟩ | exact ⟨by assumption, by assumption, by assumption⟩ | go_keep)
    (first
      | (go_at_call 53; refine (Script.read_any v hv0 hv1 _).mono ?_; rintro e w' ⟨rfl, hb⟩; rw [hv.out]; have hB' := bthen ‹Below w3.heap.size w3 _› hb; have k0 := (hB'.cell (p := ⟨w.heap.size, 0, none⟩) hS3).trans c0'; have k1 := (hB'.cell (p := ⟨w.heap.size, 1, none⟩) hS3).trans c1'; clear hb)
      | (go_at_call 54; refine (ScriptRef.read_any v hv0 hv1 _).mono ?_; rintro e w' ⟨rfl, hb⟩; rw [hv.out]; have hB' := bthen ‹Below w3.heap.size w3 _› hb; have k0 := (hB'.cell (p := ⟨w.heap.size, 0, none⟩) hS3).trans c0'; have k1 := (hB'.cell (p := ⟨w.heap.size, 1, none⟩) hS3).trans c1'; clear hb)
      | (go_at_call 55; refine (Script.right_any a b _).mono ?_; rintro e w' ⟨rfl, hb⟩; have hB' := bthen ‹Below w3.heap.size w3 _› hb; have k0 := (hB'.cell (p := ⟨w.heap.size, 0, none⟩) hS3).trans c0'; have k1 := (hB'.cell (p := ⟨w.heap.size, 1, none⟩) hS3).trans c1'; clear hb)
      | (go_at_call 56; refine (ScriptRef.right_any a b _).mono ?_; rintro e w' ⟨rfl, hb⟩; have hB' := bthen ‹Below w3.heap.size w3 _› hb; have k0 := (hB'.cell (p := ⟨w.heap.size, 0, none⟩) hS3).trans c0'; have k1 := (hB'.cell (p := ⟨w.heap.size, 1, none⟩) hS3).trans c1'; clear hb)
      | (go_at_call 57; refine (Script.share_any A n c zs who hn _ ((HR3.out.below ‹Below w3.heap.size w3 _›).more (Below.size ‹Below w3.heap.size w3 _›)) HZ.out).mono ?_; rintro e w' ⟨rfl, hb⟩; have hB' := bthen ‹Below w3.heap.size w3 _› hb; have k0 := (hB'.cell (p := ⟨w.heap.size, 0, none⟩) hS3).trans c0'; have k1 := (hB'.cell (p := ⟨w.heap.size, 1, none⟩) hS3).trans c1'; clear hb)
      | (go_at_call 58; refine (ScriptRef.share_any A n c zs who hn _ ((HR3.out.below ‹Below w3.heap.size w3 _›).more (Below.size ‹Below w3.heap.size w3 _›)) HZ.out).mono ?_; rintro e w' ⟨rfl, hb⟩; have hB' := bthen ‹Below w3.heap.size w3 _› hb; have k0 := (hB'.cell (p := ⟨w.heap.size, 0, none⟩) hS3).trans c0'; have k1 := (hB'.cell (p := ⟨w.heap.size, 1, none⟩) hS3).trans c1'; clear hb)
      | (go_at_call 59; refine (Script.alive _).mono ?_; rintro e w' ⟨rfl, hb⟩; have hB' := bthen ‹Below w3.heap.size w3 _› hb; have k0 := (hB'.cell (p := ⟨w.heap.size, 0, none⟩) hS3).trans c0'; have k1 := (hB'.cell (p := ⟨w.heap.size, 1, none⟩) hS3).trans c1'; clear hb))
  have HBr := Lib.hid hB'
  have HAT := Lib.hid HA3.out
  clear hB' k0 k1 hD0
  go_wp2
  go_loopw [66] (fun i wr => ∃ k : Nat, k ≤ n ∧ i = .int .i64 k ∧ Below w3.heap.size w3 wr) (fun i _ => n - (intOf i).toNat)
  case atStart => exact ⟨0, Nat.zero_le _, rfl, HBr.out⟩
  case round =>
    obtain ⟨k, hk, rfl, hbr⟩ := hrel
    have hcr0 := (hbr.cell (p := ⟨w.heap.size, 0, none⟩) hS3).trans c0'
    have hcr1 := (hbr.cell (p := ⟨w.heap.size, 1, none⟩) hS3).trans c1'
    by_cases hlt : k < n
    · obtain ⟨ad, z, rfl, _, hzk, hc0⟩ := (HR3.out.below hbr).int_at hlt
      obtain ⟨ad2, rfl, hbl, hd0, hd1⟩ := pair_at HA3.out hlt hzk
      have hzb := HZ.out z (List.mem_of_getElem? hzk)
      obtain ⟨p2, hp⟩ : ∃ p, (pick z).1 = p := ⟨_, rfl⟩
      obtain ⟨q2, hq⟩ : ∃ q, (pick z).2 = q := ⟨_, rfl⟩
      have hv2 : Hid (val (pick z) = .agg #[.int .i64 p2, .int .i64 q2]) := by unfold Hid; rw [val, hp, hq]
      rw [hp] at hd0
      rw [hq] at hd1
      have hd0r := (hbr.cell (p := ad2.add (k * 2)) (by rw [block_of_add]; exact hbl)).trans hd0
      have hd1r := (hbr.cell (p := ⟨(ad2.add (k * 2)).block, (ad2.add (k * 2)).off + 1, none⟩) (by show (ad2.add (k * 2)).block < _; rw [block_of_add]; exact hbl)).trans hd1
      have hbb : (ad2.add (k * 2)).block < w3.heap.size := by rw [block_of_add]; exact hbl
      have n2 := fun w => pick_neq p2 q2 p2 q2 w
      have g2 := fun x y w => pick_guard .neq x y p2 q2 p2 q2 w
      have hk0 : (0 : Int) ≤ k := by omega
      have hk1 : (k : Int) < n := by omega
      have HBk := Lib.hid hbr
      have hDk := hbr.drew
      clear hbr hcr0 hcr1 hp hq hzk c0' c1'
      go_wp2_with fail
      go_region_held3 (fun w' => Below w3.heap.size w3 w' ∧ w'.cell? (ad2.add (k * 2)) = some (.int .i64 p2) ∧ w'.cell? ⟨(ad2.add (k * 2)).block, (ad2.add (k * 2)).off + 1, none⟩ = some (.int .i64 q2)) (first | exact ⟨hDk, hd0r, hd1r⟩ | exact ⟨by assumption, by assumption, by assumption⟩ | go_keep)
        (first
          | (go_at_call 54; refine (ScriptRef.read_any z hzb.1 hzb.2 _).mono ?_; rintro e w' ⟨rfl, hb⟩; rw [hv2.out]; have hB' := bmore ‹Below w3.heap.size w3 _› (Below.size ‹Below w3.heap.size w3 _›) hb; have k0 := (hB'.cell (p := ad2.add (k * 2)) hbb).trans hd0; have k1 := (hB'.cell (p := ⟨(ad2.add (k * 2)).block, (ad2.add (k * 2)).off + 1, none⟩) hbb).trans hd1; clear hb))
      have HBr := Lib.hid hB'
      clear hB' k0 k1 hd0r hd1r hDk
      go_wp2
      exact ⟨⟨k + 1, by omega, by go_num, HBr.out⟩, by simp [intOf]; omega⟩
    · obtain rfl : k = n := by omega
      have HBk := Lib.hid hbr
      clear hbr
      go_wp2_with fail
      refine (ScriptRef.right_any a b _).mono ?_
      rintro e w4 ⟨rfl, hb4⟩
      have HB4 := Lib.hid (bmore HBk.out HBk.out.size hb4)
      clear hb4
      have kr0 := (HB4.out.cell (p := ⟨w.heap.size, 0, none⟩) hS3).trans c0'
      have kr1 := (HB4.out.cell (p := ⟨w.heap.size, 1, none⟩) hS3).trans c1'
      clear c0' c1' hcr0 hcr1
      have hT : ∀ w5, Below w4.heap.size w4 w5 → Hid (Below w3.heap.size w3 w5) := fun w5 hb => bmore HB4.out HB4.out.size hb
      have HT5 := Lib.hid hT
      clear hT
      rcases HW.out with ⟨hR, rfl, rfl⟩ | ⟨hR, rfl, rfl⟩
      · rw [hR]
        have HRR := Lib.hid hR
        clear hR
        go_wp2_with fail
        refine (ScriptRef.write_yes a b HRR.out _).mono ?_
        rintro e w5 ⟨rfl, hb5⟩
        have HB5 := HT5.out w5 hb5
        clear hb5
        go_wp2_with fail
        refine (ScriptRef.time_any A k c zs hn _ ((HR3.out.below HB5.out).more HB5.out.size) HZ.out).mono ?_
        rintro e w6 ⟨ht2, hb6⟩
        have HB6 := Lib.hid (bthen HB0.out (bthen HB3.out (bmore HB5.out HB5.out.size hb6)))
        clear hb6
        rcases ht2 with ⟨t, h, _, _, rfl⟩ | ⟨h, rfl⟩
        · rcases HT.out with ⟨h2, rfl⟩ | ⟨h2, _⟩
          · obtain rfl := Option.some.inj (h.symm.trans h2)
            clear h h2
            go_wp2_with fail
            go_ret
            exact ⟨rfl, HB6.out⟩
          · rw [h] at h2; cases h2
        · rcases HT.out with ⟨h2, rfl⟩ | ⟨h2, rfl, rfl⟩
          · rw [h] at h2; cases h2
          · clear h h2
            go_wp2_with fail
            go_ret
            exact ⟨rfl, HB6.out⟩
      · rw [hR]
        clear hR
        go_wp2_with fail
        refine (ScriptRef.time_any A k c zs hn _ ((HR3.out.below HB4.out).more HB4.out.size) HZ.out).mono ?_
        rintro e w6 ⟨ht2, hb6⟩
        have HB6 := Lib.hid (bthen HB0.out (bthen HB3.out (bmore HB4.out HB4.out.size hb6)))
        clear hb6
        rcases ht2 with ⟨t, h, _, _, rfl⟩ | ⟨h, rfl⟩
        · rcases HT.out with ⟨h2, rfl⟩ | ⟨h2, _⟩
          · obtain rfl := Option.some.inj (h.symm.trans h2)
            clear h h2
            go_wp2_with fail
            go_ret
            exact ⟨rfl, HB6.out⟩
          · rw [h] at h2; cases h2
        · rcases HT.out with ⟨h2, rfl⟩ | ⟨h2, rfl, rfl⟩
          · rw [h] at h2; cases h2
          · clear h h2
            go_wp2_with fail
            go_ret
            exact ⟨rfl, HB6.out⟩
theorem walk (v a b : Int) (A : Option Addr) (n c : Nat) (zs : List Int) (who : Int) (w : World) (wv : (Lit.int .i64 v).wf = true) (_ : (Lit.int .i64 a).wf = true ∧ (Lit.int .i64 b).wf = true) (wz : ∀ z ∈ zs, (Lit.int .i64 z).wf = true)
    (hr : Reads w w.heap.size 1 A n (zs.map (Value.int .i64))) (hc : n ≤ c ∧ c ≤ maxLen) (_ : (Lit.int .i64 who).wf = true) :
    Calls Try.prog 12 #[.int .i64 v, .agg #[.int .i64 a, .int .i64 b], .slice A n c, .int .i64 who] w fun e w' => e = .returned (.bool true) ∧ Below w.heap.size w w' :=
  walk1 v a b who A n (min n 200) c (zs.take (min n 200)) w (wf_bd wv).1 (wf_bd wv).2 (fun z hz => wf_bd (wz z (List.mem_of_mem_take hz))) rfl hc.1 hc.2 (hr.int_take (Nat.min_le_left _ _))
end scriptTells
end Go.Proofs.Yteejgejeggackaa
