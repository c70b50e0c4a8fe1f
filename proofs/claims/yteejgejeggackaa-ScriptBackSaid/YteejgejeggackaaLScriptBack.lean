/-
  The walk of ScriptBack.
-/
import Derived.Test.YteejgejeggackaaScriptBack
namespace Go.Proofs.Yteejgejeggackaa
open Go.RowKit Go.Shelf
namespace scriptBack
open Script
theorem infoI : (Try.prog.info? 3).map (fun i => (i.zero, i.size, i.bytes)) = some (some (.int .i64 0), 1, 8) := by kernel_rfl
theorem one_ints (zs : List Int) : ∀ u ∈ zs.map (Value.int .i64), u.oneCell' = true := by
  intro u hu
  obtain ⟨z, _, rfl⟩ := List.mem_map.1 hu
  rfl
theorem one_picks (zs : List Int) : ∀ u ∈ zs.flatMap pcells, u.oneCell' = true := by
  intro u hu
  obtain ⟨z, _, h⟩ := List.mem_flatMap.1 hu
  simp [pcells, cells] at h
  rcases h with rfl | rfl <;> rfl
set_option maxRecDepth 100000 in
set_option maxHeartbeats 16000000 in
theorem walk1 (v who : Int) (A1 A2 : Option Addr) (k1 n1 c1 k2 n2 c2 : Nat) (xs ys : List Int) (w : World) (hv0 : -9223372036854775808 ≤ v) (hv1 : v ≤ 9223372036854775807)
    (hzx : ∀ z ∈ xs, -9223372036854775808 ≤ z ∧ z ≤ 9223372036854775807) (hzy : ∀ z ∈ ys, -9223372036854775808 ≤ z ∧ z ≤ 9223372036854775807)
    (hm1 : n1 = min k1 200) (hc1 : k1 ≤ c1) (hx1 : c1 ≤ maxLen) (hr1 : Reads w w.heap.size 1 A1 n1 (xs.map (Value.int .i64)))
    (hm2 : n2 = min k2 200) (hc2 : k2 ≤ c2) (hx2 : c2 ≤ maxLen) (hr2 : Reads w w.heap.size 1 A2 n2 (ys.map (Value.int .i64))) :
    Calls Try.prog 13 #[.int .i64 v, .slice A1 k1 c1, .slice A2 k2 c2, .int .i64 who] w fun e w' => e = .returned (.bool true) ∧ Below w.heap.size w w' := by
  have hn1 : n1 ≤ 200 := by omega
  have hn2 : n2 ≤ 200 := by omega
  have HL1 := Lib.hid hr1.int_len
  have HL2 := Lib.hid hr2.int_len
  have HR1 := Lib.hid hr1
  have HR2 := Lib.hid hr2
  have HZ1 := Lib.hid hzx
  have HZ2 := Lib.hid hzy
  have HM1 := Lib.hid hm1
  have HM2 := Lib.hid hm2
  have HX1 := Lib.hid hx1
  have HX2 := Lib.hid hx2
  obtain ⟨i0, hi, hz0, hz1, hz2⟩ := info_parts infoI
  obtain ⟨j0, hj, jz0, jz1, jz2⟩ := info_parts infoPick
  obtain ⟨hwr, hwr0, hwr1⟩ := pick_wr v
  have hpr := pick_right v
  have hsg := pick_sign v
  obtain ⟨p, hp⟩ : ∃ p, (pick v).1 = p := ⟨_, rfl⟩
  obtain ⟨q, hq⟩ : ∃ q, (pick v).2 = q := ⟨_, rfl⟩
  have hv : Hid (val (pick v) = .agg #[.int .i64 p, .int .i64 q]) := by unfold Hid; rw [val, hp, hq]
  rw [hp, hq] at hwr hwr0 hwr1 hpr
  rw [hp] at hsg
  obtain ⟨x, hx⟩ : ∃ x, wr p q = x := ⟨_, rfl⟩
  rw [hx] at hwr hwr0 hwr1
  have hvx : Hid (val (pick x) = .agg #[.int .i64 p, .int .i64 q]) := by unfold Hid; rw [hwr]; exact hv.out
  have HXW := Lib.hid hx
  have HPR := Lib.hid hpr
  have nq := fun w => pick_neq p q p q w
  have gq := fun x y w => pick_guard .neq x y p q p q w
  have HIA := Lib.hid (And.intro hi (And.intro hz0 (And.intro hz1 hz2)))
  have HJA := Lib.hid (And.intro hj (And.intro jz0 (And.intro jz1 jz2)))
  clear hr1 hr2 hzx hzy hm1 hm2 hx1 hx2 hp hq hwr hx hpr hi hz0 hz1 hz2 hj jz0 jz1 jz2
  go_enter Try.func13, Try.ntmps13
  go_wp2_with fail
  refine (Script.read_any v hv0 hv1 _).mono ?_
  rintro e w1 ⟨rfl, hb1⟩
  rw [hv.out]
  have HB1 := Lib.hid hb1
  go_wp2_with fail
  have hbx := Blk.new w1 69 #[.int .i64 p, .int .i64 q]
  obtain ⟨W0, hW0⟩ : ∃ W0, w1.alloc (.cells #[.int .i64 p, .int .i64 q] 69) = W0 := ⟨_, rfl⟩
  have hB0 : Below w.heap.size w W0 := by rw [← hW0]; exact HB1.out.alloc HB1.out.size _
  have hsw : w.heap.size ≤ w1.heap.size := hb1.size
  rw [hW0] at hbx ⊢
  clear hb1
  have hs0 : w1.heap.size < W0.heap.size := hbx.lt
  have HX := Lib.hid hbx
  have HB0 := Lib.hid hB0
  clear hW0 hB0 hbx HB1
  refine (write_yes p q HPR.out _).mono ?_
  rintro e w2 ⟨rfl, hb2⟩
  rw [HXW.out]
  have c0 : w2.cell? ⟨w1.heap.size, 0, none⟩ = some (.int .i64 p) := (hb2.cell (p := ⟨w1.heap.size, 0, none⟩) hs0).trans (by rw [HX.out.cell]; rfl)
  have c1' : w2.cell? ⟨w1.heap.size, 1, none⟩ = some (.int .i64 q) := (hb2.cell (p := ⟨w1.heap.size, 1, none⟩) hs0).trans (by rw [HX.out.cell]; rfl)
  have hs2 : w1.heap.size < w2.heap.size := Nat.lt_of_lt_of_le hs0 hb2.size
  have HB2 := Lib.hid (bthen HB0.out hb2)
  have hD0 := (Below.refl w2.heap.size w2).drew
  clear hb2
  go_wp2_with fail
  go_region_held3 (fun w' => Below w2.heap.size w2 w' ∧ w'.cell? ⟨w1.heap.size, 0, none⟩ = some (.int .i64 p) ∧ w'.cell? ⟨w1.heap.size, 1, none⟩ = some (.int .i64 q)) (first | exact ⟨hD0, c0, c1'⟩ | exact ⟨by assumption, by assumption, by assumption⟩ | go_keep)
    (first
      | (go_at_call 55; refine (Script.right_any p q _).mono ?_; rintro e w' ⟨rfl, hb⟩; rw [HPR.out]; have hB' := bthen ‹Below w2.heap.size w2 _› hb; have kk0 := (hB'.cell (p := ⟨w1.heap.size, 0, none⟩) hs2).trans c0; have kk1 := (hB'.cell (p := ⟨w1.heap.size, 1, none⟩) hs2).trans c1'; clear hb)
      | (go_at_call 53; refine (Script.read_any x hwr0 hwr1 _).mono ?_; rintro e w' ⟨rfl, hb⟩; rw [hvx.out]; have hB' := bthen ‹Below w2.heap.size w2 _› hb; have kk0 := (hB'.cell (p := ⟨w1.heap.size, 0, none⟩) hs2).trans c0; have kk1 := (hB'.cell (p := ⟨w1.heap.size, 1, none⟩) hs2).trans c1'; clear hb)
      | (go_at_call 59; refine (Script.alive _).mono ?_; rintro e w' ⟨rfl, hb⟩; have hB' := bthen ‹Below w2.heap.size w2 _› hb; have kk0 := (hB'.cell (p := ⟨w1.heap.size, 0, none⟩) hs2).trans c0; have kk1 := (hB'.cell (p := ⟨w1.heap.size, 1, none⟩) hs2).trans c1'; clear hb))
  have HB3 := Lib.hid (bthen HB2.out hB')
  clear hB' kk0 kk1 c0 c1' hD0
  go_wp2_with fail
  refine (few_any A1 k1 c1 _ hc1 HX1.out).mono ?_
  rintro e w3 ⟨rfl, rfl⟩
  rw [← HM1.out]
  go_wp2_with fail
  refine (few_any A2 k2 c2 _ hc2 HX2.out).mono ?_
  rintro e w3 ⟨rfl, rfl⟩
  rw [← HM2.out]
  obtain ⟨W3, hW3⟩ : ∃ W3, w' = W3 := ⟨_, rfl⟩
  subst hW3
  have HR13 := Lib.hid ((HR1.out.below HB3.out).more HB3.out.size)
  have HR23 := Lib.hid ((HR2.out.below HB3.out).more HB3.out.size)
  obtain ⟨hi, hz0, hz1, hz2⟩ := HIA.out
  have hBe := (Below.refl w'.heap.size w').alloc (Nat.le_refl _) (.cells #[] 3)
  have hRe1 := HR13.out.alloc (Nat.le_refl _) (.cells #[] 3)
  go_wp2_with (first | (at_builtin; refine hold ?_) | go_in)
  refine Lib.hid ?_
  refine wpList_append_any _ rfl _ _ 30 rfl w'.heap.size 3 i0 (.int .i64 0) 1 8 Try.underlying30 hi hz0 hz1 hz2 rfl (by decide) _ _ _ rfl (Park.own_empty w' w'.heap.size 3 1 (Nat.le_refl _)) w'.heap.size A1 n1 c1 (xs.map (Value.int .i64)) rfl hRe1 (one_ints xs) (by simp [maxLen]; omega) (by omega) (by simp) ?_
  intro v1 w4 hown1 hg1 _
  have hBB1 := hBe.grown hg1 (by simp) (fun g hg => Nat.le_of_eq (Option.some.inj (show some w'.heap.size = some g from hg)))
  have HO1 := Lib.hid hown1
  have HBB1 := Lib.hid hBB1
  clear hown1 hg1 hBB1 hRe1 hBe
  go_wp2_with (first | (at_builtin; refine hold ?_) | go_in)
  refine Lib.hid ?_
  refine wpList_append_any _ rfl _ _ 30 rfl w'.heap.size 3 i0 (.int .i64 0) 1 8 Try.underlying30 hi hz0 hz1 hz2 rfl (by decide) _ _ _ rfl HO1.out w'.heap.size A2 n2 c2 (ys.map (Value.int .i64)) rfl (HR23.out.below HBB1.out) (one_ints ys) (by simp [maxLen]; omega) (by omega) HBB1.out.size ?_
  intro v2 w5 hown2 hg2 _
  have hBB2 := HBB1.out.grown hg2 HBB1.out.size (fun g hg => (HO1.out.lt g hg).1)
  obtain ⟨Ab, cb, rfl, hrb⟩ := Park.own_reads2 hown2
  have HB5 := Lib.hid (bthen HB3.out hBB2)
  have hnb : 0 + n1 + n2 = n1 + n2 := by omega
  rw [hnb] at hrb ⊢
  have HRb := Lib.hid (show Reads w5 w5.heap.size 1 Ab (n1 + n2) ((xs ++ ys).map (Value.int .i64)) by simpa using hrb)
  have HR15 := Lib.hid ((HR1.out.below HB5.out).more HB5.out.size)
  have HR25 := Lib.hid ((HR2.out.below HB5.out).more HB5.out.size)
  have hzb : ∀ z ∈ xs ++ ys, -9223372036854775808 ≤ z ∧ z ≤ 9223372036854775807 := fun z hz => (List.mem_append.1 hz).elim (HZ1.out z) (HZ2.out z)
  have HZb := Lib.hid hzb
  clear hzb hrb hBB2 hg2 hown2 HO1 HBB1 HR13 HR23 hi hz0 hz1 hz2 HB2
  go_wp2_with fail
  refine (all_any A1 n1 c1 xs (by omega) _ HR15.out HZ1.out).mono ?_
  rintro e w6 ⟨⟨Bx, cx, rfl, hrx, _, _, _⟩, hb6⟩
  rw [HL1.out] at hrx ⊢
  have HRx := Lib.hid hrx
  have HB6 := Lib.hid hb6
  clear hrx hb6
  go_wp2_with fail
  refine (all_any A2 n2 c2 ys (by omega) _ ((HR25.out.below HB6.out).more HB6.out.size) HZ2.out).mono ?_
  rintro e w7 ⟨⟨By, cy, rfl, hry, _, _, _⟩, hb7⟩
  rw [HL2.out] at hry ⊢
  have HRy := Lib.hid hry
  have HB7 := Lib.hid hb7
  have HB57 := Lib.hid (bthen HB6.out hb7)
  clear hry hb7
  go_wp2_with fail
  refine (all_any Ab (n1 + n2) cb (xs ++ ys) (by omega) _ ((HRb.out.below HB57.out).more HB57.out.size) HZb.out).mono ?_
  rintro e w8 ⟨⟨Ba, ca, rfl, hra, hca, hca2, _⟩, hb8⟩
  have hlb : (xs ++ ys).length = n1 + n2 := by rw [List.length_append, HL1.out, HL2.out]
  rw [hlb] at hra hca ⊢
  have HRa := Lib.hid hra
  have HB78 := Lib.hid hb8
  have HB58 := Lib.hid (bthen HB57.out hb8)
  have HRx8 := Lib.hid (((HRx.out.below HB7.out).more HB7.out.size).below HB78.out |>.more HB78.out.size)
  have HRy8 := Lib.hid ((HRy.out.below HB78.out).more HB78.out.size)
  have HR18 := Lib.hid ((HR15.out.below HB58.out).more HB58.out.size)
  have HR28 := Lib.hid ((HR25.out.below HB58.out).more HB58.out.size)
  have HRb8 := Lib.hid ((HRb.out.below HB58.out).more HB58.out.size)
  have HB8 := Lib.hid (bthen HB5.out HB58.out)
  clear hra hb8 HRx HRy HB7 HB57 HB78 HB58 HR15 HR25 HRb HB6 HB5 HB3
  have hsh := Lib.hid (share_append who xs ys)
  have hl1 := share_le who xs
  have hl2 := share_le who ys
  rw [HL1.out] at hl1
  rw [HL2.out] at hl2
  go_wp2_with fail
  refine (share_any Ab (n1 + n2) cb (xs ++ ys) who (by omega) _ HRb8.out HZb.out).mono ?_
  rintro e w9 ⟨rfl, hb9⟩
  rw [hsh.out]
  have HB9 := Lib.hid hb9
  clear hb9 hsh
  go_wp2_with fail
  refine (share_any A1 n1 c1 xs who (by omega) _ ((HR18.out.below HB9.out).more HB9.out.size) HZ1.out).mono ?_
  rintro e w10 ⟨rfl, hb10⟩
  have HB10 := Lib.hid (bthen HB9.out hb10)
  clear hb10
  go_wp2_with fail
  refine (share_any A2 n2 c2 ys who (by omega) _ ((HR28.out.below HB10.out).more HB10.out.size) HZ2.out).mono ?_
  rintro e w11 ⟨rfl, hb11⟩
  have HB11 := Lib.hid (bthen HB10.out hb11)
  clear hb11 HB10 HB9
  obtain ⟨hj, jz0, jz1, jz2⟩ := HJA.out
  have hBe := (Below.refl w11.heap.size w11).alloc (Nat.le_refl _) (.cells #[] 69)
  have hRex := ((HRx8.out.below HB11.out).more HB11.out.size).alloc (Nat.le_refl _) (.cells #[] 69)
  have hRey := ((HRy8.out.below HB11.out).more HB11.out.size)
  go_wp2_with (first | (at_builtin; refine hold ?_) | go_in)
  refine Lib.hid ?_
  refine wpList_append_any _ rfl _ _ 72 rfl w11.heap.size 69 j0 (.agg #[.int .i64 0, .int .i64 0]) 2 16 Try.underlying72 hj jz0 jz1 jz2 rfl (by decide) _ _ _ rfl (Park.own_empty w11 w11.heap.size 69 2 (Nat.le_refl _)) w11.heap.size Bx n1 cx (xs.flatMap pcells) rfl hRex (one_picks xs) (by simp [maxLen]; omega) (by omega) (by simp) ?_
  intro v1 w12 hown1 hg1 _
  have hBB1 := hBe.grown hg1 (by simp) (fun g hg => Nat.le_of_eq (Option.some.inj (show some w11.heap.size = some g from hg)))
  have HO1 := Lib.hid hown1
  have HBB1 := Lib.hid hBB1
  clear hown1 hg1 hBB1 hRex hBe
  go_wp2_with (first | (at_builtin; refine hold ?_) | go_in)
  refine Lib.hid ?_
  refine wpList_append_any _ rfl _ _ 72 rfl w11.heap.size 69 j0 (.agg #[.int .i64 0, .int .i64 0]) 2 16 Try.underlying72 hj jz0 jz1 jz2 rfl (by decide) _ _ _ rfl HO1.out w11.heap.size By n2 cy (ys.flatMap pcells) rfl (hRey.below HBB1.out) (one_picks ys) (by simp [maxLen]; omega) (by omega) HBB1.out.size ?_
  intro v2 w13 hown2 hg2 _
  have hBB2 := HBB1.out.grown hg2 HBB1.out.size (fun g hg => (HO1.out.lt g hg).1)
  obtain ⟨Ac, cc, rfl, hrc⟩ := Park.own_reads2 hown2
  have HB13 := Lib.hid (bthen HB11.out hBB2)
  rw [hnb] at hrc ⊢
  have HRc := Lib.hid (show Reads w13 w13.heap.size 2 Ac (n1 + n2) ((xs ++ ys).flatMap pcells) by simpa using hrc)
  have HRa13 := Lib.hid ((HRa.out.below HB13.out).more HB13.out.size)
  have HR113 := Lib.hid ((HR18.out.below HB13.out).more HB13.out.size)
  have HR213 := Lib.hid ((HR28.out.below HB13.out).more HB13.out.size)
  have HRb13 := Lib.hid ((HRb8.out.below HB13.out).more HB13.out.size)
  have HBw13 := Lib.hid (bthen HB8.out HB13.out)
  have HLB := Lib.hid hlb
  clear hrc hBB2 hg2 hown2 HO1 HBB1 hRey hj jz0 jz1 jz2 HR18 HR28 HRb8 HRx8 HRy8 HRa HB13 HB11 HB8 hlb
  obtain ⟨N, hN⟩ : ∃ N, n1 + n2 = N := ⟨_, rfl⟩
  have hN4 : N ≤ 400 := by omega
  have HN := Lib.hid hN
  rw [hN] at hca ⊢
  rw [hN] at HLB HRc HRa13 HRb13
  clear hN
  go_wp2_with fail
  go_loopw [98] (fun i wr => ∃ k : Nat, k ≤ N ∧ i = .int .i64 k ∧ Below w13.heap.size w13 wr) (fun i _ => N - (intOf i).toNat)
  case atStart => exact ⟨0, Nat.zero_le _, rfl, Below.refl _ _⟩
  case round =>
    obtain ⟨k, hk, rfl, hbr⟩ := hrel
    have HBr := Lib.hid hbr
    clear hbr
    by_cases hlt : k < N
    · obtain ⟨z, hz⟩ : ∃ z, (xs ++ ys)[k]? = some z := ⟨_, List.getElem?_eq_getElem (by rw [HLB.out]; exact hlt)⟩
      obtain ⟨ad1, rfl, hbl1, hd0, hd1⟩ := pair_at (HRc.out.below HBr.out) hlt hz
      obtain ⟨ad2, rfl, hbl2, he0, he1⟩ := pair_at (HRa13.out.below HBr.out) hlt hz
      obtain ⟨p2, hp⟩ : ∃ p, (pick z).1 = p := ⟨_, rfl⟩
      obtain ⟨q2, hq⟩ : ∃ q, (pick z).2 = q := ⟨_, rfl⟩
      rw [hp] at hd0 he0
      rw [hq] at hd1 he1
      have n2' := fun w => pick_neq p2 q2 p2 q2 w
      have g2' := fun x y w => pick_guard .neq x y p2 q2 p2 q2 w
      have hsz := HBr.out.size
      have hbb1 : (ad1.add (k * 2)).block < wr.heap.size := by rw [block_of_add]; omega
      have hbb2 : (ad2.add (k * 2)).block < wr.heap.size := by rw [block_of_add]; omega
      have he0' := (World.cell?_alloc_lt wr (.cells #[.int .i64 p2, .int .i64 q2] 69) (ad2.add (k * 2)) hbb2).trans he0
      have he1' := (World.cell?_alloc_lt wr (.cells #[.int .i64 p2, .int .i64 q2] 69) ⟨(ad2.add (k * 2)).block, (ad2.add (k * 2)).off + 1, none⟩ hbb2).trans he1
      have hk0 : (0 : Int) ≤ k := by omega
      have hk1 : (k : Int) < N := by omega
      clear hp hq hz
      go_wp2_with fail
      go_quiet (fail)
      go_wp2
      go_roundw
      case rel => exact ⟨k + 1, by omega, by go_num, below_drewN (HBr.out.alloc HBr.out.size _) _⟩
      case measure => simp [intOf]; omega
    · obtain rfl : k = N := by omega
      go_wp2_with fail
      refine (time_any A1 n1 c1 xs (by omega) _ ((HR113.out.below HBr.out).more HBr.out.size) HZ1.out).mono ?_
      rintro e w14 ⟨ht1, hb14⟩
      have HB14 := Lib.hid (bmore HBr.out HBr.out.size hb14)
      clear hb14 HBr
      obtain ⟨s, f, rfl, hS⟩ : ∃ s f, e = .returned (.tuple #[.int .i64 s, .int .i64 f]) ∧ ((timeOf xs = some s ∧ f = 0 ∧ 0 ≤ s ∧ s ≤ 4611686018427387904) ∨ (timeOf xs = none ∧ s = 0 ∧ f = 10)) := by
        rcases ht1 with ⟨t, h, h1, h2, he⟩ | ⟨h, he⟩
        · exact ⟨_, _, he, .inl ⟨h, rfl, h1, h2⟩⟩
        · exact ⟨_, _, he, .inr ⟨h, rfl, rfl⟩⟩
      have HS := Lib.hid hS
      clear ht1 hS
      go_wp2_with fail
      refine (time_any A2 n2 c2 ys (by omega) _ ((HR213.out.below HB14.out).more HB14.out.size) HZ2.out).mono ?_
      rintro e w15 ⟨ht2, hb15⟩
      have HB15 := Lib.hid (bmore HB14.out HB14.out.size hb15)
      clear hb15 HB14
      obtain ⟨t, g, rfl, hT⟩ : ∃ s f, e = .returned (.tuple #[.int .i64 s, .int .i64 f]) ∧ ((timeOf ys = some s ∧ f = 0 ∧ 0 ≤ s ∧ s ≤ 4611686018427387904) ∨ (timeOf ys = none ∧ s = 0 ∧ f = 10)) := by
        rcases ht2 with ⟨t, h, h1, h2, he⟩ | ⟨h, he⟩
        · exact ⟨_, _, he, .inl ⟨h, rfl, h1, h2⟩⟩
        · exact ⟨_, _, he, .inr ⟨h, rfl, rfl⟩⟩
      have HT := Lib.hid hT
      clear ht2 hT
      go_wp2_with fail
      refine (time_any Ab k cb (xs ++ ys) (by omega) _ ((HRb13.out.below HB15.out).more HB15.out.size) HZb.out).mono ?_
      rintro e w16 ⟨ht3, hb16⟩
      have HB16 := Lib.hid (bthen HBw13.out (bmore HB15.out HB15.out.size hb16))
      clear hb16 HB15
      have hall : (∃ u, e = .returned (.tuple #[.int .i64 u, .int .i64 0]) ∧ f = 0 ∧ g = 0 ∧ u = s + t ∧ 0 ≤ s ∧ 0 ≤ t ∧ s + t ≤ 4611686018427387904) ∨
          (e = .returned (.tuple #[.int .i64 0, .int .i64 10]) ∧ ((f = 10 ∧ s = 0) ∨ (f = 0 ∧ g = 10 ∧ t = 0 ∧ 0 ≤ s ∧ s ≤ 4611686018427387904) ∨ (f = 0 ∧ g = 0 ∧ 0 ≤ s ∧ s ≤ 4611686018427387904 ∧ 0 ≤ t ∧ t ≤ 4611686018427387904 ∧ 4611686018427387904 - t < s))) := by
        have hta := time_append xs ys (fun t ht => by
          rcases HS.out with ⟨h, _, h1, h2⟩ | ⟨h, _⟩
          · rw [h] at ht; have := Option.some.inj ht; omega
          · rw [h] at ht; cases ht)
        rcases HS.out with ⟨h, rfl, h1, h2⟩ | ⟨h, rfl, rfl⟩
        · rcases HT.out with ⟨g', rfl, g1, g2⟩ | ⟨g', rfl, rfl⟩
          · rw [h, g'] at hta
            simp only [Option.bind_some] at hta
            by_cases hle : s + t ≤ 4611686018427387904
            · rw [if_pos hle] at hta
              rcases ht3 with ⟨u, hu, _, _, he⟩ | ⟨hu, he⟩
              · rw [hta] at hu
                exact .inl ⟨u, he, rfl, rfl, (Option.some.inj hu).symm, h1, g1, hle⟩
              · rw [hta] at hu; cases hu
            · rw [if_neg hle] at hta
              rcases ht3 with ⟨u, hu, _, _, he⟩ | ⟨hu, he⟩
              · rw [hta] at hu; cases hu
              · exact .inr ⟨he, .inr (.inr ⟨rfl, rfl, h1, h2, g1, g2, by omega⟩)⟩
          · rw [h, g'] at hta
            rcases ht3 with ⟨u, hu, _, _, he⟩ | ⟨hu, he⟩
            · rw [hta] at hu; cases hu
            · exact .inr ⟨he, .inr (.inl ⟨rfl, rfl, rfl, h1, h2⟩)⟩
        · rw [h] at hta
          rcases ht3 with ⟨u, hu, _, _, he⟩ | ⟨hu, he⟩
          · rw [hta] at hu; cases hu
          · exact .inr ⟨he, .inl ⟨rfl, rfl⟩⟩
      have HA := Lib.hid hall
      clear hall ht3
      rcases HA.out with ⟨u, rfl, rfl, rfl, rfl, h1, h2, h3⟩ | ⟨rfl, ⟨rfl, rfl⟩ | ⟨rfl, rfl, rfl, h1, h2⟩ | ⟨rfl, rfl, h1, h2, h3, h4, h5⟩⟩
      · go_wp2_with fail
        go_ret
        exact ⟨rfl, HB16.out⟩
      · go_wp2_with fail
        go_ret
        exact ⟨rfl, HB16.out⟩
      · go_wp2_with fail
        go_ret
        exact ⟨rfl, HB16.out⟩
      · go_wp2_with fail
        go_ret
        exact ⟨rfl, HB16.out⟩
theorem walk (v : Int) (A1 : Option Addr) (n1 c1 : Nat) (xs : List Int) (A2 : Option Addr) (n2 c2 : Nat) (ys : List Int) (who : Int) (w : World) (wv : (Lit.int .i64 v).wf = true)
    (wx : ∀ z ∈ xs, (Lit.int .i64 z).wf = true) (hr1 : Reads w w.heap.size 1 A1 n1 (xs.map (Value.int .i64))) (hc1 : n1 ≤ c1 ∧ c1 ≤ maxLen)
    (wy : ∀ z ∈ ys, (Lit.int .i64 z).wf = true) (hr2 : Reads w w.heap.size 1 A2 n2 (ys.map (Value.int .i64))) (hc2 : n2 ≤ c2 ∧ c2 ≤ maxLen) (_ : (Lit.int .i64 who).wf = true) :
    Calls Try.prog 13 #[.int .i64 v, .slice A1 n1 c1, .slice A2 n2 c2, .int .i64 who] w fun e w' => e = .returned (.bool true) ∧ Below w.heap.size w w' :=
  walk1 v who A1 A2 n1 (min n1 200) c1 n2 (min n2 200) c2 (xs.take (min n1 200)) (ys.take (min n2 200)) w (wf_bd wv).1 (wf_bd wv).2 (fun z hz => wf_bd (wx z (List.mem_of_mem_take hz))) (fun z hz => wf_bd (wy z (List.mem_of_mem_take hz)))
    rfl hc1.1 hc1.2 (hr1.int_take (Nat.min_le_left _ _)) rfl hc2.1 hc2.2 (hr2.int_take (Nat.min_le_left _ _))
end scriptBack
end Go.Proofs.Yteejgejeggackaa
