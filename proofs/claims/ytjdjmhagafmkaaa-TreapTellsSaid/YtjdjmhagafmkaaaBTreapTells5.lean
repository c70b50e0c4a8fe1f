/-
 The statement on TreapTells, out of what its printed form comes to: for every input the call returns true, and each argument reads behind it as it read before.
-/
import Derived.Test.YtjdjmhagafmkaaaBTreapTells4
import Derived.Test.YtjdjmhagafmkaaaRows
/-
 TreapTells: the walk, where the tree may be.
-/
namespace Go.Proofs.Ytjdjmhagafmkaaa.PX
open Go.RowKit Go.Proofs.YtjdjmhagafmkaaaW.PrintWords Go.Proofs.YtjdjmhagafmkaaaW.PrintLast Go.Proofs.YtjdjmhagafmkaaaW.PrintMore
namespace TreapP
set_option maxRecDepth 100000 in
set_option maxHeartbeats 4000000 in
theorem tells_key10 (root key : Int) (A : Option Addr) (c : Nat) (l t : List S87) (ht : t = l.take 70) (hc : l.length ≤ c) (w : World) (hC : Kd.C k87 w A l.length l) (k : Nat)
  (p : Int) (zs : List Int) (n : Int) (hF : treap_Find.f root t key = some (0, 4)) (hN : treap_Next.f root t key = some (n, 0)) (hK : treap_Keys.f root t = some (zs, 0)) (hRR : deadboltref08_Right.f k root t = some true) (hTR : treap_Right.f root t = some true) (hKey : deadboltref08_Key.f key = some true) (hTP : treap_Pri.f key = some p) (hA : deadboltlaw08_alive.f k = some true) (hP : deadboltref08_Pri.f key = some p) (hRK : deadboltref08_Keys.f k root t = some zs) (hS : deadboltref08_Same.f k zs zs = some true) (i : Nat) (hi : i < zs.length) (hn : zs[i] = n) (hNI : deadboltref08_Next.f k zs key = some (i : Int)) (hPl : deadboltref08_Place.f k zs key = some (-1)) :
  Calls Try.prog 9 #[.agg #[.int .i64 root, .slice A l.length c], .int .i64 key] w fun e w' => e = .returned (.bool true) ∧ Below w.heap.size w w' := by
 have hx := Bx.new (root := root) hC hc
 have hb0 := (Below.refl w.heap.size w).alloc (Nat.le_refl _) (.cells #[.int .i64 root, .slice A l.length c] 50)
 have hft := few_t root A c l t ht hc
 have hcp : t.length ≤ c := by rw [ht, List.length_take]; omega
 have hct : Kd.C k87 w A t.length t := by rw [ht]; exact C_take hC 70
 clear ht
 have c0 := hx.c0
 have c1 := hx.c1
 have HX := Lib.hid hx
 have HB0 := Lib.hid hb0
 have HC := Lib.hid hC
 have HFT := Lib.hid hft
 clear hx hb0 hC hft
 go_enter Try.func9, Try.ntmps9
 go_wp2_with fail
 clear c0 c1
 have hx := HX.out
 have hb0 := HB0.out
 obtain ⟨W1, hW⟩ : ∃ W, w.alloc (.cells #[.int .i64 root, .slice A l.length c] 50) = W := ⟨_, rfl⟩
 rw [hW] at hx hb0 ⊢
 clear hW
 refine (HFT.out W1).mono ?_
 rintro e w2 ⟨rfl, hb⟩
 have hx2 := hx.box.below hb hx.box.lt
 have hb2 := bthen hb0 hb
 have f2 := fun i => hx2.frozen i
 have q0 : w2.cell? ⟨w.heap.size, 0, none⟩ = some (.int .i64 root) := by rw [hx2.cell]; rfl
 have q1 : w2.cell? ⟨w.heap.size, 1, none⟩ = some (.slice A l.length c) := by rw [hx2.cell]; rfl
 have hx3 := (hx2.set_ 0 (.int .i64 root)).set_ 1 (.slice A t.length c)
 have hb3 := (hb2.setCell (p := ⟨w.heap.size, 0, none⟩) (Nat.le_refl _) (.int .i64 root)).setCell (p := ⟨w.heap.size, 1, none⟩) (Nat.le_refl _) (.slice A t.length c)
 have ht3 : Bx ((w2.setCell ⟨w.heap.size, 0, none⟩ (.int .i64 root)).setCell ⟨w.heap.size, 1, none⟩ (.slice A t.length c)) w.heap.size root A c t := ⟨hx3, Kd.C_below hct hb3, hcp⟩
 have r0 := ht3.c0
 have r1 := ht3.c1
 have HT3 := Lib.hid ht3
 have HB3 := Lib.hid hb3
 clear hx hb0 hx2 hb2 hx3 hb3 ht3 hb HX HB0
 go_wp2_with fail
 clear q0 q1 r0 r1 f2
 have ht3 := HT3.out
 have hb3 := HB3.out
 obtain ⟨W2, hW⟩ : ∃ W, (w2.setCell ⟨w.heap.size, 0, none⟩ (.int .i64 root)).setCell ⟨w.heap.size, 1, none⟩ (.slice A t.length c) = W := ⟨_, rfl⟩
 rw [hW] at ht3 hb3 ⊢
 clear hW
 have Ht_0 := Lib.hid ht3
 have HB_0 := Lib.hid hb3
 clear ht3 hb3 HT3 HB3
 refine (treap_Find.calls root _ _ t key 0 4 W2 Ht_0.out.row Ht_0.out.cap hF).mono ?_
 rintro e w3 ⟨rfl, hb⟩
 have Ht_3 := Lib.hid (Ht_0.out.step hb)
 have HB_3 := Lib.hid (bthen HB_0.out hb)
 clear hb
 have ct0_3 := Ht_3.out.c0
 have ct1_3 := Ht_3.out.c1
 go_wp2_with fail
 clear ct0_3 ct1_3
 refine (treap_Next.calls root _ _ t key n 0 w3 Ht_3.out.row Ht_3.out.cap hN).mono ?_
 rintro e w4 ⟨rfl, hb⟩
 have Ht_4 := Lib.hid (Ht_3.out.step hb)
 have HB_4 := Lib.hid (bthen HB_3.out hb)
 clear hb
 have ct0_4 := Ht_4.out.c0
 have ct1_4 := Ht_4.out.c1
 go_wp2_with fail
 clear ct0_4 ct1_4
 refine (treap_Keys.calls root _ _ t  zs 0 w4 Ht_4.out.row Ht_4.out.cap hK).mono ?_
 rintro e w5 ⟨v, rfl, hR, hb⟩
 have Ht_5 := Lib.hid (Ht_4.out.step hb)
 have HB_5 := Lib.hid (bthen HB_4.out hb)
 clear hb
 obtain ⟨Al, cl, rfl, hcl, hCl⟩ := R_open hR
 have Hl_5 : Hid (Li w5 Al cl zs) := ⟨hCl, hcl⟩
 clear hR hCl hcl
 have ct0_5 := Ht_5.out.c0
 have ct1_5 := Ht_5.out.c1
 go_wp2_with fail
 clear ct0_5 ct1_5
 refine (deadboltref08_Right.calls k root _ _ t  true w5 Ht_5.out.row Ht_5.out.cap hRR).mono ?_
 rintro e w6 ⟨rfl, hb⟩
 have Ht_6 := Lib.hid (Ht_5.out.step hb)
 have Hl_6 := Lib.hid (Hl_5.out.step hb)
 have HB_6 := Lib.hid (bthen HB_5.out hb)
 clear hb
 go_wp2_with fail
 refine (deadboltref08_Key.calls key true w6 hKey).mono ?_
 rintro e w7 ⟨rfl, hb⟩
 replace hb := hb.below
 have Ht_7 := Lib.hid (Ht_6.out.step hb)
 have Hl_7 := Lib.hid (Hl_6.out.step hb)
 have HB_7 := Lib.hid (bthen HB_6.out hb)
 clear hb
 go_wp2_with fail
 refine (deadboltref08_Pri.calls key p w7 hP).mono ?_
 rintro e w8 ⟨rfl, hb⟩
 replace hb := hb.below
 have Ht_8 := Lib.hid (Ht_7.out.step hb)
 have Hl_8 := Lib.hid (Hl_7.out.step hb)
 have HB_8 := Lib.hid (bthen HB_7.out hb)
 clear hb
 have ct0_8 := Ht_8.out.c0
 have ct1_8 := Ht_8.out.c1
 go_wp2_with fail
 clear ct0_8 ct1_8
 refine (treap_Right.calls root _ _ t  true w8 Ht_8.out.row Ht_8.out.cap hTR).mono ?_
 rintro e w9 ⟨rfl, hb⟩
 have Ht_9 := Lib.hid (Ht_8.out.step hb)
 have Hl_9 := Lib.hid (Hl_8.out.step hb)
 have HB_9 := Lib.hid (bthen HB_8.out hb)
 clear hb
 go_wp2_with fail
 refine (treap_Pri.calls key p w9 hTP).mono ?_
 rintro e w10 ⟨rfl, hb⟩
 replace hb := hb.below
 have Ht_10 := Lib.hid (Ht_9.out.step hb)
 have Hl_10 := Lib.hid (Hl_9.out.step hb)
 have HB_10 := Lib.hid (bthen HB_9.out hb)
 clear hb
 go_wp2_with fail
 refine (deadboltlaw08_alive.calls k true w10 hA).mono ?_
 rintro e w11 ⟨rfl, hb⟩
 have Ht_11 := Lib.hid (Ht_10.out.step hb)
 have Hl_11 := Lib.hid (Hl_10.out.step hb)
 have HB_11 := Lib.hid (bthen HB_10.out hb)
 clear hb
 have ct0_11 := Ht_11.out.c0
 have ct1_11 := Ht_11.out.c1
 go_wp2_with fail
 clear ct0_11 ct1_11
 refine (deadboltref08_Keys.calls k root _ _ t  zs w11 Ht_11.out.row Ht_11.out.cap hRK).mono ?_
 rintro e w12 ⟨v, rfl, hR, hb⟩
 have Ht_12 := Lib.hid (Ht_11.out.step hb)
 have Hl_12 := Lib.hid (Hl_11.out.step hb)
 have HB_12 := Lib.hid (bthen HB_11.out hb)
 clear hb
 obtain ⟨Am, cm, rfl, hcm, hCm⟩ := R_open hR
 have Hm_12 : Hid (Li w12 Am cm zs) := ⟨hCm, hcm⟩
 clear hR hCm hcm
 go_wp2_with fail
 refine (deadboltref08_Same.calls k _ _ zs _ _ zs true w12 Hl_12.out.row Hl_12.out.cap Hm_12.out.row Hm_12.out.cap hS).mono ?_
 rintro e w13 ⟨rfl, hb⟩
 replace hb := hb.below
 have Ht_13 := Lib.hid (Ht_12.out.step hb)
 have Hl_13 := Lib.hid (Hl_12.out.step hb)
 have Hm_13 := Lib.hid (Hm_12.out.step hb)
 have HB_13 := Lib.hid (bthen HB_12.out hb)
 clear hb
 go_wp2_with fail
 refine (deadboltref08_Key.calls key true w13 hKey).mono ?_
 rintro e w14 ⟨rfl, hb⟩
 replace hb := hb.below
 have Ht_14 := Lib.hid (Ht_13.out.step hb)
 have Hl_14 := Lib.hid (Hl_13.out.step hb)
 have Hm_14 := Lib.hid (Hm_13.out.step hb)
 have HB_14 := Lib.hid (bthen HB_13.out hb)
 clear hb
 go_wp2_with fail
 refine (deadboltref08_Next.calls k _ _ zs key (i : Int) w14 Hm_14.out.row Hm_14.out.cap hNI).mono ?_
 rintro e w15 ⟨rfl, hb⟩
 replace hb := hb.below
 have Ht_15 := Lib.hid (Ht_14.out.step hb)
 have Hl_15 := Lib.hid (Hl_14.out.step hb)
 have Hm_15 := Lib.hid (Hm_14.out.step hb)
 have HB_15 := Lib.hid (bthen HB_14.out hb)
 clear hb
 obtain ⟨ad, hAd, hcell⟩ := Hm_15.out.get hi
 rw [hn] at hcell
 subst hAd
 have dI : decide ((i : Int) < 0) = false := decide_eq_false (by omega)
 go_wp2_with fail
 clear hcell
 refine (deadboltref08_Place.calls k _ _ zs key (-1) w15 Hm_15.out.row Hm_15.out.cap hPl).mono ?_
 rintro e w16 ⟨rfl, hb⟩
 replace hb := hb.below
 have Ht_16 := Lib.hid (Ht_15.out.step hb)
 have Hl_16 := Lib.hid (Hl_15.out.step hb)
 have Hm_16 := Lib.hid (Hm_15.out.step hb)
 have HB_16 := Lib.hid (bthen HB_15.out hb)
 clear hb
 go_wp2_with fail
 go_ret
 exact ⟨rfl, HB_16.out⟩
set_option maxRecDepth 100000 in
set_option maxHeartbeats 4000000 in
theorem tells_key11 (root key : Int) (A : Option Addr) (c : Nat) (l t : List S87) (ht : t = l.take 70) (hc : l.length ≤ c) (w : World) (hC : Kd.C k87 w A l.length l) (k : Nat)
  (p : Int) (zs : List Int) (n : Int) (d : Int) (hF : treap_Find.f root t key = some (d, 0)) (hN : treap_Next.f root t key = some (n, 0)) (hK : treap_Keys.f root t = some (zs, 0)) (hRR : deadboltref08_Right.f k root t = some true) (hTR : treap_Right.f root t = some true) (hKey : deadboltref08_Key.f key = some true) (hTP : treap_Pri.f key = some p) (hA : deadboltlaw08_alive.f k = some true) (hP : deadboltref08_Pri.f key = some p) (hRK : deadboltref08_Keys.f k root t = some zs) (hS : deadboltref08_Same.f k zs zs = some true) (i : Nat) (hi : i < zs.length) (hn : zs[i] = n) (hNI : deadboltref08_Next.f k zs key = some (i : Int)) (j : Int) (hj : 0 ≤ j) (hPl : deadboltref08_Place.f k zs key = some j) (hD : deadboltref08_Depth.f k zs key = some d) :
  Calls Try.prog 9 #[.agg #[.int .i64 root, .slice A l.length c], .int .i64 key] w fun e w' => e = .returned (.bool true) ∧ Below w.heap.size w w' := by
 have hx := Bx.new (root := root) hC hc
 have hb0 := (Below.refl w.heap.size w).alloc (Nat.le_refl _) (.cells #[.int .i64 root, .slice A l.length c] 50)
 have hft := few_t root A c l t ht hc
 have hcp : t.length ≤ c := by rw [ht, List.length_take]; omega
 have hct : Kd.C k87 w A t.length t := by rw [ht]; exact C_take hC 70
 clear ht
 have c0 := hx.c0
 have c1 := hx.c1
 have HX := Lib.hid hx
 have HB0 := Lib.hid hb0
 have HC := Lib.hid hC
 have HFT := Lib.hid hft
 clear hx hb0 hC hft
 go_enter Try.func9, Try.ntmps9
 go_wp2_with fail
 clear c0 c1
 have hx := HX.out
 have hb0 := HB0.out
 obtain ⟨W1, hW⟩ : ∃ W, w.alloc (.cells #[.int .i64 root, .slice A l.length c] 50) = W := ⟨_, rfl⟩
 rw [hW] at hx hb0 ⊢
 clear hW
 refine (HFT.out W1).mono ?_
 rintro e w2 ⟨rfl, hb⟩
 have hx2 := hx.box.below hb hx.box.lt
 have hb2 := bthen hb0 hb
 have f2 := fun i => hx2.frozen i
 have q0 : w2.cell? ⟨w.heap.size, 0, none⟩ = some (.int .i64 root) := by rw [hx2.cell]; rfl
 have q1 : w2.cell? ⟨w.heap.size, 1, none⟩ = some (.slice A l.length c) := by rw [hx2.cell]; rfl
 have hx3 := (hx2.set_ 0 (.int .i64 root)).set_ 1 (.slice A t.length c)
 have hb3 := (hb2.setCell (p := ⟨w.heap.size, 0, none⟩) (Nat.le_refl _) (.int .i64 root)).setCell (p := ⟨w.heap.size, 1, none⟩) (Nat.le_refl _) (.slice A t.length c)
 have ht3 : Bx ((w2.setCell ⟨w.heap.size, 0, none⟩ (.int .i64 root)).setCell ⟨w.heap.size, 1, none⟩ (.slice A t.length c)) w.heap.size root A c t := ⟨hx3, Kd.C_below hct hb3, hcp⟩
 have r0 := ht3.c0
 have r1 := ht3.c1
 have HT3 := Lib.hid ht3
 have HB3 := Lib.hid hb3
 clear hx hb0 hx2 hb2 hx3 hb3 ht3 hb HX HB0
 go_wp2_with fail
 clear q0 q1 r0 r1 f2
 have ht3 := HT3.out
 have hb3 := HB3.out
 obtain ⟨W2, hW⟩ : ∃ W, (w2.setCell ⟨w.heap.size, 0, none⟩ (.int .i64 root)).setCell ⟨w.heap.size, 1, none⟩ (.slice A t.length c) = W := ⟨_, rfl⟩
 rw [hW] at ht3 hb3 ⊢
 clear hW
 have Ht_0 := Lib.hid ht3
 have HB_0 := Lib.hid hb3
 clear ht3 hb3 HT3 HB3
 refine (treap_Find.calls root _ _ t key d 0 W2 Ht_0.out.row Ht_0.out.cap hF).mono ?_
 rintro e w3 ⟨rfl, hb⟩
 have Ht_3 := Lib.hid (Ht_0.out.step hb)
 have HB_3 := Lib.hid (bthen HB_0.out hb)
 clear hb
 have ct0_3 := Ht_3.out.c0
 have ct1_3 := Ht_3.out.c1
 go_wp2_with fail
 clear ct0_3 ct1_3
 refine (treap_Next.calls root _ _ t key n 0 w3 Ht_3.out.row Ht_3.out.cap hN).mono ?_
 rintro e w4 ⟨rfl, hb⟩
 have Ht_4 := Lib.hid (Ht_3.out.step hb)
 have HB_4 := Lib.hid (bthen HB_3.out hb)
 clear hb
 have ct0_4 := Ht_4.out.c0
 have ct1_4 := Ht_4.out.c1
 go_wp2_with fail
 clear ct0_4 ct1_4
 refine (treap_Keys.calls root _ _ t  zs 0 w4 Ht_4.out.row Ht_4.out.cap hK).mono ?_
 rintro e w5 ⟨v, rfl, hR, hb⟩
 have Ht_5 := Lib.hid (Ht_4.out.step hb)
 have HB_5 := Lib.hid (bthen HB_4.out hb)
 clear hb
 obtain ⟨Al, cl, rfl, hcl, hCl⟩ := R_open hR
 have Hl_5 : Hid (Li w5 Al cl zs) := ⟨hCl, hcl⟩
 clear hR hCl hcl
 have ct0_5 := Ht_5.out.c0
 have ct1_5 := Ht_5.out.c1
 go_wp2_with fail
 clear ct0_5 ct1_5
 refine (deadboltref08_Right.calls k root _ _ t  true w5 Ht_5.out.row Ht_5.out.cap hRR).mono ?_
 rintro e w6 ⟨rfl, hb⟩
 have Ht_6 := Lib.hid (Ht_5.out.step hb)
 have Hl_6 := Lib.hid (Hl_5.out.step hb)
 have HB_6 := Lib.hid (bthen HB_5.out hb)
 clear hb
 go_wp2_with fail
 refine (deadboltref08_Key.calls key true w6 hKey).mono ?_
 rintro e w7 ⟨rfl, hb⟩
 replace hb := hb.below
 have Ht_7 := Lib.hid (Ht_6.out.step hb)
 have Hl_7 := Lib.hid (Hl_6.out.step hb)
 have HB_7 := Lib.hid (bthen HB_6.out hb)
 clear hb
 go_wp2_with fail
 refine (deadboltref08_Pri.calls key p w7 hP).mono ?_
 rintro e w8 ⟨rfl, hb⟩
 replace hb := hb.below
 have Ht_8 := Lib.hid (Ht_7.out.step hb)
 have Hl_8 := Lib.hid (Hl_7.out.step hb)
 have HB_8 := Lib.hid (bthen HB_7.out hb)
 clear hb
 have ct0_8 := Ht_8.out.c0
 have ct1_8 := Ht_8.out.c1
 go_wp2_with fail
 clear ct0_8 ct1_8
 refine (treap_Right.calls root _ _ t  true w8 Ht_8.out.row Ht_8.out.cap hTR).mono ?_
 rintro e w9 ⟨rfl, hb⟩
 have Ht_9 := Lib.hid (Ht_8.out.step hb)
 have Hl_9 := Lib.hid (Hl_8.out.step hb)
 have HB_9 := Lib.hid (bthen HB_8.out hb)
 clear hb
 go_wp2_with fail
 refine (treap_Pri.calls key p w9 hTP).mono ?_
 rintro e w10 ⟨rfl, hb⟩
 replace hb := hb.below
 have Ht_10 := Lib.hid (Ht_9.out.step hb)
 have Hl_10 := Lib.hid (Hl_9.out.step hb)
 have HB_10 := Lib.hid (bthen HB_9.out hb)
 clear hb
 go_wp2_with fail
 refine (deadboltlaw08_alive.calls k true w10 hA).mono ?_
 rintro e w11 ⟨rfl, hb⟩
 have Ht_11 := Lib.hid (Ht_10.out.step hb)
 have Hl_11 := Lib.hid (Hl_10.out.step hb)
 have HB_11 := Lib.hid (bthen HB_10.out hb)
 clear hb
 have ct0_11 := Ht_11.out.c0
 have ct1_11 := Ht_11.out.c1
 go_wp2_with fail
 clear ct0_11 ct1_11
 refine (deadboltref08_Keys.calls k root _ _ t  zs w11 Ht_11.out.row Ht_11.out.cap hRK).mono ?_
 rintro e w12 ⟨v, rfl, hR, hb⟩
 have Ht_12 := Lib.hid (Ht_11.out.step hb)
 have Hl_12 := Lib.hid (Hl_11.out.step hb)
 have HB_12 := Lib.hid (bthen HB_11.out hb)
 clear hb
 obtain ⟨Am, cm, rfl, hcm, hCm⟩ := R_open hR
 have Hm_12 : Hid (Li w12 Am cm zs) := ⟨hCm, hcm⟩
 clear hR hCm hcm
 go_wp2_with fail
 refine (deadboltref08_Same.calls k _ _ zs _ _ zs true w12 Hl_12.out.row Hl_12.out.cap Hm_12.out.row Hm_12.out.cap hS).mono ?_
 rintro e w13 ⟨rfl, hb⟩
 replace hb := hb.below
 have Ht_13 := Lib.hid (Ht_12.out.step hb)
 have Hl_13 := Lib.hid (Hl_12.out.step hb)
 have Hm_13 := Lib.hid (Hm_12.out.step hb)
 have HB_13 := Lib.hid (bthen HB_12.out hb)
 clear hb
 go_wp2_with fail
 refine (deadboltref08_Key.calls key true w13 hKey).mono ?_
 rintro e w14 ⟨rfl, hb⟩
 replace hb := hb.below
 have Ht_14 := Lib.hid (Ht_13.out.step hb)
 have Hl_14 := Lib.hid (Hl_13.out.step hb)
 have Hm_14 := Lib.hid (Hm_13.out.step hb)
 have HB_14 := Lib.hid (bthen HB_13.out hb)
 clear hb
 go_wp2_with fail
 refine (deadboltref08_Next.calls k _ _ zs key (i : Int) w14 Hm_14.out.row Hm_14.out.cap hNI).mono ?_
 rintro e w15 ⟨rfl, hb⟩
 replace hb := hb.below
 have Ht_15 := Lib.hid (Ht_14.out.step hb)
 have Hl_15 := Lib.hid (Hl_14.out.step hb)
 have Hm_15 := Lib.hid (Hm_14.out.step hb)
 have HB_15 := Lib.hid (bthen HB_14.out hb)
 clear hb
 obtain ⟨ad, hAd, hcell⟩ := Hm_15.out.get hi
 rw [hn] at hcell
 subst hAd
 have dI : decide ((i : Int) < 0) = false := decide_eq_false (by omega)
 go_wp2_with fail
 clear hcell
 refine (deadboltref08_Place.calls k _ _ zs key j w15 Hm_15.out.row Hm_15.out.cap hPl).mono ?_
 rintro e w16 ⟨rfl, hb⟩
 replace hb := hb.below
 have Ht_16 := Lib.hid (Ht_15.out.step hb)
 have Hl_16 := Lib.hid (Hl_15.out.step hb)
 have Hm_16 := Lib.hid (Hm_15.out.step hb)
 have HB_16 := Lib.hid (bthen HB_15.out hb)
 clear hb
 have dJ : decide (j < 0) = false := decide_eq_false (by omega)
 go_wp2_with fail
 refine (deadboltref08_Depth.calls k _ _ zs key d w16 Hm_16.out.row Hm_16.out.cap hD).mono ?_
 rintro e w17 ⟨rfl, hb⟩
 replace hb := hb.below
 have Ht_17 := Lib.hid (Ht_16.out.step hb)
 have Hl_17 := Lib.hid (Hl_16.out.step hb)
 have Hm_17 := Lib.hid (Hm_16.out.step hb)
 have HB_17 := Lib.hid (bthen HB_16.out hb)
 clear hb
 go_wp2_with fail
 go_ret
 exact ⟨rfl, HB_17.out⟩
end TreapP
end Go.Proofs.Ytjdjmhagafmkaaa.PX

/-
 Which trees may be, and what they tell: the law returns true, whatever tree came in.
-/
namespace Go.Proofs.Ytjdjmhagafmkaaa.PX
open Go.RowKit Treap Go.Proofs.YtjdjmhagafmkaaaW.PrintWords Go.Proofs.YtjdjmhagafmkaaaW.PrintLast Go.Proofs.YtjdjmhagafmkaaaW.PrintMore
namespace TreapP
theorem tells (root key : Int) (A : Option Addr) (c : Nat) (l : List S87) (hc : l.length ≤ c) (w : World) (hC : Kd.C k87 w A l.length l) :
  Calls Try.prog 9 #[.agg #[.int .i64 root, .slice A l.length c], .int .i64 key] w fun e w' => e = .returned (.bool true) ∧ Below w.heap.size w w' := by
 obtain ⟨t, ht⟩ : ∃ t, t = l.take 70 := ⟨_, rfl⟩
 obtain ⟨k, hk⟩ : ∃ k : Nat, k = 10000 := ⟨_, rfl⟩
 have hn : t.length ≤ 1000 := by rw [ht, List.length_take]; omega
 have hRR := refRight_f root t hn k (by omega)
 have hTR := right_t (root := root) hn
 have hKey := refKey_f key
 have hTP : treap_Pri.f key = some (priOf key) := pri_f
 have hA := alive_f k (by omega)
 cases hr : rightB (t.map toNd) root with
 | false =>
  rw [hr] at hRR hTR
  have hm : mayB (t.map toNd) root key = false := by unfold mayB; rw [hr]; rfl
  obtain ⟨h1, h2, _, _⟩ := bad_t hn hm
  have h3 := keys_bad hn hr
  cases hk2 : isKey key with
  | true =>
   rw [hk2] at hKey
   exact tells_bad1 root key A c l t ht hc w hC k (priOf key) h1 h2 h3 hRR hTR hKey hTP hA (refPri_f hk2)
  | false =>
   rw [hk2] at hKey
   have hp : priOf key = -1 := by unfold priOf; rw [if_neg (by rw [hk2]; simp)]
   rw [hp] at hTP
   exact tells_bad2 root key A c l t ht hc w hC k h1 h2 h3 hRR hTR hKey hTP hA
 | true =>
  rw [hr] at hRR hTR
  obtain ⟨h64, hT⟩ := tr_of hr
  obtain ⟨zs, hzs⟩ : ∃ zs, zs = keysL (t.map toNd) root := ⟨_, rfl⟩
  have hRK := refKeys_f root t hn k (by omega) hr
  rw [← hzs] at hT hRK
  have hzl := hT.len
  have hK := hT.all h64
  have hS := same_f zs zs (by omega) k (by omega)
  rw [decide_eq_true rfl] at hS
  cases hk2 : isKey key with
  | false =>
   rw [hk2] at hKey
   have hp : priOf key = -1 := by unfold priOf; rw [if_neg (by rw [hk2]; simp)]
   rw [hp] at hTP
   have hm : mayB (t.map toNd) root key = false := by unfold mayB; rw [hk2, Bool.and_false]
   obtain ⟨h1, h2, _, _⟩ := bad_t hn hm
   exact tells_nokey root key A c l t ht hc w hC k zs h1 h2 hK hRR hTR hKey hTP hA hRK hS
  | true =>
   rw [hk2] at hKey
   have hP := refPri_f hk2
   have hNx := hT.next h64 hk2
   have hNI := refNext_f key zs (by omega) k (by omega)
   have hPl := place_f key zs (by omega) k (by omega)
   rcases nextI_find key zs 0 (by omega) with ⟨e1, e2⟩ | ⟨i, hi, e1, e2⟩
   ·rw [e1] at hNx
    rw [e2] at hNI
    by_cases hin : key ∈ zs
    ·obtain ⟨d, g1, g2, g3⟩ := hT.find h64 hk2 hin
     have hD := depth_f key d g1 (by rw [g2]; exact hT.up) (by rw [g2]; exact hT.key) (by rw [g2]; exact hin) (by rw [g2]; omega) k (by rw [g2]; omega)
     rw [g2] at hD
     exact tells_key01 root key A c l t ht hc w hC k (priOf key) zs _ g3 hNx hK hRR hTR hKey hTP hA hP hRK hS hNI _ ((placeF_iff key zs 0 (by omega)).1 hin) hPl hD
    ·rw [(placeF_iff key zs 0 (by omega)).2 hin] at hPl
     exact tells_key00 root key A c l t ht hc w hC k (priOf key) zs (hT.find_none h64 hk2 hin) hNx hK hRR hTR hKey hTP hA hP hRK hS hNI hPl
   ·rw [e1] at hNx
    rw [e2, Int.zero_add] at hNI
    by_cases hin : key ∈ zs
    ·obtain ⟨d, g1, g2, g3⟩ := hT.find h64 hk2 hin
     have hD := depth_f key d g1 (by rw [g2]; exact hT.up) (by rw [g2]; exact hT.key) (by rw [g2]; exact hin) (by rw [g2]; omega) k (by rw [g2]; omega)
     rw [g2] at hD
     exact tells_key11 root key A c l t ht hc w hC k (priOf key) zs _ _ g3 hNx hK hRR hTR hKey hTP hA hP hRK hS i hi rfl hNI _ ((placeF_iff key zs 0 (by omega)).1 hin) hPl hD
    ·rw [(placeF_iff key zs 0 (by omega)).2 hin] at hPl
     exact tells_key10 root key A c l t ht hc w hC k (priOf key) zs _ (hT.find_none h64 hk2 hin) hNx hK hRR hTR hKey hTP hA hP hRK hS i hi rfl hNI hPl
end TreapP
end Go.Proofs.Ytjdjmhagafmkaaa.PX

/-
 A tree, opened.
-/
namespace Go.Proofs.Ytjdjmhagafmkaaa.PX
open Go.RowKit Go.Proofs.YtjdjmhagafmkaaaW.PrintWords
theorem opensN {H : Type} {enc : TypeId × Value → H} {w : World} : Opens enc Try.prog w 87 k87 (fun _ => True) := by
 intro fuel cs x h
 obtain ⟨a, hk, _⟩ := Opens.struct (g := fun x : S87 => (x.f0, x.f1, x.f2)) Try.underlying87 (by kernel_rfl) (fun x : Int × Int × Int => ⟨x.1, x.2.1, x.2.2⟩) (fun _ => rfl)
  (OpensF.cons rfl (by kernel_rfl) (Opens.int Try.underlying3) rfl (OpensF.cons rfl (by kernel_rfl) (Opens.int Try.underlying3) rfl (OpensF.one rfl (by kernel_rfl) (Opens.int Try.underlying3)))) fuel cs x h
 exact ⟨a, hk, trivial⟩
theorem opensT {H : Type} {enc : TypeId × Value → H} {w : World} : Opens enc Try.prog w 50 k50 (fun _ => True) := by
 intro fuel cs x h
 obtain ⟨a, hk, _⟩ := Opens.struct (g := fun x : S50 => (x.f0, x.f1)) Try.underlying50 (by kernel_rfl) (fun x : Int × List S87 => ⟨x.1, x.2⟩) (fun _ => rfl)
  (OpensF.cons rfl (by kernel_rfl) (Opens.int Try.underlying3) rfl (OpensF.one rfl (by kernel_rfl) (Opens.slice Try.underlying48 (by kernel_rfl) opensN))) fuel cs x h
 exact ⟨a, hk, trivial⟩
theorem of_k {w : World} {P : Array Value → Prop} {cs : List Value} {x : S50} (hK : k50.K w x cs) (h : ∀ A c, x.f1.length ≤ c → Kd.C k87 w A x.f1.length x.f1 → P #[.int .i64 x.f0, .slice A x.f1.length c]) : P cs.toArray := by
 obtain ⟨A, c, rfl, hc, hC⟩ := k50_open hK
 exact h A c hc hC
end Go.Proofs.Ytjdjmhagafmkaaa.PX

/-
 The statement on TreapTells, out of what its printed form comes to: for every input the call returns true, and each argument reads behind it as it read before.
-/
namespace Go.Proofs.Ytjdjmhagafmkaaa.treapTells
open Go.ChangeShapes Go.WideShapes Go.ChangeAt Go.RowKit Go.Proofs.YtjdjmhagafmkaaaW.PrintWords Go.Proofs.Ytjdjmhagafmkaaa.PX
set_option linter.unusedVariables false
theorem own : ownKnob Try.prog.godebug = none := by kernel_rfl
set_option maxRecDepth 100000 in
theorem lifted (os : Os) (started : os.Started) (H : Type) (enc : TypeId × Value → H) :
  ReturnsInHanded {} Try.checked os 9 .any (Rows.treapTellsSpec.pre6 enc Try.prog Try.f9 Rows.treapTellsRow.domain false) (Rows.treapTellsSpec.post enc Try.prog Try.f9 false true false false) := by
 refine returnsInHanded_of_change (C := Try.checked) own started (by kernel_rfl) Try.func9
  (ChangeSpec.witness6 (enc := enc) (C := Try.checked) false ⟨#[], #[.agg #[.int .i64 0, .slice none 0 0], .int .i64 0], []⟩ 8 (by kernel_rfl) (by kernel_rfl) (by kernel_rfl) (by kernel_rfl)) ?_
 intro W base args ds gs before hval0 hW hcnd _
 have hval : ∀ (j : Nat) t v, Try.f9.params[j]? = some t → args[j]? = some v → Value.okWide Try.prog W .any base t v := hval0
 have hW' := hW
 obtain ⟨p, q, hA0, hV, hpq, hfz, hnd⟩ := hW
 have hA : DataW.TrodAll enc Try.prog W 0 (fun _ => true) true Try.f9.params.toList args.toList ds p := hA0
 rw [Try.params9] at hA hval
 obtain ⟨v0, vs0, d0, ds0, p0, q0, hargs, rfl, hp0, h0, r0⟩ := trodAll_cons hA
 obtain ⟨v1, vs1, d1, ds1, p1, q1, rfl, rfl, hp1, h1, r1⟩ := trodAll_cons r0
 obtain ⟨rfl, rfl, _⟩ := trodAll_nil r1
 obtain rfl : args = #[v0, v1] := by cases args; simp_all
 obtain ⟨rfl, _⟩ := trodVars_none hV
 obtain ⟨cs0, x0, rfl, hK0, hw0⟩ := open_K Try.underlying50 opensT (hval 0 50 v0 rfl rfl) h0
 obtain ⟨a1, rfl, _, _, w1⟩ := open_int Try.underlying3 (hval 1 3 v1 rfl rfl) h1
 refine (of_k (P := fun v => Calls Try.prog 9 #[.agg v, .int .i64 a1] W fun e w' => e = .returned (.bool true) ∧ Below W.heap.size W w') hK0 (fun A c hc hC => TreapP.tells x0.f0 a1 A c x0.f1 hc W hC)).mono fun e W' ⟨he, hb⟩ => ?_
 subst he
 exact ⟨_, rfl, law_post (by kernel_rfl) (by kernel_rfl) (by kernel_rfl) Try.underlying4 rfl hW' rfl hb⟩

theorem rowOver : Rows.treapTellsRow.holds Try.pinned (OpenSpec.ofChange Rows.treapTellsSpec) :=
 OpenClaim.holds_of_wide 9 Try.f9 rfl rfl rfl rfl rfl rfl rfl ⟨rfl, rfl, rfl, rfl, rfl⟩ rfl rfl rfl rfl rfl (by kernel_rfl) Try.func9 (by kernel_rfl)
  (of_decide_eq_true (by kernel_rfl)) (by unfold Func.isWrapper; first | (rw [if_pos (by decide +kernel)]; kernel_rfl) | (rw [if_neg (by decide +kernel)]; exact ⟨rfl, rfl⟩))
  (fun os started H enc _ => lifted os started H enc)

theorem proved : Rows.TreapTellsSaid := rowOver
#print axioms proved
end Go.Proofs.Ytjdjmhagafmkaaa.treapTells
