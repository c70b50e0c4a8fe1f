/-
  Texts of this claim, one behind the other: TreapPut, CTreap4, Tr, PXx2, PXx5, CTree, PXx3, PXx4, PXx6, PXx7, CGet, CSet, PXx1, PXx8, PXx9, PRoot, PXx10, PSpots, PXx21, PXx16, PXx22, PXx15, PXx17, PXx23, PXx19, PXx20, PXx24, PXx11, PXx12, PXx13, PXx14, PXx18, PRootRef, PRootGet. All are cut down to the theorems that the claim leans on; those named W.. and PXx.. were written by the kit's print.
-/
import Derived.Test.YtnjnjajgpkmfhaaBSemaGrants2
import Derived.Deep.LoopGhost
import Derived.Deep.RegionLaw
import Derived.RangeFuncNested
import Derived.RangeFuncBound
import Derived.RangeFuncCalls
import Derived.RangeFuncLeaves
import Derived.RangeFuncBox
import Derived.Shelf.Abstract
import Derived.Shelf.RegionOpen
import Derived.OwnWalkIn
import Derived.TacticsInMore
import Derived.LoopNIn
import Derived.LoopIn
/-
 The contract of treap.Put.
-/
namespace Go.Proofs.Ytnjnjajgpkmfhaa
open Go.RowKit
namespace Treap
/-- What treap.Put and treap.Del leave. -/
def Handed (s : List Nd × Int) (er : Int) (w : World) (e : Ending) (w' : World) : Prop := ∃ (A' : Option Addr) (c' : Nat), e = .returned (.tuple #[.agg #[.int .i64 s.2, .slice A' s.1.length c'], .int .i64 er]) ∧ w'.ownsRow w.heap.size 87 3 (.slice A' s.1.length c') s.1.length (s.1.flatMap cells) ∧ Below w.heap.size w w'
theorem appended {w4 w5 : World} {B U n c4 c5 : Nat} {root key : Int} {ns : List Nd} {A4 A5 : Option Addr} (hU : Blk w4 U 70 #[.int .i64 root, .slice A4 n c4]) (hown : w4.ownsRow B 87 3 (.slice A4 n c4) n (ns.flatMap cells)) (hne : (Value.slice A4 n c4).ownBlock ≠ some U)
  (hg : (w4.alloc (.cells #[.int .i64 key, .int .i64 (-1), .int .i64 (-1)] 87)).drew.grownBy w5 (Value.slice A4 n c4).ownBlock) (h5 : w5.ownsRow B 87 3 (.slice A5 (n + 1) c5) (n + 1) (ns.flatMap cells ++ [.int .i64 key, .int .i64 (-1), .int .i64 (-1)]))
  (hb : (Value.slice A5 (n + 1) c5).ownBlock = (Value.slice A4 n c4).ownBlock ∨ (Value.slice A5 (n + 1) c5).ownBlock = some (w4.alloc (.cells #[.int .i64 key, .int .i64 (-1), .int .i64 (-1)] 87)).drew.heap.size) (hBU : B ≤ U) :
  ∃ ad, A5 = some ad ∧ TR (w5.setCell ⟨U, 1, none⟩ (.slice A5 (n + 1) c5)) B U ad (n + 1) c5 root (ns ++ [⟨key, -1, -1⟩]) := by
 have hl : ns.length = n := by have := hown.1; rw [flat_len cells 3 cells_len] at this; omega
 obtain ⟨ad, rfl⟩ : ∃ ad, A5 = some ad := by
  rcases h5.2 with ⟨h0, _⟩ | ⟨g, cap, cur, hv, _⟩
  ·cases h0
  ·injection hv with a; exact ⟨_, a⟩
 have e : (ns ++ [⟨key, -1, -1⟩] : List Nd).flatMap cells = ns.flatMap cells ++ [.int .i64 key, .int .i64 (-1), .int .i64 (-1)] := by rw [List.flatMap_append]; rfl
 rw [← e] at h5
 obtain ⟨h1, h2, h3⟩ := RowIs.of_own (by simp [hl]) h5
 have hUlt := hU.lt
 have hne5 : ad.block ≠ U := by
  have ho : (Value.slice (some ad) (n + 1) c5).ownBlock = some ad.block := by rw [h3]; rfl
  rw [ho] at hb
  rcases hb with hb | hb
  ·rintro rfl
   exact hne hb.symm
  ·have hs : (w4.alloc (.cells #[.int .i64 key, .int .i64 (-1), .int .i64 (-1)] 87)).drew.heap.size = w4.heap.size + 1 := by show (w4.alloc _).heap.size = _; simp
   rw [hs] at hb
   have := Option.some.inj hb
   omega
 have hU5 : Blk w5 U 70 #[.int .i64 root, .slice A4 n c4] := (hU.alloc _).drew.grown hg (fun e => hne e.symm)
 exact ⟨ad, rfl, hU5.set_ 1 _, h1.block (Below.heap_setCell w5 ⟨U, 1, none⟩ _ ad.block hne5), h3, hne5, hBU, h2⟩
theorem via_cont {α β γ : Type} {F C : α → β → γ → Prop} {G : Prop} (h1 : (∀ a b c, F a b c → C a b c) → G) (h2 : ∀ a b c, F a b c → C a b c) : G := h1 h2
theorem infoT : (Try.prog.info? 70).map (·.size) = some 2 := by kernel_rfl
theorem results_tree {fn : Func} {p u : Tmp} (h : fn.results = #[.cell p 70, .tmp u]) (tmps : Array Value) (w : World) (g : Nat) (a b : Value)
  (hp : tmps.getD p undef = .pointer (some ⟨g, 0, none⟩)) (hg : Blk w g 70 #[a, b]) :
  (results fn tmps).run Try.prog w = .ok (.tuple #[.agg #[a, b], tmps.getD u undef]) w := by
 have hp' : tmps[p]?.getD undef = .pointer (some ⟨g, 0, none⟩) := by simpa using hp
 simp [results, h, hp', asAddr, run_loadVar_row w g 70 70 #[a, b] (0, 0) _ hg Try.underlying70 rfl infoT]
set_option maxRecDepth 100000 in
set_option maxHeartbeats 4000000 in
theorem put_any (root key : Int) (ns : List Nd) (A : Option Addr) (n c : Nat) (hn : n ≤ 1000) (r : (List Nd × Int) × Int) (w : World) (hr : Reads w w.heap.size 3 A n (ns.flatMap cells)) (hf : putF ns root key = some r) :
  Calls Try.prog 67 #[.agg #[.int .i64 root, .slice A n c], .int .i64 key] w (Handed r.1 r.2 w) := by
 have hl : ns.length = n := by have := hr.1; rw [flat_len cells 3 cells_len] at this; omega
 obtain ⟨i0, hi, hz0, hz1, hz2⟩ := info_parts infoN3
 have hT := ((Blk.new w 70 #[.int .i64 root, .slice A n c]).alloc (.cells #[.int .i64 key] 3)).alloc (.cells #[.int .i64 0, .slice none 0 0] 70)
 have hK := (Blk.new (w.alloc (.cells #[.int .i64 root, .slice A n c] 70)) 3 #[.int .i64 key]).alloc (.cells #[.int .i64 0, .slice none 0 0] 70)
 have hRc := Blk.new ((w.alloc (.cells #[.int .i64 root, .slice A n c] 70)).alloc (.cells #[.int .i64 key] 3)) 70 #[.int .i64 0, .slice none 0 0]
 have hb0 := (((Below.refl w.heap.size w).alloc (Nat.le_refl _) (.cells #[.int .i64 root, .slice A n c] 70)).alloc (by simp) (.cells #[.int .i64 key] 3)).alloc (by simp; omega) (.cells #[.int .i64 0, .slice none 0 0] 70)
 rw [World.size_alloc] at hK
 rw [World.size_alloc, World.size_alloc] at hRc
 have HB0 := Lib.hid hb0
 have HT := Lib.hid hT
 have HKb := Lib.hid hK
 have HRc := Lib.hid hRc
 have HR := Lib.hid hr
 have HL := Lib.hid hl
 have HF := Lib.hid hf
 clear hT hb0 hr hl hf hK hRc
 go_enter Try.func67, Try.ntmps67
 go_wp2_with fail
 obtain ⟨w0, hw0⟩ : ∃ W, ((w.alloc (.cells #[.int .i64 root, .slice A n c] 70)).alloc (.cells #[.int .i64 key] 3)).alloc (.cells #[.int .i64 0, .slice none 0 0] 70) = W := ⟨_, rfl⟩
 rw [hw0] at HB0 HT HKb HRc ⊢
 clear hw0
 refine (may_any root key ns A n c hn w0 ((HR.out.below HB0.out).more HB0.out.size)).mono ?_
 rintro e w1 ⟨rfl, hb1⟩
 have HB1 := Lib.hid (bthen HB0.out hb1)
 have HT1 := Lib.hid (HT.out.below hb1 HT.out.lt)
 have HK1 := Lib.hid (HKb.out.below hb1 HKb.out.lt)
 have hRc1 := HRc.out.below hb1 HRc.out.lt
 have HRc1 := Lib.hid hRc1
 have f0 := fun i => hRc1.frozen i
 have r0 : w1.cell? ⟨w.heap.size + 1 + 1, 0, none⟩ = some (.int .i64 0) := by rw [hRc1.cell]; rfl
 have r1 : w1.cell? ⟨w.heap.size + 1 + 1, 1, none⟩ = some (.slice none 0 0) := by rw [hRc1.cell]; rfl
 clear hRc1
 cases hm : mayB ns root key with
 | false =>
  have hf := HF.out
  unfold putF at hf
  rw [if_pos hm] at hf
  obtain rfl := Option.some.inj hf
  clear hm hb1 hf
  go_wp2_with fail
  have hz := (HRc1.out.set_ 0 (.int .i64 0)).set_ 1 (.slice none 0 0)
  have hB2 := (HB1.out.setCell (p := ⟨w.heap.size + 1 + 1, 0, none⟩) (by show w.heap.size ≤ w.heap.size + 1 + 1; omega) (.int .i64 0)).setCell (p := ⟨w.heap.size + 1 + 1, 1, none⟩) (by show w.heap.size ≤ w.heap.size + 1 + 1; omega) (.slice none 0 0)
  refine bodyPost_ret (results_tree (p := 4) (u := 5) (by kernel_rfl) _ _ _ _ _ rfl hz) rfl ?_
  exact ⟨none, 0, rfl, World.ownsRow_nil _ _ _ _, hB2⟩
 | true =>
  have hf := HF.out
  unfold putF at hf
  rw [if_neg (by rw [hm]; simp)] at hf
  have h64 := right_few hm
  cases hs : seekF (goOther key) key ns root (ns.length + 1) .root with
  | none => rw [hs] at hf; cases hf
  | some q =>
   obtain ⟨l, d, xs⟩ := q
   rw [hs] at hf
   have HF2 := Lib.hid hf
   have HS := Lib.hid hs
   have HRW := Lib.hid ((HR.out.below HB1.out).more HB1.out.size)
   have k0 : w1.cell? ⟨w.heap.size + 1, 0, none⟩ = some (.int .i64 key) := by rw [HK1.out.cell]; rfl
   have hs1 : w.heap.size + 1 < w1.heap.size := HK1.out.lt
   have hT1l := HT1.out.lt
   clear hm hb1 hf hs
   go_wp2_with fail
   have hD0 := (Below.refl w1.heap.size w1).drew
   go_region_held3 (fun w' => Below w1.heap.size w1 w' ∧ w'.cell? ⟨w.heap.size + 1, 0, none⟩ = some (.int .i64 key)) (first | exact ⟨hD0, k0⟩ | exact ⟨by assumption, by assumption⟩)
    (first
     | (go_at_call 70; refine (other_any key _).mono ?_; rintro e w2 ⟨rfl, hw2⟩; have hKq := Blk.new w1.drew 3 #[.int .i64 key]; have hB2 := hD0.alloc (Nat.le_refl _) (.cells #[.int .i64 key] 3); have k2 := (hB2.cell (p := ⟨w.heap.size + 1, 0, none⟩) hs1).trans k0; rw [hw2] at hKq hB2 k2; clear hw2)
     | (go_at_call 69; refine (seek_any (onOther w1.heap.size key) () key root ns A n c w1.heap.size w.heap.size (ns.length + 1) l d xs (by have := HL.out; omega) w2 (HT1.out.below hB2 hT1l) (HRW.out.below hB2) hB2.size (fun h => Nat.ne_of_lt hT1l h) (fun ad hA h0 h => by
       obtain ⟨ad', hA', hb, _⟩ := HRW.out.2 h0
       rw [hA] at hA'
       obtain rfl := Option.some.inj hA'
       exact Nat.ne_of_lt hb h) hKq HS.out).mono ?_; rintro e w3 ⟨rfl, hlk, _, hkp⟩; have hB3 := hB2.trans (hkp.below_ hB2.size (fun k hk => Nat.le_of_eq (show w1.heap.size = k from hk.symm))); have k3 := (hB3.cell (p := ⟨w.heap.size + 1, 0, none⟩) hs1).trans k0; clear hkp))
   rename_i hHeld
   have hb3 := bthen HB1.out hB3
   have HB3 := Lib.hid hb3
   have HT3 := Lib.hid (HT1.out.below hB3 hT1l)
   have HK3 := Lib.hid (HK1.out.below hB3 hs1)
   have hRc3 := HRc1.out.below hB3 HRc1.out.lt
   have HRc3 := Lib.hid hRc3
   have cl := link_at HT3.out (HR.out.below hb3) hlk
   have cT0 : w3.cell? ⟨w.heap.size, 0, none⟩ = some (.int .i64 root) := by rw [HT3.out.cell]; rfl
   have cT1 : w3.cell? ⟨w.heap.size, 1, none⟩ = some (.slice A n c) := by rw [HT3.out.cell]; rfl
   have f3 := fun i => hRc3.frozen i
   have q0 : w3.cell? ⟨w.heap.size + 1 + 1, 0, none⟩ = some (.int .i64 0) := by rw [hRc3.cell]; rfl
   have q1 : w3.cell? ⟨w.heap.size + 1 + 1, 1, none⟩ = some (.slice none 0 0) := by rw [hRc3.cell]; rfl
   obtain ⟨p, hp⟩ : ∃ p, lkA w.heap.size A l = p := ⟨_, rfl⟩
   rw [hp] at cl ⊢
   clear hHeld hb3 hRc3 hp hB3 hB2 hKq k2 hD0 hlk f0 r0 r1 k0 hs1 hT1l
   by_cases h1 : lget ns root l = -1
   ·have hf := HF2.out
    simp only [h1, ne_eq, not_true_eq_false, if_false] at hf
    rw [h1] at cl
    by_cases h6 : n = 64
    ·rw [if_pos (by rw [HL.out]; exact h6)] at hf
     obtain rfl := Option.some.inj hf
     subst h6
     clear hf h1 HF HF2
     go_wp2_with fail
     have hz := (HRc3.out.set_ 0 (.int .i64 0)).set_ 1 (.slice none 0 0)
     have hB2 := (HB3.out.setCell (p := ⟨w.heap.size + 1 + 1, 0, none⟩) (by show w.heap.size ≤ w.heap.size + 1 + 1; omega) (.int .i64 0)).setCell (p := ⟨w.heap.size + 1 + 1, 1, none⟩) (by show w.heap.size ≤ w.heap.size + 1 + 1; omega) (.slice none 0 0)
     refine bodyPost_ret (results_tree (p := 4) (u := 5) (by kernel_rfl) _ _ _ _ _ rfl hz) rfl ?_
     exact ⟨none, 0, rfl, World.ownsRow_nil _ _ _ _, hB2⟩
    ·rw [if_neg (by rw [HL.out]; exact h6)] at hf
     have d6 : ((n : Int) == 64) = false := beq_eq_false_iff_ne.2 (by omega)
     cases hs2 : seekF (goHeavy key) key (ns ++ [⟨key, -1, -1⟩]) root (ns.length + 2) .root with
     | none => rw [hs2] at hf; cases hf
     | some q2 =>
      obtain ⟨m, d2, xs2⟩ := q2
      rw [hs2] at hf
      have HS2 := Lib.hid hs2
      cases hsp : splitF key (ns.length + 2) (lset (ns ++ [⟨key, -1, -1⟩], root) m ns.length) (lget (ns ++ [⟨key, -1, -1⟩]) root m) (.left ns.length) (.right ns.length) with
      | none => simp only [hsp] at hf; cases hf
      | some s =>
       simp only [hsp] at hf
       obtain rfl := Option.some.inj hf
       have HSP := Lib.hid hsp
       clear hf h1 h6 hs2 hsp HF HF2
       go_wp2_with fail
       refine (own_any root ns A n c hn w3 ((HR.out.below HB3.out).more HB3.out.size)).mono ?_
       rintro e w4 ⟨U, A4, c4, rfl, hU0, hU, hown, hb4⟩
       have hne4 : (Value.slice A4 n c4).ownBlock ≠ some U := own_blk_ne hown hU (by decide)
       have HB4 := Lib.hid (bthen HB3.out hb4)
       have hK4 := HK3.out.below hb4 HK3.out.lt
       have HK4 := Lib.hid hK4
       have HRc4 := Lib.hid (HRc3.out.below hb4 HRc3.out.lt)
       have HU := Lib.hid hU
       have HOWN := Lib.hid hown
       have HNE4 := Lib.hid hne4
       have HNR : Hid (some (w.heap.size + 1 + 1) ≠ (Value.slice A4 n c4).ownBlock) := fun e => by have := (hown.lt _ e.symm).1; have := HRc3.out.lt; omega
       have HKU : Hid (w.heap.size + 1 ≠ U) := by unfold Hid; have := HK3.out.lt; omega
       have HRU : Hid (w.heap.size + 1 + 1 ≠ U) := by unfold Hid; have := HRc3.out.lt; omega
       have HNK : Hid (some (w.heap.size + 1) ≠ (Value.slice A4 n c4).ownBlock) := fun e => by have := (hown.lt _ e.symm).1; have := HK3.out.lt; omega
       have k4 : w4.cell? ⟨w.heap.size + 1, 0, none⟩ = some (.int .i64 key) := by rw [hK4.cell]; rfl
       have k4a : ∀ o, (w4.alloc o).cell? ⟨w.heap.size + 1, 0, none⟩ = some (.int .i64 key) := fun o => by rw [(hK4.alloc o).cell]; rfl
       have u4 : w4.cell? ⟨U, 1, none⟩ = some (.slice A4 n c4) := by rw [hU.cell]; rfl
       have u4a : ∀ o, (w4.alloc o).cell? ⟨U, 1, none⟩ = some (.slice A4 n c4) := fun o => by rw [(hU.alloc o).cell]; rfl
       have hc1 := Reads.of_blk (n := 1) (size := 3) (Blk.new w4 87 #[.int .i64 key, .int .i64 (-1), .int .i64 (-1)]) rfl
       have hc2 := World.ownsRow.alloc hown (.cells #[.int .i64 key, .int .i64 (-1), .int .i64 (-1)] 87)
       have g1 : Hid (∀ u ∈ [Value.int .i64 key, .int .i64 (-1), .int .i64 (-1)], u.oneCell' = true) := by intro u hu; simp at hu; rcases hu with rfl | rfl <;> rfl
       have g2 : Hid (n + 1 ≤ maxLen) := by unfold Hid; simp [maxLen]; omega
       have g3 : Hid ((n + 1) * 24 ≤ 140737488355328) := by unfold Hid; omega
       have g4 : Hid (w3.heap.size ≤ (w4.alloc (.cells #[.int .i64 key, .int .i64 (-1), .int .i64 (-1)] 87)).heap.size) := by unfold Hid; have := hb4.size; simp; omega
       have HSZ : Hid (w3.heap.size ≤ w4.heap.size) := hb4.size
       clear hU hown hne4 hb4 hK4 cl cT0 cT1 f3 q0 q1
       go_wp2_with fail
       apply via_cont (F := fun (w5 : World) (A5 : Option Addr) (c5 : Nat) => w5.ownsRow w3.heap.size 87 3 (.slice A5 (n + 1) c5) (n + 1) (ns.flatMap cells ++ [.int .i64 key, .int .i64 (-1), .int .i64 (-1)]) ∧ (w4.alloc (.cells #[.int .i64 key, .int .i64 (-1), .int .i64 (-1)] 87)).drew.grownBy w5 (Value.slice A4 n c4).ownBlock ∧ ((Value.slice A5 (n + 1) c5).ownBlock = (Value.slice A4 n c4).ownBlock ∨ (Value.slice A5 (n + 1) c5).ownBlock = some (w4.alloc (.cells #[.int .i64 key, .int .i64 (-1), .int .i64 (-1)] 87)).drew.heap.size))
       case h1 =>
        intro CONT
        go_region_law ((refine step_append_any _ (by rfl) _ _ 68 (by rfl) w3.heap.size 87 i0 (.agg #[.int .i64 0, .int .i64 0, .int .i64 0]) 3 24 Try.underlying68 hi hz0 hz1 hz2 rfl (by decide) (.slice A4 n c4) n (ns.flatMap cells) (by rfl) hc2 _ (some ⟨w4.heap.size, 0, none⟩) 1 1 [.int .i64 key, .int .i64 (-1), .int .i64 (-1)] (by rfl) hc1 g1.out g2.out g3.out g4.out ?_; intro v' w5 hown5 hgrow5 hblk5; obtain ⟨A5, c5, rfl, _, _, _⟩ := own_reads3 hown5; have hU5 := (HU.out.alloc (.cells #[.int .i64 key, .int .i64 (-1), .int .i64 (-1)] 87)).drew.grown hgrow5 (fun e => HNE4.out e.symm); have f5 := hU5.frozen 1; have u5 : w5.cell? ⟨U, 1, none⟩ = some (.slice A4 n c4) := by rw [hU5.cell]; rfl))
        all_goals exact CONT w5 A5 c5 ⟨hown5, hgrow5, hblk5⟩
       rintro w5 A5 c5 ⟨hown5, hgrow5, hblk5⟩
       have hap := appended (ns := ns) HU.out HOWN.out HNE4.out hgrow5 hown5 hblk5 hU0
       obtain ⟨ad, rfl, htr⟩ := hap
       have hK6 := ((HK4.out.alloc (.cells #[.int .i64 key, .int .i64 (-1), .int .i64 (-1)] 87)).drew.grown hgrow5 HNK.out).far (p := ⟨U, 1, none⟩) HKU.out (.slice (some ad) (n + 1) c5)
       have hRc6 := ((HRc4.out.alloc (.cells #[.int .i64 key, .int .i64 (-1), .int .i64 (-1)] 87)).drew.grown hgrow5 HNR.out).far (p := ⟨U, 1, none⟩) HRU.out (.slice (some ad) (n + 1) c5)
       have hb6 := (((HB4.out.alloc HB4.out.size (.cells #[.int .i64 key, .int .i64 (-1), .int .i64 (-1)] 87)).drew).grown hgrow5 (by have := HB4.out.size; show w.heap.size ≤ (w4.alloc _).heap.size; simp; omega) (fun g hg => Nat.le_trans HB3.out.size (HOWN.out.lt g hg).1)).setCell (p := ⟨U, 1, none⟩) (Nat.le_trans HB3.out.size hU0) (.slice (some ad) (n + 1) c5)
       obtain ⟨w6, hw6⟩ : ∃ W, w5.setCell ⟨U, 1, none⟩ (.slice (some ad) (n + 1) c5) = W := ⟨_, rfl⟩
       rw [hw6] at htr hK6 hRc6 hb6 ⊢
       have HTR := Lib.hid htr
       have HK6 := Lib.hid hK6
       have HRc6 := Lib.hid hRc6
       have HB6 := Lib.hid hb6
       have k6 : w6.cell? ⟨w.heap.size + 1, 0, none⟩ = some (.int .i64 key) := by rw [hK6.cell]; rfl
       have u6 : w6.cell? ⟨U, 1, none⟩ = some (.slice (some ad) (n + 1) c5) := by rw [htr.box.cell]; rfl
       have hwn : Value.int .i64 (wrap64 (((n + 1 : Nat) : Int) - 1)) = .int .i64 (n : Int) := by congr 1; unfold wrap64; omega
       clear htr hK6 hRc6 hb6 hw6 hown5 hgrow5 hblk5 k4 k4a u4 u4a hc1 hc2 g1 g2 g3 g4 
       go_wp2_with fail
       have hnk : ¬ (onPut (w.heap.size + 1) key).own U := fun h => HKU.out (show U = w.heap.size + 1 from h).symm
       have hnk2 : ¬ (onPut (w.heap.size + 1) key).own ad.block := fun h => by
        have h : ad.block = w.heap.size + 1 := h
        have := HTR.out.loA
        have := HK3.out.lt
        omega
       refine (seek_any (onPut (w.heap.size + 1) key) () key root (ns ++ [(⟨key, -1, -1⟩ : Nd)]) (some ad) (n + 1) c5 w6.heap.size U (ns.length + 2) m d2 xs2 (by have := HL.out; omega) w6 HTR.out.box HTR.out.reads (Nat.le_refl _) hnk (fun ad' hA _ => by
        obtain rfl := Option.some.inj hA
        exact hnk2) HK6.out HS2.out).mono ?_
       rintro e w7 ⟨rfl, hlm, hK7, hkp⟩
       have htr7 := HTR.out.kp hkp hnk hnk2
       have hRc7 := HRc6.out.kp hkp (fun h => by have h : w.heap.size + 1 + 1 = w.heap.size + 1 := h; omega)
       have hb7 := HB6.out.trans (hkp.below_ HB6.out.size (fun k hk => by have hk : k = w.heap.size + 1 := hk; omega))
       have hK7' : Blk w7 (w.heap.size + 1) 3 #[.int .i64 key] := hK7
       have cm := htr7.link hlm
       have fm := htr7.frozen m
       have HTR7 := Lib.hid htr7
       have HRc7 := Lib.hid hRc7
       have HB7 := Lib.hid hb7
       have HK7 := Lib.hid hK7'
       have HLM := Lib.hid hlm
       have u7 : w7.cell? ⟨U, 1, none⟩ = some (.slice (some ad) (n + 1) c5) := by rw [htr7.box.cell]; rfl
       obtain ⟨pm, hpm⟩ : ∃ p, lkA U (some ad) m = p := ⟨_, rfl⟩
       rw [hpm] at cm fm ⊢
       have HPM := Lib.hid hpm
       have hpne : ∀ k, k < w3.heap.size → k ≠ pm.block := fun k hk e => by
        have := HTR.out.lo m
        rw [hpm] at this
        omega
       have HPNE := Lib.hid hpne
       clear hnk hnk2 hkp htr7 hRc7 hb7 hK7 hK7' hpm hlm hpne k6 u6 hwn
       go_wp2_with fail
       have htr8 := HTR7.out.set HLM.out (n : Int)
       rw [HPM.out] at htr8
       have hK8 := HK7.out.far (p := pm) (HPNE.out _ HK3.out.lt) (.int .i64 n)
       have hRc8 := HRc7.out.far (p := pm) (HPNE.out _ HRc3.out.lt) (.int .i64 n)
       have hb8 := HB7.out.setCell (p := pm) (by have := HTR7.out.lo m; rw [HPM.out] at this; exact Nat.le_trans HB3.out.size this) (.int .i64 n)
       obtain ⟨w8, hw8⟩ : ∃ W, w7.setCell pm (.int .i64 n) = W := ⟨_, rfl⟩
       rw [hw8] at htr8 hK8 hRc8 hb8 ⊢
       have u8 : w8.cell? ⟨U, 1, none⟩ = some (.slice (some ad) (n + 1) c5) := by rw [htr8.box.cell]; rfl
       have HTR8 := Lib.hid htr8
       have HK8 := Lib.hid hK8
       have HRc8 := Lib.hid hRc8
       have HB8 := Lib.hid hb8
       clear htr8 hK8 hRc8 hb8 hw8 cm fm u7
       go_quiet (fail)
       obtain ⟨w9, hw9⟩ : ∃ W, w8.drewN nq = W := ⟨_, rfl⟩
       have htr9 := HTR8.out.drewN nq
       have hK9 := HK8.out.drewN nq
       have hRc9 := HRc8.out.drewN nq
       have hb9 := below_drewN HB8.out nq
       rw [hw9] at htr9 hK9 hRc9 hb9 ⊢
       have HTR9 := Lib.hid htr9
       have HK9 := Lib.hid hK9
       have HRc9 := Lib.hid hRc9
       have HB9 := Lib.hid hb9
       have hs9 : w9.heap.size = w8.heap.size := by rw [← hw9]; rfl
       have HKA : Hid (w.heap.size + 1 ≠ ad.block) := by unfold Hid; have := HTR9.out.loA; have := HK3.out.lt; omega
       have HRA : Hid (w.heap.size + 1 + 1 ≠ ad.block) := by unfold Hid; have := HTR9.out.loA; have := HRc3.out.lt; omega
       have HLN : Hid (ns.length = n) := HL.out
       clear htr9 hK9 hRc9 hb9 hw9 u8
       go_wp2_with fail
       go_loopg [12, 13, 14] (ns.length + 2) (fun k v12 v13 v14 wr => ∃ (s' : List Nd × Int) (rest : Int) (l' r' : Lk), v12 = .int .i64 rest ∧ v13 = .pointer (some (lkA U (some ad) l')) ∧ v14 = .pointer (some (lkA U (some ad) r')) ∧ splitF key k s' rest l' r' = some s ∧ lok (n + 1) l' ∧ lok (n + 1) r' ∧ TR wr w3.heap.size U ad (n + 1) c5 s'.2 s'.1 ∧ Kp (fun k => k = U ∨ k = ad.block) w9 wr)
       case atStart => exact ⟨_, _, .left ns.length, .right ns.length, rfl, by rw [HLN.out]; rfl, by rw [HLN.out]; rfl, HSP.out, by show ns.length < n + 1; have := HLN.out; omega, by show ns.length < n + 1; have := HLN.out; omega, by rw [HLN.out]; exact HTR9.out, Kp.refl _ _⟩
       case round =>
        obtain ⟨s', rest, l', r', rfl, rfl, rfl, hsp, hl', hr', htr, hkp⟩ := hrel
        obtain ⟨k, rfl⟩ : ∃ q, gk = q + 1 := ⟨gk - 1, by cases gk with | zero => cases hsp | succ g => rfl⟩
        unfold splitF at hsp
        have hKr := HK9.out.kp hkp (fun h => by rcases h with h | h; exact HKU.out h; exact HKA.out h)
        have hRcr := HRc9.out.kp hkp (fun h => by rcases h with h | h; exact HRU.out h; exact HRA.out h)
        have hbr := HB9.out.trans (hkp.below_ HB9.out.size (fun k hk => by
         have := HB3.out.size
         have := HTR9.out.loU
         have := HTR9.out.loA
         rcases hk with rfl | rfl <;> omega))
        have hlr := htr.len
        have HL' := Lib.hid hl'
        have HR' := Lib.hid hr'
        have HTRr := Lib.hid htr
        have HKP := Lib.hid hkp
        have HKr := Lib.hid hKr
        have HRcr := Lib.hid hRcr
        have HBr := Lib.hid hbr
        have kr : wr.cell? ⟨w.heap.size + 1, 0, none⟩ = some (.int .i64 key) := by rw [hKr.cell]; rfl
        have ur : wr.cell? ⟨U, 1, none⟩ = some (.slice (some ad) (n + 1) c5) := by rw [htr.box.cell]; rfl
        have cl' := htr.link hl'
        have fl' := htr.frozen l'
        have cr' := htr.link hr'
        have fr' := htr.frozen r'
        obtain ⟨pl, hpl⟩ : ∃ p, lkA U (some ad) l' = p := ⟨_, rfl⟩
        obtain ⟨pr, hpr⟩ : ∃ p, lkA U (some ad) r' = p := ⟨_, rfl⟩
        rw [hpl] at cl' fl' ⊢
        rw [hpr] at cr' fr' ⊢
        have HPL := Lib.hid hpl
        have HPR := Lib.hid hpr
        clear hl' hr' htr hkp hKr hRcr hbr hpl hpr
        by_cases h1 : rest = -1
        ·rw [if_pos h1] at hsp
         subst h1
         obtain rfl := Option.some.inj hsp
         have htr2 := HTRr.out.set HL'.out (-1)
         rw [HPL.out] at htr2
         have crq := htr2.link HR'.out
         have frq := htr2.frozen r'
         rw [HPR.out] at crq frq
         have htr3 := htr2.set HR'.out (-1)
         rw [HPR.out] at htr3
         have hbl1 : w3.heap.size ≤ pl.block := by have := HTRr.out.lo l'; rwa [HPL.out] at this
         have hbl2 : w3.heap.size ≤ pr.block := by have := HTRr.out.lo r'; rwa [HPR.out] at this
         have hlt3 := HRc3.out.lt
         have hRc2 := (HRcr.out.far (p := pl) (fun e => by omega) (.int .i64 (-1))).far (p := pr) (fun e => by omega) (.int .i64 (-1))
         have hb2 := (HBr.out.setCell (p := pl) (Nat.le_trans HB3.out.size hbl1) (.int .i64 (-1))).setCell (p := pr) (Nat.le_trans HB3.out.size hbl2) (.int .i64 (-1))
         have x0 : ((wr.setCell pl (.int .i64 (-1))).setCell pr (.int .i64 (-1))).cell? ⟨U, 0, none⟩ = some (.int .i64 (lset (lset s' l' (-1)) r' (-1)).2) := by rw [htr3.box.cell]; rfl
         have x1 : ((wr.setCell pl (.int .i64 (-1))).setCell pr (.int .i64 (-1))).cell? ⟨U, 1, none⟩ = some (.slice (some ad) (n + 1) c5) := by rw [htr3.box.cell]; rfl
         have y0 : ((wr.setCell pl (.int .i64 (-1))).setCell pr (.int .i64 (-1))).cell? ⟨w.heap.size + 1 + 1, 0, none⟩ = some (.int .i64 0) := by rw [hRc2.cell]; rfl
         have y1 : ((wr.setCell pl (.int .i64 (-1))).setCell pr (.int .i64 (-1))).cell? ⟨w.heap.size + 1 + 1, 1, none⟩ = some (.slice none 0 0) := by rw [hRc2.cell]; rfl
         have yf := fun i => hRc2.frozen i
         have HTRz := Lib.hid htr3
         have HRcz := Lib.hid hRc2
         have HBz := Lib.hid hb2
         have HLz : Hid ((lset (lset s' l' (-1)) r' (-1)).1.length = n + 1) := htr3.len
         clear hsp htr2 htr3 hRc2 hb2 hbl1 hbl2 hlt3
         go_wp2_with fail
         have hz := (HRcz.out.set_ 0 (.int .i64 (lset (lset s' l' (-1)) r' (-1)).2)).set_ 1 (.slice (some ad) (n + 1) c5)
         have hB2 := (HBz.out.setCell (p := ⟨w.heap.size + 1 + 1, 0, none⟩) (by show w.heap.size ≤ w.heap.size + 1 + 1; omega) (.int .i64 (lset (lset s' l' (-1)) r' (-1)).2)).setCell (p := ⟨w.heap.size + 1 + 1, 1, none⟩) (by show w.heap.size ≤ w.heap.size + 1 + 1; omega) (.slice (some ad) (n + 1) c5)
         have ht1 := HTRz.out.keep (w' := ((wr.setCell pl (.int .i64 (-1))).setCell pr (.int .i64 (-1))).setCell ⟨w.heap.size + 1 + 1, 0, none⟩ (.int .i64 (lset (lset s' l' (-1)) r' (-1)).2)) (Below.heap_setCell _ ⟨w.heap.size + 1 + 1, 0, none⟩ _ U (fun e => HRU.out e.symm)) (Below.heap_setCell _ ⟨w.heap.size + 1 + 1, 0, none⟩ _ ad.block (fun e => HRA.out e.symm))
         have ht2 := ht1.keep (w' := (((wr.setCell pl (.int .i64 (-1))).setCell pr (.int .i64 (-1))).setCell ⟨w.heap.size + 1 + 1, 0, none⟩ (.int .i64 (lset (lset s' l' (-1)) r' (-1)).2)).setCell ⟨w.heap.size + 1 + 1, 1, none⟩ (.slice (some ad) (n + 1) c5)) (Below.heap_setCell _ ⟨w.heap.size + 1 + 1, 1, none⟩ _ U (fun e => HRU.out e.symm)) (Below.heap_setCell _ ⟨w.heap.size + 1 + 1, 1, none⟩ _ ad.block (fun e => HRA.out e.symm))
         refine bodyPost_ret (results_tree (p := 4) (u := 5) (by kernel_rfl) _ _ _ _ _ rfl hz) rfl ?_
         refine ⟨some ad, c5, ?_, ?_, hB2⟩
         ·rw [HLz.out]; rfl
         ·rw [HLz.out]; exact own_base ht2.own HB3.out.size
        ·rw [if_neg h1] at hsp
         by_cases h2 : rest < 0 ∨ (s'.1.length : Int) ≤ rest
         ·rw [if_pos h2] at hsp; cases hsp
         ·rw [if_neg h2] at hsp
          obtain ⟨i, rfl⟩ : ∃ i : Nat, rest = i := ⟨rest.toNat, by omega⟩
          rw [Int.toNat_natCast] at hsp
          have hin : i < n + 1 := by omega
          have d1 : ((i : Int) != -1) = true := bne_iff_ne.2 h1
          obtain ⟨ad', hA', hbl, n0, n1, n2⟩ := node_at HTRr.out.reads hin
          obtain rfl := Option.some.inj hA'
          have HLR := Lib.hid hlr
          obtain ⟨kx, hkx⟩ : ∃ x, (nd s'.1 i).key = x := ⟨_, rfl⟩
          rw [hkx] at n0 hsp
          have e1 : (⟨(ad.add (i * 3)).block, (ad.add (i * 3)).off + 1, none⟩ : Addr) = lkA U (some ad) (.left i) := rfl
          have e2 : (⟨(ad.add (i * 3)).block, (ad.add (i * 3)).off + 2, none⟩ : Addr) = lkA U (some ad) (.right i) := rfl
          have E1 := Lib.hid e1
          have E2 := Lib.hid e2
          clear h1 h2 hA' hbl hkx hlr e1 e2 n1 n2
          by_cases hk : kx < key
          ·rw [if_pos hk] at hsp
           have dk : decide (kx < key) = true := decide_eq_true hk
           have htr2 : ∀ q, TR ((wr.drewN q).setCell pl (.int .i64 i)) w3.heap.size U ad (n + 1) c5 (lset s' l' i).2 (lset s' l' i).1 := fun q => by
            have := (HTRr.out.drewN q).set HL'.out (i : Int)
            rwa [HPL.out] at this
           have cR : ∀ q, ((wr.drewN q).setCell pl (.int .i64 i)).cell? ⟨(ad.add (i * 3)).block, (ad.add (i * 3)).off + 2, none⟩ = some (.int .i64 (nd (lset s' l' i).1 i).right) := fun q => by
            rw [E2.out]
            exact (htr2 q).link (l := .right i) hin
           have HTR2 := Lib.hid htr2
           have HSPk := Lib.hid hsp
           clear hk htr2 hsp
           go_wp2_with fail
           go_quiet (fail)
           obtain ⟨wq, hwq⟩ : ∃ W, wr.drewN nq = W := ⟨_, rfl⟩
           have cR2 := cR nq
           have htr3 := HTR2.out nq
           have hkp3 := (HKP.out.more (below_drewN (Below.refl wr.heap.size wr) nq)).setCell (p := pl) (.inl (by
            have := lkA_block (U := U) (ad := ad) l'
            rw [HPL.out] at this
            exact this)) (.int .i64 i)
           have clq : (wr.drewN nq).cell? pl = some (.int .i64 (lget s'.1 s'.2 l')) := cl'
           have flq : (wr.drewN nq).frozen? pl = false := fl'
           rw [hwq] at cR2 htr3 hkp3 clq flq ⊢
           have HTR3 := Lib.hid htr3
           have HKP3 := Lib.hid hkp3
           clear cR htr3 hkp3 hwq
           go_wp2_with fail
           go_roundg k
           case measure => omega
           case rel => exact ⟨_, _, .right i, r', rfl, by rw [← E2.out], by rw [← HPR.out], HSPk.out, hin, HR'.out, HTR3.out, HKP3.out⟩
          ·rw [if_neg hk] at hsp
           have dk : decide (kx < key) = false := decide_eq_false hk
           have htr2 : ∀ q, TR ((wr.drewN q).setCell pr (.int .i64 i)) w3.heap.size U ad (n + 1) c5 (lset s' r' i).2 (lset s' r' i).1 := fun q => by
            have := (HTRr.out.drewN q).set HR'.out (i : Int)
            rwa [HPR.out] at this
           have cR : ∀ q, ((wr.drewN q).setCell pr (.int .i64 i)).cell? ⟨(ad.add (i * 3)).block, (ad.add (i * 3)).off + 1, none⟩ = some (.int .i64 (nd (lset s' r' i).1 i).left) := fun q => by
            rw [E1.out]
            exact (htr2 q).link (l := .left i) hin
           have HTR2 := Lib.hid htr2
           have HSPk := Lib.hid hsp
           clear hk htr2 hsp
           go_wp2_with fail
           go_quiet (fail)
           obtain ⟨wq, hwq⟩ : ∃ W, wr.drewN nq = W := ⟨_, rfl⟩
           have cR2 := cR nq
           have htr3 := HTR2.out nq
           have hkp3 := (HKP.out.more (below_drewN (Below.refl wr.heap.size wr) nq)).setCell (p := pr) (.inl (by
            have := lkA_block (U := U) (ad := ad) r'
            rw [HPR.out] at this
            exact this)) (.int .i64 i)
           have clq : (wr.drewN nq).cell? pr = some (.int .i64 (lget s'.1 s'.2 r')) := cr'
           have flq : (wr.drewN nq).frozen? pr = false := fr'
           rw [hwq] at cR2 htr3 hkp3 clq flq ⊢
           have HTR3 := Lib.hid htr3
           have HKP3 := Lib.hid hkp3
           clear cR htr3 hkp3 hwq
           go_wp2_with fail
           go_roundg k
           case measure => omega
           case rel => exact ⟨_, _, l', .left i, rfl, by rw [← HPL.out], by rw [← E1.out], HSPk.out, HL'.out, hin, HTR3.out, HKP3.out⟩
   ·have hf := HF2.out
    simp only [ne_eq, h1, not_false_eq_true, if_true] at hf
    obtain rfl := Option.some.inj hf
    have d1 : (lget ns root l != -1) = true := bne_iff_ne.2 h1
    clear hf h1
    go_wp2_with fail
    have hz := (HRc3.out.set_ 0 (.int .i64 0)).set_ 1 (.slice none 0 0)
    have hB2 := (HB3.out.setCell (p := ⟨w.heap.size + 1 + 1, 0, none⟩) (by show w.heap.size ≤ w.heap.size + 1 + 1; omega) (.int .i64 0)).setCell (p := ⟨w.heap.size + 1 + 1, 1, none⟩) (by show w.heap.size ≤ w.heap.size + 1 + 1; omega) (.slice none 0 0)
    refine bodyPost_ret (results_tree (p := 4) (u := 5) (by kernel_rfl) _ _ _ _ _ rfl hz) rfl ?_
    exact ⟨none, 0, rfl, World.ownsRow_nil _ _ _ _, hB2⟩
end Treap
end Go.Proofs.Ytnjnjajgpkmfhaa

/-
 The contracts of treap's functions, in the form that the printed texts lean on.
-/
namespace Go.Proofs.Ytnjnjajgpkmfhaa.PX
open Go.RowKit Go.Proofs.YtnjnjajgpkmfhaaW.PrintWords Go.Proofs.YtnjnjajgpkmfhaaW.PrintLast Go.Proofs.YtnjnjajgpkmfhaaW.PrintMore

def toNd (x : S87) : Treap.Nd := ⟨x.f0, x.f1, x.f2⟩
def ofNd (x : Treap.Nd) : S87 := ⟨x.key, x.left, x.right⟩
theorem flat_toNd (l : List S87) : (l.map toNd).flatMap Treap.cells = l.flatMap (fun x => Treap.cells (toNd x)) := by
 induction l with
 | nil => rfl
 | cons x l ih => simp [ih]
theorem map_to_of (l : List Treap.Nd) : (l.map ofNd).map toNd = l := by
 rw [List.map_map]
 induction l with
 | nil => rfl
 | cons x l ih => rw [List.map_cons, ih]; rfl
theorem flat_ofNd (l : List Treap.Nd) : (l.map ofNd).flatMap (fun x => Treap.cells (toNd x)) = l.flatMap Treap.cells := by rw [← flat_toNd, map_to_of]
theorem reads_Nd {w : World} {A : Option Addr} {n : Nat} {l : List S87} (h : Kd.C k87 w A n l) : Reads w w.heap.size 3 A n ((l.map toNd).flatMap Treap.cells) := by
 rw [flat_toNd]
 exact reads_of_rows (R := k87.K w) (fun x => Treap.cells (toNd x)) (fun _ => rfl) (by decide) (fun _ _ h => k87_open h) h
theorem kd_Nd {w : World} {base : Nat} {v : Value} {l : List Treap.Nd} (h : w.ownsRow base 87 3 v l.length (l.flatMap Treap.cells)) : Kd.R k87 87 w base (fun _ => True) v (l.map ofNd) := by
 have h2 : w.ownsRow base 87 k87.sz v l.length ((l.map ofNd).flatMap (fun x => Treap.cells (toNd x))) := by rw [flat_ofNd]; exact h
 exact kd_own (d := k87) (fun x => Treap.cells (toNd x)) (fun _ => rfl) (fun _ _ => k87_mkM _ _ _ _) h2 (by simp)

theorem flat_ints (l : List Int) : l.flatMap (fun x => [Value.int .i64 x]) = l.map (Value.int .i64) := by
 induction l with
 | nil => rfl
 | cons x l ih => rw [List.flatMap_cons, ih]; rfl

def treap_Right.f (a0 : Int) (l1 : List S87) : Option Bool := if l1.length ≤ 1000 then some (Treap.rightB (l1.map toNd) a0) else none
def treap_Find.f (a0 : Int) (l1 : List S87) (a2 : Int) : Option (Int × Int) := if l1.length ≤ 1000 then Treap.findF (l1.map toNd) a0 a2 else none
theorem treap_Find.calls (a0 : Int) (A1 : Option Addr) (c1 : Nat) (l1 : List S87) (a2 : Int) (r1 r2 : Int) (w : World) (hr1 : Kd.C k87 w A1 l1.length l1) (_hc1 : l1.length ≤ c1) (h : treap_Find.f a0 l1 a2 = some (r1, r2)) :
  Calls Try.prog 46 #[.agg #[.int .i64 a0, .slice A1 l1.length c1], .int .i64 a2] w fun e w' => e = .returned (.tuple #[.int .i64 r1, .int .i64 r2]) ∧ Below w.heap.size w w' := by
 unfold treap_Find.f at h
 split at h
 ·rename_i hn
  exact Treap.find_any a0 a2 (l1.map toNd) A1 l1.length c1 hn (r1, r2) w (reads_Nd hr1) h
 ·cases h

def treap_Keys.f (a0 : Int) (l1 : List S87) : Option (List Int × Int) := if l1.length ≤ 1000 then some (Treap.keysF (l1.map toNd) a0) else none
def treap_Put.f (a0 : Int) (l1 : List S87) (a2 : Int) : Option (Int × List S87 × Int) := if l1.length ≤ 1000 then (Treap.putF (l1.map toNd) a0 a2).map (fun r => (r.1.2, r.1.1.map ofNd, r.2)) else none
end Go.Proofs.Ytnjnjajgpkmfhaa.PX

/-
 Trees made by one address after the other: the put is told always; of rising addresses the tree has just these.
-/
namespace Go.Proofs.Ytnjnjajgpkmfhaa.PX
open Go.RowKit Go.Proofs.YtnjnjajgpkmfhaaW.PrintWords Go.Proofs.YtnjnjajgpkmfhaaW.PrintLast Go.Proofs.YtnjnjajgpkmfhaaW.PrintMore
open Treap
/-- Whatever tree, whatever key: the put tells something. -/
theorem put_total (ns : List Nd) (root key : Int) : ∃ r, putF ns root key = some r ∧ r.1.1.length ≤ 64 := by
 cases hm : mayB ns root key with
 | false => exact ⟨_, (find_bad hm).2.2.1, by simp⟩
 | true =>
  have hm' : rightB ns root = true ∧ isKey key = true := by simpa [mayB] using hm
  obtain ⟨h64, t, hg⟩ := good_of hm'.1
  by_cases hin : key ∈ t.ins.map (K (ns, root))
  ·exact ⟨_, put_twice hg h64 hm'.2 hin, by simp⟩
  ·rcases Nat.lt_or_eq_of_le h64 with h | h
   ·obtain ⟨s', t', h1, h2, _⟩ := put_good hg h hm'.2 hin
    exact ⟨_, h1, by simp only; have := h2; simp at this; omega⟩
   ·exact ⟨_, put_full hg h hm'.2 hin, by simp⟩
/-- A tree with one address more, whatever comes of it. -/
def putT (st : List Nd × Int) (a : Int) : List Nd × Int := match putF st.1 st.2 a with | some r => r.1 | none => ([], 0)
theorem putT_some (st : List Nd × Int) (a : Int) : ∃ e, putF st.1 st.2 a = some (putT st a, e) ∧ (putT st a).1.length ≤ 64 := by
 obtain ⟨r, h1, h2⟩ := put_total st.1 st.2 a
 refine ⟨r.2, ?_, ?_⟩ <;> (unfold putT; rw [h1])
 exact h2
def treeOf (ks : List Int) : List Nd × Int := ks.foldl putT ([], -1)
theorem treeOf_more (ks : List Int) (a : Int) : treeOf (ks ++ [a]) = putT (treeOf ks) a := by simp [treeOf]
theorem treeOf_len (ks : List Int) : (treeOf ks).1.length ≤ 64 := by
 rcases List.eq_nil_or_concat ks with rfl | ⟨l, a, rfl⟩
 ·simp [treeOf]
 ·rw [List.concat_eq_append, treeOf_more]
  obtain ⟨_, _, h⟩ := putT_some (treeOf l) a
  exact h
/-- Of rising addresses: a tree that may be, of just these. -/
theorem treeOf_good (ks : List Int) (h64 : ks.length ≤ 64) (hk : ∀ a ∈ ks, isKey a = true) (hup : ks.Pairwise (· < ·)) : (treeOf ks).1.length = ks.length ∧ ∃ t : Treap.T, Treap.Good (treeOf ks) t ∧ t.ins.map (K (treeOf ks)) = ks := by
 obtain ⟨n, hn⟩ : ∃ n, ks.length = n := ⟨_, rfl⟩
 induction n generalizing ks with
 | zero =>
  obtain rfl : ks = [] := List.eq_nil_of_length_eq_zero hn
  exact ⟨rfl, .leaf, ⟨rfl, rfl, List.Pairwise.nil, by simp [T.ins], trivial⟩, rfl⟩
 | succ n ih =>
  rcases List.eq_nil_or_concat ks with rfl | ⟨l, a, rfl⟩
  ·simp at hn
  ·rw [List.concat_eq_append] at *
   have hl : l.length = n := by simp at hn; exact hn
   obtain ⟨h1, h2, h3⟩ := List.pairwise_append.1 hup
   obtain ⟨e1, t, hg, ht⟩ := ih l (by simp at h64; omega) (fun x hx => hk x (List.mem_append_left _ hx)) h1 hl
   have hin : a ∉ t.ins.map (K (treeOf l)) := by
    rw [ht]
    intro hx
    have := h3 a hx a (by simp)
    omega
   obtain ⟨s', t', p1, p2, p3, A, B, p4, p5, p6, p7⟩ := put_good hg (by rw [e1]; simp at h64; omega) (hk a (by simp)) hin
   have hput : putT (treeOf l) a = s' := by
    have h : putF (treeOf l).1 (treeOf l).2 a = some (s', 0) := p1
    unfold putT
    rw [h]
   rw [treeOf_more, hput]
   refine ⟨by rw [p2, e1]; simp, t', p3, ?_⟩
   have hAB : A ++ B = l := by rw [← p4]; exact ht
   have hB : B = [] := by
    cases B with
    | nil => rfl
    | cons b B =>
     have hb1 := p7 b (by simp)
     have hb2 := h3 b (by rw [← hAB]; simp) a (by simp)
     omega
   rw [p5, hB]
   rw [hB, List.append_nil] at hAB
   rw [hAB]
end Go.Proofs.Ytnjnjajgpkmfhaa.PX

namespace Go.Proofs.Ytnjnjajgpkmfhaa.PX
open Go.RowKit Go.Proofs.YtnjnjajgpkmfhaaW.PrintWords Go.Proofs.YtnjnjajgpkmfhaaW.PrintLast Go.Proofs.YtnjnjajgpkmfhaaW.PrintMore
attribute [local go_sem] max2_int min2_int max_two min_two max_three min_three max_four min_four   -- for this text's walks alone
set_option linter.unusedVariables false
set_option linter.unusedSimpArgs false

/-! ### root_isAddr: function 45 -/
def root_isAddr.f (a0 : Int) : Option (Bool) := if a0 ≥ 0 then (some (decide (a0 ≤ 4294967295))) else (some false)
set_option maxHeartbeats 8000000 in
set_option maxRecDepth 100000 in
theorem root_isAddr.calls (a0 : Int) (r : Bool) (w : World) (h : root_isAddr.f a0 = some r) :
  Calls Try.prog 45 #[.int .i64 a0] w fun e w' => e = .returned (.bool r) ∧ Drawn0 w w' := by
 have H : (if a0 ≥ 0 then (some (decide (a0 ≤ 4294967295))) else (some false)) = some r := h
 clear h
 by_cases c2 : a0 ≥ 0
 ·rw [if_pos c2] at H
  have c2b0 : decide (0 ≤ a0) = true := decide_eq_true c2
  clear c2
  obtain rfl := Option.some.inj H
  go_enter Try.func45, Try.ntmps45
  go_wp2
  go_ret
  exact ⟨by first | rfl | (simp; done) | (simp [*]; done), by repeat (first | exact Drawn0.refl _ | apply Drawn0.step)⟩
 ·rw [if_neg c2] at H
  have c2b0 : decide (0 ≤ a0) = false := decide_eq_false c2
  clear c2
  obtain rfl := Option.some.inj H
  go_enter Try.func45, Try.ntmps45
  go_wp2
  go_ret
  exact ⟨by first | rfl | (simp; done) | (simp [*]; done), by repeat (first | exact Drawn0.refl _ | apply Drawn0.step)⟩

end Go.Proofs.Ytnjnjajgpkmfhaa.PX

namespace Go.Proofs.Ytnjnjajgpkmfhaa.PX
open Go.RowKit Go.Proofs.YtnjnjajgpkmfhaaW.PrintWords Go.Proofs.YtnjnjajgpkmfhaaW.PrintLast Go.Proofs.YtnjnjajgpkmfhaaW.PrintMore
attribute [local go_sem] max2_int min2_int max_two min_two max_three min_three max_four min_four   -- for this text's walks alone
set_option linter.unusedVariables false
set_option linter.unusedSimpArgs false

/-! ### root_Root: function 14 -/
def root_Root.f (a0 : Int) : Option (Int × Int) := (root_isAddr.f a0).bind fun t120 => (if t120 = true then (some (Int.tmod (a0 / 8) 251, 0)) else (some (0, 1)))
set_option maxHeartbeats 8000000 in
set_option maxRecDepth 100000 in
theorem root_Root.calls (a0 : Int) (r1 : Int) (r2 : Int) (w : World) (h : root_Root.f a0 = some (r1, r2)) :
  Calls Try.prog 14 #[.int .i64 a0] w fun e w' => e = .returned (.tuple #[.int .i64 r1, .int .i64 r2]) ∧ Drawn0 w w' := by
 have H : ((root_isAddr.f a0).bind fun t120 => (if t120 = true then (some (Int.tmod (a0 / 8) 251, 0)) else (some (0, 1)))) = some (r1, r2) := h
 clear h
 replace H := Option.bind_eq_some_iff.mp H
 obtain ⟨t120, A20, H⟩ := H
 replace H : (if t120 = true then (some (Int.tmod (a0 / 8) 251, 0)) else (some (0, 1))) = some (r1, r2) := H
 have A2 := Aside0.mk A20
 clear A20
 by_cases c3 : t120 = true
 ·subst c3
  have H1 : (some (Int.tmod (a0 / 8) 251, 0)) = some (r1, r2) := by rw [if_pos rfl] at H; exact H
  clear H
  have H := H1
  clear H1
  simp only [Option.some.injEq, Prod.mk.injEq] at H
  obtain ⟨rfl, rfl⟩ := H
  go_enter Try.func14, Try.ntmps14
  go_wp2_with (first | ((with_reducible refine gate_callee (f := 45) rfl ?_); refine goesL_ (some 5) rfl rfl Try.func45 (by kernel_rfl) rfl #[.int .i64 a0] rfl zP ?_; (with_reducible refine (root_isAddr.calls a0 true _ A2.out).mono ?_); rintro e w' ⟨rfl, ⟨nd, rfl⟩⟩; refine ⟨_, rfl, ?_⟩))
  go_ret2
  exact ⟨by first | rfl | (simp; done) | (simp [*]; done), by repeat (first | exact Drawn0.refl _ | apply Drawn0.step)⟩
 ·replace c3 := Bool.eq_false_iff.mpr c3
  subst c3
  have H1 : (some (0, 1)) = some (r1, r2) := by rw [if_neg (show ¬ (false = true) by decide)] at H; exact H
  clear H
  have H := H1
  clear H1
  simp only [Option.some.injEq, Prod.mk.injEq] at H
  obtain ⟨rfl, rfl⟩ := H
  go_enter Try.func14, Try.ntmps14
  go_wp2_with (first | ((with_reducible refine gate_callee (f := 45) rfl ?_); refine goesL_ (some 5) rfl rfl Try.func45 (by kernel_rfl) rfl #[.int .i64 a0] rfl zP ?_; (with_reducible refine (root_isAddr.calls a0 false _ A2.out).mono ?_); rintro e w' ⟨rfl, ⟨nd, rfl⟩⟩; refine ⟨_, rfl, ?_⟩))
  go_ret2
  exact ⟨by first | rfl | (simp; done) | (simp [*]; done), by repeat (first | exact Drawn0.refl _ | apply Drawn0.step)⟩

end Go.Proofs.Ytnjnjajgpkmfhaa.PX

/-
 The contract of root.tree: a root's addresses, put into a tree one after the other (a range over a function).
-/
namespace Go.Proofs.Ytnjnjajgpkmfhaa.PX
open Go.RowKit Go.Proofs.YtnjnjajgpkmfhaaW.PrintWords Go.Proofs.YtnjnjajgpkmfhaaW.PrintLast Go.Proofs.YtnjnjajgpkmfhaaW.PrintMore
theorem results_tree_ {fn : Func} {p : Tmp} (h : fn.results = #[.cell p 70]) (tmps : Array Value) (w : World) (g : Nat) (a b : Value)
  (hp : tmps.getD p undef = .pointer (some ⟨g, 0, none⟩)) (hg : Blk w g 70 #[a, b]) : (results fn tmps).run Try.prog w = .ok (.agg #[a, b]) w :=
 results_cell_row h tmps w g 70 #[a, b] (0, 0) _ hp hg Try.underlying70 rfl (by kernel_rfl)
theorem new_any (w : World) : Calls Try.prog 65 #[] w fun e w' => e = .returned (.agg #[.int .i64 (-1), .slice none 0 0]) ∧ Below w.heap.size w w' := by
 go_enter Try.func65, Try.ntmps65
 go_wp2_with fail
 have hz := Blk.new w 70 #[.int .i64 (-1), .slice none 0 0]
 refine bodyPost_ret (results_tree_ (p := 0) (by kernel_rfl) _ _ _ _ _ rfl hz) rfl ?_
 exact ⟨rfl, (Below.refl _ _).alloc (Nat.le_refl _) _⟩
/-- An address's root: 0 of what is none. -/
def rootI (a : Int) : Int := if 0 ≤ a ∧ a ≤ 4294967295 then Int.tmod (a / 8) 251 else 0
theorem root_f (a : Int) : ∃ e, root_Root.f a = some (rootI a, e) := by
 unfold root_Root.f root_isAddr.f rootI
 by_cases h0 : 0 ≤ a
 ·by_cases h1 : a ≤ 4294967295
  ·exact ⟨0, by simp [h0, h1]⟩
  ·exact ⟨1, by simp [h0, h1]⟩
 ·exact ⟨1, by simp [h0]⟩
def under (r : Int) (R : List Rw) : List Rw := R.filter (fun x => decide (rootI x.s.f0 = r))
attribute [local go_sem] Oper.semAt_some
theorem below_grown {w w' : World} (h : Below w.heap.size w w') : w.grownBy w' none := ⟨h.os, h.tape, h.output, h.size, fun k hk _ => h.block k hk⟩
theorem under_in (F : Fence) (n : Nat) (hf : F.fn 66) (hro : F.round = none) (a : Option Addr) (len cap : Nat) (r : Int) (w : World) :
  CallsIn F n Try.prog 66 #[.slice a len cap, .int .i64 r] w fun e w' => e = .returned (.func (.func 81) #[] #[.pointer (some ⟨w.heap.size, 0, none⟩), .pointer (some ⟨w.heap.size + 1, 0, none⟩)]) ∧ w' = (w.alloc (.cells #[.slice a len cap] 22)).alloc (.cells #[.int .i64 r] 3) := by
 refine callsIn_of_wp Try.func66 rfl hf ?_ hro
 simp only [Try.ntmps66, List.size_toArray, List.length_cons, List.length_nil, Nat.reduceAdd, Nat.reduceSub, Array.replicate_succ, Array.replicate_zero, List.push_toArray, List.append_toArray, List.nil_append, List.cons_append]
 gi_wp2
 go_ret
 exact ⟨rfl, rfl⟩
/-- Nothing that was there at first has turned, nor the box of the root. -/
structure KpT (n₀ Br : Nat) (X Y : World) : Prop where
 b : Below n₀ X Y
 k : Y.heap[Br]? = X.heap[Br]?
theorem KpT.trans {n₀ Br : Nat} {X Y Z : World} (h : KpT n₀ Br X Y) (k : KpT n₀ Br Y Z) : KpT n₀ Br X Z := ⟨h.b.trans k.b, k.k.trans h.k⟩
theorem KpT.refl (n₀ Br : Nat) (X : World) : KpT n₀ Br X X := ⟨Below.refl _ _, rfl⟩
set_option maxRecDepth 100000 in
set_option maxHeartbeats 4000000 in
/-- The iterator over a root's spots, one by one. -/
theorem under1_in (l Bt Br n₀ len cap : Nat) (A : Option Addr) (R : List Rw) (r : Int) (hlen : len ≤ 1000) (J Jx : List Rw → World → Prop) (W : World)
  (hJ : AbidesFrom W.heap.size J)
  (hY : ∀ pre x W1, J pre W1 → pre.length < len → YieldAt Fence.wide 2 Try.prog l #[Rw.val x] W1 fun e W' =>
   (e = .returned (.bool true) ∧ J (pre ++ [x]) W' ∧ KpT n₀ Br W1 W') ∨ (e = .returned (.bool false) ∧ Jx (pre ++ [x]) W'))
  (hBt : W.cell? ⟨Bt, 0, none⟩ = some (.slice A len cap)) (hBr : Blk W Br 3 #[.int .i64 r]) (hr : Reads W n₀ 3 A len (R.flatMap Rw.cells)) (hn₀ : n₀ ≤ W.heap.size) (h0 : J [] W) :
  CallsIn Fence.wide 3 Try.prog 81 #[.func (.yield l) #[] #[], .pointer (some ⟨Bt, 0, none⟩), .pointer (some ⟨Br, 0, none⟩)] W fun e W' => (∃ v, e = .returned v) ∧
   ((∃ ys, ys = under r R ∧ J ys W') ∨ (∃ pre, pre <+: under r R ∧ Jx pre W')) := by
 have hl := raw_len hr
 refine callsIn_of_wp Try.func81 rfl trivial ?_ rfl
 simp only [Try.ntmps81, List.size_toArray, List.length_cons, List.length_nil, Nat.reduceAdd, Nat.reduceSub, Array.replicate_succ, Array.replicate_zero, List.push_toArray, List.append_toArray, List.nil_append, List.cons_append]
 gi_wp2
 gi_loopw [10] (fun i wr => ∃ k : Nat, k ≤ len ∧ i = .int .i64 k ∧ J (under r (R.take k)) wr ∧ KpT n₀ Br W wr)
  (fun i _ => len - (intOf i).toNat)
 case atStart => exact ⟨0, Nat.zero_le _, rfl, h0, KpT.refl _ _ _⟩
 case round =>
  obtain ⟨k, hk, rfl, hJs, hnx⟩ := hrel
  have hsz := hnx.b.size
  by_cases hlt : k < len
  ·obtain ⟨ad, ⟨s, Av, cv⟩, rfl, hab, hx, q0, q1, q2⟩ := raw_at (hr.below hnx.b) hlt
   simp only [Rw.v] at q2
   have hbrb : Blk wr Br 3 #[.int .i64 r] := hnx.k.trans hBr
   have hbr := hbrb.at1
   have HBRB := Lib.hid hbrb
   have htk : R.take (k + 1) = R.take k ++ [⟨s, Av, cv⟩] := by rw [List.take_add_one, hx]; rfl
   have hpl : (under r (R.take k)).length < len := by
    have := List.length_filter_le (fun x : Rw => decide (rootI x.s.f0 = r)) (R.take k)
    rw [List.length_take] at this
    unfold under
    omega
   obtain ⟨er, her⟩ := root_f s.f0
   have HT := Lib.hid htk
   have HPL := Lib.hid hpl
   have HER := Lib.hid her
   have HX := Lib.hid hx
   clear htk hpl her hx
   have hbl := Blk.new wr 33 #[.int .i64 s.f0, .int .i64 s.f1, .slice Av s.f2.length cv]
   have hb0 := (Below.refl wr.heap.size wr).alloc (Nat.le_refl _) (.cells #[.int .i64 s.f0, .int .i64 s.f1, .slice Av s.f2.length cv] 33)
   have HBL := Lib.hid hbl
   have HB0 := Lib.hid hb0
   clear hbl hb0
   gi_wp2_with fail
   refine ⟨trivial, (callsIn_wide.2 (root_Root.calls s.f0 _ _ _ HER.out)).mono ?_⟩
   rintro e w1 ⟨rfl, hd⟩
   have hb1 := bthen HB0.out hd.below
   have hbl1 := HBL.out.below hd.below HBL.out.lt
   obtain ⟨c0, c1, c2⟩ := hbl1.at3
   have hJ1 := hJ _ _ _ none hJs (below_grown hb1) (fun r e => by cases e)
   have hn1 : KpT n₀ Br W w1 := hnx.trans ⟨hb1.mono (Nat.le_trans hn₀ hsz), hb1.block Br HBRB.out.lt⟩
   have hbr1 := (HBRB.out.below hb1 HBRB.out.lt).at1
   clear hd hb1 hbl1 q0 q1 q2 hbr hbrb
   by_cases hrt : rootI s.f0 = r
   ·have d1 : (rootI s.f0 == r) = true := by simp [hrt]
    have hun : under r (R.take (k + 1)) = under r (R.take k) ++ [⟨s, Av, cv⟩] := by
     rw [HT.out, under, under, List.filter_append]
     simp [hrt]
    have HUN := Lib.hid hun
    clear hun hrt
    obtain ⟨fn, tmps, assign, body, hy, hR⟩ := hY _ ⟨s, Av, cv⟩ w1 hJ1 HPL.out
    simp only [Rw.val, Rw.v] at hy
    gi_wp2
    refine hR.mono ?_
    rintro e W3 (⟨rfl, hJ3, hk3⟩ | ⟨rfl, hJx3⟩)
    ·gi_wp2
     go_roundw
     case rel => exact ⟨k + 1, by omega, by go_num, by rw [HUN.out]; exact hJ3, hn1.trans hk3⟩
     case measure => simp [intOf]; omega
    ·gi_wp2
     refine bodyPost_ret (results_none rfl _ _ _) rfl ?_
     exact ⟨⟨_, rfl⟩, .inr ⟨_, by rw [← HUN.out]; exact (List.take_prefix _ _).filter _, hJx3⟩⟩
   ·have d1 : (rootI s.f0 == r) = false := by simp [hrt]
    have hun : under r (R.take (k + 1)) = under r (R.take k) := by
     rw [HT.out, under, under, List.filter_append]
     simp [hrt]
    have HUN := Lib.hid hun
    clear hun hrt
    gi_wp2
    refine ⟨fun f hf => (by cases hf), ?_⟩
    gi_wp2
    go_roundw
    case rel => exact ⟨k + 1, by omega, by go_num, by rw [HUN.out]; exact hJ1, hn1⟩
    case measure => simp [intOf]; omega
  ·obtain rfl : k = len := by omega
   gi_wp2
   go_end0
   exact ⟨⟨_, rfl⟩, .inl ⟨_, rfl, by rw [← hl, List.take_length] at hJs; exact hJs⟩⟩
theorem under_stops (Bt Br n₀ len cap : Nat) (A : Option Addr) (R : List Rw) (r : Int) (hlen : len ≤ 1000) (w : World) (hn₀ : n₀ ≤ w.heap.size)
  (hBt : Blk w Bt 22 #[.slice A len cap]) (hBr : Blk w Br 3 #[.int .i64 r]) (hr : Reads w n₀ 3 A len (R.flatMap Rw.cells)) :
  SeqStopsK Fence.wide 3 Try.prog 81 #[.pointer (some ⟨Bt, 0, none⟩), .pointer (some ⟨Br, 0, none⟩)] (fun x : Rw => #[Rw.val x]) (KpT n₀ Br) (fun ys => ys = under r R) (fun pre => pre <+: under r R) len w := fun l J Jx W hW hJ _ hY h0 =>
 under1_in l Bt Br n₀ len cap A R r hlen J Jx W hJ hY (hBt.below hW hBt.lt).at1 (hBr.below hW hBr.lt) (hr.below (hW.mono hn₀)) (Nat.le_trans hn₀ hW.size) h0
def adrs (R : List Rw) : List Int := R.map (·.s.f0)
def TreeI (n₀ Ob : Nat) (pre : List Rw) (W : World) : Prop := ∃ v, Blk W Ob 70 #[.int .i64 (treeOf (adrs pre)).2, v] ∧ W.ownsRow n₀ 87 3 v (treeOf (adrs pre)).1.length ((treeOf (adrs pre)).1.flatMap Treap.cells)
theorem treeI_own (n₀ Ob : Nat) : Own (TreeI n₀ Ob) := by
 rintro s X Y row ⟨v, hv, hr⟩ hg hrow
 refine ⟨v, hv.grown hg (fun e' => ?_), hr.kept hg ?_⟩
 ·obtain ⟨o, ho, hc⟩ := hrow Ob e'.symm
  rw [show X.heap[Ob]? = _ from hv] at ho
  cases ho
  cases hc
 ·rcases hr.2 with ⟨rfl, _⟩ | ⟨g, cap, cur, rfl, _, hgb, _⟩
  ·exact .inl rfl
  ·refine .inr fun e' => ?_
   obtain ⟨o, ho, hc⟩ := hrow g (by simpa [Value.ownBlock] using e'.symm)
   rw [hgb] at ho
   cases ho
   cases hc
theorem blk_own_ (B : Nat) (t : TypeId) (cs : Array Value) : Own (fun (_ : Unit) W => Blk W B t cs) := fun _ X Y row hs hg hrow => Blk.grown hs hg (fun e' => by
 obtain ⟨o, ho, hc⟩ := hrow B e'.symm
 rw [show X.heap[B]? = _ from hs] at ho
 cases ho
 cases hc)
theorem blk_own_l (B : Nat) (t : TypeId) (cs : Array Value) : Own (fun (_ : List Rw) W => Blk W B t cs) := fun _ X Y row hs hg hrow => blk_own_ B t cs () X Y row hs hg hrow
set_option maxRecDepth 100000 in
set_option maxHeartbeats 4000000 in
theorem tree_in (A : Option Addr) (len cap : Nat) (R : List Rw) (r : Int) (hlen : len ≤ 1000) (w : World) (hr : Reads w w.heap.size 3 A len (R.flatMap Rw.cells)) :
  CallsIn Fence.wide 4 Try.prog 44 #[.slice A len cap, .int .i64 r] w fun e W' => ∃ v, e = .returned (.agg #[.int .i64 (treeOf (adrs (under r R))).2, v]) ∧ W'.ownsRow w.heap.size 87 3 v (treeOf (adrs (under r R))).1.length ((treeOf (adrs (under r R))).1.flatMap Treap.cells) ∧ Below w.heap.size w W' := by
 obtain ⟨Tb, hTb⟩ : ∃ Tb, w.heap.size = Tb := ⟨_, rfl⟩
 have hz0 := Blk.new w 70 #[.int .i64 0, .slice none 0 0]
 have hw0 := (Below.refl w.heap.size w).alloc (Nat.le_refl _) (.cells #[.int .i64 0, .slice none 0 0] 70)
 have HZ0 := Lib.hid hz0
 have HW0 := Lib.hid hw0
 have HR := Lib.hid hr
 clear hz0 hw0 hr
 refine callsIn_of_wp_marks Try.func44 rfl trivial ?_ rfl
 simp only [Try.ntmps44, List.size_toArray, List.length_cons, List.length_nil, Nat.reduceAdd, Nat.reduceSub, Array.replicate_succ, Array.replicate_zero, List.push_toArray, List.append_toArray, List.nil_append, List.cons_append]
 gi_wp2_with fail
 refine ⟨trivial, (callsIn_wide.2 (new_any _)).mono ?_⟩
 rintro e w2 ⟨rfl, hb2⟩
 have HB2 := Lib.hid (bthen HW0.out hb2)
 have HZ2 := Lib.hid (HZ0.out.below hb2 HZ0.out.lt)
 obtain ⟨Ob, hOb⟩ : ∃ Ob, w2.heap.size = Ob := ⟨_, rfl⟩
 have HT2 := Lib.hid (Blk.new w2 70 #[.int .i64 (-1), .slice none 0 0])
 have HB3 := Lib.hid (HB2.out.alloc HB2.out.size (.cells #[.int .i64 (-1), .slice none 0 0] 70))
 have HZ3 := Lib.hid (HZ2.out.alloc (.cells #[.int .i64 (-1), .slice none 0 0] 70))
 rw [hOb] at HT2
 have hTO : Tb < Ob := by rw [← hTb, ← hOb]; exact HZ2.out.lt
 clear hb2
 gi_wp2_with fail
 obtain ⟨w3, hw3⟩ : ∃ w3, w2.alloc (.cells #[.int .i64 (-1), .slice none 0 0] 70) = w3 := ⟨_, rfl⟩
 rw [hw3] at HT2 HB3 HZ3 ⊢
 clear hw3 hOb
 refine ⟨trivial, (under_in Fence.wide 3 trivial rfl _ _ _ _ _).mono ?_⟩
 rintro e w' ⟨rfl, rfl⟩
 obtain ⟨Bt, hBt⟩ : ∃ Bt, w3.heap.size = Bt := ⟨_, rfl⟩
 have b1 := (Blk.new w3 22 #[.slice A len cap]).alloc (.cells #[.int .i64 r] 3)
 have b2 := Blk.new (w3.alloc (.cells #[.slice A len cap] 22)) 3 #[.int .i64 r]
 have hOlt := HT2.out.lt
 have hZlt := HZ3.out.lt
 have b3 := (HT2.out.alloc (.cells #[.slice A len cap] 22)).alloc (.cells #[.int .i64 r] 3)
 have b4 := (HZ3.out.alloc (.cells #[.slice A len cap] 22)).alloc (.cells #[.int .i64 r] 3)
 have b5 := (HB3.out.alloc HB3.out.size (.cells #[.slice A len cap] 22)).alloc (by have := HB3.out.size; simp; omega) (.cells #[.int .i64 r] 3)
 have b6 : ((w3.alloc (.cells #[.slice A len cap] 22)).alloc (.cells #[.int .i64 r] 3)).heap.size = Bt + 1 + 1 := by simp [hBt]
 rw [World.size_alloc, hBt] at b2
 rw [hBt] at b1 hOlt hZlt ⊢
 obtain ⟨w4, hw4⟩ : ∃ w4, (w3.alloc (.cells #[.slice A len cap] 22)).alloc (.cells #[.int .i64 r] 3) = w4 := ⟨_, rfl⟩
 rw [hw4] at b1 b2 b3 b4 b5 b6 ⊢
 clear hw4
 rw [hTb] at b4 hZlt
 gi_wp2
 refine wpIn_rangeFunc_ownH rfl (by omega) (gf := 81) (lb := #[.pointer (some ⟨Bt, 0, none⟩), .pointer (some ⟨Bt + 1, 0, none⟩)]) rfl trivial (enters_of Try.func81 (by kernel_rfl) rfl)
  (under_stops Bt (Bt + 1) w.heap.size len cap A R r hlen w4 b5.size b1 b2 (HR.out.below b5)) KpT.trans (fun W l o o' hl h1 h2 h3 => ⟨belowK_b b5.size W l o o' hl h1 h2 h3, World.putObj_heap_other (fun e => by omega)⟩) (Below.refl _ _) (fun _ => rfl)
  (fun pre W => ((TreeI w.heap.size Ob pre W ∧ Blk W Tb 70 #[.int .i64 0, .slice none 0 0]) ∧ Blk W (Bt + 1) 3 #[.int .i64 r]) ∧ Below w.heap.size w W)
  (fun _ _ _ => False)
  (OwnFrom.and (OwnFrom.and (OwnFrom.and (Own.from (treeI_own w.heap.size Ob) _) (Own.from (blk_own_l Tb 70 _) _)) (Own.from (blk_own_l (Bt + 1) 3 _) _)) (ownFrom_below (Nat.le_refl _) b5.size))
  (fun _ _ _ _ _ hs _ _ => hs)
  ⟨⟨⟨⟨_, b3, World.ownsRow_nil _ _ _ _⟩, b4⟩, b2⟩, b5⟩
  (fun x a' W => ∃ Bx, Blk W Bx 33 #[.int .i64 x.s.f0, .int .i64 x.s.f1, .slice x.A x.s.f2.length x.c] ∧ a' = { tmps := #[.slice A len cap, .int .i64 r, undef, undef, .pointer (some ⟨Tb, 0, none⟩), .pointer (some ⟨Ob, 0, none⟩), .pointer (some ⟨Bx, 0, none⟩), .agg #[.int .i64 (-1), .slice none 0 0], .slice A len cap, .int .i64 r, .func (.func 81) #[] #[.pointer (some ⟨Bt, 0, none⟩), .pointer (some ⟨Bt + 1, 0, none⟩)], .agg #[.int .i64 x.s.f0, .int .i64 x.s.f1, .slice x.A x.s.f2.length x.c], undef, undef, undef, undef, undef, undef, undef, undef], defers := [] })
  (fun x a' _ X Y row hs hg hr => by obtain ⟨Bx, h2, h3⟩ := hs; exact ⟨Bx, blk_own_ Bx 33 _ () X Y row h2 hg (fun r e => (hr r e).2), h3⟩)
  ?assign ?body ?done ?stop
 case assign =>
  rintro l pre x W K ⟨⟨⟨⟨v, hv, hrow⟩, hz⟩, hbr⟩, hB⟩ hK
  simp only [Rw.val, Rw.v]
  gi_wp2
  exact hK _ _ ((KeepsOthers.alloc _ _).from _) ⟨(Below.refl _ W).alloc hB.size _, Below.heap_alloc W _ _ hbr.lt⟩ ⟨⟨⟨⟨v, hv.alloc _, own_move hrow (fun k hk => Below.heap_alloc W _ _ (own_lt hrow k hk))⟩, hz.alloc _⟩, hbr.alloc _⟩, hB.alloc hB.size _⟩ ⟨W.heap.size, Blk.new W _ _, rfl⟩
 case body =>
  rintro l pre x a' W hl _ ⟨⟨⟨⟨v, hv, hrow⟩, hz⟩, hbr⟩, hB⟩ ⟨Bx, hbx, rfl⟩ hlt
  obtain ⟨A5, c5, rfl, hc5, _, hr5⟩ := own_reads3 hrow
  obtain ⟨er, hput, hlen2⟩ := putT_some (treeOf (adrs pre)) x.s.f0
  have h64 := treeOf_len (adrs pre)
  obtain ⟨o0, o1⟩ := hv.at2
  obtain ⟨x0, x1, x2⟩ := hbx.at3
  have HPUT := Lib.hid (Treap.put_any (treeOf (adrs pre)).2 x.s.f0 (treeOf (adrs pre)).1 A5 _ c5 (by omega) _ W hr5 hput)
  have HV := Lib.hid hv
  have HZ := Lib.hid hz
  have HBR := Lib.hid hbr
  have HBB := Lib.hid hB
  have hne1 : Tb ≠ Ob := by omega
  have hne2 : Bt + 1 ≠ Ob := by omega
  have e2 : treeOf (adrs (pre ++ [x])) = putT (treeOf (adrs pre)) x.s.f0 := by
   rw [adrs, List.map_append]
   exact treeOf_more _ _
  have HE2 := Lib.hid e2
  clear hput hr5 hv hz hbr hB hrow e2 hc5
  obtain ⟨st, hst⟩ : ∃ st, putT (treeOf (adrs pre)) x.s.f0 = st := ⟨_, rfl⟩
  rw [hst] at HPUT HE2 hlen2
  obtain ⟨s0, hs0⟩ : ∃ s0, treeOf (adrs pre) = s0 := ⟨_, rfl⟩
  rw [hs0] at HPUT h64 o0 o1 HV
  clear hst hs0
  gi_wp2_with fail
  refine ⟨trivial, (callsIn_wide.2 HPUT.out).mono ?_⟩
  rintro e w' ⟨A6, c6, rfl, hown, hb⟩
  have hv6 := HV.out.below hb HV.out.lt
  have f0 := hv6.frozen 0
  have f1 := hv6.frozen 1
  obtain ⟨o0', o1'⟩ := hv6.at2
  have HV6 := Lib.hid hv6
  have HOWN := Lib.hid hown
  have HB6 := Lib.hid hb
  clear hv6 hown hb o0 o1
  gi_wp2_with fail
  have hnb := own_blk_ne HOWN.out HV6.out (by decide)
  have hset : ∀ k, k ≠ Ob → ((w'.setCell ⟨Ob, 0, none⟩ (.int .i64 st.2)).setCell ⟨Ob, 1, none⟩ (.slice A6 st.1.length c6)).heap[k]? = w'.heap[k]? := fun k hk => (Below.heap_setCell _ ⟨Ob, 1, none⟩ _ k hk).trans (Below.heap_setCell _ ⟨Ob, 0, none⟩ _ k hk)
  have hOs : w.heap.size ≤ Ob := by omega
  have hB2 : ∀ {X : World}, Below w.heap.size X w' → Below w.heap.size X ((w'.setCell ⟨Ob, 0, none⟩ (.int .i64 st.2)).setCell ⟨Ob, 1, none⟩ (.slice A6 st.1.length c6)) := fun h => (h.setCell (p := ⟨Ob, 0, none⟩) hOs _).setCell (p := ⟨Ob, 1, none⟩) hOs _
  refine ⟨(((KeepsOthers.of_grownBy (below_grown HB6.out) (fun j o ej _ => by cases ej)).trans (KeepsOthers.setCell _ _ _)).trans (KeepsOthers.setCell _ _ _)).from _, ⟨hB2 (HB6.out.mono HBB.out.size), (hset _ hne2).trans (HB6.out.block _ HBR.out.lt)⟩, ⟨⟨⟨?_, (hset _ hne1).trans (HZ.out.below HB6.out HZ.out.lt)⟩, (hset _ hne2).trans (HBR.out.below HB6.out HBR.out.lt)⟩, hB2 (bthen HBB.out HB6.out)⟩⟩
  unfold TreeI
  rw [HE2.out]
  exact ⟨_, (HV6.out.set_ 0 _).set_ 1 _, own_move (own_weaken HOWN.out HBB.out.size) (fun k hk => hset k (fun e => hnb (by rw [← e]; exact hk)))⟩
 case done =>
  rintro D ys W hD rfl ⟨⟨⟨⟨v, hv, hrow⟩, hz⟩, hbr⟩, hB⟩ hK
  obtain ⟨A5, c5, rfl, hc5, _, hr5⟩ := own_reads3 hrow
  obtain ⟨o0, o1⟩ := hv.at2
  obtain ⟨z0, z1⟩ := hz.at2
  have f0 := hz.frozen 0
  have f1 := hz.frozen 1
  gi_wp2
  obtain ⟨v0, hv0⟩ : ∃ v0, Value.slice A5 (treeOf (adrs (under r R))).1.length c5 = v0 := ⟨_, rfl⟩
  have hnb := own_blk_ne hrow hz (by decide)
  have hK2 := ((KeepsOthers.setCell W ⟨Tb, 0, none⟩ (.int .i64 (treeOf (adrs (under r R))).2)).trans (KeepsOthers.setCell _ ⟨Tb, 1, none⟩ (.slice A5 (treeOf (adrs (under r R))).1.length c5))).same D _ hK rfl
  refine ⟨by simp, .inl ⟨_, _, rfl, run_takeDeferred hK2, ?_⟩⟩
  have hzz : Blk ((W.setCell ⟨Tb, 0, none⟩ (.int .i64 (treeOf (adrs (under r R))).2)).setCell ⟨Tb, 1, none⟩ (.slice A5 (treeOf (adrs (under r R))).1.length c5)) Tb 70 #[.int .i64 (treeOf (adrs (under r R))).2, .slice A5 (treeOf (adrs (under r R))).1.length c5] := (hz.set_ 0 _).set_ 1 _
  have hDT : Tb ≠ D := by have := hz.lt; omega
  refine ⟨_, results_tree_ (p := 4) (by kernel_rfl) _ _ _ _ _ rfl ((World.putObj_heap_other hDT).trans hzz), _, rfl, ?_, ?_⟩
  ·refine own_move hrow (fun k hk => ?_)
   have hkD : k ≠ D := by
    rintro rfl
    obtain ⟨cells, hc⟩ := own_typed hrow k hk
    rw [hK] at hc
    cases hc
   have hkT : k ≠ Tb := fun e => hnb (by rw [← e]; exact hk)
   exact (World.putObj_heap_other hkD).trans ((Below.heap_setCell _ ⟨Tb, 1, none⟩ _ k hkT).trans (Below.heap_setCell _ ⟨Tb, 0, none⟩ _ k hkT))
  ·have hT0 : w.heap.size ≤ Tb := Nat.le_of_eq hTb
   exact ((hB.setCell (p := ⟨Tb, 0, none⟩) hT0 _).setCell (p := ⟨Tb, 1, none⟩) hT0 _).trans (belowK_b (w := w) (Nat.le_refl _) _ D _ _ (by omega) hK2 rfl rfl)
 case stop =>
  rintro D c pre W _ _ h _
  exact h.elim
def root_tree.f (l0 : List S33) (a1 : Int) : Option (Int × List S87) := if l0.length ≤ 1000 then some ((treeOf ((l0.filter (fun s => decide (rootI s.f0 = a1))).map (·.f0))).2, (treeOf ((l0.filter (fun s => decide (rootI s.f0 = a1))).map (·.f0))).1.map ofNd) else none
theorem adrs_under (r : Int) (R : List Rw) : adrs (under r R) = ((spots R).filter (fun s => decide (rootI s.f0 = r))).map (·.f0) := by
 rw [adrs, under, spots, List.filter_map, List.map_map]
 rfl
theorem root_tree.calls (A0 : Option Addr) (c0 : Nat) (l0 : List S33) (a1 : Int) (r1 : Int) (r2 : List S87) (w : World) (hr0 : Kd.C k33 w A0 l0.length l0) (hc0 : l0.length ≤ c0) (h : root_tree.f l0 a1 = some (r1, r2)) :
  Calls Try.prog 44 #[.slice A0 l0.length c0, .int .i64 a1] w fun e w' => ∃ v1_ : Value, e = .returned (.agg #[.int .i64 r1, v1_]) ∧ Kd.R k87 87 w' w.heap.size (fun _ => True) v1_ r2 ∧ Below w.heap.size w w' := by
 unfold root_tree.f at h
 split at h
 case isFalse => cases h
 rename_i hn
 have hq := Option.some.inj h
 have e1 := congrArg (·.1) hq
 have e2 := congrArg (·.2) hq
 simp only at e1 e2
 subst e1 e2
 obtain ⟨R, hR, _, _, hr, _⟩ := raws_of_V (Kd.V_mk (e := 33) (base := 0) hc0 (Kd.C_F k33_heap hr0))
 have := (callsIn_wide (n := 4)).1 (tree_in A0 l0.length c0 R a1 hn w hr)
 rw [adrs_under, hR] at this
 refine this.mono ?_
 rintro e w' ⟨v, rfl, hown, hb⟩
 exact ⟨v, rfl, kd_Nd hown, hb⟩
end Go.Proofs.Ytnjnjajgpkmfhaa.PX

namespace Go.Proofs.Ytnjnjajgpkmfhaa.PX
open Go.RowKit Go.Proofs.YtnjnjajgpkmfhaaW.PrintWords Go.Proofs.YtnjnjajgpkmfhaaW.PrintLast Go.Proofs.YtnjnjajgpkmfhaaW.PrintMore
attribute [local go_sem] max2_int min2_int max_two min_two max_three min_three max_four min_four   -- for this text's walks alone
set_option linter.unusedVariables false
set_option linter.unusedSimpArgs false

/-! ### root_isSpot: function 40 -/
def root_isSpot.f (a0_0 : Int) (a0_1 : Int) (l0_2 : List Int) : Option (Bool) := (root_isAddr.f a0_0).bind fun t117 => (if t117 = true then (if a0_1 ≥ 0 then (if a0_1 ≤ 2147483647 then ((line_Right.f l0_2).bind fun t118 => (if t118 = true then (if a0_1 = 0 then (some true) else (some ((l0_2.length : Int) == 0))) else (some false))) else (some false)) else (some false)) else (some false))
set_option maxHeartbeats 8000000 in
set_option maxRecDepth 100000 in
theorem root_isSpot.calls (a0_0 : Int) (a0_1 : Int) (A0_2 : Option Addr) (c0_2 : Nat) (l0_2 : List Int) (r : Bool) (w : World) (hr0_2 : Kd.C (Kd.int .i64) w A0_2 l0_2.length l0_2) (hc0_2 : l0_2.length ≤ c0_2) (h : root_isSpot.f a0_0 a0_1 l0_2 = some r) :
  Calls Try.prog 40 #[.agg #[.int .i64 a0_0, .int .i64 a0_1, .slice A0_2 l0_2.length c0_2]] w fun e w' => e = .returned (.bool r) ∧ Below w.heap.size w w' := by
 have hu33 := Try.underlying33
 have HR0_2 := Aside0.mk hr0_2
 have HC0_2 := Aside0.mk hc0_2
 clear hr0_2 hc0_2
 have HB := Aside0.mk (Below.refl w.heap.size w)
 have H : ((root_isAddr.f a0_0).bind fun t117 => (if t117 = true then (if a0_1 ≥ 0 then (if a0_1 ≤ 2147483647 then ((line_Right.f l0_2).bind fun t118 => (if t118 = true then (if a0_1 = 0 then (some true) else (some ((l0_2.length : Int) == 0))) else (some false))) else (some false)) else (some false)) else (some false))) = some r := h
 clear h
 replace H := Option.bind_eq_some_iff.mp H
 obtain ⟨t117, A20, H⟩ := H
 replace H : (if t117 = true then (if a0_1 ≥ 0 then (if a0_1 ≤ 2147483647 then ((line_Right.f l0_2).bind fun t118 => (if t118 = true then (if a0_1 = 0 then (some true) else (some ((l0_2.length : Int) == 0))) else (some false))) else (some false)) else (some false)) else (some false)) = some r := H
 have A2 := Aside0.mk A20
 clear A20
 by_cases c3 : t117 = true
 ·subst c3
  have H1 : (if a0_1 ≥ 0 then (if a0_1 ≤ 2147483647 then ((line_Right.f l0_2).bind fun t118 => (if t118 = true then (if a0_1 = 0 then (some true) else (some ((l0_2.length : Int) == 0))) else (some false))) else (some false)) else (some false)) = some r := by rw [if_pos rfl] at H; exact H
  clear H
  have H := H1
  clear H1
  by_cases c4 : a0_1 ≥ 0
  ·rw [if_pos c4] at H
   have c4b0 : decide (0 ≤ a0_1) = true := decide_eq_true c4
   clear c4
   by_cases c5 : a0_1 ≤ 2147483647
   ·rw [if_pos c5] at H
    have c5b0 : decide (a0_1 ≤ 2147483647) = true := decide_eq_true c5
    clear c5
    replace H := Option.bind_eq_some_iff.mp H
    obtain ⟨t118, A60, H⟩ := H
    replace H : (if t118 = true then (if a0_1 = 0 then (some true) else (some ((l0_2.length : Int) == 0))) else (some false)) = some r := H
    have A6 := Aside0.mk A60
    clear A60
    by_cases c7 : t118 = true
    ·subst c7
     have H1 : (if a0_1 = 0 then (some true) else (some ((l0_2.length : Int) == 0))) = some r := by rw [if_pos rfl] at H; exact H
     clear H
     have H := H1
     clear H1
     by_cases c8 : a0_1 = 0
     ·rw [if_pos c8] at H
      have c8b0 : (a0_1 == 0) = true := beq_iff_eq.mpr c8
      have c8b1 : (a0_1 != 0) = false := bne_eq_false_iff_eq.mpr c8
      clear c8
      obtain rfl := Option.some.inj H
      go_enter Try.func40, Try.ntmps40
      go_wp2_with (first | ((with_reducible refine gate_dst (N := 1) rfl ?_); (try (refine gate_guard (by rfl) ?_; dsimp only)); refine box_event ?hg (N := 1) ?hd (cs := #[.int .i64 a0_0, .int .i64 a0_1, .slice A0_2 l0_2.length c0_2]) (t := 33) ?hr ?_; (case hd => rfl); (case hg => rfl); (case hr => first | (go_simp; done) | (go_simp; rfl)); intro gb116 hg w9 hbox hb; have n0_ := Aside0.mk (below_step (zB HB) hb); have n1_ := Aside0.mk (hbox); have n2_ := Aside0.mk ((by rw [hg]; exact (below_size (zB HB)) : w.heap.size ≤ gb116)); have n3_ := Aside0.mk ((by rw [hg]; exact (below_size (zB HB)) : w.heap.size ≤ gb116)); clear HB; have HB := n0_; have BK116 := n1_; have GW116 := n2_; have GE116 := n3_; clear n0_ n1_ n2_ n3_; clear hb hbox hg; have hcz10_0 : w9.cell? ⟨gb116, 0, none⟩ = some (.int .i64 a0_0) := (blk_cell BK116.out 0).trans rfl; have hcz10_1 : w9.cell? ⟨gb116, 1, none⟩ = some (.int .i64 a0_1) := (blk_cell BK116.out 1).trans rfl; have hcz10_2 : w9.cell? ⟨gb116, 2, none⟩ = some (.slice A0_2 l0_2.length c0_2) := (blk_cell BK116.out 2).trans rfl; have hfz10_0 := blk_frozen BK116.out 0; have hfz10_1 := blk_frozen BK116.out 1; have hfz10_2 := blk_frozen BK116.out 2) | ((with_reducible refine gate_callee (f := 45) rfl ?_); refine goesL_ (some 5) rfl rfl Try.func45 (by kernel_rfl) rfl #[.int .i64 a0_0] rfl zP ?_; (with_reducible refine (root_isAddr.calls a0_0 true _ A2.out).mono ?_); rintro e w' ⟨rfl, ⟨nd, rfl⟩⟩; refine ⟨_, rfl, ?_⟩) | (go_at_call 61; (with_reducible refine (line_Right.calls _ _ l0_2 true _ ?side1 ?side2 A6.out).mono ?_); (case side1 => repeat (first | exact (Kd.C_below HR0_2.out (zB1 HB GE116)) | (with_reducible refine Kd.C_alloc ?_ _) | (with_reducible refine Kd.C_drewN ?_ _) | (with_reducible refine Kd.C_drew ?_))); (case side2 => exact HC0_2.out); rintro e w11 ⟨rfl, hb⟩; have n0_ := Aside0.mk (blk_below (g := gb116) (o := .cells #[.int .i64 a0_0, .int .i64 a0_1, .slice A0_2 l0_2.length c0_2] 33 (0, 0)) (zK BK116) hb); have n1_ := Aside0.mk (below_step (zB1 HB GE116) hb); clear BK116; clear HB; have BK116 := n0_; have HB := n1_; clear n0_ n1_; (try clear hb); (try clear hb2); (try clear hk); (try clear hi); have hcz12_0 : w11.cell? ⟨gb116, 0, none⟩ = some (.int .i64 a0_0) := (blk_cell BK116.out 0).trans rfl; have hcz12_1 : w11.cell? ⟨gb116, 1, none⟩ = some (.int .i64 a0_1) := (blk_cell BK116.out 1).trans rfl; have hcz12_2 : w11.cell? ⟨gb116, 2, none⟩ = some (.slice A0_2 l0_2.length c0_2) := (blk_cell BK116.out 2).trans rfl; have hfz12_0 := blk_frozen BK116.out 0; have hfz12_1 := blk_frozen BK116.out 1; have hfz12_2 := blk_frozen BK116.out 2))
      go_ret
      exact ⟨by first | rfl | (simp [errW_none, errW_some] <;> rfl) | (simp [*, errW_none, errW_some] <;> rfl), zB1 HB GE116⟩
     ·rw [if_neg c8] at H
      have c8b0 : (a0_1 == 0) = false := beq_eq_false_iff_ne.mpr c8
      have c8b1 : (a0_1 != 0) = true := bne_iff_ne.mpr c8
      obtain rfl := Option.some.inj H
      go_enter Try.func40, Try.ntmps40
      go_wp2_with (first | ((with_reducible refine gate_dst (N := 1) rfl ?_); (try (refine gate_guard (by rfl) ?_; dsimp only)); refine box_event ?hg (N := 1) ?hd (cs := #[.int .i64 a0_0, .int .i64 a0_1, .slice A0_2 l0_2.length c0_2]) (t := 33) ?hr ?_; (case hd => rfl); (case hg => rfl); (case hr => first | (go_simp; done) | (go_simp; rfl)); intro gb116 hg w13 hbox hb; have n0_ := Aside0.mk (below_step (zB HB) hb); have n1_ := Aside0.mk (hbox); have n2_ := Aside0.mk ((by rw [hg]; exact (below_size (zB HB)) : w.heap.size ≤ gb116)); have n3_ := Aside0.mk ((by rw [hg]; exact (below_size (zB HB)) : w.heap.size ≤ gb116)); clear HB; have HB := n0_; have BK116 := n1_; have GW116 := n2_; have GE116 := n3_; clear n0_ n1_ n2_ n3_; clear hb hbox hg; have hcz14_0 : w13.cell? ⟨gb116, 0, none⟩ = some (.int .i64 a0_0) := (blk_cell BK116.out 0).trans rfl; have hcz14_1 : w13.cell? ⟨gb116, 1, none⟩ = some (.int .i64 a0_1) := (blk_cell BK116.out 1).trans rfl; have hcz14_2 : w13.cell? ⟨gb116, 2, none⟩ = some (.slice A0_2 l0_2.length c0_2) := (blk_cell BK116.out 2).trans rfl; have hfz14_0 := blk_frozen BK116.out 0; have hfz14_1 := blk_frozen BK116.out 1; have hfz14_2 := blk_frozen BK116.out 2) | ((with_reducible refine gate_callee (f := 45) rfl ?_); refine goesL_ (some 5) rfl rfl Try.func45 (by kernel_rfl) rfl #[.int .i64 a0_0] rfl zP ?_; (with_reducible refine (root_isAddr.calls a0_0 true _ A2.out).mono ?_); rintro e w' ⟨rfl, ⟨nd, rfl⟩⟩; refine ⟨_, rfl, ?_⟩) | (go_at_call 61; (with_reducible refine (line_Right.calls _ _ l0_2 true _ ?side1 ?side2 A6.out).mono ?_); (case side1 => repeat (first | exact (Kd.C_below HR0_2.out (zB1 HB GE116)) | (with_reducible refine Kd.C_alloc ?_ _) | (with_reducible refine Kd.C_drewN ?_ _) | (with_reducible refine Kd.C_drew ?_))); (case side2 => exact HC0_2.out); rintro e w15 ⟨rfl, hb⟩; have n0_ := Aside0.mk (blk_below (g := gb116) (o := .cells #[.int .i64 a0_0, .int .i64 a0_1, .slice A0_2 l0_2.length c0_2] 33 (0, 0)) (zK BK116) hb); have n1_ := Aside0.mk (below_step (zB1 HB GE116) hb); clear BK116; clear HB; have BK116 := n0_; have HB := n1_; clear n0_ n1_; (try clear hb); (try clear hb2); (try clear hk); (try clear hi); have hcz16_0 : w15.cell? ⟨gb116, 0, none⟩ = some (.int .i64 a0_0) := (blk_cell BK116.out 0).trans rfl; have hcz16_1 : w15.cell? ⟨gb116, 1, none⟩ = some (.int .i64 a0_1) := (blk_cell BK116.out 1).trans rfl; have hcz16_2 : w15.cell? ⟨gb116, 2, none⟩ = some (.slice A0_2 l0_2.length c0_2) := (blk_cell BK116.out 2).trans rfl; have hfz16_0 := blk_frozen BK116.out 0; have hfz16_1 := blk_frozen BK116.out 1; have hfz16_2 := blk_frozen BK116.out 2))
      go_ret
      exact ⟨by first | rfl | (simp [errW_none, errW_some] <;> rfl) | (simp [*, errW_none, errW_some] <;> rfl), zB1 HB GE116⟩
    ·replace c7 := Bool.eq_false_iff.mpr c7
     subst c7
     have H1 : (some false) = some r := by rw [if_neg (show ¬ (false = true) by decide)] at H; exact H
     clear H
     have H := H1
     clear H1
     obtain rfl := Option.some.inj H
     go_enter Try.func40, Try.ntmps40
     go_wp2_with (first | ((with_reducible refine gate_dst (N := 1) rfl ?_); (try (refine gate_guard (by rfl) ?_; dsimp only)); refine box_event ?hg (N := 1) ?hd (cs := #[.int .i64 a0_0, .int .i64 a0_1, .slice A0_2 l0_2.length c0_2]) (t := 33) ?hr ?_; (case hd => rfl); (case hg => rfl); (case hr => first | (go_simp; done) | (go_simp; rfl)); intro gb116 hg w17 hbox hb; have n0_ := Aside0.mk (below_step (zB HB) hb); have n1_ := Aside0.mk (hbox); have n2_ := Aside0.mk ((by rw [hg]; exact (below_size (zB HB)) : w.heap.size ≤ gb116)); have n3_ := Aside0.mk ((by rw [hg]; exact (below_size (zB HB)) : w.heap.size ≤ gb116)); clear HB; have HB := n0_; have BK116 := n1_; have GW116 := n2_; have GE116 := n3_; clear n0_ n1_ n2_ n3_; clear hb hbox hg; have hcz18_0 : w17.cell? ⟨gb116, 0, none⟩ = some (.int .i64 a0_0) := (blk_cell BK116.out 0).trans rfl; have hcz18_1 : w17.cell? ⟨gb116, 1, none⟩ = some (.int .i64 a0_1) := (blk_cell BK116.out 1).trans rfl; have hcz18_2 : w17.cell? ⟨gb116, 2, none⟩ = some (.slice A0_2 l0_2.length c0_2) := (blk_cell BK116.out 2).trans rfl; have hfz18_0 := blk_frozen BK116.out 0; have hfz18_1 := blk_frozen BK116.out 1; have hfz18_2 := blk_frozen BK116.out 2) | ((with_reducible refine gate_callee (f := 45) rfl ?_); refine goesL_ (some 5) rfl rfl Try.func45 (by kernel_rfl) rfl #[.int .i64 a0_0] rfl zP ?_; (with_reducible refine (root_isAddr.calls a0_0 true _ A2.out).mono ?_); rintro e w' ⟨rfl, ⟨nd, rfl⟩⟩; refine ⟨_, rfl, ?_⟩) | (go_at_call 61; (with_reducible refine (line_Right.calls _ _ l0_2 false _ ?side1 ?side2 A6.out).mono ?_); (case side1 => repeat (first | exact (Kd.C_below HR0_2.out (zB1 HB GE116)) | (with_reducible refine Kd.C_alloc ?_ _) | (with_reducible refine Kd.C_drewN ?_ _) | (with_reducible refine Kd.C_drew ?_))); (case side2 => exact HC0_2.out); rintro e w19 ⟨rfl, hb⟩; have n0_ := Aside0.mk (blk_below (g := gb116) (o := .cells #[.int .i64 a0_0, .int .i64 a0_1, .slice A0_2 l0_2.length c0_2] 33 (0, 0)) (zK BK116) hb); have n1_ := Aside0.mk (below_step (zB1 HB GE116) hb); clear BK116; clear HB; have BK116 := n0_; have HB := n1_; clear n0_ n1_; (try clear hb); (try clear hb2); (try clear hk); (try clear hi)))
     go_ret
     exact ⟨by first | rfl | (simp [errW_none, errW_some] <;> rfl) | (simp [*, errW_none, errW_some] <;> rfl), zB1 HB GE116⟩
   ·rw [if_neg c5] at H
    have c5b0 : decide (a0_1 ≤ 2147483647) = false := decide_eq_false c5
    clear c5
    obtain rfl := Option.some.inj H
    go_enter Try.func40, Try.ntmps40
    go_wp2_with (first | ((with_reducible refine gate_dst (N := 1) rfl ?_); (try (refine gate_guard (by rfl) ?_; dsimp only)); refine box_event ?hg (N := 1) ?hd (cs := #[.int .i64 a0_0, .int .i64 a0_1, .slice A0_2 l0_2.length c0_2]) (t := 33) ?hr ?_; (case hd => rfl); (case hg => rfl); (case hr => first | (go_simp; done) | (go_simp; rfl)); intro gb116 hg w20 hbox hb; have n0_ := Aside0.mk (below_step (zB HB) hb); have n1_ := Aside0.mk (hbox); have n2_ := Aside0.mk ((by rw [hg]; exact (below_size (zB HB)) : w.heap.size ≤ gb116)); have n3_ := Aside0.mk ((by rw [hg]; exact (below_size (zB HB)) : w.heap.size ≤ gb116)); clear HB; have HB := n0_; have BK116 := n1_; have GW116 := n2_; have GE116 := n3_; clear n0_ n1_ n2_ n3_; clear hb hbox hg; have hcz21_0 : w20.cell? ⟨gb116, 0, none⟩ = some (.int .i64 a0_0) := (blk_cell BK116.out 0).trans rfl; have hcz21_1 : w20.cell? ⟨gb116, 1, none⟩ = some (.int .i64 a0_1) := (blk_cell BK116.out 1).trans rfl; have hcz21_2 : w20.cell? ⟨gb116, 2, none⟩ = some (.slice A0_2 l0_2.length c0_2) := (blk_cell BK116.out 2).trans rfl; have hfz21_0 := blk_frozen BK116.out 0; have hfz21_1 := blk_frozen BK116.out 1; have hfz21_2 := blk_frozen BK116.out 2) | ((with_reducible refine gate_callee (f := 45) rfl ?_); refine goesL_ (some 5) rfl rfl Try.func45 (by kernel_rfl) rfl #[.int .i64 a0_0] rfl zP ?_; (with_reducible refine (root_isAddr.calls a0_0 true _ A2.out).mono ?_); rintro e w' ⟨rfl, ⟨nd, rfl⟩⟩; refine ⟨_, rfl, ?_⟩))
    go_ret
    exact ⟨by first | rfl | (simp [errW_none, errW_some] <;> rfl) | (simp [*, errW_none, errW_some] <;> rfl), zB1 HB GE116⟩
  ·rw [if_neg c4] at H
   have c4b0 : decide (0 ≤ a0_1) = false := decide_eq_false c4
   clear c4
   obtain rfl := Option.some.inj H
   go_enter Try.func40, Try.ntmps40
   go_wp2_with (first | ((with_reducible refine gate_dst (N := 1) rfl ?_); (try (refine gate_guard (by rfl) ?_; dsimp only)); refine box_event ?hg (N := 1) ?hd (cs := #[.int .i64 a0_0, .int .i64 a0_1, .slice A0_2 l0_2.length c0_2]) (t := 33) ?hr ?_; (case hd => rfl); (case hg => rfl); (case hr => first | (go_simp; done) | (go_simp; rfl)); intro gb116 hg w22 hbox hb; have n0_ := Aside0.mk (below_step (zB HB) hb); have n1_ := Aside0.mk (hbox); have n2_ := Aside0.mk ((by rw [hg]; exact (below_size (zB HB)) : w.heap.size ≤ gb116)); have n3_ := Aside0.mk ((by rw [hg]; exact (below_size (zB HB)) : w.heap.size ≤ gb116)); clear HB; have HB := n0_; have BK116 := n1_; have GW116 := n2_; have GE116 := n3_; clear n0_ n1_ n2_ n3_; clear hb hbox hg; have hcz23_0 : w22.cell? ⟨gb116, 0, none⟩ = some (.int .i64 a0_0) := (blk_cell BK116.out 0).trans rfl; have hcz23_1 : w22.cell? ⟨gb116, 1, none⟩ = some (.int .i64 a0_1) := (blk_cell BK116.out 1).trans rfl; have hcz23_2 : w22.cell? ⟨gb116, 2, none⟩ = some (.slice A0_2 l0_2.length c0_2) := (blk_cell BK116.out 2).trans rfl; have hfz23_0 := blk_frozen BK116.out 0; have hfz23_1 := blk_frozen BK116.out 1; have hfz23_2 := blk_frozen BK116.out 2) | ((with_reducible refine gate_callee (f := 45) rfl ?_); refine goesL_ (some 5) rfl rfl Try.func45 (by kernel_rfl) rfl #[.int .i64 a0_0] rfl zP ?_; (with_reducible refine (root_isAddr.calls a0_0 true _ A2.out).mono ?_); rintro e w' ⟨rfl, ⟨nd, rfl⟩⟩; refine ⟨_, rfl, ?_⟩))
   go_ret
   exact ⟨by first | rfl | (simp [errW_none, errW_some] <;> rfl) | (simp [*, errW_none, errW_some] <;> rfl), zB1 HB GE116⟩
 ·replace c3 := Bool.eq_false_iff.mpr c3
  subst c3
  have H1 : (some false) = some r := by rw [if_neg (show ¬ (false = true) by decide)] at H; exact H
  clear H
  have H := H1
  clear H1
  obtain rfl := Option.some.inj H
  go_enter Try.func40, Try.ntmps40
  go_wp2_with (first | ((with_reducible refine gate_dst (N := 1) rfl ?_); (try (refine gate_guard (by rfl) ?_; dsimp only)); refine box_event ?hg (N := 1) ?hd (cs := #[.int .i64 a0_0, .int .i64 a0_1, .slice A0_2 l0_2.length c0_2]) (t := 33) ?hr ?_; (case hd => rfl); (case hg => rfl); (case hr => first | (go_simp; done) | (go_simp; rfl)); intro gb116 hg w24 hbox hb; have n0_ := Aside0.mk (below_step (zB HB) hb); have n1_ := Aside0.mk (hbox); have n2_ := Aside0.mk ((by rw [hg]; exact (below_size (zB HB)) : w.heap.size ≤ gb116)); have n3_ := Aside0.mk ((by rw [hg]; exact (below_size (zB HB)) : w.heap.size ≤ gb116)); clear HB; have HB := n0_; have BK116 := n1_; have GW116 := n2_; have GE116 := n3_; clear n0_ n1_ n2_ n3_; clear hb hbox hg; have hcz25_0 : w24.cell? ⟨gb116, 0, none⟩ = some (.int .i64 a0_0) := (blk_cell BK116.out 0).trans rfl; have hcz25_1 : w24.cell? ⟨gb116, 1, none⟩ = some (.int .i64 a0_1) := (blk_cell BK116.out 1).trans rfl; have hcz25_2 : w24.cell? ⟨gb116, 2, none⟩ = some (.slice A0_2 l0_2.length c0_2) := (blk_cell BK116.out 2).trans rfl; have hfz25_0 := blk_frozen BK116.out 0; have hfz25_1 := blk_frozen BK116.out 1; have hfz25_2 := blk_frozen BK116.out 2) | ((with_reducible refine gate_callee (f := 45) rfl ?_); refine goesL_ (some 5) rfl rfl Try.func45 (by kernel_rfl) rfl #[.int .i64 a0_0] rfl zP ?_; (with_reducible refine (root_isAddr.calls a0_0 false _ A2.out).mono ?_); rintro e w' ⟨rfl, ⟨nd, rfl⟩⟩; refine ⟨_, rfl, ?_⟩))
  go_ret
  exact ⟨by first | rfl | (simp [errW_none, errW_some] <;> rfl) | (simp [*, errW_none, errW_some] <;> rfl), zB1 HB GE116⟩

end Go.Proofs.Ytnjnjajgpkmfhaa.PX

namespace Go.Proofs.Ytnjnjajgpkmfhaa.PX
open Go.RowKit Go.Proofs.YtnjnjajgpkmfhaaW.PrintWords Go.Proofs.YtnjnjajgpkmfhaaW.PrintLast Go.Proofs.YtnjnjajgpkmfhaaW.PrintMore
attribute [local go_sem] max2_int min2_int max_two min_two max_three min_three max_four min_four   -- for this text's walks alone
set_option linter.unusedVariables false
set_option linter.unusedSimpArgs false

/-! ### root_isEmpty: function 41 -/
def root_isEmpty.f (a0_0 : Int) (a0_1 : Int) (l0_2 : List Int) : Option (Bool) := if a0_1 = 0 then (some ((l0_2.length : Int) == 0)) else (some false)
set_option maxHeartbeats 8000000 in
set_option maxRecDepth 100000 in
theorem root_isEmpty.calls (a0_0 : Int) (a0_1 : Int) (A0_2 : Option Addr) (c0_2 : Nat) (l0_2 : List Int) (r : Bool) (w : World) (hr0_2 : Kd.C (Kd.int .i64) w A0_2 l0_2.length l0_2) (hc0_2 : l0_2.length ≤ c0_2) (h : root_isEmpty.f a0_0 a0_1 l0_2 = some r) :
  Calls Try.prog 41 #[.agg #[.int .i64 a0_0, .int .i64 a0_1, .slice A0_2 l0_2.length c0_2]] w fun e w' => e = .returned (.bool r) ∧ Below w.heap.size w w' := by
 have hu33 := Try.underlying33
 have HR0_2 := Aside0.mk hr0_2
 have HC0_2 := Aside0.mk hc0_2
 clear hr0_2 hc0_2
 have HB := Aside0.mk (Below.refl w.heap.size w)
 have H : (if a0_1 = 0 then (some ((l0_2.length : Int) == 0)) else (some false)) = some r := h
 clear h
 by_cases c2 : a0_1 = 0
 ·rw [if_pos c2] at H
  have c2b0 : (a0_1 == 0) = true := beq_iff_eq.mpr c2
  have c2b1 : (a0_1 != 0) = false := bne_eq_false_iff_eq.mpr c2
  clear c2
  obtain rfl := Option.some.inj H
  go_enter Try.func41, Try.ntmps41
  go_wp2_with (first | ((with_reducible refine gate_dst (N := 1) rfl ?_); (try (refine gate_guard (by rfl) ?_; dsimp only)); refine box_event ?hg (N := 1) ?hd (cs := #[.int .i64 a0_0, .int .i64 a0_1, .slice A0_2 l0_2.length c0_2]) (t := 33) ?hr ?_; (case hd => rfl); (case hg => rfl); (case hr => first | (go_simp; done) | (go_simp; rfl)); intro gb119 hg w3 hbox hb; have n0_ := Aside0.mk (below_step (zB HB) hb); have n1_ := Aside0.mk (hbox); have n2_ := Aside0.mk ((by rw [hg]; exact (below_size (zB HB)) : w.heap.size ≤ gb119)); have n3_ := Aside0.mk ((by rw [hg]; exact (below_size (zB HB)) : w.heap.size ≤ gb119)); clear HB; have HB := n0_; have BK119 := n1_; have GW119 := n2_; have GE119 := n3_; clear n0_ n1_ n2_ n3_; clear hb hbox hg; have hcz4_0 : w3.cell? ⟨gb119, 0, none⟩ = some (.int .i64 a0_0) := (blk_cell BK119.out 0).trans rfl; have hcz4_1 : w3.cell? ⟨gb119, 1, none⟩ = some (.int .i64 a0_1) := (blk_cell BK119.out 1).trans rfl; have hcz4_2 : w3.cell? ⟨gb119, 2, none⟩ = some (.slice A0_2 l0_2.length c0_2) := (blk_cell BK119.out 2).trans rfl; have hfz4_0 := blk_frozen BK119.out 0; have hfz4_1 := blk_frozen BK119.out 1; have hfz4_2 := blk_frozen BK119.out 2))
  go_ret
  exact ⟨by first | rfl | (simp [errW_none, errW_some] <;> rfl) | (simp [*, errW_none, errW_some] <;> rfl), zB1 HB GE119⟩
 ·rw [if_neg c2] at H
  have c2b0 : (a0_1 == 0) = false := beq_eq_false_iff_ne.mpr c2
  have c2b1 : (a0_1 != 0) = true := bne_iff_ne.mpr c2
  obtain rfl := Option.some.inj H
  go_enter Try.func41, Try.ntmps41
  go_wp2_with (first | ((with_reducible refine gate_dst (N := 1) rfl ?_); (try (refine gate_guard (by rfl) ?_; dsimp only)); refine box_event ?hg (N := 1) ?hd (cs := #[.int .i64 a0_0, .int .i64 a0_1, .slice A0_2 l0_2.length c0_2]) (t := 33) ?hr ?_; (case hd => rfl); (case hg => rfl); (case hr => first | (go_simp; done) | (go_simp; rfl)); intro gb119 hg w5 hbox hb; have n0_ := Aside0.mk (below_step (zB HB) hb); have n1_ := Aside0.mk (hbox); have n2_ := Aside0.mk ((by rw [hg]; exact (below_size (zB HB)) : w.heap.size ≤ gb119)); have n3_ := Aside0.mk ((by rw [hg]; exact (below_size (zB HB)) : w.heap.size ≤ gb119)); clear HB; have HB := n0_; have BK119 := n1_; have GW119 := n2_; have GE119 := n3_; clear n0_ n1_ n2_ n3_; clear hb hbox hg; have hcz6_0 : w5.cell? ⟨gb119, 0, none⟩ = some (.int .i64 a0_0) := (blk_cell BK119.out 0).trans rfl; have hcz6_1 : w5.cell? ⟨gb119, 1, none⟩ = some (.int .i64 a0_1) := (blk_cell BK119.out 1).trans rfl; have hcz6_2 : w5.cell? ⟨gb119, 2, none⟩ = some (.slice A0_2 l0_2.length c0_2) := (blk_cell BK119.out 2).trans rfl; have hfz6_0 := blk_frozen BK119.out 0; have hfz6_1 := blk_frozen BK119.out 1; have hfz6_2 := blk_frozen BK119.out 2))
  go_ret
  exact ⟨by first | rfl | (simp [errW_none, errW_some] <;> rfl) | (simp [*, errW_none, errW_some] <;> rfl), zB1 HB GE119⟩

end Go.Proofs.Ytnjnjajgpkmfhaa.PX

namespace Go.Proofs.Ytnjnjajgpkmfhaa.PX
open Go.RowKit Go.Proofs.YtnjnjajgpkmfhaaW.PrintWords Go.Proofs.YtnjnjajgpkmfhaaW.PrintLast Go.Proofs.YtnjnjajgpkmfhaaW.PrintMore
attribute [local go_sem] max2_int min2_int max_two min_two max_three min_three max_four min_four   -- for this text's walks alone
set_option linter.unusedVariables false
set_option linter.unusedSimpArgs false

/-! ### root_order: function 42 -/
def root_order.f (a0 : Int) (a1 : Int) : Option (Int) := (root_Root.f a0).bind fun bt121 => ((root_Root.f a1).bind fun bt123 => (if bt121.1 = bt123.1 then (some (wrap64 (a0 - a1))) else (some (wrap64 (bt121.1 - bt123.1)))))
set_option maxHeartbeats 8000000 in
set_option maxRecDepth 100000 in
theorem root_order.calls (a0 : Int) (a1 : Int) (r : Int) (w : World) (h : root_order.f a0 a1 = some r) :
  Calls Try.prog 42 #[.int .i64 a0, .int .i64 a1] w fun e w' => e = .returned (.int .i64 r) ∧ Drawn0 w w' := by
 have H : ((root_Root.f a0).bind fun bt121 => ((root_Root.f a1).bind fun bt123 => (if bt121.1 = bt123.1 then (some (wrap64 (a0 - a1))) else (some (wrap64 (bt121.1 - bt123.1)))))) = some r := h
 clear h
 replace H := Option.bind_eq_some_iff.mp H
 obtain ⟨⟨t121, t122⟩, A30, H⟩ := H
 replace H : ((root_Root.f a1).bind fun bt123 => (if t121 = bt123.1 then (some (wrap64 (a0 - a1))) else (some (wrap64 (t121 - bt123.1))))) = some r := H
 have A3 := Aside0.mk A30
 clear A30
 replace H := Option.bind_eq_some_iff.mp H
 obtain ⟨⟨t123, t124⟩, A40, H⟩ := H
 replace H : (if t121 = t123 then (some (wrap64 (a0 - a1))) else (some (wrap64 (t121 - t123)))) = some r := H
 have A4 := Aside0.mk A40
 clear A40
 by_cases c5 : t121 = t123
 ·rw [if_pos c5] at H
  have c5b0 : (t121 == t123) = true := beq_iff_eq.mpr c5
  have c5b1 : (t121 != t123) = false := bne_eq_false_iff_eq.mpr c5
  clear c5
  obtain rfl := Option.some.inj H
  go_enter Try.func42, Try.ntmps42
  go_wp2_with (first | ((with_reducible refine gate_callee (f := 14) rfl ?_); refine goesL_ (some 11) rfl rfl Try.func14 (by kernel_rfl) rfl #[.int .i64 a0] rfl zP ?_; (with_reducible refine (root_Root.calls a0 t121 t122 _ A3.out).mono ?_); rintro e w' ⟨rfl, ⟨nd, rfl⟩⟩; refine ⟨_, rfl, ?_⟩) | ((with_reducible refine gate_callee (f := 14) rfl ?_); refine goesL_ (some 16) rfl rfl Try.func14 (by kernel_rfl) rfl #[.int .i64 a1] rfl zP ?_; (with_reducible refine (root_Root.calls a1 t123 t124 _ A4.out).mono ?_); rintro e w' ⟨rfl, ⟨nd, rfl⟩⟩; refine ⟨_, rfl, ?_⟩))
  go_ret
  exact ⟨by first | rfl | (simp; done) | (simp [*]; done), by repeat (first | exact Drawn0.refl _ | apply Drawn0.step)⟩
 ·rw [if_neg c5] at H
  have c5b0 : (t121 == t123) = false := beq_eq_false_iff_ne.mpr c5
  have c5b1 : (t121 != t123) = true := bne_iff_ne.mpr c5
  obtain rfl := Option.some.inj H
  go_enter Try.func42, Try.ntmps42
  go_wp2_with (first | ((with_reducible refine gate_callee (f := 14) rfl ?_); refine goesL_ (some 11) rfl rfl Try.func14 (by kernel_rfl) rfl #[.int .i64 a0] rfl zP ?_; (with_reducible refine (root_Root.calls a0 t121 t122 _ A3.out).mono ?_); rintro e w' ⟨rfl, ⟨nd, rfl⟩⟩; refine ⟨_, rfl, ?_⟩) | ((with_reducible refine gate_callee (f := 14) rfl ?_); refine goesL_ (some 16) rfl rfl Try.func14 (by kernel_rfl) rfl #[.int .i64 a1] rfl zP ?_; (with_reducible refine (root_Root.calls a1 t123 t124 _ A4.out).mono ?_); rintro e w' ⟨rfl, ⟨nd, rfl⟩⟩; refine ⟨_, rfl, ?_⟩))
  go_ret
  exact ⟨by first | rfl | (simp; done) | (simp [*]; done), by repeat (first | exact Drawn0.refl _ | apply Drawn0.step)⟩

end Go.Proofs.Ytnjnjajgpkmfhaa.PX

namespace Go.Proofs.Ytnjnjajgpkmfhaa.PX
open Go.RowKit Go.Proofs.YtnjnjajgpkmfhaaW.PrintWords Go.Proofs.YtnjnjajgpkmfhaaW.PrintLast Go.Proofs.YtnjnjajgpkmfhaaW.PrintMore
attribute [local go_sem] max2_int min2_int max_two min_two max_three min_three max_four min_four   -- for this text's walks alone
set_option linter.unusedVariables false
set_option linter.unusedSimpArgs false

/-! ### root_Right: function 11 -/
def root_Right.l0 : Nat → List (S33) → List (S33) → Int → Int → Option (Bool)
 | 0, _, _, _, _ => none
 | k + 1, x0, x5, x6, x7 => if x7 < x6 then (if 0 ≤ x7 then (if x7 < (x5.length : Int) then ((root_isSpot.f ((rd_T33 x5 x7).f0) ((rd_T33 x5 x7).f1) ((rd_T33 x5 x7).f2)).bind fun t127 => (if t127 = true then ((root_isEmpty.f ((rd_T33 x5 x7).f0) ((rd_T33 x5 x7).f1) ((rd_T33 x5 x7).f2)).bind fun t128 => (if t128 = true then (some false) else (if x7 > 0 then (if 0 ≤ (wrap64 (x7 - 1)) then (if (wrap64 (x7 - 1)) < (x0.length : Int) then ((root_order.f ((rd_T33 x0 (wrap64 (x7 - 1))).f0) ((rd_T33 x5 x7).f0)).bind fun t130 => (if t130 ≥ 0 then (some false) else (root_Right.l0 k x0 x5 x6 (wrap64 (x7 + 1))))) else (none)) else (none)) else (root_Right.l0 k x0 x5 x6 (wrap64 (x7 + 1)))))) else (some false))) else (none)) else (none)) else (some (decide ((x0.length : Int) ≤ 64)))
def root_Right.f (k : Nat) (l0 : List (S33)) : Option (Bool) := root_Right.l0 k l0 l0 (l0.length : Int) 0
def root_Right.T4 : Bool × List (List Nat × List Nat) := (true, [([], []), ([0], [0]), ([1], [1]), ([2, 1], [2]), ([3], [3]), ([4, 3, 3], [3, 4]), ([3, 5], [3, 5]), ([6, 5], [6]), ([7], [7]), ([8, 7], [7, 8]), ([9, 7, 7], [7, 9]), ([10], [10]), ([10], [10]), ([12, 10], [10, 12]), ([11, 13, 10], [10, 11, 13]), ([14, 10], [10, 14]), ([15, 10], [10, 15]), ([10], [10]), ([17, 10], [10, 17]), ([16, 18, 10, 10], [10, 16, 18]), ([19, 10], [10, 19]), ([10, 20, 7], [7, 10, 20]), ([7, 21], [7, 21])])
def root_Right.B4 : List Nat := [0, 1, 3, 7, 15, 31, 63, 127, 255, 511, 1023, 2047, 2047, 6143, 16383, 32767, 65535, 2047, 133119, 524287, 1048575, 2097151, 4194303]
theorem root_Right.tab4 : rtab .any (opsOf Try.f11 4) = root_Right.T4 := by kernel_rfl
theorem root_Right.bits4 : waitsOk root_Right.T4.2 root_Right.B4 = true := by kernel_rfl
set_option maxHeartbeats 8000000 in
set_option maxRecDepth 100000 in
theorem root_Right.calls (k : Nat) (A0 : Option Addr) (c0 : Nat) (l0 : List (S33)) (r : Bool) (w : World) (hr0 : Kd.C k33 w A0 l0.length l0) (hc0 : l0.length ≤ c0) (h : root_Right.f k l0 = some r) :
  Calls Try.prog 11 #[.slice A0 l0.length c0] w fun e w' => e = .returned (.bool r) ∧ Below w.heap.size w w' := by
 have hu33 := Try.underlying33
 have HR0 := Aside0.mk hr0
 have HC0 := Aside0.mk hc0
 clear hr0 hc0
 have HB := Aside0.mk (Below.refl w.heap.size w)
 have H : (root_Right.l0 k l0 l0 (l0.length : Int) 0) = some r := h
 clear h
 have H' := Aside0.mk H
 clear H
 go_enter Try.func11, Try.ntmps11
 go_wp2
 go_loopg [7] k (fun kq v7 w' => ∃ (x7_1 : Int), v7 = .int .i64 x7_1 ∧ Aside0 (root_Right.l0 kq l0 l0 (l0.length : Int) x7_1 = some r) ∧ Aside0 (kq ≤ k) ∧ Aside0 (Below w.heap.size w w'))
 case atStart => exact ⟨(0), (by first | rfl | (simp; done) | (simp [*]; done)), H', ⟨Nat.le_refl _⟩, ⟨zB HB⟩⟩
 case round =>
  clear H'
  try clear c1
  obtain ⟨x7_1, rfl, HA, HK1, HB⟩ := hrel
  cases gk with
  | zero => exact absurd HA.out (by simp [root_Right.l0])
  | succ k1 =>
   have H := HA.out
   clear HA
   simp only [root_Right.l0] at H
   by_cases c2 : x7_1 < (l0.length : Int)
   ·rw [if_pos c2] at H
    have c2b0 : decide (x7_1 < (l0.length : Int)) = true := decide_eq_true c2
    clear c2
    by_cases c3 : 0 ≤ x7_1
    ·rw [if_pos c3] at H
     have c3b0 : decide (0 ≤ x7_1) = true := decide_eq_true c3
     clear c3
     by_cases c4 : x7_1 < (l0.length : Int)
     ·rw [if_pos c4] at H
      have c4b0 : decide (x7_1 < (l0.length : Int)) = true := decide_eq_true c4
      clear c4
      replace H := Option.bind_eq_some_iff.mp H
      obtain ⟨t127, A50, H⟩ := H
      replace H : (if t127 = true then ((root_isEmpty.f ((rd_T33 l0 x7_1).f0) ((rd_T33 l0 x7_1).f1) ((rd_T33 l0 x7_1).f2)).bind fun t128 => (if t128 = true then (some false) else (if x7_1 > 0 then (if 0 ≤ (wrap64 (x7_1 - 1)) then (if (wrap64 (x7_1 - 1)) < (l0.length : Int) then ((root_order.f ((rd_T33 l0 (wrap64 (x7_1 - 1))).f0) ((rd_T33 l0 x7_1).f0)).bind fun t130 => (if t130 ≥ 0 then (some false) else (root_Right.l0 k1 l0 l0 (l0.length : Int) (wrap64 (x7_1 + 1))))) else (none)) else (none)) else (root_Right.l0 k1 l0 l0 (l0.length : Int) (wrap64 (x7_1 + 1)))))) else (some false)) = some r := H
      have A5 := Aside0.mk A50
      clear A50
      by_cases c6 : t127 = true
      ·subst c6
       have H1 : ((root_isEmpty.f ((rd_T33 l0 x7_1).f0) ((rd_T33 l0 x7_1).f1) ((rd_T33 l0 x7_1).f2)).bind fun t128 => (if t128 = true then (some false) else (if x7_1 > 0 then (if 0 ≤ (wrap64 (x7_1 - 1)) then (if (wrap64 (x7_1 - 1)) < (l0.length : Int) then ((root_order.f ((rd_T33 l0 (wrap64 (x7_1 - 1))).f0) ((rd_T33 l0 x7_1).f0)).bind fun t130 => (if t130 ≥ 0 then (some false) else (root_Right.l0 k1 l0 l0 (l0.length : Int) (wrap64 (x7_1 + 1))))) else (none)) else (none)) else (root_Right.l0 k1 l0 l0 (l0.length : Int) (wrap64 (x7_1 + 1)))))) = some r := by rw [if_pos rfl] at H; exact H
       clear H
       have H := H1
       clear H1
       replace H := Option.bind_eq_some_iff.mp H
       obtain ⟨t128, A70, H⟩ := H
       replace H : (if t128 = true then (some false) else (if x7_1 > 0 then (if 0 ≤ (wrap64 (x7_1 - 1)) then (if (wrap64 (x7_1 - 1)) < (l0.length : Int) then ((root_order.f ((rd_T33 l0 (wrap64 (x7_1 - 1))).f0) ((rd_T33 l0 x7_1).f0)).bind fun t130 => (if t130 ≥ 0 then (some false) else (root_Right.l0 k1 l0 l0 (l0.length : Int) (wrap64 (x7_1 + 1))))) else (none)) else (none)) else (root_Right.l0 k1 l0 l0 (l0.length : Int) (wrap64 (x7_1 + 1))))) = some r := H
       have A7 := Aside0.mk A70
       clear A70
       by_cases c8 : t128 = true
       ·subst c8
        have H1 : (some false) = some r := by rw [if_pos rfl] at H; exact H
        clear H
        have H := H1
        clear H1
        obtain rfl := Option.some.inj H
        have p125 : 0 ≤ (x7_1 : Int) := of_decide_eq_true (by first | (with_reducible assumption) | assumption)
        have q125 : x7_1 < (l0.length : Int) := of_decide_eq_true (by first | (with_reducible assumption) | assumption)
        obtain ⟨ad125, A125_2, c125_2, e125, hx125_0, hx125_1, hx125_2, hl125_2, hi125_2⟩ := at_T33 HR0.out x7_1 p125 q125
        cases e125
        replace hx125_0 := (HB.out.cell (World.block_lt_of_cell? w _ hx125_0)).trans hx125_0
        replace hx125_1 := (HB.out.cell (World.block_lt_of_cell? w _ hx125_1)).trans hx125_1
        replace hx125_2 := (HB.out.cell (World.block_lt_of_cell? w _ hx125_2)).trans hx125_2
        have HR125_2 := Aside0.mk hi125_2
        have HC125_2 := Aside0.mk hl125_2
        clear hi125_2 hl125_2
        replace p125 := eq_true p125
        replace q125 := eq_true q125
        try go_wp2_with (first | ((with_reducible refine gate_dst (N := 4) rfl ?_); refine box_event ?hg (N := 4) ?hd (cs := #[.int .i64 0, .int .i64 0, .slice none 0 0]) (t := 33) ?hr ?_; (case hd => rfl); (case hg => rfl); (case hr => first | (go_simp; done) | (go_simp; rfl)); intro gb126 hg w9 hbox hb; have n0_ := Aside0.mk (below_step (zB HB) hb); have n1_ := Aside0.mk (hbox); have n2_ := Aside0.mk ((by rw [hg]; exact (below_size (zB HB)) : w.heap.size ≤ gb126)); have n3_ := Aside0.mk ((by rw [hg]; exact (below_size (zB HB)) : w.heap.size ≤ gb126)); clear HB; have HB := n0_; have BK126 := n1_; have GW126 := n2_; have GE126 := n3_; clear n0_ n1_ n2_ n3_; clear hb hbox hg; have hcz10_0 : w9.cell? ⟨gb126, 0, none⟩ = some (.int .i64 0) := (blk_cell BK126.out 0).trans rfl; have hcz10_1 : w9.cell? ⟨gb126, 1, none⟩ = some (.int .i64 0) := (blk_cell BK126.out 1).trans rfl; have hcz10_2 : w9.cell? ⟨gb126, 2, none⟩ = some (.slice none 0 0) := (blk_cell BK126.out 2).trans rfl; have hfz10_0 := blk_frozen BK126.out 0; have hfz10_1 := blk_frozen BK126.out 1; have hfz10_2 := blk_frozen BK126.out 2))
        have n0_ : Aside0 ((((w9.setCell ⟨gb126, 0, none⟩ (.int .i64 ((rd_T33 l0 x7_1).f0))).setCell ⟨gb126, 1, none⟩ (.int .i64 ((rd_T33 l0 x7_1).f1))).setCell ⟨gb126, 2, none⟩ (.slice A125_2 ((rd_T33 l0 x7_1).f2).length c125_2)).heap[gb126]? = some (.cells #[.int .i64 ((rd_T33 l0 x7_1).f0), .int .i64 ((rd_T33 l0 x7_1).f1), .slice A125_2 ((rd_T33 l0 x7_1).f2).length c125_2] 33 (0, 0))) := ⟨by (with_reducible repeat (first | refine blk_drewN ?_ _ | refine blk_drew ?_ | refine blk_alloc ?_ _)); refine blk_put (cs := #[.int .i64 ((rd_T33 l0 x7_1).f0), .int .i64 ((rd_T33 l0 x7_1).f1), .slice none 0 0]) ?_ 2 _ rfl; (with_reducible repeat (first | refine blk_drewN ?_ _ | refine blk_drew ?_ | refine blk_alloc ?_ _)); refine blk_put (cs := #[.int .i64 ((rd_T33 l0 x7_1).f0), .int .i64 0, .slice none 0 0]) ?_ 1 _ rfl; (with_reducible repeat (first | refine blk_drewN ?_ _ | refine blk_drew ?_ | refine blk_alloc ?_ _)); refine blk_put (cs := #[.int .i64 0, .int .i64 0, .slice none 0 0]) ?_ 0 _ rfl; (with_reducible repeat (first | refine blk_drewN ?_ _ | refine blk_drew ?_ | refine blk_alloc ?_ _)); exact BK126.out⟩
        have n1_ : Aside0 (Below w.heap.size w (((w9.setCell ⟨gb126, 0, none⟩ (.int .i64 ((rd_T33 l0 x7_1).f0))).setCell ⟨gb126, 1, none⟩ (.int .i64 ((rd_T33 l0 x7_1).f1))).setCell ⟨gb126, 2, none⟩ (.slice A125_2 ((rd_T33 l0 x7_1).f2).length c125_2))) := ⟨zB1 HB GE126⟩
        (try clear BK126)
        (try clear HB)
        generalize (((w9.setCell ⟨gb126, 0, none⟩ (.int .i64 ((rd_T33 l0 x7_1).f0))).setCell ⟨gb126, 1, none⟩ (.int .i64 ((rd_T33 l0 x7_1).f1))).setCell ⟨gb126, 2, none⟩ (.slice A125_2 ((rd_T33 l0 x7_1).f2).length c125_2)) = w11 at n0_ n1_ ⊢
        have BK126 := n0_
        have HB := n1_
        clear n0_ n1_
        have n0_ := Aside0.mk (blk_drew BK126.out)
        have n1_ := Aside0.mk (below_drew1 HB.out)
        clear BK126
        clear HB
        have BK126 := n0_
        have HB := n1_
        clear n0_ n1_
        refine start_ (n := 23) (S := fun w' => w'.cell? ⟨gb126, 0, none⟩ = some (.int .i64 ((rd_T33 l0 x7_1).f0)) ∧ w'.cell? ⟨gb126, 1, none⟩ = some (.int .i64 ((rd_T33 l0 x7_1).f1)) ∧ w'.cell? ⟨gb126, 2, none⟩ = some (.slice A125_2 ((rd_T33 l0 x7_1).f2).length c125_2)) (ds := []) #[false, false, false, false, false, false, false, false, false, false, false, false, false, false, false, false, false, false, false, false, false, false, false] (by kernel_rfl) rfl rfl ⟨(blk_cell BK126.out 0).trans rfl, (blk_cell BK126.out 1).trans rfl, (blk_cell BK126.out 2).trans rfl⟩ (fun hHeld => ?_); refine with_tabW root_Right.tab4 root_Right.bits4 (fun HT_ HW_ => ?_)
        generalize w11.drew = w12 at BK126 HB hHeld ⊢
        refine take_ (i := 0) (N := some 12) (v := ?_) (a' := ?_) #[true, false, false, false, false, false, false, false, false, false, false, false, false, false, false, false, false, false, false, false, false, false, false] rfl rfl (take_ofW HT_.out HW_.out (by kernel_rfl)) (fun _ _ _ h => h) (Or.inl ⟨by rfl, ?_⟩) hHeld ?_ ?_
        rotate_left
        ·rintro w' ⟨s0, s1, s2⟩
         go_simp
         with_reducible rfl
        rotate_left
        ·simp only [Act.put, List.setIfInBounds_toArray, List.set_cons_zero, List.set_cons_succ, i64_w, i32_w]
         rfl
        refine one_ (i := 1) (N := some 13) #[true, true, false, false, false, false, false, false, false, false, false, false, false, false, false, false, false, false, false, false, false, false, false] rfl rfl (one_of HT_.out (by kernel_rfl)) (by decide) (fun K hK => ?_)
        refine goes_ Try.func40 (by kernel_rfl) rfl #[.agg #[.int .i64 ((rd_T33 l0 x7_1).f0), .int .i64 ((rd_T33 l0 x7_1).f1), .slice A125_2 ((rd_T33 l0 x7_1).f2).length c125_2]] (by rfl) rfl rfl zP ?_
        with_reducible refine (root_isSpot.calls ((rd_T33 l0 x7_1).f0) ((rd_T33 l0 x7_1).f1) _ _ ((rd_T33 l0 x7_1).f2) true _ ?side1 ?side2 A5.out).mono ?_
        (case side1 => repeat (first | exact (Kd.C_below HR125_2.out HB.out) | (with_reducible refine Kd.C_alloc ?_ _) | (with_reducible refine Kd.C_drewN ?_ _) | (with_reducible refine Kd.C_drew ?_)))
        (case side2 => exact HC125_2.out)
        rintro e w13 ⟨rfl, hb⟩
        refine ⟨_, rfl, ?_⟩
        have n0_ := Aside0.mk (blk_below (g := gb126) (o := .cells #[.int .i64 ((rd_T33 l0 x7_1).f0), .int .i64 ((rd_T33 l0 x7_1).f1), .slice A125_2 ((rd_T33 l0 x7_1).f2).length c125_2] 33 (0, 0)) (zK BK126) hb)
        have n1_ := Aside0.mk (below_step (zB1 HB GE126) hb)
        clear BK126
        clear HB
        have BK126 := n0_
        have HB := n1_
        clear n0_ n1_
        (try clear hb)
        (try clear hb2)
        (try clear hk)
        (try clear hi)
        refine hK.out _ _ ⟨(blk_cell BK126.out 0).trans rfl, (blk_cell BK126.out 1).trans rfl, (blk_cell BK126.out 2).trans rfl⟩ (fun hHeld => ?_)
        clear hK K
        refine norm_ (a' := ?_) ?_ ?_
        rotate_left
        ·show Act.put _ (some 13) _ = _
         simp only [Act.put, List.setIfInBounds_toArray, List.set_cons_zero, List.set_cons_succ, i64_w, i32_w]
         rfl
        refine pure_ (i := 2) (N := some 14) (v := ?_) (a' := ?_) #[true, true, true, false, false, false, false, false, false, false, false, false, false, false, false, false, false, false, false, false, false, false, false] rfl rfl (any_of HT_.out (by kernel_rfl)) (fun _ _ _ h => h) (Or.inl ⟨by rfl, ?_⟩) ?_ ?_
        rotate_left
        ·intro w'
         go_simp
         with_reducible rfl
        rotate_left
        ·simp only [Act.put, List.setIfInBounds_toArray, List.set_cons_zero, List.set_cons_succ, i64_w, i32_w]
         rfl
        refine pure_ (i := 3) (N := some 15) (v := ?_) (a' := ?_) #[true, true, true, true, false, false, false, false, false, false, false, false, false, false, false, false, false, false, false, false, false, false, false] rfl rfl (any_of HT_.out (by kernel_rfl)) (fun _ _ _ h => h) (Or.inl ⟨by rfl, ?_⟩) ?_ ?_
        rotate_left
        ·intro w'
         go_simp
         with_reducible rfl
        rotate_left
        ·simp only [Act.put, List.setIfInBounds_toArray, List.set_cons_zero, List.set_cons_succ, i64_w, i32_w]
         rfl
        refine take_ (i := 4) (N := some 16) (v := ?_) (a' := ?_) #[true, true, true, true, true, false, false, false, false, false, false, false, false, false, false, false, false, false, false, false, false, false, false] rfl rfl (take_ofW HT_.out HW_.out (by kernel_rfl)) (fun _ _ _ h => h) (Or.inl ⟨by rfl, ?_⟩) hHeld ?_ ?_
        rotate_left
        ·rintro w' ⟨s0, s1, s2⟩
         go_simp
         with_reducible rfl
        rotate_left
        ·simp only [Act.put, List.setIfInBounds_toArray, List.set_cons_zero, List.set_cons_succ, i64_w, i32_w]
         rfl
        refine one_ (i := 5) (N := some 17) #[true, true, true, true, true, true, false, false, false, false, false, false, false, false, false, false, false, false, false, false, false, false, false] rfl rfl (one_of HT_.out (by kernel_rfl)) (by decide) (fun K hK => ?_)
        refine goes_ Try.func41 (by kernel_rfl) rfl #[.agg #[.int .i64 ((rd_T33 l0 x7_1).f0), .int .i64 ((rd_T33 l0 x7_1).f1), .slice A125_2 ((rd_T33 l0 x7_1).f2).length c125_2]] (by rfl) rfl rfl zP ?_
        with_reducible refine (root_isEmpty.calls ((rd_T33 l0 x7_1).f0) ((rd_T33 l0 x7_1).f1) _ _ ((rd_T33 l0 x7_1).f2) true _ ?side1 ?side2 A7.out).mono ?_
        (case side1 => repeat (first | exact (Kd.C_below HR125_2.out HB.out) | (with_reducible refine Kd.C_alloc ?_ _) | (with_reducible refine Kd.C_drewN ?_ _) | (with_reducible refine Kd.C_drew ?_)))
        (case side2 => exact HC125_2.out)
        rintro e w14 ⟨rfl, hb⟩
        refine ⟨_, rfl, ?_⟩
        have n0_ := Aside0.mk (blk_below (g := gb126) (o := .cells #[.int .i64 ((rd_T33 l0 x7_1).f0), .int .i64 ((rd_T33 l0 x7_1).f1), .slice A125_2 ((rd_T33 l0 x7_1).f2).length c125_2] 33 (0, 0)) (zK BK126) hb)
        have n1_ := Aside0.mk (below_step (zB1 HB GE126) hb)
        clear BK126
        clear HB
        have BK126 := n0_
        have HB := n1_
        clear n0_ n1_
        (try clear hb)
        (try clear hb2)
        (try clear hk)
        (try clear hi)
        refine hK.out _ _ ⟨(blk_cell BK126.out 0).trans rfl, (blk_cell BK126.out 1).trans rfl, (blk_cell BK126.out 2).trans rfl⟩ (fun hHeld => ?_)
        clear hK K
        refine norm_ (a' := ?_) ?_ ?_
        rotate_left
        ·show Act.put _ (some 17) _ = _
         simp only [Act.put, List.setIfInBounds_toArray, List.set_cons_zero, List.set_cons_succ, i64_w, i32_w]
         rfl
        refine pure_ (i := 6) (N := some 18) (v := ?_) (a' := ?_) #[true, true, true, true, true, true, true, false, false, false, false, false, false, false, false, false, false, false, false, false, false, false, false] rfl rfl (any_of HT_.out (by kernel_rfl)) (fun _ _ _ h => h) (Or.inl ⟨by rfl, ?_⟩) ?_ ?_
        rotate_left
        ·intro w'
         go_simp
         with_reducible rfl
        rotate_left
        ·simp only [Act.put, List.setIfInBounds_toArray, List.set_cons_zero, List.set_cons_succ, i64_w, i32_w]
         rfl
        refine pure_ (i := 7) (N := some 19) (v := ?_) (a' := ?_) #[true, true, true, true, true, true, true, true, false, false, false, false, false, false, false, false, false, false, false, false, false, false, false] rfl rfl (any_of HT_.out (by kernel_rfl)) (fun _ _ _ h => h) (Or.inl ⟨by rfl, ?_⟩) ?_ ?_
        rotate_left
        ·intro w'
         go_simp
         with_reducible rfl
        rotate_left
        ·simp only [Act.put, List.setIfInBounds_toArray, List.set_cons_zero, List.set_cons_succ, i64_w, i32_w]
         rfl
        refine pure_ (i := 8) (N := some 20) (v := undef) (a' := ?_) #[true, true, true, true, true, true, true, true, true, false, false, false, false, false, false, false, false, false, false, false, false, false, false] rfl rfl (any_of HT_.out (by kernel_rfl)) (fun _ _ _ h => h) (Or.inr ⟨by rfl, rfl⟩) ?_ ?_
        rotate_left
        ·simp only [Act.put, List.setIfInBounds_toArray, List.set_cons_zero, List.set_cons_succ, i64_w, i32_w]
         rfl
        refine pure_ (i := 9) (N := some 21) (v := undef) (a' := ?_) #[true, true, true, true, true, true, true, true, true, true, false, false, false, false, false, false, false, false, false, false, false, false, false] rfl rfl (any_of HT_.out (by kernel_rfl)) (fun _ _ _ h => h) (Or.inr ⟨by rfl, rfl⟩) ?_ ?_
        rotate_left
        ·simp only [Act.put, List.setIfInBounds_toArray, List.set_cons_zero, List.set_cons_succ, i64_w, i32_w]
         rfl
        refine pure_ (i := 10) (N := some 22) (v := undef) (a' := ?_) #[true, true, true, true, true, true, true, true, true, true, true, false, false, false, false, false, false, false, false, false, false, false, false] rfl rfl (any_of HT_.out (by kernel_rfl)) (fun _ _ _ h => h) (Or.inr ⟨by rfl, rfl⟩) ?_ ?_
        rotate_left
        ·simp only [Act.put, List.setIfInBounds_toArray, List.set_cons_zero, List.set_cons_succ, i64_w, i32_w]
         rfl
        refine pure_ (i := 11) (N := some 23) (v := undef) (a' := ?_) #[true, true, true, true, true, true, true, true, true, true, true, true, false, false, false, false, false, false, false, false, false, false, false] rfl rfl (any_of HT_.out (by kernel_rfl)) (fun _ _ _ h => h) (Or.inr ⟨by rfl, rfl⟩) ?_ ?_
        rotate_left
        ·simp only [Act.put, List.setIfInBounds_toArray, List.set_cons_zero, List.set_cons_succ, i64_w, i32_w]
         rfl
        refine pure_ (i := 12) (N := some 24) (v := undef) (a' := ?_) #[true, true, true, true, true, true, true, true, true, true, true, true, true, false, false, false, false, false, false, false, false, false, false] rfl rfl (any_of HT_.out (by kernel_rfl)) (fun _ _ _ h => h) (Or.inr ⟨by rfl, rfl⟩) ?_ ?_
        rotate_left
        ·simp only [Act.put, List.setIfInBounds_toArray, List.set_cons_zero, List.set_cons_succ, i64_w, i32_w]
         rfl
        refine pure_ (i := 13) (N := some 25) (v := undef) (a' := ?_) #[true, true, true, true, true, true, true, true, true, true, true, true, true, true, false, false, false, false, false, false, false, false, false] rfl rfl (any_of HT_.out (by kernel_rfl)) (fun _ _ _ h => h) (Or.inr ⟨by rfl, rfl⟩) ?_ ?_
        rotate_left
        ·simp only [Act.put, List.setIfInBounds_toArray, List.set_cons_zero, List.set_cons_succ, i64_w, i32_w]
         rfl
        refine pure_ (i := 14) (N := some 26) (v := undef) (a' := ?_) #[true, true, true, true, true, true, true, true, true, true, true, true, true, true, true, false, false, false, false, false, false, false, false] rfl rfl (any_of HT_.out (by kernel_rfl)) (fun _ _ _ h => h) (Or.inr ⟨by rfl, rfl⟩) ?_ ?_
        rotate_left
        ·simp only [Act.put, List.setIfInBounds_toArray, List.set_cons_zero, List.set_cons_succ, i64_w, i32_w]
         rfl
        refine pure_ (i := 15) (N := some 27) (v := undef) (a' := ?_) #[true, true, true, true, true, true, true, true, true, true, true, true, true, true, true, true, false, false, false, false, false, false, false] rfl rfl (any_of HT_.out (by kernel_rfl)) (fun _ _ _ h => h) (Or.inr ⟨by rfl, rfl⟩) ?_ ?_
        rotate_left
        ·simp only [Act.put, List.setIfInBounds_toArray, List.set_cons_zero, List.set_cons_succ, i64_w, i32_w]
         rfl
        refine pure_ (i := 16) (N := some 28) (v := undef) (a' := ?_) #[true, true, true, true, true, true, true, true, true, true, true, true, true, true, true, true, true, false, false, false, false, false, false] rfl rfl (any_of HT_.out (by kernel_rfl)) (fun _ _ _ h => h) (Or.inr ⟨by rfl, rfl⟩) ?_ ?_
        rotate_left
        ·simp only [Act.put, List.setIfInBounds_toArray, List.set_cons_zero, List.set_cons_succ, i64_w, i32_w]
         rfl
        refine pure_ (i := 17) (N := some 29) (v := undef) (a' := ?_) #[true, true, true, true, true, true, true, true, true, true, true, true, true, true, true, true, true, true, false, false, false, false, false] rfl rfl (any_of HT_.out (by kernel_rfl)) (fun _ _ _ h => h) (Or.inr ⟨by rfl, rfl⟩) ?_ ?_
        rotate_left
        ·simp only [Act.put, List.setIfInBounds_toArray, List.set_cons_zero, List.set_cons_succ, i64_w, i32_w]
         rfl
        refine pure_ (i := 18) (N := some 30) (v := undef) (a' := ?_) #[true, true, true, true, true, true, true, true, true, true, true, true, true, true, true, true, true, true, true, false, false, false, false] rfl rfl (any_of HT_.out (by kernel_rfl)) (fun _ _ _ h => h) (Or.inr ⟨by rfl, rfl⟩) ?_ ?_
        rotate_left
        ·simp only [Act.put, List.setIfInBounds_toArray, List.set_cons_zero, List.set_cons_succ, i64_w, i32_w]
         rfl
        refine pure_ (i := 19) (N := some 31) (v := undef) (a' := ?_) #[true, true, true, true, true, true, true, true, true, true, true, true, true, true, true, true, true, true, true, true, false, false, false] rfl rfl (any_of HT_.out (by kernel_rfl)) (fun _ _ _ h => h) (Or.inr ⟨by rfl, rfl⟩) ?_ ?_
        rotate_left
        ·simp only [Act.put, List.setIfInBounds_toArray, List.set_cons_zero, List.set_cons_succ, i64_w, i32_w]
         rfl
        refine pure_ (i := 20) (N := some 32) (v := undef) (a' := ?_) #[true, true, true, true, true, true, true, true, true, true, true, true, true, true, true, true, true, true, true, true, true, false, false] rfl rfl (any_of HT_.out (by kernel_rfl)) (fun _ _ _ h => h) (Or.inr ⟨by rfl, rfl⟩) ?_ ?_
        rotate_left
        ·simp only [Act.put, List.setIfInBounds_toArray, List.set_cons_zero, List.set_cons_succ, i64_w, i32_w]
         rfl
        refine pure_ (i := 21) (N := some 33) (v := undef) (a' := ?_) #[true, true, true, true, true, true, true, true, true, true, true, true, true, true, true, true, true, true, true, true, true, true, false] rfl rfl (any_of HT_.out (by kernel_rfl)) (fun _ _ _ h => h) (Or.inr ⟨by rfl, rfl⟩) ?_ ?_
        rotate_left
        ·simp only [Act.put, List.setIfInBounds_toArray, List.set_cons_zero, List.set_cons_succ, i64_w, i32_w]
         rfl
        refine pure_ (i := 22) (N := some 34) (v := ?_) (a' := ?_) #[true, true, true, true, true, true, true, true, true, true, true, true, true, true, true, true, true, true, true, true, true, true, true] rfl rfl (any_of HT_.out (by kernel_rfl)) (fun _ _ _ h => h) (Or.inl ⟨by rfl, ?_⟩) ?_ ?_
        rotate_left
        ·intro w'
         go_simp
         with_reducible rfl
        rotate_left
        ·simp only [Act.put, List.setIfInBounds_toArray, List.set_cons_zero, List.set_cons_succ, i64_w, i32_w]
         rfl
        refine done_ (done_of HT_.out (by kernel_rfl)) ?_
        try go_wp2
        go_ret
        exact ⟨by first | rfl | (simp [errW_none, errW_some] <;> rfl) | (simp [*, errW_none, errW_some] <;> rfl), zB1 HB GE126⟩
       ·replace c8 := Bool.eq_false_iff.mpr c8
        subst c8
        have H1 : (if x7_1 > 0 then (if 0 ≤ (wrap64 (x7_1 - 1)) then (if (wrap64 (x7_1 - 1)) < (l0.length : Int) then ((root_order.f ((rd_T33 l0 (wrap64 (x7_1 - 1))).f0) ((rd_T33 l0 x7_1).f0)).bind fun t130 => (if t130 ≥ 0 then (some false) else (root_Right.l0 k1 l0 l0 (l0.length : Int) (wrap64 (x7_1 + 1))))) else (none)) else (none)) else (root_Right.l0 k1 l0 l0 (l0.length : Int) (wrap64 (x7_1 + 1)))) = some r := by rw [if_neg (show ¬ (false = true) by decide)] at H; exact H
        clear H
        have H := H1
        clear H1
        by_cases c15 : x7_1 > 0
        ·rw [if_pos c15] at H
         have c15b0 : decide (0 < x7_1) = true := decide_eq_true c15
         clear c15
         obtain ⟨ji16, hji16⟩ : ∃ j_ : Int, (wrap64 (x7_1 - 1)) = j_ := ⟨_, rfl⟩
         replace H : (if 0 ≤ (ji16) then (if (ji16) < (l0.length : Int) then ((root_order.f ((rd_T33 l0 (ji16)).f0) ((rd_T33 l0 x7_1).f0)).bind fun t130 => (if t130 ≥ 0 then (some false) else (root_Right.l0 k1 l0 l0 (l0.length : Int) (wrap64 (x7_1 + 1))))) else (none)) else (none)) = some r := by first | (rw [hji16] at H; exact H) | (simp only [hji16] at H ⊢; exact H)
         (try rw [hji16] at A5)
         (try rw [hji16] at A7)
         have hji16w : (IntKind.i64.wrap (x7_1 - 1)) = ji16 := (i64_w _).trans hji16
         by_cases c17 : 0 ≤ (ji16)
         ·rw [if_pos c17] at H
          have c17b0 : decide (0 ≤ (ji16)) = true := decide_eq_true c17
          clear c17
          by_cases c18 : (ji16) < (l0.length : Int)
          ·rw [if_pos c18] at H
           have c18b0 : decide ((ji16) < (l0.length : Int)) = true := decide_eq_true c18
           clear c18
           replace H := Option.bind_eq_some_iff.mp H
           obtain ⟨t130, A190, H⟩ := H
           replace H : (if t130 ≥ 0 then (some false) else (root_Right.l0 k1 l0 l0 (l0.length : Int) (wrap64 (x7_1 + 1)))) = some r := H
           have A19 := Aside0.mk A190
           clear A190
           by_cases c20 : t130 ≥ 0
           ·rw [if_pos c20] at H
            have c20b0 : decide (0 ≤ t130) = true := decide_eq_true c20
            clear c20
            obtain rfl := Option.some.inj H
            have p125 : 0 ≤ (x7_1 : Int) := of_decide_eq_true (by first | (with_reducible assumption) | assumption)
            have q125 : x7_1 < (l0.length : Int) := of_decide_eq_true (by first | (with_reducible assumption) | assumption)
            obtain ⟨ad125, A125_2, c125_2, e125, hx125_0, hx125_1, hx125_2, hl125_2, hi125_2⟩ := at_T33 HR0.out x7_1 p125 q125
            cases e125
            replace hx125_0 := (HB.out.cell (World.block_lt_of_cell? w _ hx125_0)).trans hx125_0
            replace hx125_1 := (HB.out.cell (World.block_lt_of_cell? w _ hx125_1)).trans hx125_1
            replace hx125_2 := (HB.out.cell (World.block_lt_of_cell? w _ hx125_2)).trans hx125_2
            have HR125_2 := Aside0.mk hi125_2
            have HC125_2 := Aside0.mk hl125_2
            clear hi125_2 hl125_2
            replace p125 := eq_true p125
            replace q125 := eq_true q125
            try go_wp2_with (first | ((with_reducible refine gate_dst (N := 4) rfl ?_); refine box_event ?hg (N := 4) ?hd (cs := #[.int .i64 0, .int .i64 0, .slice none 0 0]) (t := 33) ?hr ?_; (case hd => rfl); (case hg => rfl); (case hr => first | (go_simp; done) | (go_simp; rfl)); intro gb126 hg w21 hbox hb; have n0_ := Aside0.mk (below_step (zB HB) hb); have n1_ := Aside0.mk (hbox); have n2_ := Aside0.mk ((by rw [hg]; exact (below_size (zB HB)) : w.heap.size ≤ gb126)); have n3_ := Aside0.mk ((by rw [hg]; exact (below_size (zB HB)) : w.heap.size ≤ gb126)); clear HB; have HB := n0_; have BK126 := n1_; have GW126 := n2_; have GE126 := n3_; clear n0_ n1_ n2_ n3_; clear hb hbox hg; have hcz22_0 : w21.cell? ⟨gb126, 0, none⟩ = some (.int .i64 0) := (blk_cell BK126.out 0).trans rfl; have hcz22_1 : w21.cell? ⟨gb126, 1, none⟩ = some (.int .i64 0) := (blk_cell BK126.out 1).trans rfl; have hcz22_2 : w21.cell? ⟨gb126, 2, none⟩ = some (.slice none 0 0) := (blk_cell BK126.out 2).trans rfl; have hfz22_0 := blk_frozen BK126.out 0; have hfz22_1 := blk_frozen BK126.out 1; have hfz22_2 := blk_frozen BK126.out 2))
            have n0_ : Aside0 ((((w21.setCell ⟨gb126, 0, none⟩ (.int .i64 ((rd_T33 l0 x7_1).f0))).setCell ⟨gb126, 1, none⟩ (.int .i64 ((rd_T33 l0 x7_1).f1))).setCell ⟨gb126, 2, none⟩ (.slice A125_2 ((rd_T33 l0 x7_1).f2).length c125_2)).heap[gb126]? = some (.cells #[.int .i64 ((rd_T33 l0 x7_1).f0), .int .i64 ((rd_T33 l0 x7_1).f1), .slice A125_2 ((rd_T33 l0 x7_1).f2).length c125_2] 33 (0, 0))) := ⟨by (with_reducible repeat (first | refine blk_drewN ?_ _ | refine blk_drew ?_ | refine blk_alloc ?_ _)); refine blk_put (cs := #[.int .i64 ((rd_T33 l0 x7_1).f0), .int .i64 ((rd_T33 l0 x7_1).f1), .slice none 0 0]) ?_ 2 _ rfl; (with_reducible repeat (first | refine blk_drewN ?_ _ | refine blk_drew ?_ | refine blk_alloc ?_ _)); refine blk_put (cs := #[.int .i64 ((rd_T33 l0 x7_1).f0), .int .i64 0, .slice none 0 0]) ?_ 1 _ rfl; (with_reducible repeat (first | refine blk_drewN ?_ _ | refine blk_drew ?_ | refine blk_alloc ?_ _)); refine blk_put (cs := #[.int .i64 0, .int .i64 0, .slice none 0 0]) ?_ 0 _ rfl; (with_reducible repeat (first | refine blk_drewN ?_ _ | refine blk_drew ?_ | refine blk_alloc ?_ _)); exact BK126.out⟩
            have n1_ : Aside0 (Below w.heap.size w (((w21.setCell ⟨gb126, 0, none⟩ (.int .i64 ((rd_T33 l0 x7_1).f0))).setCell ⟨gb126, 1, none⟩ (.int .i64 ((rd_T33 l0 x7_1).f1))).setCell ⟨gb126, 2, none⟩ (.slice A125_2 ((rd_T33 l0 x7_1).f2).length c125_2))) := ⟨zB1 HB GE126⟩
            (try clear BK126)
            (try clear HB)
            generalize (((w21.setCell ⟨gb126, 0, none⟩ (.int .i64 ((rd_T33 l0 x7_1).f0))).setCell ⟨gb126, 1, none⟩ (.int .i64 ((rd_T33 l0 x7_1).f1))).setCell ⟨gb126, 2, none⟩ (.slice A125_2 ((rd_T33 l0 x7_1).f2).length c125_2)) = w23 at n0_ n1_ ⊢
            have BK126 := n0_
            have HB := n1_
            clear n0_ n1_
            have n0_ := Aside0.mk (blk_drew BK126.out)
            have n1_ := Aside0.mk (below_drew1 HB.out)
            clear BK126
            clear HB
            have BK126 := n0_
            have HB := n1_
            clear n0_ n1_
            have p129 : 0 ≤ ((ji16) : Int) := of_decide_eq_true (by first | (with_reducible assumption) | assumption)
            have q129 : (ji16) < (l0.length : Int) := of_decide_eq_true (by first | (with_reducible assumption) | assumption)
            obtain ⟨ad129, A129_2, c129_2, e129, hx129_0, hx129_1, hx129_2, hl129_2, hi129_2⟩ := at_T33 HR0.out (ji16) p129 q129
            have hw129_2 := hx129_2
            have hw129_1 := hx129_1
            have hw129_0 := hx129_0
            obtain rfl : ad125 = ad129 := (by injection e129)
            replace hx129_0 := (HB.out.cell (World.block_lt_of_cell? w _ hx129_0)).trans hx129_0
            replace hx129_1 := (HB.out.cell (World.block_lt_of_cell? w _ hx129_1)).trans hx129_1
            replace hx129_2 := (HB.out.cell (World.block_lt_of_cell? w _ hx129_2)).trans hx129_2
            have HR129_2 := Aside0.mk hi129_2
            have HC129_2 := Aside0.mk hl129_2
            clear hi129_2 hl129_2
            replace p129 := eq_true p129
            replace q129 := eq_true q129
            refine start_ (n := 23) (S := fun w' => w'.cell? ⟨gb126, 0, none⟩ = some (.int .i64 ((rd_T33 l0 x7_1).f0)) ∧ w'.cell? ⟨gb126, 1, none⟩ = some (.int .i64 ((rd_T33 l0 x7_1).f1)) ∧ w'.cell? ⟨gb126, 2, none⟩ = some (.slice A125_2 ((rd_T33 l0 x7_1).f2).length c125_2) ∧ w'.cell? (ad125.add (((ji16)).toNat * 3)) = some (.int .i64 ((rd_T33 l0 (ji16)).f0)) ∧ w'.cell? ⟨(ad125.add (((ji16)).toNat * 3)).block, (ad125.add (((ji16)).toNat * 3)).off + 1, none⟩ = some (.int .i64 ((rd_T33 l0 (ji16)).f1)) ∧ w'.cell? ⟨(ad125.add (((ji16)).toNat * 3)).block, (ad125.add (((ji16)).toNat * 3)).off + 2, none⟩ = some (.slice A129_2 ((rd_T33 l0 (ji16)).f2).length c129_2)) (ds := []) #[false, false, false, false, false, false, false, false, false, false, false, false, false, false, false, false, false, false, false, false, false, false, false] (by kernel_rfl) rfl rfl ⟨(blk_cell BK126.out 0).trans rfl, (blk_cell BK126.out 1).trans rfl, (blk_cell BK126.out 2).trans rfl, ((HB.out.cell (World.block_lt_of_cell? w _ hw129_0)).trans hw129_0), ((HB.out.cell (World.block_lt_of_cell? w _ hw129_1)).trans hw129_1), ((HB.out.cell (World.block_lt_of_cell? w _ hw129_2)).trans hw129_2)⟩ (fun hHeld => ?_); refine with_tabW root_Right.tab4 root_Right.bits4 (fun HT_ HW_ => ?_)
            generalize w23.drew = w24 at BK126 HB HR129_2 hx129_0 hx129_1 hx129_2 hHeld ⊢
            refine take_ (i := 0) (N := some 12) (v := ?_) (a' := ?_) #[true, false, false, false, false, false, false, false, false, false, false, false, false, false, false, false, false, false, false, false, false, false, false] rfl rfl (take_ofW HT_.out HW_.out (by kernel_rfl)) (fun _ _ _ h => h) (Or.inl ⟨by rfl, ?_⟩) hHeld ?_ ?_
            rotate_left
            ·rintro w' ⟨s0, s1, s2, s3, s4, s5⟩
             go_simp
             with_reducible rfl
            rotate_left
            ·simp only [Act.put, List.setIfInBounds_toArray, List.set_cons_zero, List.set_cons_succ, i64_w, i32_w]
             rfl
            refine one_ (i := 1) (N := some 13) #[true, true, false, false, false, false, false, false, false, false, false, false, false, false, false, false, false, false, false, false, false, false, false] rfl rfl (one_of HT_.out (by kernel_rfl)) (by decide) (fun K hK => ?_)
            refine goes_ Try.func40 (by kernel_rfl) rfl #[.agg #[.int .i64 ((rd_T33 l0 x7_1).f0), .int .i64 ((rd_T33 l0 x7_1).f1), .slice A125_2 ((rd_T33 l0 x7_1).f2).length c125_2]] (by rfl) rfl rfl zP ?_
            with_reducible refine (root_isSpot.calls ((rd_T33 l0 x7_1).f0) ((rd_T33 l0 x7_1).f1) _ _ ((rd_T33 l0 x7_1).f2) true _ ?side1 ?side2 A5.out).mono ?_
            (case side1 => repeat (first | exact (Kd.C_below HR125_2.out HB.out) | (with_reducible refine Kd.C_alloc ?_ _) | (with_reducible refine Kd.C_drewN ?_ _) | (with_reducible refine Kd.C_drew ?_)))
            (case side2 => exact HC125_2.out)
            rintro e w25 ⟨rfl, hb⟩
            refine ⟨_, rfl, ?_⟩
            have n0_ := Aside0.mk (blk_below (g := gb126) (o := .cells #[.int .i64 ((rd_T33 l0 x7_1).f0), .int .i64 ((rd_T33 l0 x7_1).f1), .slice A125_2 ((rd_T33 l0 x7_1).f2).length c125_2] 33 (0, 0)) (zK BK126) hb)
            have n1_ := Aside0.mk (below_step (zB1 HB GE126) hb)
            clear BK126
            clear HB
            have BK126 := n0_
            have HB := n1_
            clear n0_ n1_
            (try clear hb)
            (try clear hb2)
            (try clear hk)
            (try clear hi)
            refine hK.out _ _ ⟨(blk_cell BK126.out 0).trans rfl, (blk_cell BK126.out 1).trans rfl, (blk_cell BK126.out 2).trans rfl, ((HB.out.cell (World.block_lt_of_cell? w _ hw129_0)).trans hw129_0), ((HB.out.cell (World.block_lt_of_cell? w _ hw129_1)).trans hw129_1), ((HB.out.cell (World.block_lt_of_cell? w _ hw129_2)).trans hw129_2)⟩ (fun hHeld => ?_)
            clear hK K
            refine norm_ (a' := ?_) ?_ ?_
            rotate_left
            ·show Act.put _ (some 13) _ = _
             simp only [Act.put, List.setIfInBounds_toArray, List.set_cons_zero, List.set_cons_succ, i64_w, i32_w]
             rfl
            refine pure_ (i := 2) (N := some 14) (v := ?_) (a' := ?_) #[true, true, true, false, false, false, false, false, false, false, false, false, false, false, false, false, false, false, false, false, false, false, false] rfl rfl (any_of HT_.out (by kernel_rfl)) (fun _ _ _ h => h) (Or.inl ⟨by rfl, ?_⟩) ?_ ?_
            rotate_left
            ·intro w'
             go_simp
             with_reducible rfl
            rotate_left
            ·simp only [Act.put, List.setIfInBounds_toArray, List.set_cons_zero, List.set_cons_succ, i64_w, i32_w]
             rfl
            refine pure_ (i := 3) (N := some 15) (v := ?_) (a' := ?_) #[true, true, true, true, false, false, false, false, false, false, false, false, false, false, false, false, false, false, false, false, false, false, false] rfl rfl (any_of HT_.out (by kernel_rfl)) (fun _ _ _ h => h) (Or.inl ⟨by rfl, ?_⟩) ?_ ?_
            rotate_left
            ·intro w'
             go_simp
             with_reducible rfl
            rotate_left
            ·simp only [Act.put, List.setIfInBounds_toArray, List.set_cons_zero, List.set_cons_succ, i64_w, i32_w]
             rfl
            refine take_ (i := 4) (N := some 16) (v := ?_) (a' := ?_) #[true, true, true, true, true, false, false, false, false, false, false, false, false, false, false, false, false, false, false, false, false, false, false] rfl rfl (take_ofW HT_.out HW_.out (by kernel_rfl)) (fun _ _ _ h => h) (Or.inl ⟨by rfl, ?_⟩) hHeld ?_ ?_
            rotate_left
            ·rintro w' ⟨s0, s1, s2, s3, s4, s5⟩
             go_simp
             with_reducible rfl
            rotate_left
            ·simp only [Act.put, List.setIfInBounds_toArray, List.set_cons_zero, List.set_cons_succ, i64_w, i32_w]
             rfl
            refine one_ (i := 5) (N := some 17) #[true, true, true, true, true, true, false, false, false, false, false, false, false, false, false, false, false, false, false, false, false, false, false] rfl rfl (one_of HT_.out (by kernel_rfl)) (by decide) (fun K hK => ?_)
            refine goes_ Try.func41 (by kernel_rfl) rfl #[.agg #[.int .i64 ((rd_T33 l0 x7_1).f0), .int .i64 ((rd_T33 l0 x7_1).f1), .slice A125_2 ((rd_T33 l0 x7_1).f2).length c125_2]] (by rfl) rfl rfl zP ?_
            with_reducible refine (root_isEmpty.calls ((rd_T33 l0 x7_1).f0) ((rd_T33 l0 x7_1).f1) _ _ ((rd_T33 l0 x7_1).f2) false _ ?side1 ?side2 A7.out).mono ?_
            (case side1 => repeat (first | exact (Kd.C_below HR125_2.out HB.out) | (with_reducible refine Kd.C_alloc ?_ _) | (with_reducible refine Kd.C_drewN ?_ _) | (with_reducible refine Kd.C_drew ?_)))
            (case side2 => exact HC125_2.out)
            rintro e w26 ⟨rfl, hb⟩
            refine ⟨_, rfl, ?_⟩
            have n0_ := Aside0.mk (blk_below (g := gb126) (o := .cells #[.int .i64 ((rd_T33 l0 x7_1).f0), .int .i64 ((rd_T33 l0 x7_1).f1), .slice A125_2 ((rd_T33 l0 x7_1).f2).length c125_2] 33 (0, 0)) (zK BK126) hb)
            have n1_ := Aside0.mk (below_step (zB1 HB GE126) hb)
            clear BK126
            clear HB
            have BK126 := n0_
            have HB := n1_
            clear n0_ n1_
            (try clear hb)
            (try clear hb2)
            (try clear hk)
            (try clear hi)
            refine hK.out _ _ ⟨(blk_cell BK126.out 0).trans rfl, (blk_cell BK126.out 1).trans rfl, (blk_cell BK126.out 2).trans rfl, ((HB.out.cell (World.block_lt_of_cell? w _ hw129_0)).trans hw129_0), ((HB.out.cell (World.block_lt_of_cell? w _ hw129_1)).trans hw129_1), ((HB.out.cell (World.block_lt_of_cell? w _ hw129_2)).trans hw129_2)⟩ (fun hHeld => ?_)
            clear hK K
            refine norm_ (a' := ?_) ?_ ?_
            rotate_left
            ·show Act.put _ (some 17) _ = _
             simp only [Act.put, List.setIfInBounds_toArray, List.set_cons_zero, List.set_cons_succ, i64_w, i32_w]
             rfl
            refine pure_ (i := 6) (N := some 18) (v := ?_) (a' := ?_) #[true, true, true, true, true, true, true, false, false, false, false, false, false, false, false, false, false, false, false, false, false, false, false] rfl rfl (any_of HT_.out (by kernel_rfl)) (fun _ _ _ h => h) (Or.inl ⟨by rfl, ?_⟩) ?_ ?_
            rotate_left
            ·intro w'
             go_simp
             with_reducible rfl
            rotate_left
            ·simp only [Act.put, List.setIfInBounds_toArray, List.set_cons_zero, List.set_cons_succ, i64_w, i32_w]
             rfl
            refine pure_ (i := 7) (N := some 19) (v := ?_) (a' := ?_) #[true, true, true, true, true, true, true, true, false, false, false, false, false, false, false, false, false, false, false, false, false, false, false] rfl rfl (any_of HT_.out (by kernel_rfl)) (fun _ _ _ h => h) (Or.inl ⟨by rfl, ?_⟩) ?_ ?_
            rotate_left
            ·intro w'
             go_simp
             with_reducible rfl
            rotate_left
            ·simp only [Act.put, List.setIfInBounds_toArray, List.set_cons_zero, List.set_cons_succ, i64_w, i32_w]
             rfl
            refine pure_ (i := 8) (N := some 20) (v := ?_) (a' := ?_) #[true, true, true, true, true, true, true, true, true, false, false, false, false, false, false, false, false, false, false, false, false, false, false] rfl rfl (any_of HT_.out (by kernel_rfl)) (fun _ _ _ h => h) (Or.inl ⟨by rfl, ?_⟩) ?_ ?_
            rotate_left
            ·intro w'
             go_simp
             with_reducible rfl
            rotate_left
            ·simp only [Act.put, List.setIfInBounds_toArray, List.set_cons_zero, List.set_cons_succ, i64_w, i32_w]
             rfl
            refine pure_ (i := 9) (N := some 21) (v := ?_) (a' := ?_) #[true, true, true, true, true, true, true, true, true, true, false, false, false, false, false, false, false, false, false, false, false, false, false] rfl rfl (any_of HT_.out (by kernel_rfl)) (fun _ _ _ h => h) (Or.inl ⟨by rfl, ?_⟩) ?_ ?_
            rotate_left
            ·intro w'
             go_simp
             with_reducible rfl
            rotate_left
            ·simp only [Act.put, List.setIfInBounds_toArray, List.set_cons_zero, List.set_cons_succ, i64_w, i32_w]
             rfl
            refine pure_ (i := 10) (N := some 22) (v := ?_) (a' := ?_) #[true, true, true, true, true, true, true, true, true, true, true, false, false, false, false, false, false, false, false, false, false, false, false] rfl rfl (any_of HT_.out (by kernel_rfl)) (fun _ _ _ h => h) (Or.inl ⟨by rfl, ?_⟩) ?_ ?_
            rotate_left
            ·intro w'
             go_simp
             with_reducible rfl
            rotate_left
            ·simp only [Act.put, List.setIfInBounds_toArray, List.set_cons_zero, List.set_cons_succ, i64_w, i32_w]
             rfl
            refine pure_ (i := 11) (N := some 23) (v := ?_) (a' := ?_) #[true, true, true, true, true, true, true, true, true, true, true, true, false, false, false, false, false, false, false, false, false, false, false] rfl rfl (any_of HT_.out (by kernel_rfl)) (fun _ _ _ h => h) (Or.inl ⟨by rfl, ?_⟩) ?_ ?_
            rotate_left
            ·intro w'
             go_simp
             with_reducible rfl
            rotate_left
            ·simp only [Act.put, List.setIfInBounds_toArray, List.set_cons_zero, List.set_cons_succ, i64_w, i32_w]
             rfl
            refine pure_ (i := 12) (N := some 24) (v := ?_) (a' := ?_) #[true, true, true, true, true, true, true, true, true, true, true, true, true, false, false, false, false, false, false, false, false, false, false] rfl rfl (any_of HT_.out (by kernel_rfl)) (fun _ _ _ h => h) (Or.inl ⟨by rfl, ?_⟩) ?_ ?_
            rotate_left
            ·intro w'
             go_simp
             with_reducible rfl
            rotate_left
            ·simp only [Act.put, List.setIfInBounds_toArray, List.set_cons_zero, List.set_cons_succ, i64_w, i32_w]
             rfl
            refine pure_ (i := 13) (N := some 25) (v := ?_) (a' := ?_) #[true, true, true, true, true, true, true, true, true, true, true, true, true, true, false, false, false, false, false, false, false, false, false] rfl rfl (any_of HT_.out (by kernel_rfl)) (fun _ _ _ h => h) (Or.inl ⟨by rfl, ?_⟩) ?_ ?_
            rotate_left
            ·intro w'
             go_simp
             with_reducible rfl
            rotate_left
            ·simp only [Act.put, List.setIfInBounds_toArray, List.set_cons_zero, List.set_cons_succ, i64_w, i32_w]
             rfl
            refine pure_ (i := 14) (N := some 26) (v := ?_) (a' := ?_) #[true, true, true, true, true, true, true, true, true, true, true, true, true, true, true, false, false, false, false, false, false, false, false] rfl rfl (any_of HT_.out (by kernel_rfl)) (fun _ _ _ h => h) (Or.inl ⟨by rfl, ?_⟩) ?_ ?_
            rotate_left
            ·intro w'
             go_simp
             with_reducible rfl
            rotate_left
            ·simp only [Act.put, List.setIfInBounds_toArray, List.set_cons_zero, List.set_cons_succ, i64_w, i32_w]
             rfl
            refine pure_ (i := 15) (N := some 27) (v := ?_) (a' := ?_) #[true, true, true, true, true, true, true, true, true, true, true, true, true, true, true, true, false, false, false, false, false, false, false] rfl rfl (any_of HT_.out (by kernel_rfl)) (fun _ _ _ h => h) (Or.inl ⟨by rfl, ?_⟩) ?_ ?_
            rotate_left
            ·intro w'
             go_simp
             with_reducible rfl
            rotate_left
            ·simp only [Act.put, List.setIfInBounds_toArray, List.set_cons_zero, List.set_cons_succ, i64_w, i32_w]
             rfl
            refine pure_ (i := 17) (N := some 29) (v := ?_) (a' := ?_) #[true, true, true, true, true, true, true, true, true, true, true, true, true, true, true, true, false, true, false, false, false, false, false] rfl rfl (any_of HT_.out (by kernel_rfl)) (fun _ _ _ h => h) (Or.inl ⟨by rfl, ?_⟩) ?_ ?_
            rotate_left
            ·intro w'
             go_simp
             with_reducible rfl
            rotate_left
            ·simp only [Act.put, List.setIfInBounds_toArray, List.set_cons_zero, List.set_cons_succ, i64_w, i32_w]
             rfl
            refine take_ (i := 16) (N := some 28) (v := ?_) (a' := ?_) #[true, true, true, true, true, true, true, true, true, true, true, true, true, true, true, true, true, true, false, false, false, false, false] rfl rfl (take_ofW HT_.out HW_.out (by kernel_rfl)) (fun _ _ _ h => h) (Or.inl ⟨by rfl, ?_⟩) hHeld ?_ ?_
            rotate_left
            ·rintro w' ⟨s0, s1, s2, s3, s4, s5⟩
             go_simp
             with_reducible rfl
            rotate_left
            ·simp only [Act.put, List.setIfInBounds_toArray, List.set_cons_zero, List.set_cons_succ, i64_w, i32_w]
             rfl
            refine take_ (i := 18) (N := some 30) (v := ?_) (a' := ?_) #[true, true, true, true, true, true, true, true, true, true, true, true, true, true, true, true, true, true, true, false, false, false, false] rfl rfl (take_ofW HT_.out HW_.out (by kernel_rfl)) (fun _ _ _ h => h) (Or.inl ⟨by rfl, ?_⟩) hHeld ?_ ?_
            rotate_left
            ·rintro w' ⟨s0, s1, s2, s3, s4, s5⟩
             go_simp
             with_reducible rfl
            rotate_left
            ·simp only [Act.put, List.setIfInBounds_toArray, List.set_cons_zero, List.set_cons_succ, i64_w, i32_w]
             rfl
            refine one_ (i := 19) (N := some 31) #[true, true, true, true, true, true, true, true, true, true, true, true, true, true, true, true, true, true, true, true, false, false, false] rfl rfl (one_of HT_.out (by kernel_rfl)) (by decide) (fun K hK => ?_)
            refine goes_ Try.func42 (by kernel_rfl) rfl #[.int .i64 ((rd_T33 l0 (ji16)).f0), .int .i64 ((rd_T33 l0 x7_1).f0)] (by rfl) rfl rfl (by (try simp only [List.map_toArray, List.map_cons, List.map_nil]); first | done | (simp only [hji16]; rfl) | rfl | (simp only [List.length_drop, List.length_take]; rfl)) ?_
            with_reducible refine (root_order.calls ((rd_T33 l0 (ji16)).f0) ((rd_T33 l0 x7_1).f0) t130 _ A19.out).mono ?_
            rintro e w' ⟨rfl, ⟨nd, rfl⟩⟩
            refine ⟨_, rfl, ?_⟩
            refine hK.out _ _ ⟨(blk_cell BK126.out 0).trans rfl, (blk_cell BK126.out 1).trans rfl, (blk_cell BK126.out 2).trans rfl, ((HB.out.cell (World.block_lt_of_cell? w _ hw129_0)).trans hw129_0), ((HB.out.cell (World.block_lt_of_cell? w _ hw129_1)).trans hw129_1), ((HB.out.cell (World.block_lt_of_cell? w _ hw129_2)).trans hw129_2)⟩ (fun hHeld => ?_)
            clear hK K
            refine norm_ (a' := ?_) ?_ ?_
            rotate_left
            ·show Act.put _ (some 31) _ = _
             simp only [Act.put, List.setIfInBounds_toArray, List.set_cons_zero, List.set_cons_succ, i64_w, i32_w]
             rfl
            refine pure_ (i := 20) (N := some 32) (v := ?_) (a' := ?_) #[true, true, true, true, true, true, true, true, true, true, true, true, true, true, true, true, true, true, true, true, true, false, false] rfl rfl (any_of HT_.out (by kernel_rfl)) (fun _ _ _ h => h) (Or.inl ⟨by rfl, ?_⟩) ?_ ?_
            rotate_left
            ·intro w'
             go_simp
             with_reducible rfl
            rotate_left
            ·simp only [Act.put, List.setIfInBounds_toArray, List.set_cons_zero, List.set_cons_succ, i64_w, i32_w]
             rfl
            refine pure_ (i := 21) (N := some 33) (v := ?_) (a' := ?_) #[true, true, true, true, true, true, true, true, true, true, true, true, true, true, true, true, true, true, true, true, true, true, false] rfl rfl (any_of HT_.out (by kernel_rfl)) (fun _ _ _ h => h) (Or.inl ⟨by rfl, ?_⟩) ?_ ?_
            rotate_left
            ·intro w'
             go_simp
             with_reducible rfl
            rotate_left
            ·simp only [Act.put, List.setIfInBounds_toArray, List.set_cons_zero, List.set_cons_succ, i64_w, i32_w]
             rfl
            refine pure_ (i := 22) (N := some 34) (v := ?_) (a' := ?_) #[true, true, true, true, true, true, true, true, true, true, true, true, true, true, true, true, true, true, true, true, true, true, true] rfl rfl (any_of HT_.out (by kernel_rfl)) (fun _ _ _ h => h) (Or.inl ⟨by rfl, ?_⟩) ?_ ?_
            rotate_left
            ·intro w'
             go_simp
             with_reducible rfl
            rotate_left
            ·simp only [Act.put, List.setIfInBounds_toArray, List.set_cons_zero, List.set_cons_succ, i64_w, i32_w]
             rfl
            refine done_ (done_of HT_.out (by kernel_rfl)) ?_
            try go_wp2
            go_ret
            exact ⟨by first | rfl | (simp [errW_none, errW_some] <;> rfl) | (simp only [← hji16]; first | rfl | (simp [errW_none, errW_some] <;> rfl)) | (simp [*, errW_none, errW_some] <;> rfl), zB1 HB GE126⟩
           ·rw [if_neg c20] at H
            have c20b0 : decide (0 ≤ t130) = false := decide_eq_false c20
            clear c20
            have H' := Aside0.mk H
            clear H
            have p125 : 0 ≤ (x7_1 : Int) := of_decide_eq_true (by first | (with_reducible assumption) | assumption)
            have q125 : x7_1 < (l0.length : Int) := of_decide_eq_true (by first | (with_reducible assumption) | assumption)
            obtain ⟨ad125, A125_2, c125_2, e125, hx125_0, hx125_1, hx125_2, hl125_2, hi125_2⟩ := at_T33 HR0.out x7_1 p125 q125
            cases e125
            replace hx125_0 := (HB.out.cell (World.block_lt_of_cell? w _ hx125_0)).trans hx125_0
            replace hx125_1 := (HB.out.cell (World.block_lt_of_cell? w _ hx125_1)).trans hx125_1
            replace hx125_2 := (HB.out.cell (World.block_lt_of_cell? w _ hx125_2)).trans hx125_2
            have HR125_2 := Aside0.mk hi125_2
            have HC125_2 := Aside0.mk hl125_2
            clear hi125_2 hl125_2
            replace p125 := eq_true p125
            replace q125 := eq_true q125
            try go_wp2_with (first | ((with_reducible refine gate_dst (N := 4) rfl ?_); refine box_event ?hg (N := 4) ?hd (cs := #[.int .i64 0, .int .i64 0, .slice none 0 0]) (t := 33) ?hr ?_; (case hd => rfl); (case hg => rfl); (case hr => first | (go_simp; done) | (go_simp; rfl)); intro gb126 hg w27 hbox hb; have n0_ := Aside0.mk (below_step (zB HB) hb); have n1_ := Aside0.mk (hbox); have n2_ := Aside0.mk ((by rw [hg]; exact (below_size (zB HB)) : w.heap.size ≤ gb126)); have n3_ := Aside0.mk ((by rw [hg]; exact (below_size (zB HB)) : w.heap.size ≤ gb126)); clear HB; have HB := n0_; have BK126 := n1_; have GW126 := n2_; have GE126 := n3_; clear n0_ n1_ n2_ n3_; clear hb hbox hg; have hcz28_0 : w27.cell? ⟨gb126, 0, none⟩ = some (.int .i64 0) := (blk_cell BK126.out 0).trans rfl; have hcz28_1 : w27.cell? ⟨gb126, 1, none⟩ = some (.int .i64 0) := (blk_cell BK126.out 1).trans rfl; have hcz28_2 : w27.cell? ⟨gb126, 2, none⟩ = some (.slice none 0 0) := (blk_cell BK126.out 2).trans rfl; have hfz28_0 := blk_frozen BK126.out 0; have hfz28_1 := blk_frozen BK126.out 1; have hfz28_2 := blk_frozen BK126.out 2))
            have n0_ : Aside0 ((((w27.setCell ⟨gb126, 0, none⟩ (.int .i64 ((rd_T33 l0 x7_1).f0))).setCell ⟨gb126, 1, none⟩ (.int .i64 ((rd_T33 l0 x7_1).f1))).setCell ⟨gb126, 2, none⟩ (.slice A125_2 ((rd_T33 l0 x7_1).f2).length c125_2)).heap[gb126]? = some (.cells #[.int .i64 ((rd_T33 l0 x7_1).f0), .int .i64 ((rd_T33 l0 x7_1).f1), .slice A125_2 ((rd_T33 l0 x7_1).f2).length c125_2] 33 (0, 0))) := ⟨by (with_reducible repeat (first | refine blk_drewN ?_ _ | refine blk_drew ?_ | refine blk_alloc ?_ _)); refine blk_put (cs := #[.int .i64 ((rd_T33 l0 x7_1).f0), .int .i64 ((rd_T33 l0 x7_1).f1), .slice none 0 0]) ?_ 2 _ rfl; (with_reducible repeat (first | refine blk_drewN ?_ _ | refine blk_drew ?_ | refine blk_alloc ?_ _)); refine blk_put (cs := #[.int .i64 ((rd_T33 l0 x7_1).f0), .int .i64 0, .slice none 0 0]) ?_ 1 _ rfl; (with_reducible repeat (first | refine blk_drewN ?_ _ | refine blk_drew ?_ | refine blk_alloc ?_ _)); refine blk_put (cs := #[.int .i64 0, .int .i64 0, .slice none 0 0]) ?_ 0 _ rfl; (with_reducible repeat (first | refine blk_drewN ?_ _ | refine blk_drew ?_ | refine blk_alloc ?_ _)); exact BK126.out⟩
            have n1_ : Aside0 (Below w.heap.size w (((w27.setCell ⟨gb126, 0, none⟩ (.int .i64 ((rd_T33 l0 x7_1).f0))).setCell ⟨gb126, 1, none⟩ (.int .i64 ((rd_T33 l0 x7_1).f1))).setCell ⟨gb126, 2, none⟩ (.slice A125_2 ((rd_T33 l0 x7_1).f2).length c125_2))) := ⟨zB1 HB GE126⟩
            (try clear BK126)
            (try clear HB)
            generalize (((w27.setCell ⟨gb126, 0, none⟩ (.int .i64 ((rd_T33 l0 x7_1).f0))).setCell ⟨gb126, 1, none⟩ (.int .i64 ((rd_T33 l0 x7_1).f1))).setCell ⟨gb126, 2, none⟩ (.slice A125_2 ((rd_T33 l0 x7_1).f2).length c125_2)) = w29 at n0_ n1_ ⊢
            have BK126 := n0_
            have HB := n1_
            clear n0_ n1_
            have n0_ := Aside0.mk (blk_drew BK126.out)
            have n1_ := Aside0.mk (below_drew1 HB.out)
            clear BK126
            clear HB
            have BK126 := n0_
            have HB := n1_
            clear n0_ n1_
            have p129 : 0 ≤ ((ji16) : Int) := of_decide_eq_true (by first | (with_reducible assumption) | assumption)
            have q129 : (ji16) < (l0.length : Int) := of_decide_eq_true (by first | (with_reducible assumption) | assumption)
            obtain ⟨ad129, A129_2, c129_2, e129, hx129_0, hx129_1, hx129_2, hl129_2, hi129_2⟩ := at_T33 HR0.out (ji16) p129 q129
            have hw129_2 := hx129_2
            have hw129_1 := hx129_1
            have hw129_0 := hx129_0
            obtain rfl : ad125 = ad129 := (by injection e129)
            replace hx129_0 := (HB.out.cell (World.block_lt_of_cell? w _ hx129_0)).trans hx129_0
            replace hx129_1 := (HB.out.cell (World.block_lt_of_cell? w _ hx129_1)).trans hx129_1
            replace hx129_2 := (HB.out.cell (World.block_lt_of_cell? w _ hx129_2)).trans hx129_2
            have HR129_2 := Aside0.mk hi129_2
            have HC129_2 := Aside0.mk hl129_2
            clear hi129_2 hl129_2
            replace p129 := eq_true p129
            replace q129 := eq_true q129
            refine start_ (n := 23) (S := fun w' => w'.cell? ⟨gb126, 0, none⟩ = some (.int .i64 ((rd_T33 l0 x7_1).f0)) ∧ w'.cell? ⟨gb126, 1, none⟩ = some (.int .i64 ((rd_T33 l0 x7_1).f1)) ∧ w'.cell? ⟨gb126, 2, none⟩ = some (.slice A125_2 ((rd_T33 l0 x7_1).f2).length c125_2) ∧ w'.cell? (ad125.add (((ji16)).toNat * 3)) = some (.int .i64 ((rd_T33 l0 (ji16)).f0)) ∧ w'.cell? ⟨(ad125.add (((ji16)).toNat * 3)).block, (ad125.add (((ji16)).toNat * 3)).off + 1, none⟩ = some (.int .i64 ((rd_T33 l0 (ji16)).f1)) ∧ w'.cell? ⟨(ad125.add (((ji16)).toNat * 3)).block, (ad125.add (((ji16)).toNat * 3)).off + 2, none⟩ = some (.slice A129_2 ((rd_T33 l0 (ji16)).f2).length c129_2)) (ds := []) #[false, false, false, false, false, false, false, false, false, false, false, false, false, false, false, false, false, false, false, false, false, false, false] (by kernel_rfl) rfl rfl ⟨(blk_cell BK126.out 0).trans rfl, (blk_cell BK126.out 1).trans rfl, (blk_cell BK126.out 2).trans rfl, ((HB.out.cell (World.block_lt_of_cell? w _ hw129_0)).trans hw129_0), ((HB.out.cell (World.block_lt_of_cell? w _ hw129_1)).trans hw129_1), ((HB.out.cell (World.block_lt_of_cell? w _ hw129_2)).trans hw129_2)⟩ (fun hHeld => ?_); refine with_tabW root_Right.tab4 root_Right.bits4 (fun HT_ HW_ => ?_)
            generalize w29.drew = w30 at BK126 HB HR129_2 hx129_0 hx129_1 hx129_2 hHeld ⊢
            refine take_ (i := 0) (N := some 12) (v := ?_) (a' := ?_) #[true, false, false, false, false, false, false, false, false, false, false, false, false, false, false, false, false, false, false, false, false, false, false] rfl rfl (take_ofW HT_.out HW_.out (by kernel_rfl)) (fun _ _ _ h => h) (Or.inl ⟨by rfl, ?_⟩) hHeld ?_ ?_
            rotate_left
            ·rintro w' ⟨s0, s1, s2, s3, s4, s5⟩
             go_simp
             with_reducible rfl
            rotate_left
            ·simp only [Act.put, List.setIfInBounds_toArray, List.set_cons_zero, List.set_cons_succ, i64_w, i32_w]
             rfl
            refine one_ (i := 1) (N := some 13) #[true, true, false, false, false, false, false, false, false, false, false, false, false, false, false, false, false, false, false, false, false, false, false] rfl rfl (one_of HT_.out (by kernel_rfl)) (by decide) (fun K hK => ?_)
            refine goes_ Try.func40 (by kernel_rfl) rfl #[.agg #[.int .i64 ((rd_T33 l0 x7_1).f0), .int .i64 ((rd_T33 l0 x7_1).f1), .slice A125_2 ((rd_T33 l0 x7_1).f2).length c125_2]] (by rfl) rfl rfl zP ?_
            with_reducible refine (root_isSpot.calls ((rd_T33 l0 x7_1).f0) ((rd_T33 l0 x7_1).f1) _ _ ((rd_T33 l0 x7_1).f2) true _ ?side1 ?side2 A5.out).mono ?_
            (case side1 => repeat (first | exact (Kd.C_below HR125_2.out HB.out) | (with_reducible refine Kd.C_alloc ?_ _) | (with_reducible refine Kd.C_drewN ?_ _) | (with_reducible refine Kd.C_drew ?_)))
            (case side2 => exact HC125_2.out)
            rintro e w31 ⟨rfl, hb⟩
            refine ⟨_, rfl, ?_⟩
            have n0_ := Aside0.mk (blk_below (g := gb126) (o := .cells #[.int .i64 ((rd_T33 l0 x7_1).f0), .int .i64 ((rd_T33 l0 x7_1).f1), .slice A125_2 ((rd_T33 l0 x7_1).f2).length c125_2] 33 (0, 0)) (zK BK126) hb)
            have n1_ := Aside0.mk (below_step (zB1 HB GE126) hb)
            clear BK126
            clear HB
            have BK126 := n0_
            have HB := n1_
            clear n0_ n1_
            (try clear hb)
            (try clear hb2)
            (try clear hk)
            (try clear hi)
            refine hK.out _ _ ⟨(blk_cell BK126.out 0).trans rfl, (blk_cell BK126.out 1).trans rfl, (blk_cell BK126.out 2).trans rfl, ((HB.out.cell (World.block_lt_of_cell? w _ hw129_0)).trans hw129_0), ((HB.out.cell (World.block_lt_of_cell? w _ hw129_1)).trans hw129_1), ((HB.out.cell (World.block_lt_of_cell? w _ hw129_2)).trans hw129_2)⟩ (fun hHeld => ?_)
            clear hK K
            refine norm_ (a' := ?_) ?_ ?_
            rotate_left
            ·show Act.put _ (some 13) _ = _
             simp only [Act.put, List.setIfInBounds_toArray, List.set_cons_zero, List.set_cons_succ, i64_w, i32_w]
             rfl
            refine pure_ (i := 2) (N := some 14) (v := ?_) (a' := ?_) #[true, true, true, false, false, false, false, false, false, false, false, false, false, false, false, false, false, false, false, false, false, false, false] rfl rfl (any_of HT_.out (by kernel_rfl)) (fun _ _ _ h => h) (Or.inl ⟨by rfl, ?_⟩) ?_ ?_
            rotate_left
            ·intro w'
             go_simp
             with_reducible rfl
            rotate_left
            ·simp only [Act.put, List.setIfInBounds_toArray, List.set_cons_zero, List.set_cons_succ, i64_w, i32_w]
             rfl
            refine pure_ (i := 3) (N := some 15) (v := ?_) (a' := ?_) #[true, true, true, true, false, false, false, false, false, false, false, false, false, false, false, false, false, false, false, false, false, false, false] rfl rfl (any_of HT_.out (by kernel_rfl)) (fun _ _ _ h => h) (Or.inl ⟨by rfl, ?_⟩) ?_ ?_
            rotate_left
            ·intro w'
             go_simp
             with_reducible rfl
            rotate_left
            ·simp only [Act.put, List.setIfInBounds_toArray, List.set_cons_zero, List.set_cons_succ, i64_w, i32_w]
             rfl
            refine take_ (i := 4) (N := some 16) (v := ?_) (a' := ?_) #[true, true, true, true, true, false, false, false, false, false, false, false, false, false, false, false, false, false, false, false, false, false, false] rfl rfl (take_ofW HT_.out HW_.out (by kernel_rfl)) (fun _ _ _ h => h) (Or.inl ⟨by rfl, ?_⟩) hHeld ?_ ?_
            rotate_left
            ·rintro w' ⟨s0, s1, s2, s3, s4, s5⟩
             go_simp
             with_reducible rfl
            rotate_left
            ·simp only [Act.put, List.setIfInBounds_toArray, List.set_cons_zero, List.set_cons_succ, i64_w, i32_w]
             rfl
            refine one_ (i := 5) (N := some 17) #[true, true, true, true, true, true, false, false, false, false, false, false, false, false, false, false, false, false, false, false, false, false, false] rfl rfl (one_of HT_.out (by kernel_rfl)) (by decide) (fun K hK => ?_)
            refine goes_ Try.func41 (by kernel_rfl) rfl #[.agg #[.int .i64 ((rd_T33 l0 x7_1).f0), .int .i64 ((rd_T33 l0 x7_1).f1), .slice A125_2 ((rd_T33 l0 x7_1).f2).length c125_2]] (by rfl) rfl rfl zP ?_
            with_reducible refine (root_isEmpty.calls ((rd_T33 l0 x7_1).f0) ((rd_T33 l0 x7_1).f1) _ _ ((rd_T33 l0 x7_1).f2) false _ ?side1 ?side2 A7.out).mono ?_
            (case side1 => repeat (first | exact (Kd.C_below HR125_2.out HB.out) | (with_reducible refine Kd.C_alloc ?_ _) | (with_reducible refine Kd.C_drewN ?_ _) | (with_reducible refine Kd.C_drew ?_)))
            (case side2 => exact HC125_2.out)
            rintro e w32 ⟨rfl, hb⟩
            refine ⟨_, rfl, ?_⟩
            have n0_ := Aside0.mk (blk_below (g := gb126) (o := .cells #[.int .i64 ((rd_T33 l0 x7_1).f0), .int .i64 ((rd_T33 l0 x7_1).f1), .slice A125_2 ((rd_T33 l0 x7_1).f2).length c125_2] 33 (0, 0)) (zK BK126) hb)
            have n1_ := Aside0.mk (below_step (zB1 HB GE126) hb)
            clear BK126
            clear HB
            have BK126 := n0_
            have HB := n1_
            clear n0_ n1_
            (try clear hb)
            (try clear hb2)
            (try clear hk)
            (try clear hi)
            refine hK.out _ _ ⟨(blk_cell BK126.out 0).trans rfl, (blk_cell BK126.out 1).trans rfl, (blk_cell BK126.out 2).trans rfl, ((HB.out.cell (World.block_lt_of_cell? w _ hw129_0)).trans hw129_0), ((HB.out.cell (World.block_lt_of_cell? w _ hw129_1)).trans hw129_1), ((HB.out.cell (World.block_lt_of_cell? w _ hw129_2)).trans hw129_2)⟩ (fun hHeld => ?_)
            clear hK K
            refine norm_ (a' := ?_) ?_ ?_
            rotate_left
            ·show Act.put _ (some 17) _ = _
             simp only [Act.put, List.setIfInBounds_toArray, List.set_cons_zero, List.set_cons_succ, i64_w, i32_w]
             rfl
            refine pure_ (i := 6) (N := some 18) (v := ?_) (a' := ?_) #[true, true, true, true, true, true, true, false, false, false, false, false, false, false, false, false, false, false, false, false, false, false, false] rfl rfl (any_of HT_.out (by kernel_rfl)) (fun _ _ _ h => h) (Or.inl ⟨by rfl, ?_⟩) ?_ ?_
            rotate_left
            ·intro w'
             go_simp
             with_reducible rfl
            rotate_left
            ·simp only [Act.put, List.setIfInBounds_toArray, List.set_cons_zero, List.set_cons_succ, i64_w, i32_w]
             rfl
            refine pure_ (i := 7) (N := some 19) (v := ?_) (a' := ?_) #[true, true, true, true, true, true, true, true, false, false, false, false, false, false, false, false, false, false, false, false, false, false, false] rfl rfl (any_of HT_.out (by kernel_rfl)) (fun _ _ _ h => h) (Or.inl ⟨by rfl, ?_⟩) ?_ ?_
            rotate_left
            ·intro w'
             go_simp
             with_reducible rfl
            rotate_left
            ·simp only [Act.put, List.setIfInBounds_toArray, List.set_cons_zero, List.set_cons_succ, i64_w, i32_w]
             rfl
            refine pure_ (i := 8) (N := some 20) (v := ?_) (a' := ?_) #[true, true, true, true, true, true, true, true, true, false, false, false, false, false, false, false, false, false, false, false, false, false, false] rfl rfl (any_of HT_.out (by kernel_rfl)) (fun _ _ _ h => h) (Or.inl ⟨by rfl, ?_⟩) ?_ ?_
            rotate_left
            ·intro w'
             go_simp
             with_reducible rfl
            rotate_left
            ·simp only [Act.put, List.setIfInBounds_toArray, List.set_cons_zero, List.set_cons_succ, i64_w, i32_w]
             rfl
            refine pure_ (i := 9) (N := some 21) (v := ?_) (a' := ?_) #[true, true, true, true, true, true, true, true, true, true, false, false, false, false, false, false, false, false, false, false, false, false, false] rfl rfl (any_of HT_.out (by kernel_rfl)) (fun _ _ _ h => h) (Or.inl ⟨by rfl, ?_⟩) ?_ ?_
            rotate_left
            ·intro w'
             go_simp
             with_reducible rfl
            rotate_left
            ·simp only [Act.put, List.setIfInBounds_toArray, List.set_cons_zero, List.set_cons_succ, i64_w, i32_w]
             rfl
            refine pure_ (i := 10) (N := some 22) (v := ?_) (a' := ?_) #[true, true, true, true, true, true, true, true, true, true, true, false, false, false, false, false, false, false, false, false, false, false, false] rfl rfl (any_of HT_.out (by kernel_rfl)) (fun _ _ _ h => h) (Or.inl ⟨by rfl, ?_⟩) ?_ ?_
            rotate_left
            ·intro w'
             go_simp
             with_reducible rfl
            rotate_left
            ·simp only [Act.put, List.setIfInBounds_toArray, List.set_cons_zero, List.set_cons_succ, i64_w, i32_w]
             rfl
            refine pure_ (i := 11) (N := some 23) (v := ?_) (a' := ?_) #[true, true, true, true, true, true, true, true, true, true, true, true, false, false, false, false, false, false, false, false, false, false, false] rfl rfl (any_of HT_.out (by kernel_rfl)) (fun _ _ _ h => h) (Or.inl ⟨by rfl, ?_⟩) ?_ ?_
            rotate_left
            ·intro w'
             go_simp
             with_reducible rfl
            rotate_left
            ·simp only [Act.put, List.setIfInBounds_toArray, List.set_cons_zero, List.set_cons_succ, i64_w, i32_w]
             rfl
            refine pure_ (i := 12) (N := some 24) (v := ?_) (a' := ?_) #[true, true, true, true, true, true, true, true, true, true, true, true, true, false, false, false, false, false, false, false, false, false, false] rfl rfl (any_of HT_.out (by kernel_rfl)) (fun _ _ _ h => h) (Or.inl ⟨by rfl, ?_⟩) ?_ ?_
            rotate_left
            ·intro w'
             go_simp
             with_reducible rfl
            rotate_left
            ·simp only [Act.put, List.setIfInBounds_toArray, List.set_cons_zero, List.set_cons_succ, i64_w, i32_w]
             rfl
            refine pure_ (i := 13) (N := some 25) (v := ?_) (a' := ?_) #[true, true, true, true, true, true, true, true, true, true, true, true, true, true, false, false, false, false, false, false, false, false, false] rfl rfl (any_of HT_.out (by kernel_rfl)) (fun _ _ _ h => h) (Or.inl ⟨by rfl, ?_⟩) ?_ ?_
            rotate_left
            ·intro w'
             go_simp
             with_reducible rfl
            rotate_left
            ·simp only [Act.put, List.setIfInBounds_toArray, List.set_cons_zero, List.set_cons_succ, i64_w, i32_w]
             rfl
            refine pure_ (i := 14) (N := some 26) (v := ?_) (a' := ?_) #[true, true, true, true, true, true, true, true, true, true, true, true, true, true, true, false, false, false, false, false, false, false, false] rfl rfl (any_of HT_.out (by kernel_rfl)) (fun _ _ _ h => h) (Or.inl ⟨by rfl, ?_⟩) ?_ ?_
            rotate_left
            ·intro w'
             go_simp
             with_reducible rfl
            rotate_left
            ·simp only [Act.put, List.setIfInBounds_toArray, List.set_cons_zero, List.set_cons_succ, i64_w, i32_w]
             rfl
            refine pure_ (i := 15) (N := some 27) (v := ?_) (a' := ?_) #[true, true, true, true, true, true, true, true, true, true, true, true, true, true, true, true, false, false, false, false, false, false, false] rfl rfl (any_of HT_.out (by kernel_rfl)) (fun _ _ _ h => h) (Or.inl ⟨by rfl, ?_⟩) ?_ ?_
            rotate_left
            ·intro w'
             go_simp
             with_reducible rfl
            rotate_left
            ·simp only [Act.put, List.setIfInBounds_toArray, List.set_cons_zero, List.set_cons_succ, i64_w, i32_w]
             rfl
            refine pure_ (i := 17) (N := some 29) (v := ?_) (a' := ?_) #[true, true, true, true, true, true, true, true, true, true, true, true, true, true, true, true, false, true, false, false, false, false, false] rfl rfl (any_of HT_.out (by kernel_rfl)) (fun _ _ _ h => h) (Or.inl ⟨by rfl, ?_⟩) ?_ ?_
            rotate_left
            ·intro w'
             go_simp
             with_reducible rfl
            rotate_left
            ·simp only [Act.put, List.setIfInBounds_toArray, List.set_cons_zero, List.set_cons_succ, i64_w, i32_w]
             rfl
            refine take_ (i := 16) (N := some 28) (v := ?_) (a' := ?_) #[true, true, true, true, true, true, true, true, true, true, true, true, true, true, true, true, true, true, false, false, false, false, false] rfl rfl (take_ofW HT_.out HW_.out (by kernel_rfl)) (fun _ _ _ h => h) (Or.inl ⟨by rfl, ?_⟩) hHeld ?_ ?_
            rotate_left
            ·rintro w' ⟨s0, s1, s2, s3, s4, s5⟩
             go_simp
             with_reducible rfl
            rotate_left
            ·simp only [Act.put, List.setIfInBounds_toArray, List.set_cons_zero, List.set_cons_succ, i64_w, i32_w]
             rfl
            refine take_ (i := 18) (N := some 30) (v := ?_) (a' := ?_) #[true, true, true, true, true, true, true, true, true, true, true, true, true, true, true, true, true, true, true, false, false, false, false] rfl rfl (take_ofW HT_.out HW_.out (by kernel_rfl)) (fun _ _ _ h => h) (Or.inl ⟨by rfl, ?_⟩) hHeld ?_ ?_
            rotate_left
            ·rintro w' ⟨s0, s1, s2, s3, s4, s5⟩
             go_simp
             with_reducible rfl
            rotate_left
            ·simp only [Act.put, List.setIfInBounds_toArray, List.set_cons_zero, List.set_cons_succ, i64_w, i32_w]
             rfl
            refine one_ (i := 19) (N := some 31) #[true, true, true, true, true, true, true, true, true, true, true, true, true, true, true, true, true, true, true, true, false, false, false] rfl rfl (one_of HT_.out (by kernel_rfl)) (by decide) (fun K hK => ?_)
            refine goes_ Try.func42 (by kernel_rfl) rfl #[.int .i64 ((rd_T33 l0 (ji16)).f0), .int .i64 ((rd_T33 l0 x7_1).f0)] (by rfl) rfl rfl (by (try simp only [List.map_toArray, List.map_cons, List.map_nil]); first | done | (simp only [hji16]; rfl) | rfl | (simp only [List.length_drop, List.length_take]; rfl)) ?_
            with_reducible refine (root_order.calls ((rd_T33 l0 (ji16)).f0) ((rd_T33 l0 x7_1).f0) t130 _ A19.out).mono ?_
            rintro e w' ⟨rfl, ⟨nd, rfl⟩⟩
            refine ⟨_, rfl, ?_⟩
            refine hK.out _ _ ⟨(blk_cell BK126.out 0).trans rfl, (blk_cell BK126.out 1).trans rfl, (blk_cell BK126.out 2).trans rfl, ((HB.out.cell (World.block_lt_of_cell? w _ hw129_0)).trans hw129_0), ((HB.out.cell (World.block_lt_of_cell? w _ hw129_1)).trans hw129_1), ((HB.out.cell (World.block_lt_of_cell? w _ hw129_2)).trans hw129_2)⟩ (fun hHeld => ?_)
            clear hK K
            refine norm_ (a' := ?_) ?_ ?_
            rotate_left
            ·show Act.put _ (some 31) _ = _
             simp only [Act.put, List.setIfInBounds_toArray, List.set_cons_zero, List.set_cons_succ, i64_w, i32_w]
             rfl
            refine pure_ (i := 20) (N := some 32) (v := ?_) (a' := ?_) #[true, true, true, true, true, true, true, true, true, true, true, true, true, true, true, true, true, true, true, true, true, false, false] rfl rfl (any_of HT_.out (by kernel_rfl)) (fun _ _ _ h => h) (Or.inl ⟨by rfl, ?_⟩) ?_ ?_
            rotate_left
            ·intro w'
             go_simp
             with_reducible rfl
            rotate_left
            ·simp only [Act.put, List.setIfInBounds_toArray, List.set_cons_zero, List.set_cons_succ, i64_w, i32_w]
             rfl
            refine pure_ (i := 21) (N := some 33) (v := ?_) (a' := ?_) #[true, true, true, true, true, true, true, true, true, true, true, true, true, true, true, true, true, true, true, true, true, true, false] rfl rfl (any_of HT_.out (by kernel_rfl)) (fun _ _ _ h => h) (Or.inl ⟨by rfl, ?_⟩) ?_ ?_
            rotate_left
            ·intro w'
             go_simp
             with_reducible rfl
            rotate_left
            ·simp only [Act.put, List.setIfInBounds_toArray, List.set_cons_zero, List.set_cons_succ, i64_w, i32_w]
             rfl
            refine pure_ (i := 22) (N := some 34) (v := ?_) (a' := ?_) #[true, true, true, true, true, true, true, true, true, true, true, true, true, true, true, true, true, true, true, true, true, true, true] rfl rfl (any_of HT_.out (by kernel_rfl)) (fun _ _ _ h => h) (Or.inl ⟨by rfl, ?_⟩) ?_ ?_
            rotate_left
            ·intro w'
             go_simp
             with_reducible rfl
            rotate_left
            ·simp only [Act.put, List.setIfInBounds_toArray, List.set_cons_zero, List.set_cons_succ, i64_w, i32_w]
             rfl
            refine done_ (done_of HT_.out (by kernel_rfl)) ?_
            try go_wp2
            go_roundg k1
            case measure => have := HK1.out; omega
            case rel => exact ⟨(wrap64 (x7_1 + 1)), (by first | rfl | (simp; done) | (simp [*]; done)), H', ⟨by have := HK1.out; omega⟩, ⟨zB1 HB GE126⟩⟩
          ·rw [if_neg c18] at H
           exact absurd H (by simp)
         ·rw [if_neg c17] at H
          exact absurd H (by simp)
        ·rw [if_neg c15] at H
         have c15b0 : decide (0 < x7_1) = false := decide_eq_false c15
         clear c15
         have H' := Aside0.mk H
         clear H
         have p125 : 0 ≤ (x7_1 : Int) := of_decide_eq_true (by first | (with_reducible assumption) | assumption)
         have q125 : x7_1 < (l0.length : Int) := of_decide_eq_true (by first | (with_reducible assumption) | assumption)
         obtain ⟨ad125, A125_2, c125_2, e125, hx125_0, hx125_1, hx125_2, hl125_2, hi125_2⟩ := at_T33 HR0.out x7_1 p125 q125
         cases e125
         replace hx125_0 := (HB.out.cell (World.block_lt_of_cell? w _ hx125_0)).trans hx125_0
         replace hx125_1 := (HB.out.cell (World.block_lt_of_cell? w _ hx125_1)).trans hx125_1
         replace hx125_2 := (HB.out.cell (World.block_lt_of_cell? w _ hx125_2)).trans hx125_2
         have HR125_2 := Aside0.mk hi125_2
         have HC125_2 := Aside0.mk hl125_2
         clear hi125_2 hl125_2
         replace p125 := eq_true p125
         replace q125 := eq_true q125
         try go_wp2_with (first | ((with_reducible refine gate_dst (N := 4) rfl ?_); refine box_event ?hg (N := 4) ?hd (cs := #[.int .i64 0, .int .i64 0, .slice none 0 0]) (t := 33) ?hr ?_; (case hd => rfl); (case hg => rfl); (case hr => first | (go_simp; done) | (go_simp; rfl)); intro gb126 hg w33 hbox hb; have n0_ := Aside0.mk (below_step (zB HB) hb); have n1_ := Aside0.mk (hbox); have n2_ := Aside0.mk ((by rw [hg]; exact (below_size (zB HB)) : w.heap.size ≤ gb126)); have n3_ := Aside0.mk ((by rw [hg]; exact (below_size (zB HB)) : w.heap.size ≤ gb126)); clear HB; have HB := n0_; have BK126 := n1_; have GW126 := n2_; have GE126 := n3_; clear n0_ n1_ n2_ n3_; clear hb hbox hg; have hcz34_0 : w33.cell? ⟨gb126, 0, none⟩ = some (.int .i64 0) := (blk_cell BK126.out 0).trans rfl; have hcz34_1 : w33.cell? ⟨gb126, 1, none⟩ = some (.int .i64 0) := (blk_cell BK126.out 1).trans rfl; have hcz34_2 : w33.cell? ⟨gb126, 2, none⟩ = some (.slice none 0 0) := (blk_cell BK126.out 2).trans rfl; have hfz34_0 := blk_frozen BK126.out 0; have hfz34_1 := blk_frozen BK126.out 1; have hfz34_2 := blk_frozen BK126.out 2))
         have n0_ : Aside0 ((((w33.setCell ⟨gb126, 0, none⟩ (.int .i64 ((rd_T33 l0 x7_1).f0))).setCell ⟨gb126, 1, none⟩ (.int .i64 ((rd_T33 l0 x7_1).f1))).setCell ⟨gb126, 2, none⟩ (.slice A125_2 ((rd_T33 l0 x7_1).f2).length c125_2)).heap[gb126]? = some (.cells #[.int .i64 ((rd_T33 l0 x7_1).f0), .int .i64 ((rd_T33 l0 x7_1).f1), .slice A125_2 ((rd_T33 l0 x7_1).f2).length c125_2] 33 (0, 0))) := ⟨by (with_reducible repeat (first | refine blk_drewN ?_ _ | refine blk_drew ?_ | refine blk_alloc ?_ _)); refine blk_put (cs := #[.int .i64 ((rd_T33 l0 x7_1).f0), .int .i64 ((rd_T33 l0 x7_1).f1), .slice none 0 0]) ?_ 2 _ rfl; (with_reducible repeat (first | refine blk_drewN ?_ _ | refine blk_drew ?_ | refine blk_alloc ?_ _)); refine blk_put (cs := #[.int .i64 ((rd_T33 l0 x7_1).f0), .int .i64 0, .slice none 0 0]) ?_ 1 _ rfl; (with_reducible repeat (first | refine blk_drewN ?_ _ | refine blk_drew ?_ | refine blk_alloc ?_ _)); refine blk_put (cs := #[.int .i64 0, .int .i64 0, .slice none 0 0]) ?_ 0 _ rfl; (with_reducible repeat (first | refine blk_drewN ?_ _ | refine blk_drew ?_ | refine blk_alloc ?_ _)); exact BK126.out⟩
         have n1_ : Aside0 (Below w.heap.size w (((w33.setCell ⟨gb126, 0, none⟩ (.int .i64 ((rd_T33 l0 x7_1).f0))).setCell ⟨gb126, 1, none⟩ (.int .i64 ((rd_T33 l0 x7_1).f1))).setCell ⟨gb126, 2, none⟩ (.slice A125_2 ((rd_T33 l0 x7_1).f2).length c125_2))) := ⟨zB1 HB GE126⟩
         (try clear BK126)
         (try clear HB)
         generalize (((w33.setCell ⟨gb126, 0, none⟩ (.int .i64 ((rd_T33 l0 x7_1).f0))).setCell ⟨gb126, 1, none⟩ (.int .i64 ((rd_T33 l0 x7_1).f1))).setCell ⟨gb126, 2, none⟩ (.slice A125_2 ((rd_T33 l0 x7_1).f2).length c125_2)) = w35 at n0_ n1_ ⊢
         have BK126 := n0_
         have HB := n1_
         clear n0_ n1_
         have n0_ := Aside0.mk (blk_drew BK126.out)
         have n1_ := Aside0.mk (below_drew1 HB.out)
         clear BK126
         clear HB
         have BK126 := n0_
         have HB := n1_
         clear n0_ n1_
         refine start_ (n := 23) (S := fun w' => w'.cell? ⟨gb126, 0, none⟩ = some (.int .i64 ((rd_T33 l0 x7_1).f0)) ∧ w'.cell? ⟨gb126, 1, none⟩ = some (.int .i64 ((rd_T33 l0 x7_1).f1)) ∧ w'.cell? ⟨gb126, 2, none⟩ = some (.slice A125_2 ((rd_T33 l0 x7_1).f2).length c125_2)) (ds := []) #[false, false, false, false, false, false, false, false, false, false, false, false, false, false, false, false, false, false, false, false, false, false, false] (by kernel_rfl) rfl rfl ⟨(blk_cell BK126.out 0).trans rfl, (blk_cell BK126.out 1).trans rfl, (blk_cell BK126.out 2).trans rfl⟩ (fun hHeld => ?_); refine with_tabW root_Right.tab4 root_Right.bits4 (fun HT_ HW_ => ?_)
         generalize w35.drew = w36 at BK126 HB hHeld ⊢
         refine take_ (i := 0) (N := some 12) (v := ?_) (a' := ?_) #[true, false, false, false, false, false, false, false, false, false, false, false, false, false, false, false, false, false, false, false, false, false, false] rfl rfl (take_ofW HT_.out HW_.out (by kernel_rfl)) (fun _ _ _ h => h) (Or.inl ⟨by rfl, ?_⟩) hHeld ?_ ?_
         rotate_left
         ·rintro w' ⟨s0, s1, s2⟩
          go_simp
          with_reducible rfl
         rotate_left
         ·simp only [Act.put, List.setIfInBounds_toArray, List.set_cons_zero, List.set_cons_succ, i64_w, i32_w]
          rfl
         refine one_ (i := 1) (N := some 13) #[true, true, false, false, false, false, false, false, false, false, false, false, false, false, false, false, false, false, false, false, false, false, false] rfl rfl (one_of HT_.out (by kernel_rfl)) (by decide) (fun K hK => ?_)
         refine goes_ Try.func40 (by kernel_rfl) rfl #[.agg #[.int .i64 ((rd_T33 l0 x7_1).f0), .int .i64 ((rd_T33 l0 x7_1).f1), .slice A125_2 ((rd_T33 l0 x7_1).f2).length c125_2]] (by rfl) rfl rfl zP ?_
         with_reducible refine (root_isSpot.calls ((rd_T33 l0 x7_1).f0) ((rd_T33 l0 x7_1).f1) _ _ ((rd_T33 l0 x7_1).f2) true _ ?side1 ?side2 A5.out).mono ?_
         (case side1 => repeat (first | exact (Kd.C_below HR125_2.out HB.out) | (with_reducible refine Kd.C_alloc ?_ _) | (with_reducible refine Kd.C_drewN ?_ _) | (with_reducible refine Kd.C_drew ?_)))
         (case side2 => exact HC125_2.out)
         rintro e w37 ⟨rfl, hb⟩
         refine ⟨_, rfl, ?_⟩
         have n0_ := Aside0.mk (blk_below (g := gb126) (o := .cells #[.int .i64 ((rd_T33 l0 x7_1).f0), .int .i64 ((rd_T33 l0 x7_1).f1), .slice A125_2 ((rd_T33 l0 x7_1).f2).length c125_2] 33 (0, 0)) (zK BK126) hb)
         have n1_ := Aside0.mk (below_step (zB1 HB GE126) hb)
         clear BK126
         clear HB
         have BK126 := n0_
         have HB := n1_
         clear n0_ n1_
         (try clear hb)
         (try clear hb2)
         (try clear hk)
         (try clear hi)
         refine hK.out _ _ ⟨(blk_cell BK126.out 0).trans rfl, (blk_cell BK126.out 1).trans rfl, (blk_cell BK126.out 2).trans rfl⟩ (fun hHeld => ?_)
         clear hK K
         refine norm_ (a' := ?_) ?_ ?_
         rotate_left
         ·show Act.put _ (some 13) _ = _
          simp only [Act.put, List.setIfInBounds_toArray, List.set_cons_zero, List.set_cons_succ, i64_w, i32_w]
          rfl
         refine pure_ (i := 2) (N := some 14) (v := ?_) (a' := ?_) #[true, true, true, false, false, false, false, false, false, false, false, false, false, false, false, false, false, false, false, false, false, false, false] rfl rfl (any_of HT_.out (by kernel_rfl)) (fun _ _ _ h => h) (Or.inl ⟨by rfl, ?_⟩) ?_ ?_
         rotate_left
         ·intro w'
          go_simp
          with_reducible rfl
         rotate_left
         ·simp only [Act.put, List.setIfInBounds_toArray, List.set_cons_zero, List.set_cons_succ, i64_w, i32_w]
          rfl
         refine pure_ (i := 3) (N := some 15) (v := ?_) (a' := ?_) #[true, true, true, true, false, false, false, false, false, false, false, false, false, false, false, false, false, false, false, false, false, false, false] rfl rfl (any_of HT_.out (by kernel_rfl)) (fun _ _ _ h => h) (Or.inl ⟨by rfl, ?_⟩) ?_ ?_
         rotate_left
         ·intro w'
          go_simp
          with_reducible rfl
         rotate_left
         ·simp only [Act.put, List.setIfInBounds_toArray, List.set_cons_zero, List.set_cons_succ, i64_w, i32_w]
          rfl
         refine take_ (i := 4) (N := some 16) (v := ?_) (a' := ?_) #[true, true, true, true, true, false, false, false, false, false, false, false, false, false, false, false, false, false, false, false, false, false, false] rfl rfl (take_ofW HT_.out HW_.out (by kernel_rfl)) (fun _ _ _ h => h) (Or.inl ⟨by rfl, ?_⟩) hHeld ?_ ?_
         rotate_left
         ·rintro w' ⟨s0, s1, s2⟩
          go_simp
          with_reducible rfl
         rotate_left
         ·simp only [Act.put, List.setIfInBounds_toArray, List.set_cons_zero, List.set_cons_succ, i64_w, i32_w]
          rfl
         refine one_ (i := 5) (N := some 17) #[true, true, true, true, true, true, false, false, false, false, false, false, false, false, false, false, false, false, false, false, false, false, false] rfl rfl (one_of HT_.out (by kernel_rfl)) (by decide) (fun K hK => ?_)
         refine goes_ Try.func41 (by kernel_rfl) rfl #[.agg #[.int .i64 ((rd_T33 l0 x7_1).f0), .int .i64 ((rd_T33 l0 x7_1).f1), .slice A125_2 ((rd_T33 l0 x7_1).f2).length c125_2]] (by rfl) rfl rfl zP ?_
         with_reducible refine (root_isEmpty.calls ((rd_T33 l0 x7_1).f0) ((rd_T33 l0 x7_1).f1) _ _ ((rd_T33 l0 x7_1).f2) false _ ?side1 ?side2 A7.out).mono ?_
         (case side1 => repeat (first | exact (Kd.C_below HR125_2.out HB.out) | (with_reducible refine Kd.C_alloc ?_ _) | (with_reducible refine Kd.C_drewN ?_ _) | (with_reducible refine Kd.C_drew ?_)))
         (case side2 => exact HC125_2.out)
         rintro e w38 ⟨rfl, hb⟩
         refine ⟨_, rfl, ?_⟩
         have n0_ := Aside0.mk (blk_below (g := gb126) (o := .cells #[.int .i64 ((rd_T33 l0 x7_1).f0), .int .i64 ((rd_T33 l0 x7_1).f1), .slice A125_2 ((rd_T33 l0 x7_1).f2).length c125_2] 33 (0, 0)) (zK BK126) hb)
         have n1_ := Aside0.mk (below_step (zB1 HB GE126) hb)
         clear BK126
         clear HB
         have BK126 := n0_
         have HB := n1_
         clear n0_ n1_
         (try clear hb)
         (try clear hb2)
         (try clear hk)
         (try clear hi)
         refine hK.out _ _ ⟨(blk_cell BK126.out 0).trans rfl, (blk_cell BK126.out 1).trans rfl, (blk_cell BK126.out 2).trans rfl⟩ (fun hHeld => ?_)
         clear hK K
         refine norm_ (a' := ?_) ?_ ?_
         rotate_left
         ·show Act.put _ (some 17) _ = _
          simp only [Act.put, List.setIfInBounds_toArray, List.set_cons_zero, List.set_cons_succ, i64_w, i32_w]
          rfl
         refine pure_ (i := 6) (N := some 18) (v := ?_) (a' := ?_) #[true, true, true, true, true, true, true, false, false, false, false, false, false, false, false, false, false, false, false, false, false, false, false] rfl rfl (any_of HT_.out (by kernel_rfl)) (fun _ _ _ h => h) (Or.inl ⟨by rfl, ?_⟩) ?_ ?_
         rotate_left
         ·intro w'
          go_simp
          with_reducible rfl
         rotate_left
         ·simp only [Act.put, List.setIfInBounds_toArray, List.set_cons_zero, List.set_cons_succ, i64_w, i32_w]
          rfl
         refine pure_ (i := 7) (N := some 19) (v := ?_) (a' := ?_) #[true, true, true, true, true, true, true, true, false, false, false, false, false, false, false, false, false, false, false, false, false, false, false] rfl rfl (any_of HT_.out (by kernel_rfl)) (fun _ _ _ h => h) (Or.inl ⟨by rfl, ?_⟩) ?_ ?_
         rotate_left
         ·intro w'
          go_simp
          with_reducible rfl
         rotate_left
         ·simp only [Act.put, List.setIfInBounds_toArray, List.set_cons_zero, List.set_cons_succ, i64_w, i32_w]
          rfl
         refine pure_ (i := 8) (N := some 20) (v := ?_) (a' := ?_) #[true, true, true, true, true, true, true, true, true, false, false, false, false, false, false, false, false, false, false, false, false, false, false] rfl rfl (any_of HT_.out (by kernel_rfl)) (fun _ _ _ h => h) (Or.inl ⟨by rfl, ?_⟩) ?_ ?_
         rotate_left
         ·intro w'
          go_simp
          with_reducible rfl
         rotate_left
         ·simp only [Act.put, List.setIfInBounds_toArray, List.set_cons_zero, List.set_cons_succ, i64_w, i32_w]
          rfl
         refine pure_ (i := 9) (N := some 21) (v := ?_) (a' := ?_) #[true, true, true, true, true, true, true, true, true, true, false, false, false, false, false, false, false, false, false, false, false, false, false] rfl rfl (any_of HT_.out (by kernel_rfl)) (fun _ _ _ h => h) (Or.inl ⟨by rfl, ?_⟩) ?_ ?_
         rotate_left
         ·intro w'
          go_simp
          with_reducible rfl
         rotate_left
         ·simp only [Act.put, List.setIfInBounds_toArray, List.set_cons_zero, List.set_cons_succ, i64_w, i32_w]
          rfl
         refine pure_ (i := 10) (N := some 22) (v := ?_) (a' := ?_) #[true, true, true, true, true, true, true, true, true, true, true, false, false, false, false, false, false, false, false, false, false, false, false] rfl rfl (any_of HT_.out (by kernel_rfl)) (fun _ _ _ h => h) (Or.inl ⟨by rfl, ?_⟩) ?_ ?_
         rotate_left
         ·intro w'
          go_simp
          with_reducible rfl
         rotate_left
         ·simp only [Act.put, List.setIfInBounds_toArray, List.set_cons_zero, List.set_cons_succ, i64_w, i32_w]
          rfl
         refine pure_ (i := 11) (N := some 23) (v := undef) (a' := ?_) #[true, true, true, true, true, true, true, true, true, true, true, true, false, false, false, false, false, false, false, false, false, false, false] rfl rfl (any_of HT_.out (by kernel_rfl)) (fun _ _ _ h => h) (Or.inr ⟨by rfl, rfl⟩) ?_ ?_
         rotate_left
         ·simp only [Act.put, List.setIfInBounds_toArray, List.set_cons_zero, List.set_cons_succ, i64_w, i32_w]
          rfl
         refine pure_ (i := 12) (N := some 24) (v := undef) (a' := ?_) #[true, true, true, true, true, true, true, true, true, true, true, true, true, false, false, false, false, false, false, false, false, false, false] rfl rfl (any_of HT_.out (by kernel_rfl)) (fun _ _ _ h => h) (Or.inr ⟨by rfl, rfl⟩) ?_ ?_
         rotate_left
         ·simp only [Act.put, List.setIfInBounds_toArray, List.set_cons_zero, List.set_cons_succ, i64_w, i32_w]
          rfl
         refine pure_ (i := 13) (N := some 25) (v := undef) (a' := ?_) #[true, true, true, true, true, true, true, true, true, true, true, true, true, true, false, false, false, false, false, false, false, false, false] rfl rfl (any_of HT_.out (by kernel_rfl)) (fun _ _ _ h => h) (Or.inr ⟨by rfl, rfl⟩) ?_ ?_
         rotate_left
         ·simp only [Act.put, List.setIfInBounds_toArray, List.set_cons_zero, List.set_cons_succ, i64_w, i32_w]
          rfl
         refine pure_ (i := 14) (N := some 26) (v := undef) (a' := ?_) #[true, true, true, true, true, true, true, true, true, true, true, true, true, true, true, false, false, false, false, false, false, false, false] rfl rfl (any_of HT_.out (by kernel_rfl)) (fun _ _ _ h => h) (Or.inr ⟨by rfl, rfl⟩) ?_ ?_
         rotate_left
         ·simp only [Act.put, List.setIfInBounds_toArray, List.set_cons_zero, List.set_cons_succ, i64_w, i32_w]
          rfl
         refine pure_ (i := 15) (N := some 27) (v := undef) (a' := ?_) #[true, true, true, true, true, true, true, true, true, true, true, true, true, true, true, true, false, false, false, false, false, false, false] rfl rfl (any_of HT_.out (by kernel_rfl)) (fun _ _ _ h => h) (Or.inr ⟨by rfl, rfl⟩) ?_ ?_
         rotate_left
         ·simp only [Act.put, List.setIfInBounds_toArray, List.set_cons_zero, List.set_cons_succ, i64_w, i32_w]
          rfl
         refine pure_ (i := 16) (N := some 28) (v := undef) (a' := ?_) #[true, true, true, true, true, true, true, true, true, true, true, true, true, true, true, true, true, false, false, false, false, false, false] rfl rfl (any_of HT_.out (by kernel_rfl)) (fun _ _ _ h => h) (Or.inr ⟨by rfl, rfl⟩) ?_ ?_
         rotate_left
         ·simp only [Act.put, List.setIfInBounds_toArray, List.set_cons_zero, List.set_cons_succ, i64_w, i32_w]
          rfl
         refine pure_ (i := 17) (N := some 29) (v := undef) (a' := ?_) #[true, true, true, true, true, true, true, true, true, true, true, true, true, true, true, true, true, true, false, false, false, false, false] rfl rfl (any_of HT_.out (by kernel_rfl)) (fun _ _ _ h => h) (Or.inr ⟨by rfl, rfl⟩) ?_ ?_
         rotate_left
         ·simp only [Act.put, List.setIfInBounds_toArray, List.set_cons_zero, List.set_cons_succ, i64_w, i32_w]
          rfl
         refine pure_ (i := 18) (N := some 30) (v := undef) (a' := ?_) #[true, true, true, true, true, true, true, true, true, true, true, true, true, true, true, true, true, true, true, false, false, false, false] rfl rfl (any_of HT_.out (by kernel_rfl)) (fun _ _ _ h => h) (Or.inr ⟨by rfl, rfl⟩) ?_ ?_
         rotate_left
         ·simp only [Act.put, List.setIfInBounds_toArray, List.set_cons_zero, List.set_cons_succ, i64_w, i32_w]
          rfl
         refine pure_ (i := 19) (N := some 31) (v := undef) (a' := ?_) #[true, true, true, true, true, true, true, true, true, true, true, true, true, true, true, true, true, true, true, true, false, false, false] rfl rfl (any_of HT_.out (by kernel_rfl)) (fun _ _ _ h => h) (Or.inr ⟨by rfl, rfl⟩) ?_ ?_
         rotate_left
         ·simp only [Act.put, List.setIfInBounds_toArray, List.set_cons_zero, List.set_cons_succ, i64_w, i32_w]
          rfl
         refine pure_ (i := 20) (N := some 32) (v := undef) (a' := ?_) #[true, true, true, true, true, true, true, true, true, true, true, true, true, true, true, true, true, true, true, true, true, false, false] rfl rfl (any_of HT_.out (by kernel_rfl)) (fun _ _ _ h => h) (Or.inr ⟨by rfl, rfl⟩) ?_ ?_
         rotate_left
         ·simp only [Act.put, List.setIfInBounds_toArray, List.set_cons_zero, List.set_cons_succ, i64_w, i32_w]
          rfl
         refine pure_ (i := 21) (N := some 33) (v := ?_) (a' := ?_) #[true, true, true, true, true, true, true, true, true, true, true, true, true, true, true, true, true, true, true, true, true, true, false] rfl rfl (any_of HT_.out (by kernel_rfl)) (fun _ _ _ h => h) (Or.inl ⟨by rfl, ?_⟩) ?_ ?_
         rotate_left
         ·intro w'
          go_simp
          with_reducible rfl
         rotate_left
         ·simp only [Act.put, List.setIfInBounds_toArray, List.set_cons_zero, List.set_cons_succ, i64_w, i32_w]
          rfl
         refine pure_ (i := 22) (N := some 34) (v := ?_) (a' := ?_) #[true, true, true, true, true, true, true, true, true, true, true, true, true, true, true, true, true, true, true, true, true, true, true] rfl rfl (any_of HT_.out (by kernel_rfl)) (fun _ _ _ h => h) (Or.inl ⟨by rfl, ?_⟩) ?_ ?_
         rotate_left
         ·intro w'
          go_simp
          with_reducible rfl
         rotate_left
         ·simp only [Act.put, List.setIfInBounds_toArray, List.set_cons_zero, List.set_cons_succ, i64_w, i32_w]
          rfl
         refine done_ (done_of HT_.out (by kernel_rfl)) ?_
         try go_wp2
         go_roundg k1
         case measure => have := HK1.out; omega
         case rel => exact ⟨(wrap64 (x7_1 + 1)), (by first | rfl | (simp; done) | (simp [*]; done)), H', ⟨by have := HK1.out; omega⟩, ⟨zB1 HB GE126⟩⟩
      ·replace c6 := Bool.eq_false_iff.mpr c6
       subst c6
       have H1 : (some false) = some r := by rw [if_neg (show ¬ (false = true) by decide)] at H; exact H
       clear H
       have H := H1
       clear H1
       obtain rfl := Option.some.inj H
       have p125 : 0 ≤ (x7_1 : Int) := of_decide_eq_true (by first | (with_reducible assumption) | assumption)
       have q125 : x7_1 < (l0.length : Int) := of_decide_eq_true (by first | (with_reducible assumption) | assumption)
       obtain ⟨ad125, A125_2, c125_2, e125, hx125_0, hx125_1, hx125_2, hl125_2, hi125_2⟩ := at_T33 HR0.out x7_1 p125 q125
       cases e125
       replace hx125_0 := (HB.out.cell (World.block_lt_of_cell? w _ hx125_0)).trans hx125_0
       replace hx125_1 := (HB.out.cell (World.block_lt_of_cell? w _ hx125_1)).trans hx125_1
       replace hx125_2 := (HB.out.cell (World.block_lt_of_cell? w _ hx125_2)).trans hx125_2
       have HR125_2 := Aside0.mk hi125_2
       have HC125_2 := Aside0.mk hl125_2
       clear hi125_2 hl125_2
       replace p125 := eq_true p125
       replace q125 := eq_true q125
       try go_wp2_with (first | ((with_reducible refine gate_dst (N := 4) rfl ?_); refine box_event ?hg (N := 4) ?hd (cs := #[.int .i64 0, .int .i64 0, .slice none 0 0]) (t := 33) ?hr ?_; (case hd => rfl); (case hg => rfl); (case hr => first | (go_simp; done) | (go_simp; rfl)); intro gb126 hg w39 hbox hb; have n0_ := Aside0.mk (below_step (zB HB) hb); have n1_ := Aside0.mk (hbox); have n2_ := Aside0.mk ((by rw [hg]; exact (below_size (zB HB)) : w.heap.size ≤ gb126)); have n3_ := Aside0.mk ((by rw [hg]; exact (below_size (zB HB)) : w.heap.size ≤ gb126)); clear HB; have HB := n0_; have BK126 := n1_; have GW126 := n2_; have GE126 := n3_; clear n0_ n1_ n2_ n3_; clear hb hbox hg; have hcz40_0 : w39.cell? ⟨gb126, 0, none⟩ = some (.int .i64 0) := (blk_cell BK126.out 0).trans rfl; have hcz40_1 : w39.cell? ⟨gb126, 1, none⟩ = some (.int .i64 0) := (blk_cell BK126.out 1).trans rfl; have hcz40_2 : w39.cell? ⟨gb126, 2, none⟩ = some (.slice none 0 0) := (blk_cell BK126.out 2).trans rfl; have hfz40_0 := blk_frozen BK126.out 0; have hfz40_1 := blk_frozen BK126.out 1; have hfz40_2 := blk_frozen BK126.out 2))
       have n0_ : Aside0 ((((w39.setCell ⟨gb126, 0, none⟩ (.int .i64 ((rd_T33 l0 x7_1).f0))).setCell ⟨gb126, 1, none⟩ (.int .i64 ((rd_T33 l0 x7_1).f1))).setCell ⟨gb126, 2, none⟩ (.slice A125_2 ((rd_T33 l0 x7_1).f2).length c125_2)).heap[gb126]? = some (.cells #[.int .i64 ((rd_T33 l0 x7_1).f0), .int .i64 ((rd_T33 l0 x7_1).f1), .slice A125_2 ((rd_T33 l0 x7_1).f2).length c125_2] 33 (0, 0))) := ⟨by (with_reducible repeat (first | refine blk_drewN ?_ _ | refine blk_drew ?_ | refine blk_alloc ?_ _)); refine blk_put (cs := #[.int .i64 ((rd_T33 l0 x7_1).f0), .int .i64 ((rd_T33 l0 x7_1).f1), .slice none 0 0]) ?_ 2 _ rfl; (with_reducible repeat (first | refine blk_drewN ?_ _ | refine blk_drew ?_ | refine blk_alloc ?_ _)); refine blk_put (cs := #[.int .i64 ((rd_T33 l0 x7_1).f0), .int .i64 0, .slice none 0 0]) ?_ 1 _ rfl; (with_reducible repeat (first | refine blk_drewN ?_ _ | refine blk_drew ?_ | refine blk_alloc ?_ _)); refine blk_put (cs := #[.int .i64 0, .int .i64 0, .slice none 0 0]) ?_ 0 _ rfl; (with_reducible repeat (first | refine blk_drewN ?_ _ | refine blk_drew ?_ | refine blk_alloc ?_ _)); exact BK126.out⟩
       have n1_ : Aside0 (Below w.heap.size w (((w39.setCell ⟨gb126, 0, none⟩ (.int .i64 ((rd_T33 l0 x7_1).f0))).setCell ⟨gb126, 1, none⟩ (.int .i64 ((rd_T33 l0 x7_1).f1))).setCell ⟨gb126, 2, none⟩ (.slice A125_2 ((rd_T33 l0 x7_1).f2).length c125_2))) := ⟨zB1 HB GE126⟩
       (try clear BK126)
       (try clear HB)
       generalize (((w39.setCell ⟨gb126, 0, none⟩ (.int .i64 ((rd_T33 l0 x7_1).f0))).setCell ⟨gb126, 1, none⟩ (.int .i64 ((rd_T33 l0 x7_1).f1))).setCell ⟨gb126, 2, none⟩ (.slice A125_2 ((rd_T33 l0 x7_1).f2).length c125_2)) = w41 at n0_ n1_ ⊢
       have BK126 := n0_
       have HB := n1_
       clear n0_ n1_
       have n0_ := Aside0.mk (blk_drew BK126.out)
       have n1_ := Aside0.mk (below_drew1 HB.out)
       clear BK126
       clear HB
       have BK126 := n0_
       have HB := n1_
       clear n0_ n1_
       refine start_ (n := 23) (S := fun w' => w'.cell? ⟨gb126, 0, none⟩ = some (.int .i64 ((rd_T33 l0 x7_1).f0)) ∧ w'.cell? ⟨gb126, 1, none⟩ = some (.int .i64 ((rd_T33 l0 x7_1).f1)) ∧ w'.cell? ⟨gb126, 2, none⟩ = some (.slice A125_2 ((rd_T33 l0 x7_1).f2).length c125_2)) (ds := []) #[false, false, false, false, false, false, false, false, false, false, false, false, false, false, false, false, false, false, false, false, false, false, false] (by kernel_rfl) rfl rfl ⟨(blk_cell BK126.out 0).trans rfl, (blk_cell BK126.out 1).trans rfl, (blk_cell BK126.out 2).trans rfl⟩ (fun hHeld => ?_); refine with_tabW root_Right.tab4 root_Right.bits4 (fun HT_ HW_ => ?_)
       generalize w41.drew = w42 at BK126 HB hHeld ⊢
       refine take_ (i := 0) (N := some 12) (v := ?_) (a' := ?_) #[true, false, false, false, false, false, false, false, false, false, false, false, false, false, false, false, false, false, false, false, false, false, false] rfl rfl (take_ofW HT_.out HW_.out (by kernel_rfl)) (fun _ _ _ h => h) (Or.inl ⟨by rfl, ?_⟩) hHeld ?_ ?_
       rotate_left
       ·rintro w' ⟨s0, s1, s2⟩
        go_simp
        with_reducible rfl
       rotate_left
       ·simp only [Act.put, List.setIfInBounds_toArray, List.set_cons_zero, List.set_cons_succ, i64_w, i32_w]
        rfl
       refine one_ (i := 1) (N := some 13) #[true, true, false, false, false, false, false, false, false, false, false, false, false, false, false, false, false, false, false, false, false, false, false] rfl rfl (one_of HT_.out (by kernel_rfl)) (by decide) (fun K hK => ?_)
       refine goes_ Try.func40 (by kernel_rfl) rfl #[.agg #[.int .i64 ((rd_T33 l0 x7_1).f0), .int .i64 ((rd_T33 l0 x7_1).f1), .slice A125_2 ((rd_T33 l0 x7_1).f2).length c125_2]] (by rfl) rfl rfl zP ?_
       with_reducible refine (root_isSpot.calls ((rd_T33 l0 x7_1).f0) ((rd_T33 l0 x7_1).f1) _ _ ((rd_T33 l0 x7_1).f2) false _ ?side1 ?side2 A5.out).mono ?_
       (case side1 => repeat (first | exact (Kd.C_below HR125_2.out HB.out) | (with_reducible refine Kd.C_alloc ?_ _) | (with_reducible refine Kd.C_drewN ?_ _) | (with_reducible refine Kd.C_drew ?_)))
       (case side2 => exact HC125_2.out)
       rintro e w43 ⟨rfl, hb⟩
       refine ⟨_, rfl, ?_⟩
       have n0_ := Aside0.mk (blk_below (g := gb126) (o := .cells #[.int .i64 ((rd_T33 l0 x7_1).f0), .int .i64 ((rd_T33 l0 x7_1).f1), .slice A125_2 ((rd_T33 l0 x7_1).f2).length c125_2] 33 (0, 0)) (zK BK126) hb)
       have n1_ := Aside0.mk (below_step (zB1 HB GE126) hb)
       clear BK126
       clear HB
       have BK126 := n0_
       have HB := n1_
       clear n0_ n1_
       (try clear hb)
       (try clear hb2)
       (try clear hk)
       (try clear hi)
       refine hK.out _ _ ⟨(blk_cell BK126.out 0).trans rfl, (blk_cell BK126.out 1).trans rfl, (blk_cell BK126.out 2).trans rfl⟩ (fun hHeld => ?_)
       clear hK K
       refine norm_ (a' := ?_) ?_ ?_
       rotate_left
       ·show Act.put _ (some 13) _ = _
        simp only [Act.put, List.setIfInBounds_toArray, List.set_cons_zero, List.set_cons_succ, i64_w, i32_w]
        rfl
       refine pure_ (i := 2) (N := some 14) (v := ?_) (a' := ?_) #[true, true, true, false, false, false, false, false, false, false, false, false, false, false, false, false, false, false, false, false, false, false, false] rfl rfl (any_of HT_.out (by kernel_rfl)) (fun _ _ _ h => h) (Or.inl ⟨by rfl, ?_⟩) ?_ ?_
       rotate_left
       ·intro w'
        go_simp
        with_reducible rfl
       rotate_left
       ·simp only [Act.put, List.setIfInBounds_toArray, List.set_cons_zero, List.set_cons_succ, i64_w, i32_w]
        rfl
       refine pure_ (i := 3) (N := some 15) (v := ?_) (a' := ?_) #[true, true, true, true, false, false, false, false, false, false, false, false, false, false, false, false, false, false, false, false, false, false, false] rfl rfl (any_of HT_.out (by kernel_rfl)) (fun _ _ _ h => h) (Or.inl ⟨by rfl, ?_⟩) ?_ ?_
       rotate_left
       ·intro w'
        go_simp
        with_reducible rfl
       rotate_left
       ·simp only [Act.put, List.setIfInBounds_toArray, List.set_cons_zero, List.set_cons_succ, i64_w, i32_w]
        rfl
       refine pure_ (i := 4) (N := some 16) (v := undef) (a' := ?_) #[true, true, true, true, true, false, false, false, false, false, false, false, false, false, false, false, false, false, false, false, false, false, false] rfl rfl (any_of HT_.out (by kernel_rfl)) (fun _ _ _ h => h) (Or.inr ⟨by rfl, rfl⟩) ?_ ?_
       rotate_left
       ·simp only [Act.put, List.setIfInBounds_toArray, List.set_cons_zero, List.set_cons_succ, i64_w, i32_w]
        rfl
       refine pure_ (i := 5) (N := some 17) (v := undef) (a' := ?_) #[true, true, true, true, true, true, false, false, false, false, false, false, false, false, false, false, false, false, false, false, false, false, false] rfl rfl (any_of HT_.out (by kernel_rfl)) (fun _ _ _ h => h) (Or.inr ⟨by rfl, rfl⟩) ?_ ?_
       rotate_left
       ·simp only [Act.put, List.setIfInBounds_toArray, List.set_cons_zero, List.set_cons_succ, i64_w, i32_w]
        rfl
       refine pure_ (i := 6) (N := some 18) (v := ?_) (a' := ?_) #[true, true, true, true, true, true, true, false, false, false, false, false, false, false, false, false, false, false, false, false, false, false, false] rfl rfl (any_of HT_.out (by kernel_rfl)) (fun _ _ _ h => h) (Or.inl ⟨by rfl, ?_⟩) ?_ ?_
       rotate_left
       ·intro w'
        go_simp
        with_reducible rfl
       rotate_left
       ·simp only [Act.put, List.setIfInBounds_toArray, List.set_cons_zero, List.set_cons_succ, i64_w, i32_w]
        rfl
       refine pure_ (i := 7) (N := some 19) (v := ?_) (a' := ?_) #[true, true, true, true, true, true, true, true, false, false, false, false, false, false, false, false, false, false, false, false, false, false, false] rfl rfl (any_of HT_.out (by kernel_rfl)) (fun _ _ _ h => h) (Or.inl ⟨by rfl, ?_⟩) ?_ ?_
       rotate_left
       ·intro w'
        go_simp
        with_reducible rfl
       rotate_left
       ·simp only [Act.put, List.setIfInBounds_toArray, List.set_cons_zero, List.set_cons_succ, i64_w, i32_w]
        rfl
       refine pure_ (i := 8) (N := some 20) (v := undef) (a' := ?_) #[true, true, true, true, true, true, true, true, true, false, false, false, false, false, false, false, false, false, false, false, false, false, false] rfl rfl (any_of HT_.out (by kernel_rfl)) (fun _ _ _ h => h) (Or.inr ⟨by rfl, rfl⟩) ?_ ?_
       rotate_left
       ·simp only [Act.put, List.setIfInBounds_toArray, List.set_cons_zero, List.set_cons_succ, i64_w, i32_w]
        rfl
       refine pure_ (i := 9) (N := some 21) (v := undef) (a' := ?_) #[true, true, true, true, true, true, true, true, true, true, false, false, false, false, false, false, false, false, false, false, false, false, false] rfl rfl (any_of HT_.out (by kernel_rfl)) (fun _ _ _ h => h) (Or.inr ⟨by rfl, rfl⟩) ?_ ?_
       rotate_left
       ·simp only [Act.put, List.setIfInBounds_toArray, List.set_cons_zero, List.set_cons_succ, i64_w, i32_w]
        rfl
       refine pure_ (i := 10) (N := some 22) (v := undef) (a' := ?_) #[true, true, true, true, true, true, true, true, true, true, true, false, false, false, false, false, false, false, false, false, false, false, false] rfl rfl (any_of HT_.out (by kernel_rfl)) (fun _ _ _ h => h) (Or.inr ⟨by rfl, rfl⟩) ?_ ?_
       rotate_left
       ·simp only [Act.put, List.setIfInBounds_toArray, List.set_cons_zero, List.set_cons_succ, i64_w, i32_w]
        rfl
       refine pure_ (i := 11) (N := some 23) (v := undef) (a' := ?_) #[true, true, true, true, true, true, true, true, true, true, true, true, false, false, false, false, false, false, false, false, false, false, false] rfl rfl (any_of HT_.out (by kernel_rfl)) (fun _ _ _ h => h) (Or.inr ⟨by rfl, rfl⟩) ?_ ?_
       rotate_left
       ·simp only [Act.put, List.setIfInBounds_toArray, List.set_cons_zero, List.set_cons_succ, i64_w, i32_w]
        rfl
       refine pure_ (i := 12) (N := some 24) (v := undef) (a' := ?_) #[true, true, true, true, true, true, true, true, true, true, true, true, true, false, false, false, false, false, false, false, false, false, false] rfl rfl (any_of HT_.out (by kernel_rfl)) (fun _ _ _ h => h) (Or.inr ⟨by rfl, rfl⟩) ?_ ?_
       rotate_left
       ·simp only [Act.put, List.setIfInBounds_toArray, List.set_cons_zero, List.set_cons_succ, i64_w, i32_w]
        rfl
       refine pure_ (i := 13) (N := some 25) (v := undef) (a' := ?_) #[true, true, true, true, true, true, true, true, true, true, true, true, true, true, false, false, false, false, false, false, false, false, false] rfl rfl (any_of HT_.out (by kernel_rfl)) (fun _ _ _ h => h) (Or.inr ⟨by rfl, rfl⟩) ?_ ?_
       rotate_left
       ·simp only [Act.put, List.setIfInBounds_toArray, List.set_cons_zero, List.set_cons_succ, i64_w, i32_w]
        rfl
       refine pure_ (i := 14) (N := some 26) (v := undef) (a' := ?_) #[true, true, true, true, true, true, true, true, true, true, true, true, true, true, true, false, false, false, false, false, false, false, false] rfl rfl (any_of HT_.out (by kernel_rfl)) (fun _ _ _ h => h) (Or.inr ⟨by rfl, rfl⟩) ?_ ?_
       rotate_left
       ·simp only [Act.put, List.setIfInBounds_toArray, List.set_cons_zero, List.set_cons_succ, i64_w, i32_w]
        rfl
       refine pure_ (i := 15) (N := some 27) (v := undef) (a' := ?_) #[true, true, true, true, true, true, true, true, true, true, true, true, true, true, true, true, false, false, false, false, false, false, false] rfl rfl (any_of HT_.out (by kernel_rfl)) (fun _ _ _ h => h) (Or.inr ⟨by rfl, rfl⟩) ?_ ?_
       rotate_left
       ·simp only [Act.put, List.setIfInBounds_toArray, List.set_cons_zero, List.set_cons_succ, i64_w, i32_w]
        rfl
       refine pure_ (i := 16) (N := some 28) (v := undef) (a' := ?_) #[true, true, true, true, true, true, true, true, true, true, true, true, true, true, true, true, true, false, false, false, false, false, false] rfl rfl (any_of HT_.out (by kernel_rfl)) (fun _ _ _ h => h) (Or.inr ⟨by rfl, rfl⟩) ?_ ?_
       rotate_left
       ·simp only [Act.put, List.setIfInBounds_toArray, List.set_cons_zero, List.set_cons_succ, i64_w, i32_w]
        rfl
       refine pure_ (i := 17) (N := some 29) (v := undef) (a' := ?_) #[true, true, true, true, true, true, true, true, true, true, true, true, true, true, true, true, true, true, false, false, false, false, false] rfl rfl (any_of HT_.out (by kernel_rfl)) (fun _ _ _ h => h) (Or.inr ⟨by rfl, rfl⟩) ?_ ?_
       rotate_left
       ·simp only [Act.put, List.setIfInBounds_toArray, List.set_cons_zero, List.set_cons_succ, i64_w, i32_w]
        rfl
       refine pure_ (i := 18) (N := some 30) (v := undef) (a' := ?_) #[true, true, true, true, true, true, true, true, true, true, true, true, true, true, true, true, true, true, true, false, false, false, false] rfl rfl (any_of HT_.out (by kernel_rfl)) (fun _ _ _ h => h) (Or.inr ⟨by rfl, rfl⟩) ?_ ?_
       rotate_left
       ·simp only [Act.put, List.setIfInBounds_toArray, List.set_cons_zero, List.set_cons_succ, i64_w, i32_w]
        rfl
       refine pure_ (i := 19) (N := some 31) (v := undef) (a' := ?_) #[true, true, true, true, true, true, true, true, true, true, true, true, true, true, true, true, true, true, true, true, false, false, false] rfl rfl (any_of HT_.out (by kernel_rfl)) (fun _ _ _ h => h) (Or.inr ⟨by rfl, rfl⟩) ?_ ?_
       rotate_left
       ·simp only [Act.put, List.setIfInBounds_toArray, List.set_cons_zero, List.set_cons_succ, i64_w, i32_w]
        rfl
       refine pure_ (i := 20) (N := some 32) (v := undef) (a' := ?_) #[true, true, true, true, true, true, true, true, true, true, true, true, true, true, true, true, true, true, true, true, true, false, false] rfl rfl (any_of HT_.out (by kernel_rfl)) (fun _ _ _ h => h) (Or.inr ⟨by rfl, rfl⟩) ?_ ?_
       rotate_left
       ·simp only [Act.put, List.setIfInBounds_toArray, List.set_cons_zero, List.set_cons_succ, i64_w, i32_w]
        rfl
       refine pure_ (i := 21) (N := some 33) (v := undef) (a' := ?_) #[true, true, true, true, true, true, true, true, true, true, true, true, true, true, true, true, true, true, true, true, true, true, false] rfl rfl (any_of HT_.out (by kernel_rfl)) (fun _ _ _ h => h) (Or.inr ⟨by rfl, rfl⟩) ?_ ?_
       rotate_left
       ·simp only [Act.put, List.setIfInBounds_toArray, List.set_cons_zero, List.set_cons_succ, i64_w, i32_w]
        rfl
       refine pure_ (i := 22) (N := some 34) (v := ?_) (a' := ?_) #[true, true, true, true, true, true, true, true, true, true, true, true, true, true, true, true, true, true, true, true, true, true, true] rfl rfl (any_of HT_.out (by kernel_rfl)) (fun _ _ _ h => h) (Or.inl ⟨by rfl, ?_⟩) ?_ ?_
       rotate_left
       ·intro w'
        go_simp
        with_reducible rfl
       rotate_left
       ·simp only [Act.put, List.setIfInBounds_toArray, List.set_cons_zero, List.set_cons_succ, i64_w, i32_w]
        rfl
       refine done_ (done_of HT_.out (by kernel_rfl)) ?_
       try go_wp2
       go_ret
       exact ⟨by first | rfl | (simp [errW_none, errW_some] <;> rfl) | (simp [*, errW_none, errW_some] <;> rfl), zB1 HB GE126⟩
     ·rw [if_neg c4] at H
      exact absurd H (by simp)
    ·rw [if_neg c3] at H
     exact absurd H (by simp)
   ·rw [if_neg c2] at H
    have c2b0 : decide (x7_1 < (l0.length : Int)) = false := decide_eq_false c2
    clear c2
    obtain rfl := Option.some.inj H
    go_wp2
    go_ret
    exact ⟨by first | rfl | (simp [errW_none, errW_some] <;> rfl) | (simp [*, errW_none, errW_some] <;> rfl), zB HB⟩

end Go.Proofs.Ytnjnjajgpkmfhaa.PX

/-
 The contract of root.Get, in the form that the printed texts lean on.
-/
namespace Go.Proofs.Ytnjnjajgpkmfhaa.PX
open Go.RowKit Go.Proofs.YtnjnjajgpkmfhaaW.PrintWords Go.Proofs.YtnjnjajgpkmfhaaW.PrintLast Go.Proofs.YtnjnjajgpkmfhaaW.PrintMore
def isAddrB (a : Int) : Bool := decide (0 ≤ a ∧ a ≤ 4294967295)
theorem isAddr_f (a : Int) : root_isAddr.f a = some (isAddrB a) := by
 unfold root_isAddr.f isAddrB
 by_cases h0 : 0 ≤ a <;> by_cases h1 : a ≤ 4294967295 <;> simp [h0, h1]
theorem get1_any (Bb : Nat) (a : Int) (x : Rw) (w : World) (h : Blk w Bb 3 #[.int .i64 a]) :
  Calls Try.prog 48 #[.agg #[.int .i64 x.s.f0, .int .i64 x.s.f1, x.v], .pointer (some ⟨Bb, 0, none⟩)] w fun e w' => e = .returned (.bool (x.s.f0 == a)) ∧ Below w.heap.size w w' := by
 have hlt := h.lt
 have hc := (h.alloc (.cells #[.int .i64 x.s.f0, .int .i64 x.s.f1, x.v] 33)).at1
 have HB0 := Lib.hid ((Below.refl w.heap.size w).alloc (Nat.le_refl _) (.cells #[.int .i64 x.s.f0, .int .i64 x.s.f1, x.v] 33))
 clear h
 obtain ⟨s, Av, cv⟩ := x
 simp only [Rw.v] at HB0 hc ⊢
 go_enter Try.func48, Try.ntmps48
 go_wp2_with fail
 go_ret
 exact ⟨rfl, HB0.out⟩
/-- Whose address is a. -/
def atF (Bb : Nat) (a : Int) : PredF where
 K := 48
 caps := #[.pointer (some ⟨Bb, 0, none⟩)]
 I := fun w => Blk w Bb 3 #[.int .i64 a]
 p := fun x => x == a
 enter := fun x w => by simp [go_sem]
 keep := fun h hb => h.below hb h.lt
 run := fun {w} x h => get1_any Bb a x w h
theorem idx_find {R : List Rw} {a : Int} {s : S33} (h : (spots R).find? (fun s => s.f0 == a) = some s) : ∃ (i : Nat) (x : Rw), R[i]? = some x ∧ x.s = s ∧ idxI (fun y => y == a) R = i := by
 rw [spots, List.find?_map] at h
 cases hx : R.find? ((fun s : S33 => s.f0 == a) ∘ fun x => x.s) with
 | none => rw [hx] at h; cases h
 | some x =>
  rw [hx] at h
  have hs := Option.some.inj h
  obtain ⟨hp, l1, l2, hR, hno⟩ := List.find?_eq_some_iff_append.1 hx
  refine ⟨l1.length, x, by rw [hR]; simp, hs, idx_at (p := fun y => y == a) (i := l1.length) (x := x) (fun j y hj hy => ?_) (by rw [hR]; simp) hp⟩
  rw [hR, List.getElem?_append_left hj] at hy
  have := hno y (List.mem_of_getElem? hy)
  simpa using this
def getR (l : List S33) (a : Int) : Option (Int × Int × List Int × Int) :=
 match l.find? (fun s => s.f0 == a) with
 | some s => some (s.f0, s.f1, s.f2, 0)
 | none => none
def root_Get.f (l0 : List S33) (a1 : Int) : Option (Int × Int × List Int × Int) :=
 if l0.length ≤ 1000 then
  (root_Right.f 2000 l0).bind fun r => if r = false ∨ isAddrB a1 = false then some (0, 0, [], 1) else
   (root_tree.f l0 (rootI a1)).bind fun t => (treap_Find.f t.1 t.2 a1).bind fun f => if f.2 = 0 then getR l0 a1 else some (a1, 0, [], 0)
 else none
def GetP (P : Nat → Prop) (r1 r2 : Int) (r3 : List Int) (r4 : Int) (w : World) (e : Ending) (w' : World) : Prop := ∃ v2_ : Value, e = .returned (.tuple #[.agg #[.int .i64 r1, .int .i64 r2, v2_], .int .i64 r4]) ∧ Kd.V (Kd.int .i64) 3 w' w.heap.size P v2_ r3 ∧ Below w.heap.size w w'
set_option maxRecDepth 100000 in
set_option maxHeartbeats 4000000 in
theorem root_Get.calls (P0_ : Nat → Prop) (A0 : Option Addr) (c0 : Nat) (l0 : List S33) (a1 : Int) (r1 r2 : Int) (r3 : List Int) (r4 : Int) (w : World) (hs0 : Kd.V k33 33 w w.heap.size (fun k_ => P0_ k_) (.slice A0 l0.length c0) l0) (h : root_Get.f l0 a1 = some (r1, r2, r3, r4)) :
  Calls Try.prog 16 #[.slice A0 l0.length c0, .int .i64 a1] w fun e w' => ∃ v2_ : Value, e = .returned (.tuple #[.agg #[.int .i64 r1, .int .i64 r2, v2_], .int .i64 r4]) ∧ Kd.V (Kd.int .i64) 3 w' w.heap.size (fun k_ => (P0_ k_ ∨ w.heap.size ≤ k_)) v2_ r3 ∧ Below w.heap.size w w' := by
 show Calls _ _ _ _ (GetP (fun k_ => (P0_ k_ ∨ w.heap.size ≤ k_)) r1 r2 r3 r4 w)
 unfold root_Get.f at h
 split at h
 case isFalse => cases h
 rename_i hn
 obtain ⟨rb, hrb, h⟩ := Option.bind_eq_some_iff.1 h
 have HV := Lib.hid (Kd.V_bound hs0)
 obtain ⟨_, hnc, hF⟩ := Kd.V_at hs0
 have HC := Lib.hid (Kd.F_now hF)
 have HN := Lib.hid hnc
 obtain ⟨e3, her⟩ := root_f a1
 have HER := Lib.hid her
 have HRB := Lib.hid hrb
 -- the box of the address, and the result's
 obtain ⟨w1, hw1⟩ : ∃ w1, (w.alloc (.cells #[.int .i64 a1] 3)).alloc (.cells #[.int .i64 0, .int .i64 0, .slice none 0 0] 33) = w1 := ⟨_, rfl⟩
 have b1 := (Blk.new w 3 #[.int .i64 a1]).alloc (.cells #[.int .i64 0, .int .i64 0, .slice none 0 0] 33)
 have b2 := Blk.new (w.alloc (.cells #[.int .i64 a1] 3)) 33 #[.int .i64 0, .int .i64 0, .slice none 0 0]
 have b3 := ((Below.refl w.heap.size w).alloc (Nat.le_refl _) (.cells #[.int .i64 a1] 3)).alloc (by simp) (.cells #[.int .i64 0, .int .i64 0, .slice none 0 0] 33)
 obtain ⟨Ab, hAb⟩ : ∃ Ab, w.heap.size = Ab := ⟨_, rfl⟩
 rw [World.size_alloc, hAb] at b2
 rw [hAb] at b1
 rw [hw1] at b1 b2 b3
 have HW1 := Lib.hid hw1
 have HB1 := Lib.hid b1
 have HB2 := Lib.hid b2
 have HB3 := Lib.hid b3
 clear hs0 hF hnc her hrb hw1 b1 b2 b3
 by_cases hbad : rb = false ∨ isAddrB a1 = false
 ·rw [if_pos hbad] at h
  have hq := Option.some.inj h
  obtain ⟨rfl, rfl, rfl, rfl⟩ : r1 = 0 ∧ r2 = 0 ∧ r3 = [] ∧ r4 = 1 := ⟨(congrArg (·.1) hq).symm, (congrArg (·.2.1) hq).symm, (congrArg (·.2.2.1) hq).symm, (congrArg (·.2.2.2) hq).symm⟩
  clear h hq
  go_enter Try.func16, Try.ntmps16
  go_wp2_with fail
  rw [HW1.out]
  refine (root_Right.calls 2000 A0 c0 l0 rb w1 (Kd.C_below HC.out HB3.out) HN.out HRB.out).mono ?_
  rintro e w2 ⟨rfl, hb2⟩
  have hz2 := HB2.out.below hb2 HB2.out.lt
  have c1 := (HB1.out.below hb2 HB1.out.lt).at1
  have HBB2 := Lib.hid (bthen HB3.out hb2)
  clear hb2
  cases rb with
  | false =>
   obtain ⟨z0, z1, z2⟩ := hz2.at3
   have f0 := hz2.frozen 0
   have f1 := hz2.frozen 1
   have f2 := hz2.frozen 2
   have HZ := Lib.hid (((hz2.set_ 0 (.int .i64 0)).set_ 1 (.int .i64 0)).set_ 2 (.slice none 0 0))
   clear hz2 hbad
   go_wp2_with fail
   refine bodyPost_ret (results_spot2 (p := 4) (u := 5) (by kernel_rfl) _ _ _ _ _ _ rfl HZ.out) rfl ?_
   have hA : w.heap.size ≤ Ab + 1 := by omega
   exact ⟨_, rfl, Kd.V_nil _ _ _ _ _, ((HBB2.out.setCell (p := ⟨Ab + 1, 0, none⟩) hA _).setCell (p := ⟨Ab + 1, 1, none⟩) hA _).setCell (p := ⟨Ab + 1, 2, none⟩) hA _⟩
  | true =>
   have hia : isAddrB a1 = false := by
    rcases hbad with hx | hx
    ·cases hx
    ·exact hx
   have HI := Lib.hid (isAddr_f a1)
   rw [hia] at HI
   have HZ2 := Lib.hid hz2
   clear hz2 hbad hia
   go_wp2_with fail
   refine (root_isAddr.calls a1 _ _ HI.out).mono ?_
   rintro e w3 ⟨rfl, hd⟩
   have hz3 := HZ2.out.below hd.below HZ2.out.lt
   have HBB3 := Lib.hid (bthen HBB2.out hd.below)
   obtain ⟨z0, z1, z2⟩ := hz3.at3
   have f0 := hz3.frozen 0
   have f1 := hz3.frozen 1
   have f2 := hz3.frozen 2
   have HZ := Lib.hid (((hz3.set_ 0 (.int .i64 0)).set_ 1 (.int .i64 0)).set_ 2 (.slice none 0 0))
   clear hz3 hd
   go_wp2_with fail
   refine bodyPost_ret (results_spot2 (p := 4) (u := 5) (by kernel_rfl) _ _ _ _ _ _ rfl HZ.out) rfl ?_
   have hA : w.heap.size ≤ Ab + 1 := by omega
   exact ⟨_, rfl, Kd.V_nil _ _ _ _ _, ((HBB3.out.setCell (p := ⟨Ab + 1, 0, none⟩) hA _).setCell (p := ⟨Ab + 1, 1, none⟩) hA _).setCell (p := ⟨Ab + 1, 2, none⟩) hA _⟩
 ·rw [if_neg hbad] at h
  obtain ⟨t, ht, h⟩ := Option.bind_eq_some_iff.1 h
  obtain ⟨f, hf, h⟩ := Option.bind_eq_some_iff.1 h
  obtain ⟨t1, t2⟩ := t
  obtain ⟨f1, f2⟩ := f
  simp only at hf h
  have hrt : rb = true := by
   cases rb
   ·exact absurd (.inl rfl) hbad
   ·rfl
  have hia : isAddrB a1 = true := by
   cases hx : isAddrB a1
   ·exact absurd (.inr hx) hbad
   ·rfl
  subst hrt
  have HI := Lib.hid (isAddr_f a1)
  rw [hia] at HI
  have HT := Lib.hid ht
  have HF := Lib.hid hf
  have HH := Lib.hid h
  clear hbad hia ht hf h
  go_enter Try.func16, Try.ntmps16
  go_wp2_with fail
  rw [HW1.out]
  refine (root_Right.calls 2000 A0 c0 l0 true w1 (Kd.C_below HC.out HB3.out) HN.out HRB.out).mono ?_
  rintro e w2 ⟨rfl, hb2⟩
  have c1 := (HB1.out.below hb2 HB1.out.lt).at1
  have HB12 := Lib.hid (HB1.out.below hb2 HB1.out.lt)
  have HB22 := Lib.hid (HB2.out.below hb2 HB2.out.lt)
  have HBB2 := Lib.hid (bthen HB3.out hb2)
  clear hb2
  go_wp2_with fail
  refine (root_isAddr.calls a1 _ _ HI.out).mono ?_
  rintro e w3 ⟨rfl, hd⟩
  have c2 := (HB12.out.below hd.below HB12.out.lt).at1
  have HB13 := Lib.hid (HB12.out.below hd.below HB12.out.lt)
  have HB23 := Lib.hid (HB22.out.below hd.below HB22.out.lt)
  have HBB3 := Lib.hid (bthen HBB2.out hd.below)
  clear hd c1
  go_wp2_with fail
  refine (root_Root.calls a1 _ _ _ HER.out).mono ?_
  rintro e w4 ⟨rfl, hd⟩
  have c3 := (HB13.out.below hd.below HB13.out.lt).at1
  have HB14 := Lib.hid (HB13.out.below hd.below HB13.out.lt)
  have HB24 := Lib.hid (HB23.out.below hd.below HB23.out.lt)
  have HBB4 := Lib.hid (bthen HBB3.out hd.below)
  clear hd c2
  go_wp2_with fail
  have hD0 : Below w4.heap.size w4 w4.drew := (Below.refl _ _).drew
  have HCK : Hid (∀ w', Below w4.heap.size w4 w' → w'.cell? ⟨Ab, 0, none⟩ = some (.int .i64 a1)) := fun w' hb => (HB14.out.below hb HB14.out.lt).at1
  go_region_held3 (fun w' => Below w4.heap.size w4 w' ∧ w'.cell? ⟨Ab, 0, none⟩ = some (.int .i64 a1)) (first | exact ⟨hD0, c3⟩ | exact ⟨hBF, HCK.out _ hBF⟩ | exact ⟨hBT, HCK.out _ hBT⟩)
   (first
    | (go_at_call 44; refine (root_tree.calls A0 c0 l0 (rootI a1) t1 t2 _ (Kd.C_below (Kd.C_below HC.out HBB4.out) ((‹Below w4.heap.size w4 _›).mono (Nat.le_refl _))) HN.out HT.out).mono ?_; rintro e w5 ⟨v5, rfl, hR5, hb5⟩; have hBT := bthen ‹Below w4.heap.size w4 _› hb5; obtain ⟨A5, c5, rfl⟩ := Kd.R_slice hR5; have hQ5 := Kd.R_reads' hR5; clear hR5 hb5)
    | (go_at_call 46; refine (treap_Find.calls t1 A5 c5 t2 a1 f1 f2 _ hQ5.2.2 hQ5.2.1 HF.out).mono ?_; rintro e w6 ⟨rfl, hb6⟩; have hBF := bthen hBT hb6; clear hb6))
  have c6 := HCK.out _ hBF
  have HBB6 := Lib.hid (bthen HBB4.out hBF)
  have HB16 := Lib.hid (HB14.out.below hBF HB14.out.lt)
  have hz6 := HB24.out.below hBF HB24.out.lt
  have HH2 := HH.out
  have hA : w.heap.size ≤ Ab + 1 := by omega
  clear hBF hBT hQ5 hD0 c3
  by_cases hf2 : f2 = 0
  ·subst hf2
   rw [if_pos rfl] at HH2
   have hgf : ∃ s, l0.find? (fun s => s.f0 == a1) = some s ∧ r1 = s.f0 ∧ r2 = s.f1 ∧ r3 = s.f2 ∧ r4 = 0 := by
    unfold getR at HH2
    cases hx : l0.find? (fun s => s.f0 == a1) with
    | none => rw [hx] at HH2; cases HH2
    | some s =>
     rw [hx] at HH2
     have hq := Option.some.inj HH2
     exact ⟨s, rfl, (congrArg (·.1) hq).symm, (congrArg (·.2.1) hq).symm, (congrArg (·.2.2.1) hq).symm, (congrArg (·.2.2.2) hq).symm⟩
   obtain ⟨s, hfi, rfl, rfl, rfl, rfl⟩ := hgf
   have HZ6 := Lib.hid hz6
   obtain ⟨R, hR, _, _, hrd, hrep⟩ := raws_of_V (Kd.V_below HV.out HBB6.out)
   rw [← hR] at hfi
   obtain ⟨i, x, hxi, rfl, hidx⟩ := idx_find hfi
   have hrl := raw_len hrd
   have hil : i < l0.length := by have := (List.getElem?_eq_some_iff.1 hxi).1; omega
   have HRD := Lib.hid hrd
   have HREP := Lib.hid hrep
   have HXI := Lib.hid hxi
   have HIX := Lib.hid hidx
   clear HH2 hz6 hrd hrep hxi hidx hfi hR
   go_wp2_with fail
   refine (index_any (atF Ab a1) A0 l0.length c0 R hn w6 (HRD.out) HB16.out).mono ?_
   rintro e w7 ⟨rfl, hb7⟩
   rw [show (atF Ab a1).p = (fun y => y == a1) from rfl, HIX.out]
   obtain ⟨ad, x', hA0, _, hx', q0, q1, q2⟩ := raw_at ((HRD.out.below hb7).more hb7.size) hil
   rw [HXI.out] at hx'
   obtain rfl := Option.some.inj hx'
   subst hA0
   have hz7 := HZ6.out.below hb7 HZ6.out.lt
   have HBB7 := Lib.hid (bthen HBB6.out hb7)
   obtain ⟨z0, z1, z2⟩ := hz7.at3
   have f0 := hz7.frozen 0
   have f1 := hz7.frozen 1
   have f2 := hz7.frozen 2
   have HZ := Lib.hid (((hz7.set_ 0 (.int .i64 x.s.f0)).set_ 1 (.int .i64 x.s.f1)).set_ 2 (.slice x.A x.s.f2.length x.c))
   have hV := Kd.V_below (HREP.out x (List.mem_of_getElem? HXI.out)) hb7
   have HVV := Lib.hid hV
   simp only [Rw.v] at q2
   clear hz7 hb7 hV hx'
   go_wp2_with fail
   refine bodyPost_ret (results_spot2 (p := 4) (u := 5) (by kernel_rfl) _ _ _ _ _ _ rfl HZ.out) rfl ?_
   have hne : ∀ k, (P0_ k ∧ k < w.heap.size) → k ≠ Ab + 1 := fun k hk e => by have := hk.2; omega
   have hVF := Kd.V_far (p := ⟨Ab + 1, 2, none⟩) (Kd.V_far (p := ⟨Ab + 1, 1, none⟩) (Kd.V_far (p := ⟨Ab + 1, 0, none⟩) HVV.out hne (.int .i64 x.s.f0)) hne (.int .i64 x.s.f1)) hne (.slice x.A x.s.f2.length x.c)
   refine ⟨_, rfl, Kd.V_map (Kd.V_mono hVF (fun k hk => .inl hk.1)) (fun _ hf => hf), ((HBB7.out.setCell (p := ⟨Ab + 1, 0, none⟩) hA _).setCell (p := ⟨Ab + 1, 1, none⟩) hA _).setCell (p := ⟨Ab + 1, 2, none⟩) hA _⟩
  ·rw [if_neg hf2] at HH2
   have hq := Option.some.inj HH2
   obtain ⟨rfl, rfl, rfl, rfl⟩ : r1 = a1 ∧ r2 = 0 ∧ r3 = [] ∧ r4 = 0 := ⟨(congrArg (·.1) hq).symm, (congrArg (·.2.1) hq).symm, (congrArg (·.2.2.1) hq).symm, (congrArg (·.2.2.2) hq).symm⟩
   have d2 : (f2 != 0) = true := by simp [hf2]
   obtain ⟨z0, z1, z2⟩ := hz6.at3
   have g0 := hz6.frozen 0
   have g1 := hz6.frozen 1
   have g2 := hz6.frozen 2
   have HZ := Lib.hid (((hz6.set_ 0 (.int .i64 r1)).set_ 1 (.int .i64 0)).set_ 2 (.slice none 0 0))
   clear hz6 HH2 hq hf2
   go_wp2_with fail
   refine bodyPost_ret (results_spot2 (p := 4) (u := 5) (by kernel_rfl) _ _ _ _ _ _ rfl HZ.out) rfl ?_
   exact ⟨_, rfl, Kd.V_nil _ _ _ _ _, ((HBB6.out.setCell (p := ⟨Ab + 1, 0, none⟩) hA _).setCell (p := ⟨Ab + 1, 1, none⟩) hA _).setCell (p := ⟨Ab + 1, 2, none⟩) hA _⟩
end Go.Proofs.Ytnjnjajgpkmfhaa.PX

/-
 The contract of root.Set, in the form that the printed texts lean on.
-/
namespace Go.Proofs.Ytnjnjajgpkmfhaa.PX
open Go.RowKit Go.Proofs.YtnjnjajgpkmfhaaW.PrintWords Go.Proofs.YtnjnjajgpkmfhaaW.PrintLast Go.Proofs.YtnjnjajgpkmfhaaW.PrintMore
theorem order_f (a b : Int) : ∃ r, root_order.f a b = some r := by
 obtain ⟨e1, h1⟩ := root_f a
 obtain ⟨e2, h2⟩ := root_f b
 unfold root_order.f
 rw [h1, h2]
 simp only [Option.bind_some]
 split <;> exact ⟨_, rfl⟩
def orderI (a b : Int) : Int := (root_order.f a b).getD 0
theorem order_is (a b : Int) : root_order.f a b = some (orderI a b) := by
 obtain ⟨r, h⟩ := order_f a b
 rw [orderI, h]
 rfl
theorem set1_any (Sb : Nat) (s : Rw) (x : Rw) (w : World) (h : Blk w Sb 33 #[.int .i64 s.s.f0, .int .i64 s.s.f1, s.v]) :
  Calls Try.prog 51 #[.agg #[.int .i64 x.s.f0, .int .i64 x.s.f1, x.v], .pointer (some ⟨Sb, 0, none⟩)] w fun e w' => e = .returned (.bool (x.s.f0 == s.s.f0)) ∧ Below w.heap.size w w' := by
 have hlt := h.lt
 have hc := (h.alloc (.cells #[.int .i64 x.s.f0, .int .i64 x.s.f1, x.v] 33)).at3.1
 have HB0 := Lib.hid ((Below.refl w.heap.size w).alloc (Nat.le_refl _) (.cells #[.int .i64 x.s.f0, .int .i64 x.s.f1, x.v] 33))
 clear h
 obtain ⟨xs, Ax, cx⟩ := x
 simp only [Rw.v] at HB0 hc ⊢
 go_enter Try.func51, Try.ntmps51
 go_wp2_with fail
 go_ret
 exact ⟨rfl, HB0.out⟩
theorem set2_any (Sb : Nat) (s : Rw) (x : Rw) (w : World) (h : Blk w Sb 33 #[.int .i64 s.s.f0, .int .i64 s.s.f1, s.v]) :
  Calls Try.prog 52 #[.agg #[.int .i64 x.s.f0, .int .i64 x.s.f1, x.v], .pointer (some ⟨Sb, 0, none⟩)] w fun e w' => e = .returned (.bool (decide (orderI x.s.f0 s.s.f0 > 0))) ∧ Below w.heap.size w w' := by
 have hlt := h.lt
 have hc := (h.alloc (.cells #[.int .i64 x.s.f0, .int .i64 x.s.f1, x.v] 33)).at3.1
 have HB0 := Lib.hid ((Below.refl w.heap.size w).alloc (Nat.le_refl _) (.cells #[.int .i64 x.s.f0, .int .i64 x.s.f1, x.v] 33))
 have HO := Lib.hid (order_is x.s.f0 s.s.f0)
 clear h
 obtain ⟨xs, Ax, cx⟩ := x
 simp only [Rw.v] at HB0 hc HO ⊢
 obtain ⟨r, hr⟩ : ∃ r, orderI xs.f0 s.s.f0 = r := ⟨_, rfl⟩
 rw [hr] at HO ⊢
 clear hr
 go_enter Try.func52, Try.ntmps52
 go_wp2_with fail
 refine (root_order.calls _ _ r _ HO.out).mono ?_
 rintro e w2 ⟨rfl, hd⟩
 have HB2 := Lib.hid (bthen HB0.out hd.below)
 clear hd
 go_wp2_with fail
 go_ret
 exact ⟨rfl, HB2.out⟩
def sameF (Sb : Nat) (s : Rw) : PredF where
 K := 51
 caps := #[.pointer (some ⟨Sb, 0, none⟩)]
 I := fun w => Blk w Sb 33 #[.int .i64 s.s.f0, .int .i64 s.s.f1, s.v]
 p := fun x => x == s.s.f0
 enter := fun x w => by simp [go_sem]
 keep := fun h hb => h.below hb h.lt
 run := fun {w} x h => set1_any Sb s x w h
def overF (Sb : Nat) (s : Rw) : PredF where
 K := 52
 caps := #[.pointer (some ⟨Sb, 0, none⟩)]
 I := fun w => Blk w Sb 33 #[.int .i64 s.s.f0, .int .i64 s.s.f1, s.v]
 p := fun x => decide (orderI x s.s.f0 > 0)
 enter := fun x w => by simp [go_sem]
 keep := fun h hb => h.below hb h.lt
 run := fun {w} x h => set2_any Sb s x w h
def DelO (B : Nat) (p : Int → Bool) (R : List Rw) (w : World) (e : Ending) (w' : World) : Prop := ∃ v, e = .returned v ∧ w'.ownsRow B 33 3 v (stay p R).length ((stay p R).flatMap Rw.cells) ∧ Below B w w' ∧ ∀ k, k < B → w'.heap[k]? = w.heap[k]?
set_option maxRecDepth 100000 in
set_option maxHeartbeats 4000000 in
theorem del_zero (C : PredF) (A : Option Addr) (c : Nat) (w : World) (hI : C.I w) :
  Calls Try.prog 49 #[.slice A 0 c, .func (.func C.K) #[] C.caps] w fun e w' => e = .returned (.slice A 0 c) ∧ Below w.heap.size w w' := by
 have HI := Lib.hid hI
 clear hI
 go_enter Try.func49, Try.ntmps49
 go_wp2_with fail
 refine (index_any C A 0 c [] (by omega) _ ⟨rfl, fun h => absurd h (by omega)⟩ HI.out).mono ?_
 rintro e w1 ⟨rfl, hb1⟩
 have HB1 := Lib.hid hb1
 clear hb1
 rw [show idxI C.p [] = -1 from rfl]
 go_wp2_with fail
 go_ret
 exact ⟨rfl, HB1.out⟩
theorem del_own (C : PredF) (B n : Nat) (v : Value) (R : List Rw) (hn : n ≤ 1000) (w : World) (hown : w.ownsRow B 33 3 v n (R.flatMap Rw.cells)) (hBw : B ≤ w.heap.size) (hI : C.I w) (hkeep : ∀ {a b : World} {g : Nat}, B ≤ g → C.I a → Below g a b → g < a.heap.size → C.I b) :
  Calls Try.prog 49 #[v, .func (.func C.K) #[] C.caps] w (DelO B C.p R w) := by
 rcases Nat.eq_zero_or_pos n with h0 | h0
 ·subst h0
  have hR : R = [] := by
   have := hown.1
   rw [flat_len Rw.cells 3 cells3] at this
   exact List.eq_nil_of_length_eq_zero (by omega)
  subst hR
  have hv : ∃ A c, v = .slice A 0 c := by
   obtain ⟨_, h | ⟨g, c, cur, rfl, _⟩⟩ := hown
   ·exact ⟨_, _, h.1⟩
   ·exact ⟨_, _, rfl⟩
  obtain ⟨A, c, rfl⟩ := hv
  refine (del_zero C A c w hI).mono ?_
  rintro e w' ⟨rfl, hb⟩
  exact ⟨_, rfl, own_move hown (fun k hk => hb.block k (own_lt hown k hk)), hb.mono hBw, fun k hk => hb.block k (by omega)⟩
 ·obtain ⟨g, c, rfl, hBg, hrow⟩ := rowS_of_own hown h0
  refine (del_any C g n c R hn w hrow hI (fun h1 h2 h3 => hkeep hBg h1 h2 h3)).mono ?_
  rintro e w' ⟨rfl, hr, hb⟩
  exact ⟨_, rfl, hr.own hBg, hb.mono hBg, fun k hk => hb.block k (by omega)⟩
theorem own_V {w : World} {B base n : Nat} {ok : Nat → Prop} {v : Value} {R : List Rw} (h : w.ownsRow B 33 3 v n (R.flatMap Rw.cells)) (hok : ∀ k, B ≤ k → ok k) (hr : Rep w ok R) (hn : n ≤ 1001) : Kd.V k33 33 w base ok v (spots R) := by
 have h' := h
 obtain ⟨A, c, rfl, hnc, _, hrd⟩ := own_reads3 h
 refine V_of_raws hrd (fun ad hA => ?_) hr hnc (by omega)
 rcases h'.2 with ⟨hv, _⟩ | ⟨g, cap, cur, hv, hBg, _⟩
 ·injection hv with hv _ _
  rw [hA] at hv
  cases hv
 ·injection hv with hv _ _
  rw [hA] at hv
  obtain rfl := Option.some.inj hv
  exact hok g hBg
def offS (l : List S33) (a : Int) : List S33 := l.filter (fun s => !(s.f0 == a))
def putS (l : List S33) (s : S33) : List S33 := l.take (l.findIdx (fun x => decide (orderI x.f0 s.f0 > 0))) ++ s :: l.drop (l.findIdx (fun x => decide (orderI x.f0 s.f0 > 0)))
def root_Set.f (l0 : List S33) (a1_0 : Int) (a1_1 : Int) (l1_2 : List Int) : Option (List S33 × Int) :=
 if l0.length ≤ 1000 then
  (root_Right.f 2000 l0).bind fun r => if r = false then some ([], 1) else
   (root_isSpot.f a1_0 a1_1 l1_2).bind fun sp => if sp = false then some ([], 1) else
    (root_isEmpty.f a1_0 a1_1 l1_2).bind fun em => if em = true then some (offS l0 a1_0, 0) else
     if (offS l0 a1_0).length = 64 then some ([], 5) else some (putS (offS l0 a1_0) ⟨a1_0, a1_1, l1_2⟩, 0)
 else none
def SetP (P : Nat → Prop) (r1 : List S33) (r2 : Int) (w : World) (e : Ending) (w' : World) : Prop := ∃ v0_ : Value, e = .returned (.tuple #[v0_, .int .i64 r2]) ∧ Kd.V k33 33 w' w.heap.size P v0_ r1 ∧ Below w.heap.size w w'
theorem spots_stay (R : List Rw) (a : Int) : spots (stay (fun x => x == a) R) = offS (spots R) a := by
 rw [spots, stay, offS, spots, List.filter_map]
 rfl
theorem spots_put (L : List Rw) (x : Rw) : spots (put1 L (L.findIdx (fun y => decide (orderI y.s.f0 x.s.f0 > 0))) x) = putS (spots L) x.s := by
 have e : (spots L).findIdx (fun y => decide (orderI y.f0 x.s.f0 > 0)) = L.findIdx (fun y => decide (orderI y.s.f0 x.s.f0 > 0)) := by
  rw [spots, List.findIdx_map]
  rfl
 rw [putS, e]
 simp [spots, put1, List.map_take, List.map_drop]
set_option maxRecDepth 100000 in
set_option maxHeartbeats 8000000 in
theorem root_Set.calls (P0_ : Nat → Prop) (A0 : Option Addr) (c0 : Nat) (l0 : List S33) (a1_0 : Int) (a1_1 : Int) (P1_2_ : Nat → Prop) (A1_2 : Option Addr) (c1_2 : Nat) (l1_2 : List Int) (r1 : List S33) (r2 : Int) (w : World)
  (hs0 : Kd.V k33 33 w w.heap.size (fun k_ => P0_ k_) (.slice A0 l0.length c0) l0) (hs1_2 : Kd.V (Kd.int .i64) 3 w w.heap.size (fun k_ => P1_2_ k_) (.slice A1_2 l1_2.length c1_2) l1_2) (h : root_Set.f l0 a1_0 a1_1 l1_2 = some (r1, r2)) :
  Calls Try.prog 17 #[.slice A0 l0.length c0, .agg #[.int .i64 a1_0, .int .i64 a1_1, .slice A1_2 l1_2.length c1_2]] w fun e w' => ∃ v0_ : Value, e = .returned (.tuple #[v0_, .int .i64 r2]) ∧ Kd.V k33 33 w' w.heap.size (fun k_ => ((P0_ k_ ∨ P1_2_ k_) ∨ w.heap.size ≤ k_)) v0_ r1 ∧ Below w.heap.size w w' := by
 show Calls _ _ _ _ (SetP (fun k_ => ((P0_ k_ ∨ P1_2_ k_) ∨ w.heap.size ≤ k_)) r1 r2 w)
 unfold root_Set.f at h
 split at h
 case isFalse => cases h
 rename_i hn
 obtain ⟨rb, hrb, h⟩ := Option.bind_eq_some_iff.1 h
 obtain ⟨_, hnc, hF⟩ := Kd.V_at hs0
 obtain ⟨_, hlc, hFl⟩ := Kd.V_at hs1_2
 have HC := Lib.hid (Kd.F_now hF)
 have HN := Lib.hid hnc
 have HCL := Lib.hid (Kd.F_now hFl)
 have HLC := Lib.hid hlc
 have HRB := Lib.hid hrb
 obtain ⟨R, hR, _, _, hrd, hrep⟩ := raws_of_V (Kd.V_mono hs0 (ok' := fun k_ => ((P0_ k_ ∨ P1_2_ k_) ∨ w.heap.size ≤ k_)) (fun _ hk => .inl (.inl hk)))
 have HRR := Lib.hid hR
 have HRD := Lib.hid hrd
 have HREP := Lib.hid hrep
 have HVX := Lib.hid (Kd.V_mono hs1_2 (ok' := fun k_ => ((P0_ k_ ∨ P1_2_ k_) ∨ w.heap.size ≤ k_)) (fun _ hk => .inl (.inr hk)))
 obtain ⟨x, hx⟩ : ∃ x : Rw, x = ⟨⟨a1_0, a1_1, l1_2⟩, A1_2, c1_2⟩ := ⟨_, rfl⟩
 have HX := Lib.hid hx
 obtain ⟨Sb, hSb⟩ : ∃ Sb, w.heap.size = Sb := ⟨_, rfl⟩
 have hbx := Blk.new w 33 #[.int .i64 a1_0, .int .i64 a1_1, .slice A1_2 l1_2.length c1_2]
 have hb1 := (Below.refl w.heap.size w).alloc (Nat.le_refl _) (.cells #[.int .i64 a1_0, .int .i64 a1_1, .slice A1_2 l1_2.length c1_2] 33)
 obtain ⟨w1, hw1⟩ : ∃ w1, w.alloc (.cells #[.int .i64 a1_0, .int .i64 a1_1, .slice A1_2 l1_2.length c1_2] 33) = w1 := ⟨_, rfl⟩
 rw [hw1] at hbx hb1
 rw [hSb] at hbx
 have HBX := Lib.hid hbx
 have HB1 := Lib.hid hb1
 have HW1 := Lib.hid hw1
 clear hs0 hs1_2 hnc hlc hF hFl hrb hR hrd hrep hx hbx hb1 hw1
 go_enter Try.func17, Try.ntmps17
 go_wp2_with fail
 rw [HW1.out]
 refine (root_Right.calls 2000 A0 c0 l0 rb w1 (Kd.C_below HC.out HB1.out) HN.out HRB.out).mono ?_
 rintro e w2 ⟨rfl, hb2⟩
 have HB2 := Lib.hid (bthen HB1.out hb2)
 have HBX2 := Lib.hid (HBX.out.below hb2 HBX.out.lt)
 clear hb2
 cases rb with
 | false =>
  rw [if_pos rfl] at h
  have hq := Option.some.inj h
  obtain ⟨rfl, rfl⟩ : r1 = [] ∧ r2 = 1 := ⟨(congrArg (·.1) hq).symm, (congrArg (·.2) hq).symm⟩
  clear h hq
  go_wp2_with fail
  go_ret2
  exact ⟨_, rfl, Kd.V_nil _ _ _ _ _, HB2.out⟩
 | true =>
  rw [if_neg (by simp)] at h
  obtain ⟨sb, hsb, h⟩ := Option.bind_eq_some_iff.1 h
  have HSB := Lib.hid hsb
  obtain ⟨q0, q1, q2⟩ := HBX2.out.at3
  clear hsb
  go_wp2_with fail
  refine (root_isSpot.calls a1_0 a1_1 A1_2 c1_2 l1_2 sb w2 (Kd.C_below HCL.out HB2.out) HLC.out HSB.out).mono ?_
  rintro e w3 ⟨rfl, hb3⟩
  have HB3 := Lib.hid (bthen HB2.out hb3)
  have HBX3 := Lib.hid (HBX2.out.below hb3 HBX2.out.lt)
  clear hb3 q0 q1 q2
  cases sb with
  | false =>
   rw [if_pos rfl] at h
   have hq := Option.some.inj h
   obtain ⟨rfl, rfl⟩ : r1 = [] ∧ r2 = 1 := ⟨(congrArg (·.1) hq).symm, (congrArg (·.2) hq).symm⟩
   clear h hq
   go_wp2_with fail
   go_ret2
   exact ⟨_, rfl, Kd.V_nil _ _ _ _ _, HB3.out⟩
  | true =>
   rw [if_neg (by simp)] at h
   obtain ⟨em, hem, h⟩ := Option.bind_eq_some_iff.1 h
   have HEM := Lib.hid hem
   have HH := Lib.hid h
   clear hem h
   go_wp2_with fail
   refine (clone_any A0 l0.length c0 R hn w3 ((HRD.out.below HB3.out).more HB3.out.size)).mono ?_
   rintro e w4 ⟨v4, rfl, hown4, hb4⟩
   have HB4 := Lib.hid (bthen HB3.out hb4)
   have HBX4 := Lib.hid (HBX3.out.below hb4 HBX3.out.lt)
   have HO4 := Lib.hid hown4
   have hS3 : Sb < w3.heap.size := HBX3.out.lt
   have hs34 := hb4.size
   have hsl4 : ∃ A c, v4 = .slice A l0.length c := by
    obtain ⟨A, c, hv, _⟩ := own_reads3 hown4
    exact ⟨A, c, hv⟩
   obtain ⟨A4, c4, rfl⟩ := hsl4
   clear hown4 hb4
   have hIX : Blk w4 Sb 33 #[.int .i64 x.s.f0, .int .i64 x.s.f1, x.v] := by rw [HX.out]; exact HBX4.out
   have HDEL := Lib.hid (del_own (sameF Sb x) w3.heap.size l0.length (.slice A4 l0.length c4) R hn w4 HO4.out hs34 hIX (fun {a b g} hg h1 h2 h3 => (h2.block Sb (by omega)).trans h1))
   clear hIX
   go_wp2_with fail
   refine HDEL.out.mono ?_
   rintro e w5 ⟨v5, rfl, hown5, hb5, hk5⟩
   have hpx : (sameF Sb x).p = fun y => y == a1_0 := by rw [HX.out]; rfl
   rw [hpx] at hown5
   have hs35 : w3.heap.size ≤ w5.heap.size := Nat.le_trans hs34 hb5.size
   have HB5 := Lib.hid (HB4.out.trans (hb5.mono HB3.out.size))
   have HBX5 : Hid (Blk w5 Sb 33 #[.int .i64 a1_0, .int .i64 a1_1, .slice A1_2 l1_2.length c1_2]) := (hk5 Sb hS3).trans HBX4.out
   obtain ⟨L, hL⟩ : ∃ L, stay (fun y => y == a1_0) R = L := ⟨_, rfl⟩
   rw [hL] at hown5
   have HLS : Hid (spots L = offS l0 a1_0) := by unfold Hid; rw [← hL, spots_stay, HRR.out]
   have HLR : Hid (∀ y ∈ L, y ∈ R) := fun y hy => by rw [← hL] at hy; exact (List.mem_filter.1 hy).1
   obtain ⟨nL, hnL⟩ : ∃ nL, L.length = nL := ⟨_, rfl⟩
   rw [hnL] at hown5
   have hnL0 : nL ≤ l0.length := by
    rw [← hnL, ← hL]
    refine Nat.le_trans (List.length_filter_le _ _) ?_
    rw [← HRR.out]
    simp [spots]
   have hnL1 : nL ≤ 1000 := by omega
   have HOL : Hid ((offS l0 a1_0).length = nL) := by unfold Hid; rw [← HLS.out, ← hnL]; simp [spots]
   have HNL := Lib.hid hnL
   obtain ⟨A5, c5, rfl, hc5, _, _⟩ := own_reads3 hown5
   have HO5 := Lib.hid hown5
   have HREPL : Hid (∀ W, Below w.heap.size w W → Rep W (fun k_ => ((P0_ k_ ∨ P1_2_ k_) ∨ w.heap.size ≤ k_)) L) := fun W hW y hy => (HREP.out.below hW) y (HLR.out y hy)
   have hw3w : w.heap.size ≤ w3.heap.size := HB3.out.size
   have HOK : Hid (∀ k, w3.heap.size ≤ k → ((P0_ k ∨ P1_2_ k) ∨ w.heap.size ≤ k)) := fun k hk => .inr (by omega)
   obtain ⟨q0, q1, q2⟩ := HBX5.out.at3
   clear hown5 hb5 hk5 hpx hL hnL hc5 hs34
   go_wp2_with fail
   refine (root_isEmpty.calls a1_0 a1_1 A1_2 c1_2 l1_2 em w5 (Kd.C_below HCL.out HB5.out) HLC.out HEM.out).mono ?_
   rintro e w6 ⟨rfl, hb6⟩
   have HB6 := Lib.hid (bthen HB5.out hb6)
   have HBX6 := Lib.hid (HBX5.out.below hb6 HBX5.out.lt)
   have HO6 := Lib.hid (own_move HO5.out (fun k hk => hb6.block k (own_lt HO5.out k hk)))
   have hs6 := hb6.size
   have HH2 := HH.out
   clear hb6 q0 q1 q2
   cases em with
   | true =>
    rw [if_pos rfl] at HH2
    have hq := Option.some.inj HH2
    obtain ⟨hr1, rfl⟩ : r1 = offS l0 a1_0 ∧ r2 = 0 := ⟨(congrArg (·.1) hq).symm, (congrArg (·.2) hq).symm⟩
    have HR1 := Lib.hid hr1
    clear HH2 hq hr1
    go_wp2_with fail
    go_ret2
    refine ⟨_, rfl, ?_, HB6.out⟩
    rw [HR1.out, ← HLS.out]
    exact own_V HO6.out HOK.out (HREPL.out _ HB6.out) (by omega)
   | false =>
    rw [if_neg (by simp), HOL.out] at HH2
    by_cases h64 : nL = 64
    ·rw [if_pos h64] at HH2
     have hq := Option.some.inj HH2
     obtain ⟨rfl, rfl⟩ : r1 = [] ∧ r2 = 5 := ⟨(congrArg (·.1) hq).symm, (congrArg (·.2) hq).symm⟩
     have d0 : ((nL : Int) == 64) = true := by rw [h64]; rfl
     clear HH2 hq h64
     go_wp2_with fail
     go_ret2
     exact ⟨_, rfl, Kd.V_nil _ _ _ _ _, HB6.out⟩
    ·rw [if_neg h64] at HH2
     have hq := Option.some.inj HH2
     obtain ⟨hr1, rfl⟩ : r1 = putS (offS l0 a1_0) ⟨a1_0, a1_1, l1_2⟩ ∧ r2 = 0 := ⟨(congrArg (·.1) hq).symm, (congrArg (·.2) hq).symm⟩
     have HR1 := Lib.hid hr1
     have d0 : ((nL : Int) == 64) = false := by simp; omega
     clear HH2 hq h64 hr1
     have hIX : Blk w6 Sb 33 #[.int .i64 x.s.f0, .int .i64 x.s.f1, x.v] := by rw [HX.out]; exact HBX6.out
     have hrd6 : Reads w6 w6.heap.size 3 A5 nL (L.flatMap Rw.cells) := Reads.of_own HO6.out
     have HIDX := Lib.hid (index_any (overF Sb x) A5 nL c5 L hnL1 w6 hrd6 hIX)
     clear hIX hrd6
     go_wp2_with fail
     refine HIDX.out.mono ?_
     rintro e w7 ⟨rfl, hb7⟩
     have HB7 := Lib.hid (bthen HB6.out hb7)
     have HBX7 := Lib.hid (HBX6.out.below hb7 HBX6.out.lt)
     have HO7 := Lib.hid (own_move HO6.out (fun k hk => hb7.block k (own_lt HO6.out k hk)))
     have hs7 := hb7.size
     obtain ⟨k, hk⟩ : ∃ k, L.findIdx (fun y => decide (orderI y.s.f0 x.s.f0 > 0)) = k := ⟨_, rfl⟩
     have hkl : k ≤ nL := by rw [← hk, ← HNL.out]; exact List.findIdx_le_length
     have hidx : idxI (overF Sb x).p L = if k < nL then (k : Int) else -1 := by
      show (if L.findIdx (fun y => decide (orderI y.s.f0 x.s.f0 > 0)) < L.length then ((L.findIdx (fun y => decide (orderI y.s.f0 x.s.f0 > 0)) : Nat) : Int) else -1) = _
      rw [hk, HNL.out]
     have HPUT : Hid (spots (put1 L k x) = r1) := by
      unfold Hid
      rw [HR1.out, ← HLS.out, ← hk, spots_put, HX.out]
     obtain ⟨g8, hg8⟩ : ∃ g8, w7.heap.size = g8 := ⟨_, rfl⟩
     have hb8 := Blk.new w7 33 #[.int .i64 a1_0, .int .i64 a1_1, .slice A1_2 l1_2.length c1_2]
     rw [hg8] at hb8
     have HBL8 : Hid (Blk (w7.alloc (.cells #[.int .i64 a1_0, .int .i64 a1_1, .slice A1_2 l1_2.length c1_2] 33)) g8 33 #[.int .i64 x.s.f0, .int .i64 x.s.f1, x.v]) := by unfold Hid; rw [HX.out]; exact hb8
     have HB8 := Lib.hid (HB7.out.alloc HB7.out.size (.cells #[.int .i64 a1_0, .int .i64 a1_1, .slice A1_2 l1_2.length c1_2] 33))
     have hne8 : (Value.slice A5 nL c5).ownBlock ≠ some g8 := fun e => by have := own_lt HO7.out g8 e; omega
     have HO8 := Lib.hid (own_move HO7.out (fun k hk => Below.heap_alloc w7 (.cells #[.int .i64 a1_0, .int .i64 a1_1, .slice A1_2 l1_2.length c1_2] 33) k (own_lt HO7.out k hk)))
     have HINS := Lib.hid (ins_any w3.heap.size nL k (.slice A5 nL c5) L x g8 hnL1 hkl _ HO8.out (by simp; omega) HBL8.out hne8)
     obtain ⟨q0, q1, q2⟩ := HBX7.out.at3
     rw [hidx]
     clear hb7 hidx hb8 hne8
     by_cases hlt : k < nL
     case' pos =>
      rw [if_pos hlt]
      have d1 : decide ((k : Int) < 0) = false := decide_eq_false (by omega)
     case' neg =>
      rw [if_neg hlt]
      obtain rfl : k = nL := by omega
     all_goals
      go_wp2_with fail
      refine HINS.out.mono ?_
      rintro e w9 ⟨v9, rfl, hown9, hb9⟩
      have HB9 := Lib.hid (HB8.out.trans (hb9.mono hw3w))
      have HO9 := Lib.hid hown9
      clear hown9 hb9
      go_wp2_with fail
      go_ret2
      refine ⟨_, rfl, ?_, HB9.out⟩
      rw [← HPUT.out]
      refine own_V HO9.out HOK.out (fun y hy => ?_) (by omega)
      rw [put1] at hy
      rcases List.mem_append.1 hy with hy | hy
      ·exact HREPL.out _ HB9.out y (List.mem_of_mem_take hy)
      ·rcases List.mem_cons.1 hy with rfl | hy
       ·rw [HX.out]
        exact Kd.V_map (Kd.V_below HVX.out HB9.out) (fun _ hf => hf)
       ·exact HREPL.out _ HB9.out y (List.mem_of_mem_drop hy)
end Go.Proofs.Ytnjnjajgpkmfhaa.PX

namespace Go.Proofs.Ytnjnjajgpkmfhaa.PX
open Go.RowKit Go.Proofs.YtnjnjajgpkmfhaaW.PrintWords Go.Proofs.YtnjnjajgpkmfhaaW.PrintLast Go.Proofs.YtnjnjajgpkmfhaaW.PrintMore
attribute [local go_sem] max2_int min2_int max_two min_two max_three min_three max_four min_four   -- for this text's walks alone
set_option linter.unusedVariables false
set_option linter.unusedSimpArgs false

/-! ### deadboltlaw09_few: function 10 -/
def deadboltlaw09_few.l0 : Nat → List (S33) → List (S33) → Int → Int → Option ((List (S33)))
 | 0, _, _, _, _ => none
 | k + 1, x3, x10, x11, x12 => if x12 < x11 then (if 0 ≤ x12 then (if x12 < (x10.length : Int) then ((deadboltlaw09_cut.f ((rd_T33 x10 x12).f0) ((rd_T33 x10 x12).f1) ((rd_T33 x10 x12).f2)).bind fun bt108 => (if x3.length < 3518437208883 then (deadboltlaw09_few.l0 k (x3 ++ [(⟨bt108.1, bt108.2.1, bt108.2.2⟩ : S33)]) x10 x11 (wrap64 (x12 + 1))) else (none))) else (none)) else (none)) else (some x3)
def deadboltlaw09_few.f (k : Nat) (l0 : List (S33)) : Option ((List (S33))) := if 0 ≤ (mn (l0.length : Int) 70) then (if (mn (l0.length : Int) 70) ≤ (l0.length : Int) then ((some (l0.take ((mn (l0.length : Int) 70) : Int).toNat : List (S33))).bind fun y101 => (deadboltlaw09_few.l0 k ([] : List (S33)) y101 (y101.length : Int) 0)) else (none)) else (none)
end Go.Proofs.Ytnjnjajgpkmfhaa.PX

namespace Go.Proofs.Ytnjnjajgpkmfhaa.PX
open Go.RowKit Go.Proofs.YtnjnjajgpkmfhaaW.PrintWords Go.Proofs.YtnjnjajgpkmfhaaW.PrintLast Go.Proofs.YtnjnjajgpkmfhaaW.PrintMore
attribute [local go_sem] max2_int min2_int max_two min_two max_three min_three max_four min_four   -- for this text's walks alone
set_option linter.unusedVariables false
set_option linter.unusedSimpArgs false

/-! ### root_Under: function 12 -/
def root_Under.j0 : Nat → List (S33) → Int → Bool → Option (List Int × Int)
 | 0, _, _, _ => none
 | k + 1, x0, x1, x16 => if x16 = true then (some (([] : List Int), 1)) else ((root_tree.f x0 x1).bind fun bt132 => ((treap_Keys.f bt132.1 bt132.2).bind fun bt136 => (some (bt136.1, bt136.2))))
def root_Under.f (k : Nat) (l0 : List (S33)) (a1 : Int) : Option (List Int × Int) := (root_Right.f k l0).bind fun t131 => (if t131 = true then (if a1 < 0 then (root_Under.j0 k l0 a1 true) else (root_Under.j0 k l0 a1 (decide (a1 ≥ 251)))) else (root_Under.j0 k l0 a1 true))
end Go.Proofs.Ytnjnjajgpkmfhaa.PX

namespace Go.Proofs.Ytnjnjajgpkmfhaa.PX
open Go.RowKit Go.Proofs.YtnjnjajgpkmfhaaW.PrintWords Go.Proofs.YtnjnjajgpkmfhaaW.PrintLast Go.Proofs.YtnjnjajgpkmfhaaW.PrintMore
attribute [local go_sem] max2_int min2_int max_two min_two max_three min_three max_four min_four   -- for this text's walks alone
set_option linter.unusedVariables false
set_option linter.unusedSimpArgs false

/-! ### deadboltlaw09_alive: function 13 -/
def deadboltlaw09_alive.f  : Option (Bool) := (root_Set.f ([] : List (S33)) 2008 3 ([] : List Int)).bind fun bt140 => ((root_Root.f 2008).bind fun bt144 => (if bt140.2 = 0 then (if bt144.2 = 0 then (if (bt140.1.length : Int) = 1 then (if 0 < (bt140.1.length : Int) then (if ((rd_T33 bt140.1 0).f1) = 3 then (some (bt144.1 == 0)) else (some false)) else (none)) else (some false)) else (some false)) else (some false)))
end Go.Proofs.Ytnjnjajgpkmfhaa.PX

/-
 The plain side of layer 9: what a table is, told of the printed functions; the addresses under a root.
-/
namespace Go.Proofs.Ytnjnjajgpkmfhaa.PX
open Go.RowKit Go.Proofs.YtnjnjajgpkmfhaaW.PrintWords Go.Proofs.YtnjnjajgpkmfhaaW.PrintLast Go.Proofs.YtnjnjajgpkmfhaaW.PrintMore
abbrev Sp := S33
theorem wrap_id {x : Int} (h1 : -9223372036854775808 ≤ x) (h2 : x ≤ 9223372036854775807) : wrap64 x = x := by unfold wrap64; omega
theorem rd_sp {l : List Sp} {i : Nat} {x : Sp} (h : l[i]? = some x) : rd_T33 l (i : Int) = x := by
 unfold rd_T33
 rw [Int.toNat_natCast, List.getD_eq_getElem?_getD, h]
 rfl
def cut70 (s : Sp) : Sp := ⟨s.f0, s.f1, s.f2.take 70⟩
def fewF (l : List Sp) : List Sp := (l.take 70).map cut70
/-- May a spot be. -/
def SpotP (s : Sp) : Prop := (0 ≤ s.f0 ∧ s.f0 ≤ 4294967295) ∧ (0 ≤ s.f1 ∧ s.f1 ≤ 2147483647) ∧ lineB s.f2 = true ∧ (s.f1 = 0 ∨ s.f2 = [])
theorem spot_f (s : Sp) (hl : s.f2.length ≤ 1000) : ∃ b, root_isSpot.f s.f0 s.f1 s.f2 = some b ∧ (b = true ↔ SpotP s) := by
 unfold root_isSpot.f
 rw [isAddr_f]
 simp only [Option.bind_some]
 unfold line_Right.f
 rw [if_pos hl]
 simp only [Option.bind_some]
 by_cases h0 : isAddrB s.f0 = true
 ·have h0' : 0 ≤ s.f0 ∧ s.f0 ≤ 4294967295 := by simpa [isAddrB] using h0
  rw [if_pos h0]
  by_cases h1 : s.f1 ≥ 0
  ·rw [if_pos h1]
   by_cases h2 : s.f1 ≤ 2147483647
   ·rw [if_pos h2]
    by_cases h3 : lineB s.f2 = true
    ·rw [if_pos h3]
     by_cases h4 : s.f1 = 0
     ·rw [if_pos h4]
      exact ⟨true, rfl, by simp [SpotP, h0', h3, h4]⟩
     ·rw [if_neg h4]
      refine ⟨_, rfl, ?_⟩
      have h1' : 0 ≤ s.f1 := h1
      simp only [SpotP, h0', h1', h2, h3, h4, true_and, and_true, false_or]
      cases s.f2 <;> simp; omega
    ·rw [if_neg h3]
     exact ⟨false, rfl, by simp [SpotP, h3]⟩
   ·rw [if_neg h2]
    exact ⟨false, rfl, by simp [SpotP, h2]⟩
  ·rw [if_neg h1]
   exact ⟨false, rfl, by simp only [SpotP]; constructor <;> intro h <;> first | (cases h; done) | omega⟩
 ·rw [if_neg h0]
  refine ⟨false, rfl, ?_⟩
  simp only [isAddrB, decide_eq_true_eq] at h0
  constructor
  ·intro h; cases h
  ·intro h; exact absurd h.1 h0
def EmptyP (s : Sp) : Prop := s.f1 = 0 ∧ s.f2 = []
theorem empty_f (s : Sp) : ∃ b, root_isEmpty.f s.f0 s.f1 s.f2 = some b ∧ (b = true ↔ EmptyP s) := by
 unfold root_isEmpty.f EmptyP
 by_cases h : s.f1 = 0
 ·rw [if_pos h]
  refine ⟨_, rfl, ?_⟩
  cases s.f2 <;> simp [h]; omega
 ·rw [if_neg h]
  exact ⟨false, rfl, by simp [h]⟩
/-- Which of two addresses comes first. -/
def LessP (a b : Int) : Prop := rootI a < rootI b ∨ rootI a = rootI b ∧ a < b
theorem rootI_bd (a : Int) : 0 ≤ rootI a ∧ rootI a < 251 := by
 unfold rootI
 split
 ·rename_i h
  rw [Int.tmod_eq_emod_of_nonneg (by omega)]
  omega
 ·omega
theorem order_less {a b : Int} (ha : 0 ≤ a ∧ a ≤ 4294967295) (hb : 0 ≤ b ∧ b ≤ 4294967295) : (orderI a b < 0 ↔ LessP a b) ∧ (orderI a b > 0 ↔ LessP b a) := by
 obtain ⟨e1, h1⟩ := root_f a
 obtain ⟨e2, h2⟩ := root_f b
 have p1 := rootI_bd a
 have p2 := rootI_bd b
 unfold orderI root_order.f LessP
 rw [h1, h2]
 simp only [Option.bind_some]
 split
 ·rename_i h
  simp only [Option.getD_some]
  rw [wrap_id (by omega) (by omega)]
  omega
 ·rename_i h
  simp only [Option.getD_some]
  rw [wrap_id (by omega) (by omega)]
  omega
/-- A table that may be. -/
structure Tab (l : List Sp) : Prop where
 spot : ∀ s ∈ l, SpotP s ∧ ¬ EmptyP s
 up : (l.map (·.f0)).Pairwise LessP
 few : l.length ≤ 64
theorem less_trans {a b c : Int} (h : LessP a b) (k : LessP b c) : LessP a c := by unfold LessP at *; omega
theorem right_l0 (l : List Sp) (hl : l.length ≤ 1000) (h2 : ∀ s ∈ l, s.f2.length ≤ 1000) : ∀ (d i : Nat) (k : Nat), i + d = l.length → d < k → (∀ j s, j < i → l[j]? = some s → SpotP s ∧ ¬ EmptyP s) → ((l.take i).map (·.f0)).Pairwise LessP →
  ∃ b, root_Right.l0 k l l (l.length : Int) (i : Int) = some b ∧ (b = true ↔ Tab l) := by
 intro d
 induction d with
 | zero =>
  intro i k h1 hk hs hp
  obtain ⟨k, rfl⟩ : ∃ q, k = q + 1 := ⟨k - 1, by omega⟩
  rw [root_Right.l0, if_neg (by omega)]
  refine ⟨_, rfl, ?_⟩
  rw [List.take_of_length_le (by omega)] at hp
  have hs' : ∀ s ∈ l, SpotP s ∧ ¬ EmptyP s := fun s h => by
   obtain ⟨j, hj, rfl⟩ := List.mem_iff_getElem.1 h
   exact hs j _ (by omega) (List.getElem?_eq_getElem hj)
  constructor
  ·intro h
   exact ⟨hs', hp, by have := of_decide_eq_true h; omega⟩
  ·intro h
   exact decide_eq_true (by have := h.few; omega)
 | succ d ih =>
  intro i k h1 hk hs hp
  obtain ⟨k, rfl⟩ : ∃ q, k = q + 1 := ⟨k - 1, by omega⟩
  have hx : l[i]? = some l[i] := List.getElem?_eq_getElem (by omega)
  have hmem : l[i] ∈ l := List.getElem_mem (by omega)
  obtain ⟨sb, e1, e2⟩ := spot_f l[i] (h2 _ hmem)
  obtain ⟨eb, e3, e4⟩ := empty_f l[i]
  rw [root_Right.l0, if_pos (by omega), if_pos (by omega), if_pos (by omega), rd_sp hx, e1]
  simp only [Option.bind_some]
  cases sb with
  | false =>
   refine ⟨false, by simp, ?_⟩
   constructor
   ·intro h; cases h
   ·intro h
    have := e2.2 (h.spot _ hmem).1
    cases this
  | true =>
   rw [if_pos rfl, e3]
   simp only [Option.bind_some]
   cases eb with
   | true =>
    refine ⟨false, by simp, ?_⟩
    constructor
    ·intro h; cases h
    ·intro h
     exact absurd (e4.1 rfl) (h.spot _ hmem).2
   | false =>
    rw [if_neg (by simp)]
    have hS := e2.1 rfl
    have hE : ¬ EmptyP l[i] := fun h => by have := e4.2 h; cases this
    have hs2 : ∀ j s, j < i + 1 → l[j]? = some s → SpotP s ∧ ¬ EmptyP s := fun j s hj hjs => by
     rcases Nat.lt_or_eq_of_le (Nat.le_of_lt_succ hj) with h | h
     ·exact hs j s h hjs
     ·rw [h, hx] at hjs
      obtain rfl := Option.some.inj hjs
      exact ⟨hS, hE⟩
    rcases Nat.eq_zero_or_pos i with h0 | h0
    ·subst h0
     rw [if_neg (by simp)]
     rw [wrap_id (by omega) (by omega), show (((0 : Nat) : Int) + 1) = ((0 + 1 : Nat) : Int) by omega]
     refine ih (0 + 1) k (by omega) (by omega) hs2 ?_
     rw [List.take_add_one, hx]
     simp
    ·have hy : l[i - 1]? = some l[i - 1] := List.getElem?_eq_getElem (by omega)
     have hyS := (hs (i - 1) _ (by omega) hy).1
     rw [if_pos (by omega), wrap_id (by omega) (by omega), show (i : Int) - 1 = ((i - 1 : Nat) : Int) by omega, if_pos (by omega), if_pos (by omega), rd_sp hy, order_is]
     simp only [Option.bind_some]
     have hord := (order_less hyS.1 hS.1).1
     by_cases hlt : orderI l[i - 1].f0 l[i].f0 ≥ 0
     ·rw [if_pos hlt]
      refine ⟨false, rfl, ?_⟩
      constructor
      ·intro h; cases h
      ·intro h
       have h3 := List.pairwise_iff_getElem.1 h.up (i - 1) i (by simp; omega) (by simp; omega) (by omega)
       simp only [List.getElem_map] at h3
       have := hord.2 h3
       omega
     ·rw [if_neg hlt, wrap_id (by omega) (by omega), show (i : Int) + 1 = ((i + 1 : Nat) : Int) by omega]
      refine ih (i + 1) k (by omega) (by omega) hs2 ?_
      have hL := hord.1 (by omega)
      rw [List.take_add_one, hx, List.map_append]
      refine List.pairwise_append.2 ⟨hp, by simp, fun a ha b hb => ?_⟩
      simp at hb
      subst hb
      obtain ⟨j, hj, rfl⟩ := List.mem_iff_getElem.1 ha
      simp only [List.length_map, List.length_take] at hj
      simp only [List.getElem_map, List.getElem_take]
      rcases Nat.lt_or_eq_of_le (show j ≤ i - 1 by omega) with h | h
      ·have h3 := List.pairwise_iff_getElem.1 hp j (i - 1) (by simp; omega) (by simp; omega) h
       simp only [List.getElem_map, List.getElem_take] at h3
       exact less_trans h3 hL
      ·subst h
       exact hL
theorem right_f (l : List Sp) (hl : l.length ≤ 1000) (h2 : ∀ s ∈ l, s.f2.length ≤ 1000) (k : Nat) (hk : l.length < k) : ∃ b, root_Right.f k l = some b ∧ (b = true ↔ Tab l) :=
 right_l0 l hl h2 l.length 0 k (by omega) hk (fun j s hj => absurd hj (by omega)) (by simp)
end Go.Proofs.Ytnjnjajgpkmfhaa.PX

namespace Go.Proofs.Ytnjnjajgpkmfhaa.PX
open Go.RowKit Go.Proofs.YtnjnjajgpkmfhaaW.PrintWords Go.Proofs.YtnjnjajgpkmfhaaW.PrintLast Go.Proofs.YtnjnjajgpkmfhaaW.PrintMore
attribute [local go_sem] max2_int min2_int max_two min_two max_three min_three max_four min_four   -- for this text's walks alone
set_option linter.unusedVariables false
set_option linter.unusedSimpArgs false

/-! ### deadboltlaw09_RootSpots: function 3 -/
mutual
def deadboltlaw09_RootSpots.l0 : Nat → List (S33) → Int → Int → Option (Bool)
 | 0, _, _, _ => none
 | k + 1, x0, x5, x33 => if x33 < 251 then ((root_Under.f k x0 x33).bind fun bt157 => (if bt157.2 = 0 then (deadboltlaw09_RootSpots.l1 k x0 x5 x33 x33 bt157.1 (bt157.1.length : Int) 0) else (some false))) else ((deadboltlaw09_alive.f).bind fun t156 => (if t156 = true then (some (x5 == (x0.length : Int))) else (some false)))
def deadboltlaw09_RootSpots.l1 : Nat → List (S33) → Int → Int → Int → List Int → Int → Int → Option (Bool)
 | 0, _, _, _, _, _, _, _ => none
 | k + 1, x0, x5, x6, x33, x44, x45, x46 => if x46 < x45 then (if 0 ≤ x46 then (if x46 < (x44.length : Int) then ((root_Root.f (rd x44 x46)).bind fun bt162 => (if bt162.2 = 0 then (if bt162.1 = x6 then (if x5 ≥ (x0.length : Int) then (some false) else (if 0 ≤ x5 then (if x5 < (x0.length : Int) then (if ((rd_T33 x0 x5).f0) = (rd x44 x46) then (deadboltlaw09_RootSpots.l1 k x0 (wrap64 (x5 + 1)) x6 x33 x44 x45 (wrap64 (x46 + 1))) else (some false)) else (none)) else (none))) else (some false)) else (some false))) else (none)) else (none)) else (deadboltlaw09_RootSpots.l0 k x0 x5 (wrap64 (x33 + 1)))
end
def deadboltlaw09_RootSpots.f (k : Nat) (l0 : List (S33)) : Option (Bool) := (deadboltlaw09_few.f k l0).bind fun t147 => ((root_Right.f k t147).bind fun t150 => (if t150 = true then (deadboltlaw09_RootSpots.l0 k t147 0 0) else ((root_Under.f k t147 0).bind fun bt151 => ((deadboltlaw09_alive.f).bind fun t155 => (if t155 = true then (if bt151.2 = 1 then (some ((bt151.1.length : Int) == 0)) else (some false)) else (some false))))))
end Go.Proofs.Ytnjnjajgpkmfhaa.PX

/-
 The addresses under a root; all roots together have all spots, each once, rising.
-/
namespace Go.Proofs.Ytnjnjajgpkmfhaa.PX
open Go.RowKit Go.Proofs.YtnjnjajgpkmfhaaW.PrintWords Go.Proofs.YtnjnjajgpkmfhaaW.PrintLast Go.Proofs.YtnjnjajgpkmfhaaW.PrintMore
/-- What has root n. -/
def isAt (n : Int) (s : Sp) : Bool := decide (rootI s.f0 = n)
theorem at_up {l : List Sp} (h : Tab l) (n : Int) : ((l.filter (isAt n)).map (·.f0)).Pairwise (· < ·) := by
 rw [List.pairwise_map]
 have h1 := List.pairwise_map.1 h.up
 have h2 : (l.filter (isAt n)).Pairwise (fun a b => LessP a.f0 b.f0) := h1.sublist List.filter_sublist
 refine h2.imp_of_mem fun {a b} ha hb hl => ?_
 have ea := (List.mem_filter.1 ha).2
 have eb := (List.mem_filter.1 hb).2
 simp only [isAt, decide_eq_true_eq] at ea eb
 unfold LessP at hl
 omega
theorem map_nd (ns : List Treap.Nd) : (ns.map ofNd).map toNd = ns := by
 rw [List.map_map]
 conv => rhs; rw [← List.map_id ns]
 exact List.map_congr_left fun _ _ => rfl
def uptoR (n : Int) (s : Sp) : Bool := decide (rootI s.f0 < n)
end Go.Proofs.Ytnjnjajgpkmfhaa.PX

namespace Go.Proofs.Ytnjnjajgpkmfhaa.PX
open Go.RowKit Go.Proofs.YtnjnjajgpkmfhaaW.PrintWords Go.Proofs.YtnjnjajgpkmfhaaW.PrintLast Go.Proofs.YtnjnjajgpkmfhaaW.PrintMore
attribute [local go_sem] max2_int min2_int max_two min_two max_three min_three max_four min_four   -- for this text's walks alone
set_option linter.unusedVariables false
set_option linter.unusedSimpArgs false

/-! ### deadboltref09_Get: function 22 -/
def deadboltref09_Get.l0 : Nat → Int → List (S33) → Int → Int → Option (Int × Int × List Int)
 | 0, _, _, _, _ => none
 | k + 1, x1, x7, x8, x9 => if x9 < x8 then (if 0 ≤ x9 then (if x9 < (x7.length : Int) then (if ((rd_T33 x7 x9).f0) = x1 then (some ((rd_T33 x7 x9).f0, (rd_T33 x7 x9).f1, (rd_T33 x7 x9).f2)) else (deadboltref09_Get.l0 k x1 x7 x8 (wrap64 (x9 + 1)))) else (none)) else (none)) else (some (x1, 0, ([] : List Int)))
def deadboltref09_Get.f (k : Nat) (l0 : List (S33)) (a1 : Int) : Option (Int × Int × List Int) := deadboltref09_Get.l0 k a1 l0 (l0.length : Int) 0
end Go.Proofs.Ytnjnjajgpkmfhaa.PX

namespace Go.Proofs.Ytnjnjajgpkmfhaa.PX
open Go.RowKit Go.Proofs.YtnjnjajgpkmfhaaW.PrintWords Go.Proofs.YtnjnjajgpkmfhaaW.PrintLast Go.Proofs.YtnjnjajgpkmfhaaW.PrintMore
attribute [local go_sem] max2_int min2_int max_two min_two max_three min_three max_four min_four   -- for this text's walks alone
set_option linter.unusedVariables false
set_option linter.unusedSimpArgs false

/-! ### deadboltref09_Root: function 20 -/
def deadboltref09_Root.f (a0 : Int) : Option (Int) := some (Int.tmod (wrap64 (Int.tdiv a0 8)) 251)
end Go.Proofs.Ytnjnjajgpkmfhaa.PX

namespace Go.Proofs.Ytnjnjajgpkmfhaa.PX
open Go.RowKit Go.Proofs.YtnjnjajgpkmfhaaW.PrintWords Go.Proofs.YtnjnjajgpkmfhaaW.PrintLast Go.Proofs.YtnjnjajgpkmfhaaW.PrintMore
attribute [local go_sem] max2_int min2_int max_two min_two max_three min_three max_four min_four   -- for this text's walks alone
set_option linter.unusedVariables false
set_option linter.unusedSimpArgs false

/-! ### deadboltref09_Under: function 24 -/
def deadboltref09_Under.l0 : Nat → Int → List Int → List (S33) → Int → Int → Option (List Int)
 | 0, _, _, _, _, _ => none
 | k + 1, x1, x5, x9, x10, x11 => if x11 < x10 then (if 0 ≤ x11 then (if x11 < (x9.length : Int) then ((deadboltref09_Root.f ((rd_T33 x9 x11).f0)).bind fun t196 => (if t196 = x1 then (if x5.length < 17592186044416 then (deadboltref09_Under.l0 k x1 (x5 ++ [(rd_T33 x9 x11).f0]) x9 x10 (wrap64 (x11 + 1))) else (none)) else (deadboltref09_Under.l0 k x1 x5 x9 x10 (wrap64 (x11 + 1))))) else (none)) else (none)) else (some x5)
def deadboltref09_Under.f (k : Nat) (l0 : List (S33)) (a1 : Int) : Option (List Int) := deadboltref09_Under.l0 k a1 (([] : List Int)) l0 (l0.length : Int) 0
end Go.Proofs.Ytnjnjajgpkmfhaa.PX

namespace Go.Proofs.Ytnjnjajgpkmfhaa.PX
open Go.RowKit Go.Proofs.YtnjnjajgpkmfhaaW.PrintWords Go.Proofs.YtnjnjajgpkmfhaaW.PrintLast Go.Proofs.YtnjnjajgpkmfhaaW.PrintMore
attribute [local go_sem] max2_int min2_int max_two min_two max_three min_three max_four min_four   -- for this text's walks alone
set_option linter.unusedVariables false
set_option linter.unusedSimpArgs false

/-! ### deadboltref09_Empty: function 29 -/
def deadboltref09_Empty.f (a0_0 : Int) (a0_1 : Int) (l0_2 : List Int) : Option (Bool) := if a0_1 = 0 then (some ((l0_2.length : Int) == 0)) else (some false)
end Go.Proofs.Ytnjnjajgpkmfhaa.PX

namespace Go.Proofs.Ytnjnjajgpkmfhaa.PX
open Go.RowKit Go.Proofs.YtnjnjajgpkmfhaaW.PrintWords Go.Proofs.YtnjnjajgpkmfhaaW.PrintLast Go.Proofs.YtnjnjajgpkmfhaaW.PrintMore
attribute [local go_sem] max2_int min2_int max_two min_two max_three min_three max_four min_four   -- for this text's walks alone
set_option linter.unusedVariables false
set_option linter.unusedSimpArgs false

/-! ### deadboltref09_less: function 54 -/
def deadboltref09_less.f (a0 : Int) (a1 : Int) : Option (Bool) := (deadboltref09_Root.f a0).bind fun t173 => ((deadboltref09_Root.f a1).bind fun t174 => (if t173 < t174 then (some true) else ((deadboltref09_Root.f a0).bind fun t175 => ((deadboltref09_Root.f a1).bind fun t176 => (if t175 = t176 then (some (decide (a0 < a1))) else (some false))))))
end Go.Proofs.Ytnjnjajgpkmfhaa.PX

namespace Go.Proofs.Ytnjnjajgpkmfhaa.PX
open Go.RowKit Go.Proofs.YtnjnjajgpkmfhaaW.PrintWords Go.Proofs.YtnjnjajgpkmfhaaW.PrintLast Go.Proofs.YtnjnjajgpkmfhaaW.PrintMore
attribute [local go_sem] max2_int min2_int max_two min_two max_three min_three max_four min_four   -- for this text's walks alone
set_option linter.unusedVariables false
set_option linter.unusedSimpArgs false

/-! ### deadboltref09_Set: function 26 -/
def deadboltref09_Set.l0 : Nat → List (S33) → Bool → List (S33) → Int → Int → Int → Int → List Int → Option ((List (S33)))
 | 0, _, _, _, _, _, _, _, _ => none
 | k + 1, x5, x6, x12, x13, x14, x201000, x201001, x201002 => if x14 < x13 then (if 0 ≤ x14 then (if x14 < (x12.length : Int) then (if ((rd_T33 x12 x14).f0) = x201000 then (deadboltref09_Set.l0 k x5 x6 x12 x13 (wrap64 (x14 + 1)) x201000 x201001 x201002) else (if x6 = true then (if x5.length < 3518437208883 then (deadboltref09_Set.l0 k (x5 ++ [(⟨(rd_T33 x12 x14).f0, (rd_T33 x12 x14).f1, (rd_T33 x12 x14).f2⟩ : S33)]) x6 x12 x13 (wrap64 (x14 + 1)) x201000 x201001 x201002) else (none)) else ((deadboltref09_less.f x201000 ((rd_T33 x12 x14).f0)).bind fun t213 => (if t213 = true then (if x5.length < 3518437208883 then ((some (x5 ++ [(⟨x201000, x201001, x201002⟩ : S33)] : List (S33))).bind fun y214 => (if y214.length < 3518437208883 then (deadboltref09_Set.l0 k (y214 ++ [(⟨(rd_T33 x12 x14).f0, (rd_T33 x12 x14).f1, (rd_T33 x12 x14).f2⟩ : S33)]) true x12 x13 (wrap64 (x14 + 1)) x201000 x201001 x201002) else (none))) else (none)) else (if x5.length < 3518437208883 then (deadboltref09_Set.l0 k (x5 ++ [(⟨(rd_T33 x12 x14).f0, (rd_T33 x12 x14).f1, (rd_T33 x12 x14).f2⟩ : S33)]) x6 x12 x13 (wrap64 (x14 + 1)) x201000 x201001 x201002) else (none)))))) else (none)) else (none)) else (if x6 = true then (some x5) else (if x5.length < 3518437208883 then (some (x5 ++ [(⟨x201000, x201001, x201002⟩ : S33)])) else (none)))
def deadboltref09_Set.f (k : Nat) (l0 : List (S33)) (a1_0 : Int) (a1_1 : Int) (l1_2 : List Int) : Option ((List (S33))) := (deadboltref09_Empty.f a1_0 a1_1 l1_2).bind fun t204 => (deadboltref09_Set.l0 k (([] : List (S33))) t204 l0 (l0.length : Int) 0 a1_0 a1_1 l1_2)
end Go.Proofs.Ytnjnjajgpkmfhaa.PX

namespace Go.Proofs.Ytnjnjajgpkmfhaa.PX
open Go.RowKit Go.Proofs.YtnjnjajgpkmfhaaW.PrintWords Go.Proofs.YtnjnjajgpkmfhaaW.PrintLast Go.Proofs.YtnjnjajgpkmfhaaW.PrintMore
attribute [local go_sem] max2_int min2_int max_two min_two max_three min_three max_four min_four   -- for this text's walks alone
set_option linter.unusedVariables false
set_option linter.unusedSimpArgs false

/-! ### deadboltref07_Same: function 23 -/
def deadboltref07_Same.l0 : Nat → List Int → List Int → Int → Int → Option (Bool)
 | 0, _, _, _, _ => none
 | k + 1, x0, x1, x12, x13 => if x13 < x12 then (if 0 ≤ x13 then (if x13 < (x0.length : Int) then (if x13 < (x1.length : Int) then (if (rd x0 x13) = (rd x1 x13) then (deadboltref07_Same.l0 k x0 x1 x12 (wrap64 (x13 + 1))) else (some false)) else (none)) else (none)) else (none)) else (some true)
def deadboltref07_Same.f (k : Nat) (l0 : List Int) (l1 : List Int) : Option (Bool) := if (l0.length : Int) = (l1.length : Int) then (deadboltref07_Same.l0 k l0 l1 (l0.length : Int) 0) else (some false)
end Go.Proofs.Ytnjnjajgpkmfhaa.PX

namespace Go.Proofs.Ytnjnjajgpkmfhaa.PX
open Go.RowKit Go.Proofs.YtnjnjajgpkmfhaaW.PrintWords Go.Proofs.YtnjnjajgpkmfhaaW.PrintLast Go.Proofs.YtnjnjajgpkmfhaaW.PrintMore
attribute [local go_sem] max2_int min2_int max_two min_two max_three min_three max_four min_four   -- for this text's walks alone
set_option linter.unusedVariables false
set_option linter.unusedSimpArgs false

/-! ### deadboltref09_Spots: function 21 -/
def deadboltref09_Spots.f (k : Nat) (a0_0 : Int) (a0_1 : Int) (l0_2 : List Int) (a1_0 : Int) (a1_1 : Int) (l1_2 : List Int) : Option (Bool) := if a0_0 = a1_0 then (if a0_1 = a1_1 then ((deadboltref07_Same.f k l0_2 l1_2).bind fun t187 => (some t187)) else (some false)) else (some false)
end Go.Proofs.Ytnjnjajgpkmfhaa.PX

namespace Go.Proofs.Ytnjnjajgpkmfhaa.PX
open Go.RowKit Go.Proofs.YtnjnjajgpkmfhaaW.PrintWords Go.Proofs.YtnjnjajgpkmfhaaW.PrintLast Go.Proofs.YtnjnjajgpkmfhaaW.PrintMore
attribute [local go_sem] max2_int min2_int max_two min_two max_three min_three max_four min_four   -- for this text's walks alone
set_option linter.unusedVariables false
set_option linter.unusedSimpArgs false

/-! ### deadboltref09_Same: function 27 -/
def deadboltref09_Same.l0 : Nat → List (S33) → List (S33) → Int → Int → Option (Bool)
 | 0, _, _, _, _ => none
 | k + 1, x0, x1, x12, x13 => if x13 < x12 then (if 0 ≤ x13 then (if x13 < (x0.length : Int) then (if x13 < (x1.length : Int) then ((deadboltref09_Spots.f k ((rd_T33 x0 x13).f0) ((rd_T33 x0 x13).f1) ((rd_T33 x0 x13).f2) ((rd_T33 x1 x13).f0) ((rd_T33 x1 x13).f1) ((rd_T33 x1 x13).f2)).bind fun t225 => (if t225 = true then (deadboltref09_Same.l0 k x0 x1 x12 (wrap64 (x13 + 1))) else (some false))) else (none)) else (none)) else (none)) else (some true)
def deadboltref09_Same.f (k : Nat) (l0 : List (S33)) (l1 : List (S33)) : Option (Bool) := if (l0.length : Int) = (l1.length : Int) then (deadboltref09_Same.l0 k l0 l1 (l0.length : Int) 0) else (some false)
def deadboltref09_Same.T6 : Bool × List (List Nat × List Nat) := (true, [([], []), ([], []), ([0, 1], [0, 1]), ([2], [2]), ([], []), ([], []), ([4, 5], [4, 5]), ([6], [6]), ([3, 7], [3, 7]), ([8], [8])])
def deadboltref09_Same.B6 : List Nat := [0, 0, 3, 7, 0, 0, 48, 112, 255, 511]
end Go.Proofs.Ytnjnjajgpkmfhaa.PX

namespace Go.Proofs.Ytnjnjajgpkmfhaa.PX
open Go.RowKit Go.Proofs.YtnjnjajgpkmfhaaW.PrintWords Go.Proofs.YtnjnjajgpkmfhaaW.PrintLast Go.Proofs.YtnjnjajgpkmfhaaW.PrintMore
attribute [local go_sem] max2_int min2_int max_two min_two max_three min_three max_four min_four   -- for this text's walks alone
set_option linter.unusedVariables false
set_option linter.unusedSimpArgs false

/-! ### deadboltref08_Key: function 19 -/
def deadboltref08_Key.f (a0 : Int) : Option (Bool) := if a0 ≥ 0 then (some (decide (a0 ≤ 4294967295))) else (some false)
end Go.Proofs.Ytnjnjajgpkmfhaa.PX

namespace Go.Proofs.Ytnjnjajgpkmfhaa.PX
open Go.RowKit Go.Proofs.YtnjnjajgpkmfhaaW.PrintWords Go.Proofs.YtnjnjajgpkmfhaaW.PrintLast Go.Proofs.YtnjnjajgpkmfhaaW.PrintMore
attribute [local go_sem] max2_int min2_int max_two min_two max_three min_three max_four min_four   -- for this text's walks alone
set_option linter.unusedVariables false
set_option linter.unusedSimpArgs false

/-! ### deadboltref07_Place: function 28 -/
def deadboltref07_Place.l0 : Nat → Int → List Int → Int → Int → Option (Int)
 | 0, _, _, _, _ => none
 | k + 1, x1, x7, x8, x9 => if x9 < x8 then (if 0 ≤ x9 then (if x9 < (x7.length : Int) then (if (rd x7 x9) = x1 then (some x9) else (deadboltref07_Place.l0 k x1 x7 x8 (wrap64 (x9 + 1)))) else (none)) else (none)) else (some (-1))
def deadboltref07_Place.f (k : Nat) (l0 : List Int) (a1 : Int) : Option (Int) := deadboltref07_Place.l0 k a1 l0 (l0.length : Int) 0
set_option maxHeartbeats 8000000 in
set_option maxRecDepth 100000 in
theorem deadboltref07_Place.calls (k : Nat) (A0 : Option Addr) (c0 : Nat) (l0 : List Int) (a1 : Int) (r : Int) (w : World) (hr0 : Kd.C (Kd.int .i64) w A0 l0.length l0) (hc0 : l0.length ≤ c0) (h : deadboltref07_Place.f k l0 a1 = some r) :
  Calls Try.prog 28 #[.slice A0 l0.length c0, .int .i64 a1] w fun e w' => e = .returned (.int .i64 r) ∧ Drawn0 w w' := by
 have HR0 := Aside0.mk hr0
 have HC0 := Aside0.mk hc0
 clear hr0 hc0
 have H : (deadboltref07_Place.l0 k a1 l0 (l0.length : Int) 0) = some r := h
 clear h
 have H' := Aside0.mk H
 clear H
 go_enter Try.func28, Try.ntmps28
 go_wp2
 go_loopg [9] k (fun kq v9 w' => ∃ (x9_1 : Int), v9 = .int .i64 x9_1 ∧ Aside0 (deadboltref07_Place.l0 kq a1 l0 (l0.length : Int) x9_1 = some r) ∧ Aside0 (kq ≤ k) ∧ Drawn0 w w')
 case atStart => exact ⟨(0), (by first | rfl | (simp; done) | (simp [*]; done)), H', ⟨Nat.le_refl _⟩, by repeat (first | exact Drawn0.refl _ | apply Drawn0.step)⟩
 case round =>
  clear H'
  try clear c2
  try clear p2
  obtain ⟨x9_1, rfl, HA, HK1, ⟨m1, rfl⟩⟩ := hrel
  cases gk with
  | zero => exact absurd HA.out (by simp [deadboltref07_Place.l0])
  | succ k1 =>
   have H := HA.out
   clear HA
   simp only [deadboltref07_Place.l0] at H
   by_cases c3 : x9_1 < (l0.length : Int)
   ·rw [if_pos c3] at H
    have c3b0 : decide (x9_1 < (l0.length : Int)) = true := decide_eq_true c3
    clear c3
    by_cases c4 : 0 ≤ x9_1
    ·rw [if_pos c4] at H
     have c4b0 : decide (0 ≤ x9_1) = true := decide_eq_true c4
     clear c4
     by_cases c5 : x9_1 < (l0.length : Int)
     ·rw [if_pos c5] at H
      have c5b0 : decide (x9_1 < (l0.length : Int)) = true := decide_eq_true c5
      clear c5
      by_cases c6 : (rd l0 x9_1) = a1
      ·rw [if_pos c6] at H
       have c6b0 : ((rd l0 x9_1) == a1) = true := beq_iff_eq.mpr c6
       have c6b1 : ((rd l0 x9_1) != a1) = false := bne_eq_false_iff_eq.mpr c6
       clear c6
       obtain rfl := Option.some.inj H
       have p165 : 0 ≤ (x9_1 : Int) := of_decide_eq_true (by first | (with_reducible assumption) | assumption)
       have q165 : x9_1 < (l0.length : Int) := of_decide_eq_true (by first | (with_reducible assumption) | assumption)
       obtain ⟨ad165, e165, hx165_0⟩ := Kd.at_int HR0.out x9_1 p165 q165
       cases e165
       replace p165 := eq_true p165
       replace q165 := eq_true q165
       go_wp2
       go_ret
       exact ⟨by first | rfl | (simp; done) | (simp [*]; done), by repeat (first | exact Drawn0.refl _ | apply Drawn0.step)⟩
      ·rw [if_neg c6] at H
       have c6b0 : ((rd l0 x9_1) == a1) = false := beq_eq_false_iff_ne.mpr c6
       have c6b1 : ((rd l0 x9_1) != a1) = true := bne_iff_ne.mpr c6
       have H' := Aside0.mk H
       clear H
       have p165 : 0 ≤ (x9_1 : Int) := of_decide_eq_true (by first | (with_reducible assumption) | assumption)
       have q165 : x9_1 < (l0.length : Int) := of_decide_eq_true (by first | (with_reducible assumption) | assumption)
       obtain ⟨ad165, e165, hx165_0⟩ := Kd.at_int HR0.out x9_1 p165 q165
       cases e165
       replace p165 := eq_true p165
       replace q165 := eq_true q165
       go_wp2
       go_roundg k1
       case measure => have := HK1.out; omega
       case rel => exact ⟨(wrap64 (x9_1 + 1)), (by first | rfl | (simp; done) | (simp [*]; done)), H', ⟨by have := HK1.out; omega⟩, by repeat (first | exact Drawn0.refl _ | apply Drawn0.step)⟩
     ·rw [if_neg c5] at H
      exact absurd H (by simp)
    ·rw [if_neg c4] at H
     exact absurd H (by simp)
   ·rw [if_neg c3] at H
    have c3b0 : decide (x9_1 < (l0.length : Int)) = false := decide_eq_false c3
    clear c3
    obtain rfl := Option.some.inj H
    go_wp2
    go_ret
    exact ⟨by first | rfl | (simp; done) | (simp [*]; done), by repeat (first | exact Drawn0.refl _ | apply Drawn0.step)⟩

end Go.Proofs.Ytnjnjajgpkmfhaa.PX

namespace Go.Proofs.Ytnjnjajgpkmfhaa.PX
open Go.RowKit Go.Proofs.YtnjnjajgpkmfhaaW.PrintWords Go.Proofs.YtnjnjajgpkmfhaaW.PrintLast Go.Proofs.YtnjnjajgpkmfhaaW.PrintMore
attribute [local go_sem] max2_int min2_int max_two min_two max_three min_three max_four min_four   -- for this text's walks alone
set_option linter.unusedVariables false
set_option linter.unusedSimpArgs false

/-! ### deadboltref07_Right: function 55 -/
def deadboltref07_Right.l0 : Nat → List Int → List Int → Int → Int → Option (Bool)
 | 0, _, _, _, _ => none
 | k + 1, x0, x5, x6, x7 => if x7 < x6 then (if 0 ≤ x7 then (if x7 < (x5.length : Int) then (if (rd x5 x7) < 0 then (some false) else (if x7 ≤ (x0.length : Int) then ((deadboltref07_Place.f k (x0.take (x7 : Int).toNat) (rd x5 x7)).bind fun t168 => (if t168 ≥ 0 then (some false) else (deadboltref07_Right.l0 k x0 x5 x6 (wrap64 (x7 + 1))))) else (none))) else (none)) else (none)) else (some (decide ((x0.length : Int) ≤ 64)))
def deadboltref07_Right.f (k : Nat) (l0 : List Int) : Option (Bool) := deadboltref07_Right.l0 k l0 l0 (l0.length : Int) 0
end Go.Proofs.Ytnjnjajgpkmfhaa.PX

namespace Go.Proofs.Ytnjnjajgpkmfhaa.PX
open Go.RowKit Go.Proofs.YtnjnjajgpkmfhaaW.PrintWords Go.Proofs.YtnjnjajgpkmfhaaW.PrintLast Go.Proofs.YtnjnjajgpkmfhaaW.PrintMore
attribute [local go_sem] max2_int min2_int max_two min_two max_three min_three max_four min_four   -- for this text's walks alone
set_option linter.unusedVariables false
set_option linter.unusedSimpArgs false

/-! ### deadboltref09_Spot: function 25 -/
def deadboltref09_Spot.f (k : Nat) (a0_0 : Int) (a0_1 : Int) (l0_2 : List Int) : Option (Bool) := (deadboltref08_Key.f a0_0).bind fun t170 => (if t170 = true then (if a0_1 ≥ 0 then (if a0_1 ≤ 2147483647 then ((deadboltref07_Right.f k l0_2).bind fun t171 => (if t171 = true then (if a0_1 = 0 then (some true) else (some ((l0_2.length : Int) == 0))) else (some false))) else (some false)) else (some false)) else (some false))
end Go.Proofs.Ytnjnjajgpkmfhaa.PX

namespace Go.Proofs.Ytnjnjajgpkmfhaa.PX
open Go.RowKit Go.Proofs.YtnjnjajgpkmfhaaW.PrintWords Go.Proofs.YtnjnjajgpkmfhaaW.PrintLast Go.Proofs.YtnjnjajgpkmfhaaW.PrintMore
attribute [local go_sem] max2_int min2_int max_two min_two max_three min_three max_four min_four   -- for this text's walks alone
set_option linter.unusedVariables false
set_option linter.unusedSimpArgs false

/-! ### deadboltref09_Right: function 18 -/
def deadboltref09_Right.l0 : Nat → List (S33) → List (S33) → Int → Int → Option (Bool)
 | 0, _, _, _, _ => none
 | k + 1, x0, x5, x6, x7 => if x7 < x6 then (if 0 ≤ x7 then (if x7 < (x5.length : Int) then ((deadboltref09_Spot.f k ((rd_T33 x5 x7).f0) ((rd_T33 x5 x7).f1) ((rd_T33 x5 x7).f2)).bind fun t179 => (if t179 = true then ((deadboltref09_Empty.f ((rd_T33 x5 x7).f0) ((rd_T33 x5 x7).f1) ((rd_T33 x5 x7).f2)).bind fun t180 => (if t180 = true then (some false) else (if x7 > 0 then (if 0 ≤ (wrap64 (x7 - 1)) then (if (wrap64 (x7 - 1)) < (x0.length : Int) then ((deadboltref09_less.f ((rd_T33 x0 (wrap64 (x7 - 1))).f0) ((rd_T33 x5 x7).f0)).bind fun t182 => (if t182 = true then (deadboltref09_Right.l0 k x0 x5 x6 (wrap64 (x7 + 1))) else (some false))) else (none)) else (none)) else (deadboltref09_Right.l0 k x0 x5 x6 (wrap64 (x7 + 1)))))) else (some false))) else (none)) else (none)) else (some (decide ((x0.length : Int) ≤ 64)))
def deadboltref09_Right.f (k : Nat) (l0 : List (S33)) : Option (Bool) := deadboltref09_Right.l0 k l0 l0 (l0.length : Int) 0
def deadboltref09_Right.T4 : Bool × List (List Nat × List Nat) := (true, [([], []), ([0], [0]), ([1], [1]), ([2, 1], [2]), ([3], [3]), ([4, 3, 3], [3, 4]), ([3, 5], [3, 5]), ([6, 5], [6]), ([7], [7]), ([8, 7], [7, 8]), ([9, 7, 7], [7, 9]), ([10], [10]), ([10], [10]), ([12, 10], [10, 12]), ([11, 13, 10], [10, 11, 13]), ([14, 10], [10, 14]), ([15, 10], [10, 15]), ([10], [10]), ([17, 10], [10, 17]), ([16, 18, 10, 10], [10, 16, 18]), ([19, 10], [10, 19]), ([10, 20, 7], [7, 10, 20]), ([7, 21], [7, 21])])
def deadboltref09_Right.B4 : List Nat := [0, 1, 3, 7, 15, 31, 63, 127, 255, 511, 1023, 2047, 2047, 6143, 16383, 32767, 65535, 2047, 133119, 524287, 1048575, 2097151, 4194303]
end Go.Proofs.Ytnjnjajgpkmfhaa.PX

/-
 The document's tables, told of the printed functions.
-/
namespace Go.Proofs.Ytnjnjajgpkmfhaa.PX
open Go.RowKit Go.Proofs.YtnjnjajgpkmfhaaW.PrintWords Go.Proofs.YtnjnjajgpkmfhaaW.PrintLast Go.Proofs.YtnjnjajgpkmfhaaW.PrintMore
theorem rd_at {l : List Int} {i : Nat} {x : Int} (h : l[i]? = some x) : rd l (i : Int) = x := by
 unfold rd
 rw [Int.toNat_natCast, List.getD_eq_getElem?_getD, h]
 rfl
theorem next_i {i : Nat} (h : i ≤ 100000) : wrap64 ((i : Int) + 1) = ((i + 1 : Nat) : Int) := by rw [wrap_id (by omega) (by omega)]; omega
/-- The first place of a number, or -1. -/
def placeI (l : List Int) (a : Int) : Int := if a ∈ l then (l.idxOf a : Int) else -1
theorem placeI_mem (l : List Int) (a : Int) : placeI l a ≥ 0 ↔ a ∈ l := by
 unfold placeI
 split
 ·rename_i h; simp [h]
 ·rename_i h; simp [h]
theorem place_l0 (l : List Int) (a : Int) (hl : l.length ≤ 1000) : ∀ (d i k : Nat), i + d = l.length → d < k → (∀ j, j < i → l[j]? ≠ some a) → deadboltref07_Place.l0 k a l (l.length : Int) (i : Int) = some (placeI l a) := by
 intro d
 induction d with
 | zero =>
  intro i k h1 hk h
  obtain ⟨k, rfl⟩ : ∃ q, k = q + 1 := ⟨k - 1, by omega⟩
  rw [deadboltref07_Place.l0, if_neg (by omega), placeI, if_neg]
  intro hm
  obtain ⟨j, hj, rfl⟩ := List.mem_iff_getElem.1 hm
  exact h j (by omega) (List.getElem?_eq_getElem hj)
 | succ d ih =>
  intro i k h1 hk h
  obtain ⟨k, rfl⟩ : ∃ q, k = q + 1 := ⟨k - 1, by omega⟩
  have hx : l[i]? = some l[i] := List.getElem?_eq_getElem (by omega)
  rw [deadboltref07_Place.l0, if_pos (by omega), if_pos (by omega), if_pos (by omega), rd_at hx]
  by_cases he : l[i] = a
  ·rw [if_pos he, placeI, if_pos (by rw [← he]; exact List.getElem_mem _)]
   have h2 : l.idxOf a = i := by
    have hi : i < l.length := by omega
    refine Nat.le_antisymm (Nat.le_of_not_lt fun hlt => ?_) (Nat.le_of_not_lt fun hlt => ?_)
    ·have := List.not_of_lt_findIdx (p := (· == a)) (xs := l) (i := i) hlt
     simp [he] at this
    ·have hlt' : l.idxOf a < l.length := by omega
     have := List.getElem_idxOf hlt'
     exact h _ hlt (by rw [List.getElem?_eq_getElem hlt', this])
   rw [h2]
  ·rw [if_neg he, next_i (by omega)]
   refine ih (i + 1) k (by omega) (by omega) fun j hj => ?_
   rcases Nat.lt_or_eq_of_le (Nat.le_of_lt_succ hj) with h' | h'
   ·exact h j h'
   ·rw [h', hx]
    exact fun e => he (Option.some.inj e)
theorem place_f {l : List Int} (a : Int) (hl : l.length ≤ 1000) {k : Nat} (hk : l.length < k) : deadboltref07_Place.f k l a = some (placeI l a) := place_l0 l a hl l.length 0 k (by omega) hk (fun j hj => absurd hj (by omega))
/-- A table's spot of an address. -/
def getT (l : List Sp) (a : Int) : Sp := (l.find? (fun s => s.f0 == a)).getD ⟨a, 0, []⟩
theorem putS_nil (s : Sp) : putS [] s = [s] := rfl
theorem putS_cons (x : Sp) (l : List Sp) (s : Sp) : putS (x :: l) s = if orderI x.f0 s.f0 > 0 then s :: x :: l else x :: putS l s := by
 unfold putS
 rw [List.findIdx_cons]
 by_cases h : orderI x.f0 s.f0 > 0
 ·simp [h]
 ·simp [h]
/-- What setting a spot makes of a table. -/
noncomputable def setT (l : List Sp) (s : Sp) : List Sp := open Classical in if EmptyP s then offS l s.f0 else putS (offS l s.f0) s
theorem offS_cons (x : Sp) (l : List Sp) (a : Int) : offS (x :: l) a = if x.f0 = a then offS l a else x :: offS l a := by
 unfold offS
 by_cases h : x.f0 = a
 ·rw [if_pos h, List.filter_cons_of_neg (by simp [h])]
 ·rw [if_neg h, List.filter_cons_of_pos (by simp [h])]
end Go.Proofs.Ytnjnjajgpkmfhaa.PX

/-
 What the program gets of a table, and what setting a spot makes of it.
-/
namespace Go.Proofs.Ytnjnjajgpkmfhaa.PX
open Go.RowKit Go.Proofs.YtnjnjajgpkmfhaaW.PrintWords Go.Proofs.YtnjnjajgpkmfhaaW.PrintLast Go.Proofs.YtnjnjajgpkmfhaaW.PrintMore
theorem Tab.lens {l : List Sp} (h : Tab l) : ∀ s ∈ l, s.f2.length ≤ 1000 := fun s hs => by
 have := ((lineB_iff _).1 (h.spot s hs).1.2.2.1).2.2
 omega
theorem Tab.addr {l : List Sp} (h : Tab l) : ∀ s ∈ l, 0 ≤ s.f0 ∧ s.f0 ≤ 4294967295 := fun s hs => (h.spot s hs).1.1
theorem addr_iff (a : Int) : isAddrB a = true ↔ 0 ≤ a ∧ a ≤ 4294967295 := by simp [isAddrB]
theorem right_yes {l : List Sp} (h : Tab l) {k : Nat} (hk : 100 ≤ k) : root_Right.f k l = some true := by
 have hf := h.few
 obtain ⟨b, e1, e2⟩ := right_f l (by omega) h.lens k (by omega)
 rw [e1, e2.2 h]
theorem getT_in {l : List Sp} {a : Int} (h : a ∈ l.map (·.f0)) : l.find? (fun s => s.f0 == a) = some (getT l a) ∧ (getT l a).f0 = a ∧ getT l a ∈ l := by
 obtain ⟨s, hs, rfl⟩ := List.mem_map.1 h
 cases hf : l.find? (fun t => t.f0 == s.f0) with
 | none =>
  have := List.find?_eq_none.1 hf s hs
  simp at this
 | some t =>
  have h1 := List.find?_some hf
  have h2 := List.mem_of_find?_eq_some hf
  have e : getT l s.f0 = t := by rw [getT, hf]; rfl
  rw [e]
  exact ⟨rfl, by simpa using h1, h2⟩
theorem getT_out {l : List Sp} {a : Int} (h : a ∉ l.map (·.f0)) : getT l a = ⟨a, 0, []⟩ := by
 unfold getT
 rw [List.find?_eq_none.2 fun s hs he => h (List.mem_map.2 ⟨s, hs, by simpa using he⟩)]
 rfl
theorem get_f {l : List Sp} (h : Tab l) {a : Int} (ha : 0 ≤ a ∧ a ≤ 4294967295) : root_Get.f l a = some ((getT l a).f0, (getT l a).f1, (getT l a).f2, 0) := by
 have hf := h.few
 unfold root_Get.f
 rw [if_pos (by omega), right_yes h (by omega)]
 simp only [Option.bind_some]
 rw [if_neg (by simp [(addr_iff a).2 ha])]
 unfold root_tree.f
 rw [if_pos (by omega)]
 simp only [Option.bind_some]
 have hlen : ((l.filter (isAt (rootI a))).map (·.f0)).length ≤ 64 := by
  have := List.length_filter_le (isAt (rootI a)) l
  rw [List.length_map]
  omega
 obtain ⟨g1, t, hg, ht⟩ := treeOf_good ((l.filter (isAt (rootI a))).map (·.f0)) hlen (fun x hx => by
  obtain ⟨s, hs, rfl⟩ := List.mem_map.1 hx
  have := h.addr s (List.mem_filter.1 hs).1
  simpa [Treap.isKey] using this) (at_up h _)
 have hE : (fun s : Sp => decide (rootI s.f0 = rootI a)) = isAt (rootI a) := rfl
 rw [hE]
 have hin : a ∈ (l.filter (isAt (rootI a))).map (·.f0) ↔ a ∈ l.map (·.f0) := by
  constructor
  ·intro hx
   obtain ⟨s, hs, e⟩ := List.mem_map.1 hx
   exact List.mem_map.2 ⟨s, (List.mem_filter.1 hs).1, e⟩
  ·intro hx
   obtain ⟨s, hs, e⟩ := List.mem_map.1 hx
   exact List.mem_map.2 ⟨s, List.mem_filter.2 ⟨hs, by simp only [isAt, decide_eq_true_eq]; rw [e]⟩, e⟩
 generalize (l.filter (isAt (rootI a))).map (·.f0) = ks at *
 generalize treeOf ks = T at g1 hg ht ⊢
 have hkey : Treap.isKey a = true := by simpa [Treap.isKey] using ha
 have hfd := Treap.find_good (key := a) hg (by omega) hkey
 unfold treap_Find.f
 rw [map_nd, if_pos (by rw [List.length_map]; omega)]
 rw [ht] at hfd
 rw [hfd]
 by_cases hm : a ∈ ks
 ·rw [if_pos hm]
  have := getT_in (hin.1 hm)
  rw [Option.bind_some, if_pos rfl, getR, this.1]
 ·rw [if_neg hm]
  have := getT_out (fun hx => hm (hin.2 hx))
  rw [this]
  simp
theorem offS_len (l : List Sp) (a : Int) : (offS l a).length ≤ l.length := List.length_filter_le _ _
theorem putS_len (l : List Sp) (s : Sp) : (putS l s).length = l.length + 1 := by
 unfold putS
 rw [List.length_append, List.length_cons, List.length_take, List.length_drop]
 omega
theorem set_f {l : List Sp} (h : Tab l) {s : Sp} (hs : SpotP s) : root_Set.f l s.f0 s.f1 s.f2 = some (if (setT l s).length > 64 then ([], 5) else (setT l s, 0)) := by
 have hf := h.few
 have hsl := ((lineB_iff _).1 hs.2.2.1).2.2
 obtain ⟨sb, e1, e2⟩ := spot_f s (by omega)
 obtain ⟨eb, e3, e4⟩ := empty_f s
 obtain rfl := e2.2 hs
 unfold root_Set.f
 rw [if_pos (by omega), right_yes h (by omega), e1, e3]
 simp only [Option.bind_some]
 rw [if_neg (by simp), if_neg (by simp)]
 have ho := offS_len l s.f0
 unfold setT
 cases eb with
 | true =>
  rw [if_pos rfl, if_pos (e4.1 rfl), if_neg (by omega)]
 | false =>
  rw [if_neg (by simp), if_neg (show ¬ EmptyP s from fun hh => by have := e4.2 hh; cases this), putS_len]
  by_cases hq : (offS l s.f0).length = 64
  ·rw [if_pos hq, if_pos (by omega)]
  ·rw [if_neg hq, if_neg (by omega)]
end Go.Proofs.Ytnjnjajgpkmfhaa.PX
