/-
  The walk of ParkOnce (layer 11).
-/
import Derived.Test.YteejgejeggackaaParkOnce
namespace Go.Proofs.Yteejgejeggackaa
open Go.RowKit
namespace parkOnce
open Park (st)

def two (x : Int × Int) : List Value := [.int .i64 x.1, .int .i64 x.2]
theorem two_len (x : Int × Int) : (two x).length = 2 := rfl

theorem two_at {w : World} {B n k : Nat} {A : Option Addr} {xs : List (Int × Int)} (h : Reads w B 2 A n (xs.flatMap two)) (hk : k < n) :
    ∃ ad a b, A = some ad ∧ ad.block < B ∧ w.cell? (ad.add (k * 2)) = some (.int .i64 a) ∧ w.cell? ⟨(ad.add (k * 2)).block, (ad.add (k * 2)).off + 1, none⟩ = some (.int .i64 b) := by
  obtain ⟨ad, hA, hb, hc⟩ := h.2 (by omega)
  have hl : xs.length = n := by have := h.1; rw [flat_len two 2 two_len] at this; omega
  have hg : xs[k]? = some xs[k] := List.getElem?_eq_getElem (by omega)
  exact ⟨ad, xs[k].1, xs[k].2, hA, hb, hc _ _ (flat_at two 2 two_len xs k 0 _ hg (by omega)), by
    rw [show (⟨(ad.add (k * 2)).block, (ad.add (k * 2)).off + 1, none⟩ : Addr) = (ad.add (k * 2)).add 1 from rfl, add_of_add]; exact hc _ _ (flat_at two 2 two_len xs k 1 _ hg (by omega))⟩

theorem madeG (N : Nat) (h1 : 1 ≤ N) (h8 : N ≤ 8) : (madeCells (Value.agg #[.int .i64 0, .bool false]).cells (N * 2)).toList = ((List.replicate N (0 : Int)).map st).flatMap Park.cells := by
  rcases (show N = 1 ∨ N = 2 ∨ N = 3 ∨ N = 4 ∨ N = 5 ∨ N = 6 ∨ N = 7 ∨ N = 8 by omega) with rfl | rfl | rfl | rfl | rfl | rfl | rfl | rfl <;> kernel_rfl
theorem madeT (N : Nat) (h1 : 1 ≤ N) (h8 : N ≤ 8) : madeCells (Value.int .i64 0).cells (N * 1) = ((List.replicate N (0 : Int)).map (Value.int .i64)).toArray := by
  rcases (show N = 1 ∨ N = 2 ∨ N = 3 ∨ N = 4 ∨ N = 5 ∨ N = 6 ∨ N = 7 ∨ N = 8 by omega) with rfl | rfl | rfl | rfl | rfl | rfl | rfl | rfl <;> kernel_rfl

theorem count (N0 : Int) : ∃ N : Nat, wrap64 (1 + (wrap64 (N0.tmod 8 + 8)).tmod 8) = N ∧ 1 ≤ N ∧ N ≤ 8 := by
  have h1 : -8 < N0.tmod 8 := by have := Int.lt_tmod_of_pos N0 (show (0 : Int) < 8 by omega); omega
  have h2 : N0.tmod 8 < 8 := Int.tmod_lt_of_pos N0 (by omega)
  rw [show wrap64 (N0.tmod 8 + 8) = N0.tmod 8 + 8 by unfold wrap64; omega]
  have h3 : 0 ≤ (N0.tmod 8 + 8).tmod 8 := Int.tmod_nonneg _ (by omega)
  have h4 : (N0.tmod 8 + 8).tmod 8 < 8 := Int.tmod_lt_of_pos _ (by omega)
  rw [show wrap64 (1 + (N0.tmod 8 + 8).tmod 8) = 1 + (N0.tmod 8 + 8).tmod 8 by unfold wrap64; omega]
  exact ⟨(1 + (N0.tmod 8 + 8).tmod 8).toNat, by omega, by omega, by omega⟩

/-- What holds between two rounds. -/
def Inv (w : World) (T N : Nat) (ts : List Int) (la : Addr) (wr : World) : Prop :=
  Park.Told ts ∧ ts.length = N ∧ Blk wr T 3 (ts.map (Value.int .i64)).toArray ∧ Reads wr wr.heap.size 2 (some la) N ((ts.map st).flatMap Park.cells) ∧ Below w.heap.size w wr ∧ w.heap.size ≤ T

theorem Inv.row {w wr : World} {T N k : Nat} {ts : List Int} {la : Addr} (h : Inv w T N ts la wr) (hk : k < N) :
    ∃ t, ts[k]? = some t ∧ (t = -1 ∨ t = 0 ∨ t = 1) ∧ wr.cell? ⟨T, k, none⟩ = some (.int .i64 t) ∧ wr.frozen? ⟨T, k, none⟩ = false ∧ wr.cell? (la.add (k * 2)) = some (.int .i64 (st t).1) ∧ wr.cell? ⟨(la.add (k * 2)).block, (la.add (k * 2)).off + 1, none⟩ = some (.bool (st t).2) := by
  obtain ⟨h1, h2, h3, h4, _, _⟩ := h
  have ht : ts[k]? = some ts[k] := List.getElem?_eq_getElem (by omega)
  have h5 := h3.cell k
  rw [List.getElem?_toArray, List.getElem?_map, ht] at h5
  obtain ⟨ad', s, p, hA, _, hg, c0, c1⟩ := Park.at_ h4 hk
  obtain rfl := Option.some.inj hA
  rw [List.getElem?_map, ht] at hg
  simp at hg
  exact ⟨ts[k], ht, h1 _ (List.mem_of_getElem? ht), h5, h3.frozen k, by rw [hg]; exact c0, by rw [hg]; exact c1⟩

theorem Inv.alloc {w wr : World} {T N : Nat} {ts : List Int} {la : Addr} (h : Inv w T N ts la wr) (o : Obj) : Inv w T N ts la (wr.alloc o) :=
  ⟨h.1, h.2.1, h.2.2.1.alloc o, (h.2.2.2.1.alloc (Nat.le_refl _) o).more (by simp), h.2.2.2.2.1.alloc h.2.2.2.2.1.size o, h.2.2.2.2.2⟩
theorem Inv.drewN {w wr : World} {T N : Nat} {ts : List Int} {la : Addr} (h : Inv w T N ts la wr) (q : Nat) : Inv w T N ts la (wr.drewN q) :=
  ⟨h.1, h.2.1, h.2.2.1.drewN q, h.2.2.2.1, below_drewN h.2.2.2.2.1 q, h.2.2.2.2.2⟩
theorem Inv.below {w wr w2 : World} {T N : Nat} {ts : List Int} {la : Addr} (h : Inv w T N ts la wr) (hb : Below wr.heap.size wr w2) : Inv w T N ts la w2 :=
  ⟨h.1, h.2.1, h.2.2.1.below hb h.2.2.1.lt, (h.2.2.2.1.below hb).more hb.size, bthen h.2.2.2.2.1 hb, h.2.2.2.2.2⟩

/-- One is changed, and the count of it. -/
theorem Inv.step {w wr w2 : World} {T N k : Nat} {ts : List Int} {la lb : Addr} {t : Int} {g : Park.G} (h : Inv w T N ts la wr) (hb : Below wr.heap.size wr w2) (hN : 0 < N) (ht : t = -1 ∨ t = 0 ∨ t = 1) (hg : g = st t)
    (hr : Reads w2 w2.heap.size 2 (some lb) N (((ts.map st).set k g).flatMap Park.cells)) : Inv w T N (ts.set k t) lb (w2.setCell ⟨T, k, none⟩ (.int .i64 t)) := by
  have h' := h.below hb
  refine ⟨Park.told_set h.1 ht, by rw [List.length_set]; exact h.2.1, ?_, ?_, h'.2.2.2.2.1.setCell (p := ⟨T, k, none⟩) h.2.2.2.2.2 _, h.2.2.2.2.2⟩
  · have := h'.2.2.1.set_ k (.int .i64 t)
    rw [List.map_set]
    simpa using this
  · have hf := Park.far h'.2.2.1 hr hN
    have := Park.reads_far (p := ⟨T, k, none⟩) hr hf (.int .i64 t)
    rw [hg, ← List.map_set] at this
    simpa [World.setCell] using this

set_option maxRecDepth 100000 in
set_option maxHeartbeats 8000000 in
theorem walk1 (N0 : Int) (A : Option Addr) (n0 n c : Nat) (xs : List (Int × Int)) (w : World) (hm : (n0 ≤ 100 ∧ n = n0) ∨ (100 < n0 ∧ n = 100)) (hn0 : n0 ≤ c) (hc : c ≤ maxLen) (hr : Reads w w.heap.size 2 A n (xs.flatMap two)) :
    Calls Try.prog 8 #[.int .i64 N0, .slice A n0 c] w fun e w' => e = .returned (.bool true) ∧ Below w.heap.size w w' := by
  unfold maxLen at hc
  obtain ⟨N, hN, hN1, hN8⟩ := count N0
  have HN := Lib.hid hN
  have HR := Lib.hid hr
  clear hN hr
  obtain ⟨i0, hi0, hz0, hz1, hz2⟩ := info_parts Park.info
  have hmk := run_make_rowN (P := Try.prog) 50 55 i0 _ Try.underlying50 hi0 hz0 .i64 .i64 N N (Nat.le_refl _) (by rw [hz2]; omega) (by omega)
  rw [hz1] at hmk
  obtain ⟨j0, hj0, jz0, jz1, jz2⟩ := info_parts Park.infoInt
  have hmt := run_make_rowN (P := Try.prog) 30 3 j0 _ Try.underlying30 hj0 jz0 .i64 .i64 N N (Nat.le_refl _) (by rw [jz2]; omega) (by omega)
  rw [jz1, madeT N hN1 hN8] at hmt
  obtain ⟨mg, hmg⟩ : ∃ mg, madeCells (Value.agg #[.int .i64 0, .bool false]).cells (N * 2) = mg := ⟨_, rfl⟩
  rw [hmg] at hmk
  obtain ⟨tz, htz⟩ : ∃ tz, ((List.replicate N (0 : Int)).map (Value.int .i64)).toArray = tz := ⟨_, rfl⟩
  rw [htz] at hmt
  have hinv : Inv w (w.heap.size + 1) N (List.replicate N 0) ⟨w.heap.size, 0, none⟩ ((w.alloc (.cells mg 55)).alloc (.cells tz 3)) := by
    have h1 := Blk.new (w.alloc (.cells mg 55)) 3 tz
    have h2 := Reads.of_blk (n := N) (size := 2) ((Blk.new w 55 mg)) (by rw [← hmg]; simp [madeCells])
    refine ⟨fun t ht => by have := List.eq_of_mem_replicate ht; omega, by simp, ?_, ?_, ((Below.refl w.heap.size w).alloc (Nat.le_refl _) _).alloc (by simp) _, by omega⟩
    · rw [htz]; simpa using h1
    · have h3 := (h2.alloc (Nat.le_refl _) (.cells tz 3)).more (B' := ((w.alloc (.cells mg 55)).alloc (.cells tz 3)).heap.size) (by simp)
      rwa [← hmg, madeG N hN1 hN8, hmg] at h3
  have HINV := Lib.hid hinv
  clear hinv hi0 hz0 hz1 hz2 hj0 jz0 jz1 jz2 hmg htz
  rcases hm with ⟨hm, rfl⟩ | ⟨hm, rfl⟩
  · skip
    go_enter Try.func8, Try.ntmps8
    go_wp2_with fail
    rw [HN.out, hmk]
    go_wp2_with fail
    go_loopw [5, 29] (fun v i wr => ∃ (k : Nat) (ts : List Int) (la : Addr), k ≤ n ∧ i = .int .i64 k ∧ v = .slice (some la) N N ∧ Inv w (w.heap.size + 1) N ts la wr) (fun _ i _ => n - (intOf i).toNat)
    case atStart => exact ⟨0, _, _, Nat.zero_le _, rfl, rfl, HINV.out⟩
    case round =>
      obtain ⟨k, ts, la, hk, rfl, rfl, hinv⟩ := hrel
      have HI := Lib.hid hinv
      clear hinv
      by_cases hlt : k < n
      · obtain ⟨ad, a, b, rfl, _, hc0, hc1⟩ := two_at (HR.out.below HI.out.2.2.2.2.1) hlt
        obtain ⟨j, hj, hjw⟩ := Park.tmod_range b N hN1
        obtain ⟨t, ht, ht3, ct0, cf0, cl0, cl1⟩ := HI.out.row hj
        have b1 : -(N : Int) < b.tmod N := by have := Int.lt_tmod_of_pos b (show (0 : Int) < N by omega); omega
        have b2 : b.tmod N < N := Int.tmod_lt_of_pos b (by omega)
        have hjw2 : (b.tmod N + N) % N = j := by rw [← Int.tmod_eq_emod_of_nonneg (by omega)]; exact hjw
        have hjw3 : b.tmod N % N = j := by rw [← hjw2]; simp
        have HJ := Lib.hid hjw2
        have HJ3 := Lib.hid hjw3
        have HRT := Lib.hid (Park.right_told HI.out.1 (by rw [HI.out.2.1]; exact hN8))
        have HGS := Lib.hid (show (ts.map st)[j]? = some (st t) by rw [List.getElem?_map, ht]; rfl)
        have hsz : w.heap.size + 1 < wr.heap.size := HI.out.2.2.1.lt
        have HA := Lib.hid (HI.out.alloc (.cells #[.int .i64 a, .int .i64 b] 51))
        have HT3 := Lib.hid ht3
        clear hjw hjw2 hjw3 ht ht3 cl0 cl1
        rcases (show (a.tmod 2 == 0) = true ∨ (a.tmod 2 == 0) = false by cases (a.tmod 2 == 0) <;> simp) with ha | ha
        · rcases HT3.out with ht4 | ht4 | ht4
          · obtain rfl : t = -1 := ht4
            have hgs2 : (ts.map st)[j]? = some (((1 : Int), false)) := by rw [HGS.out]; rfl
            go_wp2_with fail
            rw [HJ3.out]
            try rw [HJ.out]
            refine (Park.parkTop_no (some la) N N j (ts.map st) 1 false _ HA.out.2.2.2.1 HRT.out hj hgs2 (by decide)).mono ?_
            rintro e w1 ⟨rfl, hb1⟩
            rw [show (Park.parkOne (((1 : Int), false))).1 = 6 by decide]
            have HA1 := Lib.hid (HA.out.below hb1)
            have ct1 : w1.cell? ⟨w.heap.size + 1, j, none⟩ = some (.int .i64 (-1)) := (hb1.cell (p := ⟨w.heap.size + 1, j, none⟩) (by simp; omega)).trans (by rw [World.cell?_alloc_lt wr _ _ (by show w.heap.size + 1 < _; omega)]; exact ct0)
            have hx0 : w1.cell? ⟨wr.heap.size, 0, none⟩ = some (.int .i64 a) := (hb1.cell (p := ⟨wr.heap.size, 0, none⟩) (by simp)).trans (by simp)
            have hjn : ((j : Int) < N) := by omega
            clear hb1 hgs2 ct0 cf0
            go_wp2_with fail
            go_roundw
            case rel => exact ⟨k + 1, ts, la, by omega, by go_num, rfl, HA1.out⟩
            case measure => simp [intOf]; omega
          · obtain rfl : t = 0 := ht4
            have hgs2 : (ts.map st)[j]? = some (((0 : Int), false)) := by rw [HGS.out]; rfl
            go_wp2_with fail
            rw [HJ3.out]
            try rw [HJ.out]
            refine (Park.parkTop_yes (some la) N N j (ts.map st) 0 false _ HA.out.2.2.2.1 HRT.out hj hgs2 (by decide)).mono ?_
            rintro e w1 ⟨⟨lb, rfl, hrd⟩, hb1⟩
            have HA1 := Lib.hid (HA.out.below hb1)
            have ct1 : w1.cell? ⟨w.heap.size + 1, j, none⟩ = some (.int .i64 (0)) := (hb1.cell (p := ⟨w.heap.size + 1, j, none⟩) (by simp; omega)).trans (by rw [World.cell?_alloc_lt wr _ _ (by show w.heap.size + 1 < _; omega)]; exact ct0)
            have cf1 : w1.frozen? ⟨w.heap.size + 1, j, none⟩ = false := HA1.out.2.2.1.frozen j
            have hx0 : w1.cell? ⟨wr.heap.size, 0, none⟩ = some (.int .i64 a) := (hb1.cell (p := ⟨wr.heap.size, 0, none⟩) (by simp)).trans (by simp)
            have hinv2 := Inv.step HA.out hb1 (by omega) (show (-1 : Int) = -1 ∨ (-1 : Int) = 0 ∨ (-1 : Int) = 1 by omega) (show (Park.parkOne (0, false)).2 = st (-1) by decide) hrd
            have HI2 := Lib.hid hinv2
            have hjn : ((j : Int) < N) := by omega
            clear hrd hb1 hinv2 hgs2 ct0 cf0
            go_wp2_with fail
            obtain ⟨wo, rfl⟩ : ∃ wo : World, wo = wr := ⟨_, rfl⟩
            go_loopw [116] (fun i wr => ∃ q : Nat, q ≤ N ∧ i = .int .i64 q ∧ Inv w (w.heap.size + 1) N (ts.set j (-1)) lb wr) (fun i _ => N - (intOf i).toNat)
            case atStart => exact ⟨0, Nat.zero_le _, rfl, HI2.out⟩
            case round =>
              obtain ⟨q, hq, rfl, hinv⟩ := hrel
              have HI3 := Lib.hid hinv
              clear hinv ct1 cf1 hx0 hc0 hc1
              by_cases hql : q < N
              · obtain ⟨t', ht', ht3', ct', cf', cl0', cl1'⟩ := HI3.out.row hql
                have hTl : w.heap.size + 1 < wr.heap.size := HI3.out.2.2.1.lt
                have hqi : (q : Int) < N := by omega
                have hqo : (0 : Int) ≤ q := by omega
                clear ht'
                rcases ht3' with rfl | rfl | rfl
                · rw [show st (-1) = ((1 : Int), false) by decide] at cl0' cl1'
                  have HI4 := Lib.hid (HI3.out.alloc (.cells #[.int .i64 1, .bool false] 55))
                  go_wp2_with fail
                  go_quiet (fail)
                  go_wp2
                  go_roundw
                  case rel => exact ⟨q + 1, by omega, by go_num, HI4.out.drewN _⟩
                  case measure => simp [intOf]; omega
                · rw [show st 0 = ((0 : Int), false) by decide] at cl0' cl1'
                  have HI4 := Lib.hid (HI3.out.alloc (.cells #[.int .i64 0, .bool false] 55))
                  go_wp2_with fail
                  go_quiet (fail)
                  go_wp2
                  go_roundw
                  case rel => exact ⟨q + 1, by omega, by go_num, HI4.out.drewN _⟩
                  case measure => simp [intOf]; omega
                · rw [show st 1 = ((0 : Int), true) by decide] at cl0' cl1'
                  have HI4 := Lib.hid (HI3.out.alloc (.cells #[.int .i64 0, .bool true] 55))
                  go_wp2_with fail
                  go_quiet (fail)
                  go_wp2
                  go_roundw
                  case rel => exact ⟨q + 1, by omega, by go_num, HI4.out.drewN _⟩
                  case measure => simp [intOf]; omega
              · go_wp2
                go_roundw
                case rel => exact ⟨k + 1, _, lb, by omega, by go_num, rfl, HI3.out⟩
                case measure => simp [intOf]; omega
          · obtain rfl : t = 1 := ht4
            have hgs2 : (ts.map st)[j]? = some (((0 : Int), true)) := by rw [HGS.out]; rfl
            go_wp2_with fail
            rw [HJ3.out]
            try rw [HJ.out]
            refine (Park.parkTop_yes (some la) N N j (ts.map st) 0 true _ HA.out.2.2.2.1 HRT.out hj hgs2 (by decide)).mono ?_
            rintro e w1 ⟨⟨lb, rfl, hrd⟩, hb1⟩
            have HA1 := Lib.hid (HA.out.below hb1)
            have ct1 : w1.cell? ⟨w.heap.size + 1, j, none⟩ = some (.int .i64 (1)) := (hb1.cell (p := ⟨w.heap.size + 1, j, none⟩) (by simp; omega)).trans (by rw [World.cell?_alloc_lt wr _ _ (by show w.heap.size + 1 < _; omega)]; exact ct0)
            have cf1 : w1.frozen? ⟨w.heap.size + 1, j, none⟩ = false := HA1.out.2.2.1.frozen j
            have hx0 : w1.cell? ⟨wr.heap.size, 0, none⟩ = some (.int .i64 a) := (hb1.cell (p := ⟨wr.heap.size, 0, none⟩) (by simp)).trans (by simp)
            have hinv2 := Inv.step HA.out hb1 (by omega) (show (0 : Int) = -1 ∨ (0 : Int) = 0 ∨ (0 : Int) = 1 by omega) (show (Park.parkOne (0, true)).2 = st (0) by decide) hrd
            have HI2 := Lib.hid hinv2
            have hjn : ((j : Int) < N) := by omega
            clear hrd hb1 hinv2 hgs2 ct0 cf0
            go_wp2_with fail
            obtain ⟨wo, rfl⟩ : ∃ wo : World, wo = wr := ⟨_, rfl⟩
            go_loopw [116] (fun i wr => ∃ q : Nat, q ≤ N ∧ i = .int .i64 q ∧ Inv w (w.heap.size + 1) N (ts.set j (0)) lb wr) (fun i _ => N - (intOf i).toNat)
            case atStart => exact ⟨0, Nat.zero_le _, rfl, HI2.out⟩
            case round =>
              obtain ⟨q, hq, rfl, hinv⟩ := hrel
              have HI3 := Lib.hid hinv
              clear hinv ct1 cf1 hx0 hc0 hc1
              by_cases hql : q < N
              · obtain ⟨t', ht', ht3', ct', cf', cl0', cl1'⟩ := HI3.out.row hql
                have hTl : w.heap.size + 1 < wr.heap.size := HI3.out.2.2.1.lt
                have hqi : (q : Int) < N := by omega
                have hqo : (0 : Int) ≤ q := by omega
                clear ht'
                rcases ht3' with rfl | rfl | rfl
                · rw [show st (-1) = ((1 : Int), false) by decide] at cl0' cl1'
                  have HI4 := Lib.hid (HI3.out.alloc (.cells #[.int .i64 1, .bool false] 55))
                  go_wp2_with fail
                  go_quiet (fail)
                  go_wp2
                  go_roundw
                  case rel => exact ⟨q + 1, by omega, by go_num, HI4.out.drewN _⟩
                  case measure => simp [intOf]; omega
                · rw [show st 0 = ((0 : Int), false) by decide] at cl0' cl1'
                  have HI4 := Lib.hid (HI3.out.alloc (.cells #[.int .i64 0, .bool false] 55))
                  go_wp2_with fail
                  go_quiet (fail)
                  go_wp2
                  go_roundw
                  case rel => exact ⟨q + 1, by omega, by go_num, HI4.out.drewN _⟩
                  case measure => simp [intOf]; omega
                · rw [show st 1 = ((0 : Int), true) by decide] at cl0' cl1'
                  have HI4 := Lib.hid (HI3.out.alloc (.cells #[.int .i64 0, .bool true] 55))
                  go_wp2_with fail
                  go_quiet (fail)
                  go_wp2
                  go_roundw
                  case rel => exact ⟨q + 1, by omega, by go_num, HI4.out.drewN _⟩
                  case measure => simp [intOf]; omega
              · go_wp2
                go_roundw
                case rel => exact ⟨k + 1, _, lb, by omega, by go_num, rfl, HI3.out⟩
                case measure => simp [intOf]; omega
        · have hn2 : (a.tmod 2 != 0) = true := by simp at ha ⊢; exact ha
          rcases HT3.out with ht4 | ht4 | ht4
          · obtain rfl : t = -1 := ht4
            have hgs2 : (ts.map st)[j]? = some (((1 : Int), false)) := by rw [HGS.out]; rfl
            go_wp2_with fail
            rw [HJ3.out]
            try rw [HJ.out]
            refine (Park.readyTop_yes (some la) N N j (ts.map st) 1 false _ HA.out.2.2.2.1 HRT.out hj hgs2 (by decide)).mono ?_
            rintro e w1 ⟨⟨lb, rfl, hrd⟩, hb1⟩
            have HA1 := Lib.hid (HA.out.below hb1)
            have ct1 : w1.cell? ⟨w.heap.size + 1, j, none⟩ = some (.int .i64 (-1)) := (hb1.cell (p := ⟨w.heap.size + 1, j, none⟩) (by simp; omega)).trans (by rw [World.cell?_alloc_lt wr _ _ (by show w.heap.size + 1 < _; omega)]; exact ct0)
            have cf1 : w1.frozen? ⟨w.heap.size + 1, j, none⟩ = false := HA1.out.2.2.1.frozen j
            have hx0 : w1.cell? ⟨wr.heap.size, 0, none⟩ = some (.int .i64 a) := (hb1.cell (p := ⟨wr.heap.size, 0, none⟩) (by simp)).trans (by simp)
            have hinv2 := Inv.step HA.out hb1 (by omega) (show (0 : Int) = -1 ∨ (0 : Int) = 0 ∨ (0 : Int) = 1 by omega) (show (Park.readyOne (1, false)).2 = st (0) by decide) hrd
            have HI2 := Lib.hid hinv2
            have hjn : ((j : Int) < N) := by omega
            clear hrd hb1 hinv2 hgs2 ct0 cf0
            go_wp2_with fail
            obtain ⟨wo, rfl⟩ : ∃ wo : World, wo = wr := ⟨_, rfl⟩
            go_loopw [116] (fun i wr => ∃ q : Nat, q ≤ N ∧ i = .int .i64 q ∧ Inv w (w.heap.size + 1) N (ts.set j (0)) lb wr) (fun i _ => N - (intOf i).toNat)
            case atStart => exact ⟨0, Nat.zero_le _, rfl, HI2.out⟩
            case round =>
              obtain ⟨q, hq, rfl, hinv⟩ := hrel
              have HI3 := Lib.hid hinv
              clear hinv ct1 cf1 hx0 hc0 hc1
              by_cases hql : q < N
              · obtain ⟨t', ht', ht3', ct', cf', cl0', cl1'⟩ := HI3.out.row hql
                have hTl : w.heap.size + 1 < wr.heap.size := HI3.out.2.2.1.lt
                have hqi : (q : Int) < N := by omega
                have hqo : (0 : Int) ≤ q := by omega
                clear ht'
                rcases ht3' with rfl | rfl | rfl
                · rw [show st (-1) = ((1 : Int), false) by decide] at cl0' cl1'
                  have HI4 := Lib.hid (HI3.out.alloc (.cells #[.int .i64 1, .bool false] 55))
                  go_wp2_with fail
                  go_quiet (fail)
                  go_wp2
                  go_roundw
                  case rel => exact ⟨q + 1, by omega, by go_num, HI4.out.drewN _⟩
                  case measure => simp [intOf]; omega
                · rw [show st 0 = ((0 : Int), false) by decide] at cl0' cl1'
                  have HI4 := Lib.hid (HI3.out.alloc (.cells #[.int .i64 0, .bool false] 55))
                  go_wp2_with fail
                  go_quiet (fail)
                  go_wp2
                  go_roundw
                  case rel => exact ⟨q + 1, by omega, by go_num, HI4.out.drewN _⟩
                  case measure => simp [intOf]; omega
                · rw [show st 1 = ((0 : Int), true) by decide] at cl0' cl1'
                  have HI4 := Lib.hid (HI3.out.alloc (.cells #[.int .i64 0, .bool true] 55))
                  go_wp2_with fail
                  go_quiet (fail)
                  go_wp2
                  go_roundw
                  case rel => exact ⟨q + 1, by omega, by go_num, HI4.out.drewN _⟩
                  case measure => simp [intOf]; omega
              · go_wp2
                go_roundw
                case rel => exact ⟨k + 1, _, lb, by omega, by go_num, rfl, HI3.out⟩
                case measure => simp [intOf]; omega
          · obtain rfl : t = 0 := ht4
            have hgs2 : (ts.map st)[j]? = some (((0 : Int), false)) := by rw [HGS.out]; rfl
            go_wp2_with fail
            rw [HJ3.out]
            try rw [HJ.out]
            refine (Park.readyTop_yes (some la) N N j (ts.map st) 0 false _ HA.out.2.2.2.1 HRT.out hj hgs2 (by decide)).mono ?_
            rintro e w1 ⟨⟨lb, rfl, hrd⟩, hb1⟩
            have HA1 := Lib.hid (HA.out.below hb1)
            have ct1 : w1.cell? ⟨w.heap.size + 1, j, none⟩ = some (.int .i64 (0)) := (hb1.cell (p := ⟨w.heap.size + 1, j, none⟩) (by simp; omega)).trans (by rw [World.cell?_alloc_lt wr _ _ (by show w.heap.size + 1 < _; omega)]; exact ct0)
            have cf1 : w1.frozen? ⟨w.heap.size + 1, j, none⟩ = false := HA1.out.2.2.1.frozen j
            have hx0 : w1.cell? ⟨wr.heap.size, 0, none⟩ = some (.int .i64 a) := (hb1.cell (p := ⟨wr.heap.size, 0, none⟩) (by simp)).trans (by simp)
            have hinv2 := Inv.step HA.out hb1 (by omega) (show (1 : Int) = -1 ∨ (1 : Int) = 0 ∨ (1 : Int) = 1 by omega) (show (Park.readyOne (0, false)).2 = st (1) by decide) hrd
            have HI2 := Lib.hid hinv2
            have hjn : ((j : Int) < N) := by omega
            clear hrd hb1 hinv2 hgs2 ct0 cf0
            go_wp2_with fail
            obtain ⟨wo, rfl⟩ : ∃ wo : World, wo = wr := ⟨_, rfl⟩
            go_loopw [116] (fun i wr => ∃ q : Nat, q ≤ N ∧ i = .int .i64 q ∧ Inv w (w.heap.size + 1) N (ts.set j (1)) lb wr) (fun i _ => N - (intOf i).toNat)
            case atStart => exact ⟨0, Nat.zero_le _, rfl, HI2.out⟩
            case round =>
              obtain ⟨q, hq, rfl, hinv⟩ := hrel
              have HI3 := Lib.hid hinv
              clear hinv ct1 cf1 hx0 hc0 hc1
              by_cases hql : q < N
              · obtain ⟨t', ht', ht3', ct', cf', cl0', cl1'⟩ := HI3.out.row hql
                have hTl : w.heap.size + 1 < wr.heap.size := HI3.out.2.2.1.lt
                have hqi : (q : Int) < N := by omega
                have hqo : (0 : Int) ≤ q := by omega
                clear ht'
                rcases ht3' with rfl | rfl | rfl
                · rw [show st (-1) = ((1 : Int), false) by decide] at cl0' cl1'
                  have HI4 := Lib.hid (HI3.out.alloc (.cells #[.int .i64 1, .bool false] 55))
                  go_wp2_with fail
                  go_quiet (fail)
                  go_wp2
                  go_roundw
                  case rel => exact ⟨q + 1, by omega, by go_num, HI4.out.drewN _⟩
                  case measure => simp [intOf]; omega
                · rw [show st 0 = ((0 : Int), false) by decide] at cl0' cl1'
                  have HI4 := Lib.hid (HI3.out.alloc (.cells #[.int .i64 0, .bool false] 55))
                  go_wp2_with fail
                  go_quiet (fail)
                  go_wp2
                  go_roundw
                  case rel => exact ⟨q + 1, by omega, by go_num, HI4.out.drewN _⟩
                  case measure => simp [intOf]; omega
                · rw [show st 1 = ((0 : Int), true) by decide] at cl0' cl1'
                  have HI4 := Lib.hid (HI3.out.alloc (.cells #[.int .i64 0, .bool true] 55))
                  go_wp2_with fail
                  go_quiet (fail)
                  go_wp2
                  go_roundw
                  case rel => exact ⟨q + 1, by omega, by go_num, HI4.out.drewN _⟩
                  case measure => simp [intOf]; omega
              · go_wp2
                go_roundw
                case rel => exact ⟨k + 1, _, lb, by omega, by go_num, rfl, HI3.out⟩
                case measure => simp [intOf]; omega
          · obtain rfl : t = 1 := ht4
            have hgs2 : (ts.map st)[j]? = some (((0 : Int), true)) := by rw [HGS.out]; rfl
            go_wp2_with fail
            rw [HJ3.out]
            try rw [HJ.out]
            refine (Park.readyTop_no (some la) N N j (ts.map st) 0 true _ HA.out.2.2.2.1 HRT.out hj hgs2 (by decide)).mono ?_
            rintro e w1 ⟨rfl, hb1⟩
            rw [show (Park.readyOne (((0 : Int), true))).1 = 7 by decide]
            have HA1 := Lib.hid (HA.out.below hb1)
            have ct1 : w1.cell? ⟨w.heap.size + 1, j, none⟩ = some (.int .i64 (1)) := (hb1.cell (p := ⟨w.heap.size + 1, j, none⟩) (by simp; omega)).trans (by rw [World.cell?_alloc_lt wr _ _ (by show w.heap.size + 1 < _; omega)]; exact ct0)
            have hx0 : w1.cell? ⟨wr.heap.size, 0, none⟩ = some (.int .i64 a) := (hb1.cell (p := ⟨wr.heap.size, 0, none⟩) (by simp)).trans (by simp)
            have hjn : ((j : Int) < N) := by omega
            clear hb1 hgs2 ct0 cf0
            go_wp2_with fail
            go_roundw
            case rel => exact ⟨k + 1, ts, la, by omega, by go_num, rfl, HA1.out⟩
            case measure => simp [intOf]; omega
      · go_wp2_with fail
        refine (Park.alive_any _).mono ?_
        rintro e w1 ⟨rfl, hb1⟩
        have HB1 := Lib.hid (bthen HI.out.2.2.2.2.1 hb1)
        clear hb1
        go_wp2_with fail
        go_ret
        exact ⟨rfl, HB1.out⟩
  · skip
    go_enter Try.func8, Try.ntmps8
    go_wp2_with fail
    rw [HN.out, hmk]
    go_wp2_with fail
    go_loopw [5, 29] (fun v i wr => ∃ (k : Nat) (ts : List Int) (la : Addr), k ≤ 100 ∧ i = .int .i64 k ∧ v = .slice (some la) N N ∧ Inv w (w.heap.size + 1) N ts la wr) (fun _ i _ => 100 - (intOf i).toNat)
    case atStart => exact ⟨0, _, _, Nat.zero_le _, rfl, rfl, HINV.out⟩
    case round =>
      obtain ⟨k, ts, la, hk, rfl, rfl, hinv⟩ := hrel
      have HI := Lib.hid hinv
      clear hinv
      by_cases hlt : k < 100
      · obtain ⟨ad, a, b, rfl, _, hc0, hc1⟩ := two_at (HR.out.below HI.out.2.2.2.2.1) hlt
        obtain ⟨j, hj, hjw⟩ := Park.tmod_range b N hN1
        obtain ⟨t, ht, ht3, ct0, cf0, cl0, cl1⟩ := HI.out.row hj
        have b1 : -(N : Int) < b.tmod N := by have := Int.lt_tmod_of_pos b (show (0 : Int) < N by omega); omega
        have b2 : b.tmod N < N := Int.tmod_lt_of_pos b (by omega)
        have hjw2 : (b.tmod N + N) % N = j := by rw [← Int.tmod_eq_emod_of_nonneg (by omega)]; exact hjw
        have hjw3 : b.tmod N % N = j := by rw [← hjw2]; simp
        have HJ := Lib.hid hjw2
        have HJ3 := Lib.hid hjw3
        have HRT := Lib.hid (Park.right_told HI.out.1 (by rw [HI.out.2.1]; exact hN8))
        have HGS := Lib.hid (show (ts.map st)[j]? = some (st t) by rw [List.getElem?_map, ht]; rfl)
        have hsz : w.heap.size + 1 < wr.heap.size := HI.out.2.2.1.lt
        have HA := Lib.hid (HI.out.alloc (.cells #[.int .i64 a, .int .i64 b] 51))
        have HT3 := Lib.hid ht3
        clear hjw hjw2 hjw3 ht ht3 cl0 cl1
        rcases (show (a.tmod 2 == 0) = true ∨ (a.tmod 2 == 0) = false by cases (a.tmod 2 == 0) <;> simp) with ha | ha
        · rcases HT3.out with ht4 | ht4 | ht4
          · obtain rfl : t = -1 := ht4
            have hgs2 : (ts.map st)[j]? = some (((1 : Int), false)) := by rw [HGS.out]; rfl
            go_wp2_with fail
            rw [HJ3.out]
            try rw [HJ.out]
            refine (Park.parkTop_no (some la) N N j (ts.map st) 1 false _ HA.out.2.2.2.1 HRT.out hj hgs2 (by decide)).mono ?_
            rintro e w1 ⟨rfl, hb1⟩
            rw [show (Park.parkOne (((1 : Int), false))).1 = 6 by decide]
            have HA1 := Lib.hid (HA.out.below hb1)
            have ct1 : w1.cell? ⟨w.heap.size + 1, j, none⟩ = some (.int .i64 (-1)) := (hb1.cell (p := ⟨w.heap.size + 1, j, none⟩) (by simp; omega)).trans (by rw [World.cell?_alloc_lt wr _ _ (by show w.heap.size + 1 < _; omega)]; exact ct0)
            have hx0 : w1.cell? ⟨wr.heap.size, 0, none⟩ = some (.int .i64 a) := (hb1.cell (p := ⟨wr.heap.size, 0, none⟩) (by simp)).trans (by simp)
            have hjn : ((j : Int) < N) := by omega
            clear hb1 hgs2 ct0 cf0
            go_wp2_with fail
            go_roundw
            case rel => exact ⟨k + 1, ts, la, by omega, by go_num, rfl, HA1.out⟩
            case measure => simp [intOf]; omega
          · obtain rfl : t = 0 := ht4
            have hgs2 : (ts.map st)[j]? = some (((0 : Int), false)) := by rw [HGS.out]; rfl
            go_wp2_with fail
            rw [HJ3.out]
            try rw [HJ.out]
            refine (Park.parkTop_yes (some la) N N j (ts.map st) 0 false _ HA.out.2.2.2.1 HRT.out hj hgs2 (by decide)).mono ?_
            rintro e w1 ⟨⟨lb, rfl, hrd⟩, hb1⟩
            have HA1 := Lib.hid (HA.out.below hb1)
            have ct1 : w1.cell? ⟨w.heap.size + 1, j, none⟩ = some (.int .i64 (0)) := (hb1.cell (p := ⟨w.heap.size + 1, j, none⟩) (by simp; omega)).trans (by rw [World.cell?_alloc_lt wr _ _ (by show w.heap.size + 1 < _; omega)]; exact ct0)
            have cf1 : w1.frozen? ⟨w.heap.size + 1, j, none⟩ = false := HA1.out.2.2.1.frozen j
            have hx0 : w1.cell? ⟨wr.heap.size, 0, none⟩ = some (.int .i64 a) := (hb1.cell (p := ⟨wr.heap.size, 0, none⟩) (by simp)).trans (by simp)
            have hinv2 := Inv.step HA.out hb1 (by omega) (show (-1 : Int) = -1 ∨ (-1 : Int) = 0 ∨ (-1 : Int) = 1 by omega) (show (Park.parkOne (0, false)).2 = st (-1) by decide) hrd
            have HI2 := Lib.hid hinv2
            have hjn : ((j : Int) < N) := by omega
            clear hrd hb1 hinv2 hgs2 ct0 cf0
            go_wp2_with fail
            obtain ⟨wo, rfl⟩ : ∃ wo : World, wo = wr := ⟨_, rfl⟩
            go_loopw [116] (fun i wr => ∃ q : Nat, q ≤ N ∧ i = .int .i64 q ∧ Inv w (w.heap.size + 1) N (ts.set j (-1)) lb wr) (fun i _ => N - (intOf i).toNat)
            case atStart => exact ⟨0, Nat.zero_le _, rfl, HI2.out⟩
            case round =>
              obtain ⟨q, hq, rfl, hinv⟩ := hrel
              have HI3 := Lib.hid hinv
              clear hinv ct1 cf1 hx0 hc0 hc1
              by_cases hql : q < N
              · obtain ⟨t', ht', ht3', ct', cf', cl0', cl1'⟩ := HI3.out.row hql
                have hTl : w.heap.size + 1 < wr.heap.size := HI3.out.2.2.1.lt
                have hqi : (q : Int) < N := by omega
                have hqo : (0 : Int) ≤ q := by omega
                clear ht'
                rcases ht3' with rfl | rfl | rfl
                · rw [show st (-1) = ((1 : Int), false) by decide] at cl0' cl1'
                  have HI4 := Lib.hid (HI3.out.alloc (.cells #[.int .i64 1, .bool false] 55))
                  go_wp2_with fail
                  go_quiet (fail)
                  go_wp2
                  go_roundw
                  case rel => exact ⟨q + 1, by omega, by go_num, HI4.out.drewN _⟩
                  case measure => simp [intOf]; omega
                · rw [show st 0 = ((0 : Int), false) by decide] at cl0' cl1'
                  have HI4 := Lib.hid (HI3.out.alloc (.cells #[.int .i64 0, .bool false] 55))
                  go_wp2_with fail
                  go_quiet (fail)
                  go_wp2
                  go_roundw
                  case rel => exact ⟨q + 1, by omega, by go_num, HI4.out.drewN _⟩
                  case measure => simp [intOf]; omega
                · rw [show st 1 = ((0 : Int), true) by decide] at cl0' cl1'
                  have HI4 := Lib.hid (HI3.out.alloc (.cells #[.int .i64 0, .bool true] 55))
                  go_wp2_with fail
                  go_quiet (fail)
                  go_wp2
                  go_roundw
                  case rel => exact ⟨q + 1, by omega, by go_num, HI4.out.drewN _⟩
                  case measure => simp [intOf]; omega
              · go_wp2
                go_roundw
                case rel => exact ⟨k + 1, _, lb, by omega, by go_num, rfl, HI3.out⟩
                case measure => simp [intOf]; omega
          · obtain rfl : t = 1 := ht4
            have hgs2 : (ts.map st)[j]? = some (((0 : Int), true)) := by rw [HGS.out]; rfl
            go_wp2_with fail
            rw [HJ3.out]
            try rw [HJ.out]
            refine (Park.parkTop_yes (some la) N N j (ts.map st) 0 true _ HA.out.2.2.2.1 HRT.out hj hgs2 (by decide)).mono ?_
            rintro e w1 ⟨⟨lb, rfl, hrd⟩, hb1⟩
            have HA1 := Lib.hid (HA.out.below hb1)
            have ct1 : w1.cell? ⟨w.heap.size + 1, j, none⟩ = some (.int .i64 (1)) := (hb1.cell (p := ⟨w.heap.size + 1, j, none⟩) (by simp; omega)).trans (by rw [World.cell?_alloc_lt wr _ _ (by show w.heap.size + 1 < _; omega)]; exact ct0)
            have cf1 : w1.frozen? ⟨w.heap.size + 1, j, none⟩ = false := HA1.out.2.2.1.frozen j
            have hx0 : w1.cell? ⟨wr.heap.size, 0, none⟩ = some (.int .i64 a) := (hb1.cell (p := ⟨wr.heap.size, 0, none⟩) (by simp)).trans (by simp)
            have hinv2 := Inv.step HA.out hb1 (by omega) (show (0 : Int) = -1 ∨ (0 : Int) = 0 ∨ (0 : Int) = 1 by omega) (show (Park.parkOne (0, true)).2 = st (0) by decide) hrd
            have HI2 := Lib.hid hinv2
            have hjn : ((j : Int) < N) := by omega
            clear hrd hb1 hinv2 hgs2 ct0 cf0
            go_wp2_with fail
            obtain ⟨wo, rfl⟩ : ∃ wo : World, wo = wr := ⟨_, rfl⟩
            go_loopw [116] (fun i wr => ∃ q : Nat, q ≤ N ∧ i = .int .i64 q ∧ Inv w (w.heap.size + 1) N (ts.set j (0)) lb wr) (fun i _ => N - (intOf i).toNat)
            case atStart => exact ⟨0, Nat.zero_le _, rfl, HI2.out⟩
            case round =>
              obtain ⟨q, hq, rfl, hinv⟩ := hrel
              have HI3 := Lib.hid hinv
              clear hinv ct1 cf1 hx0 hc0 hc1
              by_cases hql : q < N
              · obtain ⟨t', ht', ht3', ct', cf', cl0', cl1'⟩ := HI3.out.row hql
                have hTl : w.heap.size + 1 < wr.heap.size := HI3.out.2.2.1.lt
                have hqi : (q : Int) < N := by omega
                have hqo : (0 : Int) ≤ q := by omega
                clear ht'
                rcases ht3' with rfl | rfl | rfl
                · rw [show st (-1) = ((1 : Int), false) by decide] at cl0' cl1'
                  have HI4 := Lib.hid (HI3.out.alloc (.cells #[.int .i64 1, .bool false] 55))
                  go_wp2_with fail
                  go_quiet (fail)
                  go_wp2
                  go_roundw
                  case rel => exact ⟨q + 1, by omega, by go_num, HI4.out.drewN _⟩
                  case measure => simp [intOf]; omega
                · rw [show st 0 = ((0 : Int), false) by decide] at cl0' cl1'
                  have HI4 := Lib.hid (HI3.out.alloc (.cells #[.int .i64 0, .bool false] 55))
                  go_wp2_with fail
                  go_quiet (fail)
                  go_wp2
                  go_roundw
                  case rel => exact ⟨q + 1, by omega, by go_num, HI4.out.drewN _⟩
                  case measure => simp [intOf]; omega
                · rw [show st 1 = ((0 : Int), true) by decide] at cl0' cl1'
                  have HI4 := Lib.hid (HI3.out.alloc (.cells #[.int .i64 0, .bool true] 55))
                  go_wp2_with fail
                  go_quiet (fail)
                  go_wp2
                  go_roundw
                  case rel => exact ⟨q + 1, by omega, by go_num, HI4.out.drewN _⟩
                  case measure => simp [intOf]; omega
              · go_wp2
                go_roundw
                case rel => exact ⟨k + 1, _, lb, by omega, by go_num, rfl, HI3.out⟩
                case measure => simp [intOf]; omega
        · have hn2 : (a.tmod 2 != 0) = true := by simp at ha ⊢; exact ha
          rcases HT3.out with ht4 | ht4 | ht4
          · obtain rfl : t = -1 := ht4
            have hgs2 : (ts.map st)[j]? = some (((1 : Int), false)) := by rw [HGS.out]; rfl
            go_wp2_with fail
            rw [HJ3.out]
            try rw [HJ.out]
            refine (Park.readyTop_yes (some la) N N j (ts.map st) 1 false _ HA.out.2.2.2.1 HRT.out hj hgs2 (by decide)).mono ?_
            rintro e w1 ⟨⟨lb, rfl, hrd⟩, hb1⟩
            have HA1 := Lib.hid (HA.out.below hb1)
            have ct1 : w1.cell? ⟨w.heap.size + 1, j, none⟩ = some (.int .i64 (-1)) := (hb1.cell (p := ⟨w.heap.size + 1, j, none⟩) (by simp; omega)).trans (by rw [World.cell?_alloc_lt wr _ _ (by show w.heap.size + 1 < _; omega)]; exact ct0)
            have cf1 : w1.frozen? ⟨w.heap.size + 1, j, none⟩ = false := HA1.out.2.2.1.frozen j
            have hx0 : w1.cell? ⟨wr.heap.size, 0, none⟩ = some (.int .i64 a) := (hb1.cell (p := ⟨wr.heap.size, 0, none⟩) (by simp)).trans (by simp)
            have hinv2 := Inv.step HA.out hb1 (by omega) (show (0 : Int) = -1 ∨ (0 : Int) = 0 ∨ (0 : Int) = 1 by omega) (show (Park.readyOne (1, false)).2 = st (0) by decide) hrd
            have HI2 := Lib.hid hinv2
            have hjn : ((j : Int) < N) := by omega
            clear hrd hb1 hinv2 hgs2 ct0 cf0
            go_wp2_with fail
            obtain ⟨wo, rfl⟩ : ∃ wo : World, wo = wr := ⟨_, rfl⟩
            go_loopw [116] (fun i wr => ∃ q : Nat, q ≤ N ∧ i = .int .i64 q ∧ Inv w (w.heap.size + 1) N (ts.set j (0)) lb wr) (fun i _ => N - (intOf i).toNat)
            case atStart => exact ⟨0, Nat.zero_le _, rfl, HI2.out⟩
            case round =>
              obtain ⟨q, hq, rfl, hinv⟩ := hrel
              have HI3 := Lib.hid hinv
              clear hinv ct1 cf1 hx0 hc0 hc1
              by_cases hql : q < N
              · obtain ⟨t', ht', ht3', ct', cf', cl0', cl1'⟩ := HI3.out.row hql
                have hTl : w.heap.size + 1 < wr.heap.size := HI3.out.2.2.1.lt
                have hqi : (q : Int) < N := by omega
                have hqo : (0 : Int) ≤ q := by omega
                clear ht'
                rcases ht3' with rfl | rfl | rfl
                · rw [show st (-1) = ((1 : Int), false) by decide] at cl0' cl1'
                  have HI4 := Lib.hid (HI3.out.alloc (.cells #[.int .i64 1, .bool false] 55))
                  go_wp2_with fail
                  go_quiet (fail)
                  go_wp2
                  go_roundw
                  case rel => exact ⟨q + 1, by omega, by go_num, HI4.out.drewN _⟩
                  case measure => simp [intOf]; omega
                · rw [show st 0 = ((0 : Int), false) by decide] at cl0' cl1'
                  have HI4 := Lib.hid (HI3.out.alloc (.cells #[.int .i64 0, .bool false] 55))
                  go_wp2_with fail
                  go_quiet (fail)
                  go_wp2
                  go_roundw
                  case rel => exact ⟨q + 1, by omega, by go_num, HI4.out.drewN _⟩
                  case measure => simp [intOf]; omega
                · rw [show st 1 = ((0 : Int), true) by decide] at cl0' cl1'
                  have HI4 := Lib.hid (HI3.out.alloc (.cells #[.int .i64 0, .bool true] 55))
                  go_wp2_with fail
                  go_quiet (fail)
                  go_wp2
                  go_roundw
                  case rel => exact ⟨q + 1, by omega, by go_num, HI4.out.drewN _⟩
                  case measure => simp [intOf]; omega
              · go_wp2
                go_roundw
                case rel => exact ⟨k + 1, _, lb, by omega, by go_num, rfl, HI3.out⟩
                case measure => simp [intOf]; omega
          · obtain rfl : t = 0 := ht4
            have hgs2 : (ts.map st)[j]? = some (((0 : Int), false)) := by rw [HGS.out]; rfl
            go_wp2_with fail
            rw [HJ3.out]
            try rw [HJ.out]
            refine (Park.readyTop_yes (some la) N N j (ts.map st) 0 false _ HA.out.2.2.2.1 HRT.out hj hgs2 (by decide)).mono ?_
            rintro e w1 ⟨⟨lb, rfl, hrd⟩, hb1⟩
            have HA1 := Lib.hid (HA.out.below hb1)
            have ct1 : w1.cell? ⟨w.heap.size + 1, j, none⟩ = some (.int .i64 (0)) := (hb1.cell (p := ⟨w.heap.size + 1, j, none⟩) (by simp; omega)).trans (by rw [World.cell?_alloc_lt wr _ _ (by show w.heap.size + 1 < _; omega)]; exact ct0)
            have cf1 : w1.frozen? ⟨w.heap.size + 1, j, none⟩ = false := HA1.out.2.2.1.frozen j
            have hx0 : w1.cell? ⟨wr.heap.size, 0, none⟩ = some (.int .i64 a) := (hb1.cell (p := ⟨wr.heap.size, 0, none⟩) (by simp)).trans (by simp)
            have hinv2 := Inv.step HA.out hb1 (by omega) (show (1 : Int) = -1 ∨ (1 : Int) = 0 ∨ (1 : Int) = 1 by omega) (show (Park.readyOne (0, false)).2 = st (1) by decide) hrd
            have HI2 := Lib.hid hinv2
            have hjn : ((j : Int) < N) := by omega
            clear hrd hb1 hinv2 hgs2 ct0 cf0
            go_wp2_with fail
            obtain ⟨wo, rfl⟩ : ∃ wo : World, wo = wr := ⟨_, rfl⟩
            go_loopw [116] (fun i wr => ∃ q : Nat, q ≤ N ∧ i = .int .i64 q ∧ Inv w (w.heap.size + 1) N (ts.set j (1)) lb wr) (fun i _ => N - (intOf i).toNat)
            case atStart => exact ⟨0, Nat.zero_le _, rfl, HI2.out⟩
            case round =>
              obtain ⟨q, hq, rfl, hinv⟩ := hrel
              have HI3 := Lib.hid hinv
              clear hinv ct1 cf1 hx0 hc0 hc1
              by_cases hql : q < N
              · obtain ⟨t', ht', ht3', ct', cf', cl0', cl1'⟩ := HI3.out.row hql
                have hTl : w.heap.size + 1 < wr.heap.size := HI3.out.2.2.1.lt
                have hqi : (q : Int) < N := by omega
                have hqo : (0 : Int) ≤ q := by omega
                clear ht'
                rcases ht3' with rfl | rfl | rfl
                · rw [show st (-1) = ((1 : Int), false) by decide] at cl0' cl1'
                  have HI4 := Lib.hid (HI3.out.alloc (.cells #[.int .i64 1, .bool false] 55))
                  go_wp2_with fail
                  go_quiet (fail)
                  go_wp2
                  go_roundw
                  case rel => exact ⟨q + 1, by omega, by go_num, HI4.out.drewN _⟩
                  case measure => simp [intOf]; omega
                · rw [show st 0 = ((0 : Int), false) by decide] at cl0' cl1'
                  have HI4 := Lib.hid (HI3.out.alloc (.cells #[.int .i64 0, .bool false] 55))
                  go_wp2_with fail
                  go_quiet (fail)
                  go_wp2
                  go_roundw
                  case rel => exact ⟨q + 1, by omega, by go_num, HI4.out.drewN _⟩
                  case measure => simp [intOf]; omega
                · rw [show st 1 = ((0 : Int), true) by decide] at cl0' cl1'
                  have HI4 := Lib.hid (HI3.out.alloc (.cells #[.int .i64 0, .bool true] 55))
                  go_wp2_with fail
                  go_quiet (fail)
                  go_wp2
                  go_roundw
                  case rel => exact ⟨q + 1, by omega, by go_num, HI4.out.drewN _⟩
                  case measure => simp [intOf]; omega
              · go_wp2
                go_roundw
                case rel => exact ⟨k + 1, _, lb, by omega, by go_num, rfl, HI3.out⟩
                case measure => simp [intOf]; omega
          · obtain rfl : t = 1 := ht4
            have hgs2 : (ts.map st)[j]? = some (((0 : Int), true)) := by rw [HGS.out]; rfl
            go_wp2_with fail
            rw [HJ3.out]
            try rw [HJ.out]
            refine (Park.readyTop_no (some la) N N j (ts.map st) 0 true _ HA.out.2.2.2.1 HRT.out hj hgs2 (by decide)).mono ?_
            rintro e w1 ⟨rfl, hb1⟩
            rw [show (Park.readyOne (((0 : Int), true))).1 = 7 by decide]
            have HA1 := Lib.hid (HA.out.below hb1)
            have ct1 : w1.cell? ⟨w.heap.size + 1, j, none⟩ = some (.int .i64 (1)) := (hb1.cell (p := ⟨w.heap.size + 1, j, none⟩) (by simp; omega)).trans (by rw [World.cell?_alloc_lt wr _ _ (by show w.heap.size + 1 < _; omega)]; exact ct0)
            have hx0 : w1.cell? ⟨wr.heap.size, 0, none⟩ = some (.int .i64 a) := (hb1.cell (p := ⟨wr.heap.size, 0, none⟩) (by simp)).trans (by simp)
            have hjn : ((j : Int) < N) := by omega
            clear hb1 hgs2 ct0 cf0
            go_wp2_with fail
            go_roundw
            case rel => exact ⟨k + 1, ts, la, by omega, by go_num, rfl, HA1.out⟩
            case measure => simp [intOf]; omega
      · go_wp2_with fail
        refine (Park.alive_any _).mono ?_
        rintro e w1 ⟨rfl, hb1⟩
        have HB1 := Lib.hid (bthen HI.out.2.2.2.2.1 hb1)
        clear hb1
        go_wp2_with fail
        go_ret
        exact ⟨rfl, HB1.out⟩
end parkOnce
end Go.Proofs.Yteejgejeggackaa
