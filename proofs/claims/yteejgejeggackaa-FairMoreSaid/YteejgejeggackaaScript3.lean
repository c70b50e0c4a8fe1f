/-
  The contract of script.Time.
-/
import Derived.Test.YteejgejeggackaaScript2
namespace Go.Proofs.Yteejgejeggackaa
open Go.RowKit Go.Shelf
namespace Script
def tstep (t : Option Int) (v : Int) : Option Int := t.bind fun t => if (pick v).1 = 1 then if t + (pick v).2 ≤ 4611686018427387904 then some (t + (pick v).2) else none else some t
def timeOf (zs : List Int) : Option Int := zs.foldl tstep (some 0)
theorem timeOf_snoc (pre : List Int) (x : Int) : timeOf (pre ++ [x]) = tstep (timeOf pre) x := by simp [timeOf]
theorem fold_none (zs : List Int) : zs.foldl tstep none = none := by
  induction zs with
  | nil => rfl
  | cons z zs ih => exact ih
theorem timeOf_prefix {pre zs : List Int} (h : pre <+: zs) (hn : timeOf pre = none) : timeOf zs = none := by
  obtain ⟨r, rfl⟩ := h
  unfold timeOf at hn ⊢
  rw [List.foldl_append, hn, fold_none]
theorem pick_bd (v : Int) : 0 ≤ (pick v).2 ∧ (pick v).2 ≤ 4611686018427387904 := by
  unfold pick
  split <;> simp <;> omega
theorem pick_kind (v : Int) : (pick v).1 = 0 ∨ (pick v).1 = 1 := by
  unfold pick
  split <;> simp
/-- What Time hands back. -/
def TimeOf (zs : List Int) (e : Ending) : Prop := (∃ t, timeOf zs = some t ∧ 0 ≤ t ∧ t ≤ 4611686018427387904 ∧ e = .returned (.tuple #[.int .i64 t, .int .i64 0])) ∨ (timeOf zs = none ∧ e = .returned (.tuple #[.int .i64 0, .int .i64 10]))

attribute [local go_sem] Oper.semAt_some

set_option maxRecDepth 100000 in
set_option maxHeartbeats 4000000 in
theorem time_in (A : Option Addr) (len cap : Nat) (zs : List Int) (hlen : len ≤ 1000000) (w : World) (hr : Reads w w.heap.size 1 A len (zs.map (Value.int .i64))) (hz : ∀ z ∈ zs, -9223372036854775808 ≤ z ∧ z ≤ 9223372036854775807) :
    CallsIn Fence.wide 4 Try.prog 52 #[.slice A len cap] w fun e W' => TimeOf zs e ∧ Below w.heap.size w W' := by
  refine callsIn_of_wp_marks Try.func52 rfl trivial ?_ rfl
  simp only [Try.ntmps52, List.size_toArray, List.length_cons, List.length_nil, Nat.reduceAdd, Nat.reduceSub, Array.replicate_succ, Array.replicate_zero, List.push_toArray, List.append_toArray, List.nil_append, List.cons_append]
  gi_wp2_with fail
  refine ⟨trivial, (picks_in Fence.wide 3 trivial rfl _ _ _ _).mono ?_⟩
  rintro e w' ⟨rfl, rfl⟩
  obtain ⟨W0, hW0⟩ : ∃ W0, ((((w.alloc (.cells #[.int .i64 0] 3)).alloc (.cells #[.int .i64 0] 23)).alloc (.cells #[.int .i64 0] 3)).alloc (.cells #[.slice A len cap] 30)) = W0 := ⟨_, rfl⟩
  have bR : Boxed W0 w.heap.size 3 (.int .i64 0) := by rw [← hW0]; exact (((Boxed.new w 3 (.int .i64 0)).alloc _).alloc _).alloc _
  have bE : Boxed W0 (w.heap.size + 1) 23 (.int .i64 0) := by
    have := ((Boxed.new (w.alloc (.cells #[.int .i64 0] 3)) 23 (.int .i64 0)).alloc (.cells #[.int .i64 0] 3)).alloc (.cells #[.slice A len cap] 30)
    rw [World.size_alloc] at this
    rw [← hW0]; exact this
  have bN : Boxed W0 (w.heap.size + 1 + 1) 3 (.int .i64 0) := by
    have := (Boxed.new ((w.alloc (.cells #[.int .i64 0] 3)).alloc (.cells #[.int .i64 0] 23)) 3 (.int .i64 0)).alloc (.cells #[.slice A len cap] 30)
    rw [World.size_alloc, World.size_alloc] at this
    rw [← hW0]; exact this
  have bP : Boxed W0 (w.heap.size + 1 + 1 + 1) 30 (.slice A len cap) := by
    have := Boxed.new (((w.alloc (.cells #[.int .i64 0] 3)).alloc (.cells #[.int .i64 0] 23)).alloc (.cells #[.int .i64 0] 3)) 30 (.slice A len cap)
    rw [World.size_alloc, World.size_alloc, World.size_alloc] at this
    rw [← hW0]; exact this
  have hsz : W0.heap.size = w.heap.size + 4 := by rw [← hW0]; simp
  have hB0 : Below w.heap.size w W0 := by rw [← hW0]; exact ((((Below.refl _ w).alloc (Nat.le_refl _) _).alloc (by simp) _).alloc (by simp; omega) _).alloc (by simp; omega) _
  gi_wp2
  try rw [hW0]
  refine wpIn_rangeFunc_ownH rfl (by omega) (gf := 94) (lb := #[.pointer (some ⟨w.heap.size + 1 + 1 + 1, 0, none⟩)]) rfl trivial (enters_of Try.func94 (by kernel_rfl) rfl)
    (picks_stops (w.heap.size + 1 + 1 + 1) w.heap.size len cap A zs hlen _ (by omega) (by omega) bP.cell (hr.below hB0) hz) belowK_t (belowK_b (by omega)) (Below.refl _ _) (fun _ => rfl)
    (fun pre W => (((∃ t, (timeOf pre = some t ∧ 0 ≤ t ∧ t ≤ 4611686018427387904) ∧ Boxed W (w.heap.size + 1 + 1) 3 (.int .i64 t)) ∧ Boxed W w.heap.size 3 (.int .i64 0)) ∧ Boxed W (w.heap.size + 1) 23 (.int .i64 0)) ∧ Below w.heap.size w W)
    (fun c pre W => c = .ret ∧ ((Boxed W w.heap.size 3 (.int .i64 0) ∧ Boxed W (w.heap.size + 1) 23 (.int .i64 10)) ∧ Below w.heap.size w W) ∧ timeOf pre = none)
    (OwnFrom.and (OwnFrom.and (OwnFrom.and (fun s X Y row hs hg hrow => by obtain ⟨t, ht, hb⟩ := hs; exact ⟨t, ht, boxed_own (w.heap.size + 1 + 1) 3 (fun (_ : Unit) => Value.int .i64 t) () X Y row hb hg (fun r e => (hrow r e).2)⟩) (Own.from (boxed_own _ _ _) _)) (Own.from (boxed_own _ _ _) _)) (ownFrom_below (Nat.le_refl _) (by omega)))
    (fun c s X Y row hs hg hrow => ⟨hs.1, (OwnFrom.and (OwnFrom.and (Own.from (boxed_own w.heap.size 3 (fun (_ : Unit) => Value.int .i64 0)) W0.heap.size) (Own.from (boxed_own (w.heap.size + 1) 23 (fun (_ : Unit) => Value.int .i64 10)) W0.heap.size)) (ownFrom_below (Nat.le_refl _) (by omega))) () X Y row hs.2.1 hg hrow, hs.2.2⟩)
    ⟨⟨⟨⟨0, ⟨rfl, by omega, by omega⟩, bN⟩, bR⟩, bE⟩, hB0⟩
    (fun x a' W => ∃ Bx, Blk W Bx 69 #[.int .i64 (pick x).1, .int .i64 (pick x).2] ∧ a' = { tmps := #[.slice A len cap, undef, .pointer (some ⟨w.heap.size, 0, none⟩), .pointer (some ⟨w.heap.size + 1, 0, none⟩), .pointer (some ⟨w.heap.size + 1 + 1, 0, none⟩), .pointer (some ⟨Bx, 0, none⟩), undef, undef, .slice A len cap, .func (.func 94) #[] #[.pointer (some ⟨w.heap.size + 1 + 1 + 1, 0, none⟩)], .agg #[.int .i64 (pick x).1, .int .i64 (pick x).2], undef, undef, undef, undef, undef, undef, undef, undef, undef, undef, undef, undef, undef, undef, undef], defers := [] })
    (fun x a' _ X Y row hs hg hr => by obtain ⟨Bx, h2, h3⟩ := hs; exact ⟨Bx, blk_own Bx 69 _ () X Y row h2 hg (fun r e => (hr r e).2), h3⟩)
    ?assign ?body ?done ?stop
  case assign =>
    rintro l pre x W K ⟨⟨⟨⟨t, ht, hn⟩, h1⟩, h2⟩, hB⟩ hK
    simp only [val]
    gi_wp2
    exact hK _ _ ((KeepsOthers.alloc _ _).from _) ((Below.refl _ W).alloc hB.size _) ⟨⟨⟨⟨t, ht, hn.alloc _⟩, h1.alloc _⟩, h2.alloc _⟩, hB.alloc hB.size _⟩ ⟨W.heap.size, Blk.new W _ _, rfl⟩
  case body =>
    rintro l pre x a' W hl _ ⟨⟨⟨⟨t, ht, hn⟩, h1⟩, h2⟩, hB⟩ ⟨Bx, hbx, rfl⟩ hlt
    have cn := hn.cell
    have fn := hn.frozen
    have cr := h1.cell
    have fr := h1.frozen
    have ce := h2.cell
    have fe := h2.frozen
    have hx0 : W.cell? ⟨Bx, 0, none⟩ = some (.int .i64 (pick x).1) := by rw [hbx.cell]; rfl
    have hx1 : W.cell? ⟨Bx, 1, none⟩ = some (.int .i64 (pick x).2) := by rw [hbx.cell]; rfl
    have hpb := pick_bd x
    have hpk := pick_kind x
    have hstep : Hid (timeOf (pre ++ [x]) = if (pick x).1 = 1 then if t + (pick x).2 ≤ 4611686018427387904 then some (t + (pick x).2) else none else some t) := by
      unfold Hid; rw [timeOf_snoc, ht.1]; rfl
    obtain ⟨a, ha⟩ : ∃ a, (pick x).1 = a := ⟨_, rfl⟩
    obtain ⟨b, hb⟩ : ∃ b, (pick x).2 = b := ⟨_, rfl⟩
    rw [ha, hb] at hstep
    rw [ha] at hx0 hpk
    rw [hb] at hx1 hpb
    rw [ha, hb]
    have HT := Lib.hid ht.1
    obtain ⟨_, t0, t1⟩ := ht
    clear ha hb hbx
    rcases hpk with rfl | rfl
    · have hs0 : Hid (timeOf (pre ++ [x]) = some t) := by unfold Hid; rw [hstep.out]; rfl
      clear hstep
      gi_wp2
      exact ⟨KeepsFrom.refl _ _, Below.refl _ _, ⟨⟨⟨⟨t, ⟨hs0.out, t0, t1⟩, hn⟩, h1⟩, h2⟩, hB⟩⟩
    · by_cases hov : t + b ≤ 4611686018427387904
      · have hs0 : Hid (timeOf (pre ++ [x]) = some (t + b)) := by unfold Hid; rw [hstep.out, if_pos rfl, if_pos hov]
        clear hstep
        gi_wp2_with fail
        refine ⟨trivial, (CallsIn.inRound l (callsIn_wide.2 (Clock.tick_yes t b (Clock.right_of t0 t1) (Clock.right_of hpb.1 hpb.2) hov _))).mono ?_⟩
        rintro e w1 ⟨rfl, hb1⟩
        have hg1 := below_grown hb1
        have gn := hn.kept hg1 (by simp)
        have g1 := h1.kept hg1 (by simp)
        have g2 := h2.kept hg1 (by simp)
        have cn1 := gn.cell
        have fn1 := gn.frozen
        have HB1 := Lib.hid hb1
        clear hb1
        gi_wp2
        have hk : KeepsOthers W w1 := KeepsOthers.of_grownBy hg1 (fun j o ej hj => by cases ej)
        have hbb := HB1.out.mono hB.size
        refine ⟨(hk.trans (KeepsOthers.setCell _ _ _)).from _, hbb.setCell (p := ⟨w.heap.size + 1 + 1, 0, none⟩) (by simp; omega) _, ⟨⟨⟨⟨_, ⟨hs0.out, by omega, hov⟩, gn.set _⟩, g1.other (by omega) _⟩, g2.other (by omega) _⟩, (hB.trans hbb).setCell (p := ⟨w.heap.size + 1 + 1, 0, none⟩) (by simp; omega) _⟩⟩
      · have hs0 : Hid (timeOf (pre ++ [x]) = none) := by unfold Hid; rw [hstep.out, if_pos rfl, if_neg hov]
        clear hstep
        gi_wp2_with fail
        refine ⟨trivial, (CallsIn.inRound l (callsIn_wide.2 (Clock.tick_over t b (Clock.right_of t0 t1) (Clock.right_of hpb.1 hpb.2) (by omega) _))).mono ?_⟩
        rintro e w1 ⟨rfl, hb1⟩
        have hg1 := below_grown hb1
        have gn := hn.kept hg1 (by simp)
        have g1 := h1.kept hg1 (by simp)
        have g2 := h2.kept hg1 (by simp)
        have cr1 := g1.cell
        have fr1 := g1.frozen
        have ce1 := g2.cell
        have fe1 := g2.frozen
        have HB1 := Lib.hid hb1
        clear hb1
        gi_wp2
        have hk : KeepsOthers W w1 := KeepsOthers.of_grownBy hg1 (fun j o ej hj => by cases ej)
        have hbb := HB1.out.mono hB.size
        exact ⟨((hk.trans (KeepsOthers.setCell _ _ _)).trans (KeepsOthers.setCell _ _ _)).from _, rfl, ⟨⟨(g1.set _).other (by omega) _, (g2.other (by omega) _).set _⟩, ((hB.trans hbb).setCell (p := ⟨w.heap.size, 0, none⟩) (by simp) _).setCell (p := ⟨w.heap.size + 1, 0, none⟩) (by simp) _⟩, hs0.out⟩
  case done =>
    rintro D ys W hD rfl ⟨⟨⟨⟨t, ht, hn⟩, h1⟩, h2⟩, hB⟩ hK
    have cn := hn.cell
    have cr := h1.cell
    have fr := h1.frozen
    have ce := h2.cell
    have fe := h2.frozen
    gi_wp2
    have hK2 := (((KeepsOthers.setCell W ⟨w.heap.size, 0, none⟩ (.int .i64 t)).trans (KeepsOthers.setCell _ ⟨w.heap.size + 1, 0, none⟩ (.int .i64 0))).same D _ hK rfl)
    refine ⟨by simp, .inl ⟨_, _, rfl, run_takeDeferred hK2, ?_⟩⟩
    have kR := (((h1.set (.int .i64 t)).other (B' := w.heap.size + 1) (by omega) (.int .i64 0)).kept (grownBy_putObj' _ D (.deferred none)) (by simp; omega)).cell
    have kE := (((h2.other (B' := w.heap.size) (by omega) (.int .i64 t)).set (.int .i64 0)).kept (grownBy_putObj' _ D (.deferred none)) (by simp; omega)).cell
    have hB2 := ((hB.setCell (p := ⟨w.heap.size, 0, none⟩) (Nat.le_refl _) (.int .i64 t)).setCell (p := ⟨w.heap.size + 1, 0, none⟩) (by simp) (.int .i64 0))
    exact ⟨.tuple #[.int .i64 t, .int .i64 0], by simp [results, Try.results52, go_sem, kR, kE], .inl ⟨t, ht.1, ht.2.1, ht.2.2, rfl⟩, hB2.trans (belowK_b (w := w) (Nat.le_refl _) _ D _ _ (by omega) hK2 rfl rfl)⟩
  case stop =>
    rintro D c pre W hD hp ⟨rfl, ⟨⟨h1, h2⟩, hB⟩, hn⟩ hK
    have cr := h1.cell
    have ce := h2.cell
    gi_wp2
    refine ⟨by simp, .inl ⟨_, _, rfl, run_takeDeferred hK, ?_⟩⟩
    have kR := (h1.kept (grownBy_putObj' _ D (.deferred none)) (by simp; omega)).cell
    have kE := (h2.kept (grownBy_putObj' _ D (.deferred none)) (by simp; omega)).cell
    exact ⟨.tuple #[.int .i64 0, .int .i64 10], by simp [results, Try.results52, go_sem, kR, kE], .inr ⟨timeOf_prefix hp hn, rfl⟩, hB.trans (belowK_b (w := w) (Nat.le_refl _) W D _ _ (by omega) hK rfl rfl)⟩
theorem time_any (A : Option Addr) (len cap : Nat) (zs : List Int) (hlen : len ≤ 1000000) (w : World) (hr : Reads w w.heap.size 1 A len (zs.map (Value.int .i64))) (hz : ∀ z ∈ zs, -9223372036854775808 ≤ z ∧ z ≤ 9223372036854775807) :
    Calls Try.prog 52 #[.slice A len cap] w fun e W' => TimeOf zs e ∧ Below w.heap.size w W' :=
  (callsIn_wide (n := 4)).1 (time_in A len cap zs hlen w hr hz)
end Script
end Go.Proofs.Yteejgejeggackaa
