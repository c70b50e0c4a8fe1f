/-
  The contracts of script.All (as a row that reads), script.Share and script.Time.
-/
import Derived.Test.YteejgejeggackaaScript
import Derived.Test.YteejgejeggackaaClock
import Derived.Test.YteejgejeggackaaParkWith
namespace Go.Proofs.Yteejgejeggackaa
open Go.RowKit Go.Shelf
namespace Script
def AllOf (zs : List Int) (w0 : World) (e : Ending) (w' : World) : Prop := ∃ B c, e = .returned (.slice B zs.length c) ∧ Reads w' w'.heap.size 2 B zs.length (zs.flatMap pcells) ∧ zs.length ≤ c ∧ c ≤ maxLen ∧ w'.ownsRow w0.heap.size 69 2 (.slice B zs.length c) zs.length (zs.flatMap pcells)
theorem all_any (A : Option Addr) (len cap : Nat) (zs : List Int) (hlen : len ≤ 1000000) (w : World) (hr : Reads w w.heap.size 1 A len (zs.map (Value.int .i64))) (hz : ∀ z ∈ zs, -9223372036854775808 ≤ z ∧ z ≤ 9223372036854775807) :
    Calls Try.prog 51 #[.slice A len cap] w fun e w' => AllOf zs w e w' ∧ Below w.heap.size w w' := by
  refine (callsIn_wide (n := 4)).1 ((all_in A len cap zs hlen w hr hz).mono ?_)
  rintro e w' ⟨v, rfl, ho, hb⟩
  obtain rfl := hr.int_len
  refine ⟨?_, hb⟩
  have ho2 := ho
  rcases ho.2 with ⟨rfl, h0⟩ | ⟨g, c, cur, rfl, _, _, h1, h2, _⟩
  · refine ⟨none, 0, by rw [h0], ?_, by omega, by simp [maxLen], by rw [h0] at ho2 ⊢; exact ho2⟩
    rw [h0] at ho ⊢
    exact Reads.of_own ho
  · exact ⟨_, c, rfl, Reads.of_own ho, h1, h2, ho2⟩

theorem pick_eqIn (d : Nat) (a b c e : Int) (w : World) : (Op.equalIn (d + 2) 69 (.agg #[.int .i64 a, .int .i64 b]) (.agg #[.int .i64 c, .int .i64 e])).run Try.prog w = .ok (a == c && b == e) w := by
  have u3 := Try.underlying3
  have a3 := Try.isAgg3
  have z3 := Try.sizeOf3
  have hS : Try.prog.underlying 69 = some (.struct (Try.prog.fieldsOf 69)) := by kernel_rfl
  have hp : Try.prog.stoodInHeld 69 = false := by kernel_rfl
  rw [run_equalIn_agg w (d + 1) 69 _ _ hS hp]
  simp only [Program.fieldsOf, Try.underlying69]
  go_simp
  by_cases h1 : a = c <;> by_cases h2 : b = e <;> simp [h1, h2]
theorem pick_eql (a b c e : Int) (w : World) : (binOp .eql 69 (.agg #[.int .i64 a, .int .i64 b]) (.agg #[.int .i64 c, .int .i64 e])).run Try.prog w = .ok (.bool (a == c && b == e)) w := by
  rw [run_eql_struct, show (10000 : Nat) = 9998 + 2 from rfl, pick_eqIn]
  rfl
theorem pick_neq (a b c e : Int) (w : World) : (binOp .neq 69 (.agg #[.int .i64 a, .int .i64 b]) (.agg #[.int .i64 c, .int .i64 e])).run Try.prog w = .ok (.bool (!(a == c && b == e))) w := by
  rw [run_neq_struct, show (10000 : Nat) = 9998 + 2 from rfl, pick_eqIn]
  rfl
theorem pick_guard (op : BinOp) (x y : Operand) (a b c e : Int) (w : World) : (eqGuard op 69 x y (.agg #[.int .i64 a, .int .i64 b]) (.agg #[.int .i64 c, .int .i64 e])).run Try.prog w = .ok () w := by
  exact run_eqGuard_agg w _ _ _ _ _ _ (by kernel_rfl)

/-! Share -/
def share (who : Int) (zs : List Int) : Nat := zs.countP fun z => (pick z).1 == 0 && (pick z).2 == who
theorem share_snoc (who : Int) (pre : List Int) (x : Int) : share who (pre ++ [x]) = share who pre + if ((pick x).1 == 0 && (pick x).2 == who) = true then 1 else 0 := by
  unfold share
  rw [List.countP_append, List.countP_singleton]
theorem share_le (who : Int) (pre : List Int) : share who pre ≤ pre.length := List.countP_le_length

attribute [local go_sem] Oper.semAt_some

set_option maxRecDepth 100000 in
set_option maxHeartbeats 4000000 in
theorem share_in (A : Option Addr) (len cap : Nat) (zs : List Int) (who : Int) (hlen : len ≤ 1000000) (w : World) (hr : Reads w w.heap.size 1 A len (zs.map (Value.int .i64))) (hz : ∀ z ∈ zs, -9223372036854775808 ≤ z ∧ z ≤ 9223372036854775807) :
    CallsIn Fence.wide 4 Try.prog 57 #[.slice A len cap, .int .i64 who] w fun e W' => e = .returned (.int .i64 (share who zs)) ∧ Below w.heap.size w W' := by
  refine callsIn_of_wp_marks Try.func57 rfl trivial ?_ rfl
  simp only [Try.ntmps57, List.size_toArray, List.length_cons, List.length_nil, Nat.reduceAdd, Nat.reduceSub, Array.replicate_succ, Array.replicate_zero, List.push_toArray, List.append_toArray, List.nil_append, List.cons_append]
  gi_wp2_with fail
  refine ⟨trivial, (picks_in Fence.wide 3 trivial rfl _ _ _ _).mono ?_⟩
  rintro e w' ⟨rfl, rfl⟩
  obtain ⟨W0, hW0⟩ : ∃ W0, (((w.alloc (.cells #[.int .i64 who] 3)).alloc (.cells #[.int .i64 0] 3)).alloc (.cells #[.slice A len cap] 30)) = W0 := ⟨_, rfl⟩
  have bW : Boxed W0 w.heap.size 3 (.int .i64 who) := by rw [← hW0]; exact ((Boxed.new w 3 (.int .i64 who)).alloc _).alloc _
  have bN : Boxed W0 (w.heap.size + 1) 3 (.int .i64 0) := by
    have := (Boxed.new (w.alloc (.cells #[.int .i64 who] 3)) 3 (.int .i64 0)).alloc (.cells #[.slice A len cap] 30)
    rw [World.size_alloc] at this
    rw [← hW0]; exact this
  have bP : Boxed W0 (w.heap.size + 1 + 1) 30 (.slice A len cap) := by
    have := Boxed.new ((w.alloc (.cells #[.int .i64 who] 3)).alloc (.cells #[.int .i64 0] 3)) 30 (.slice A len cap)
    rw [World.size_alloc, World.size_alloc] at this
    rw [← hW0]; exact this
  have hsz : W0.heap.size = w.heap.size + 3 := by rw [← hW0]; simp
  have hB0 : Below w.heap.size w W0 := by rw [← hW0]; exact (((Below.refl _ w).alloc (Nat.le_refl _) _).alloc (by simp) _).alloc (by simp; omega) _
  gi_wp2
  try rw [hW0]
  refine wpIn_rangeFunc_ownH rfl (by omega) (gf := 94) (lb := #[.pointer (some ⟨w.heap.size + 1 + 1, 0, none⟩)]) rfl trivial (enters_of Try.func94 (by kernel_rfl) rfl)
    (picks_stops (w.heap.size + 1 + 1) w.heap.size len cap A zs hlen _ (by omega) (by omega) bP.cell (hr.below hB0) hz) belowK_t (belowK_b (by omega)) (Below.refl _ _) (fun _ => rfl)
    (fun pre W => (Boxed W (w.heap.size + 1) 3 (.int .i64 (share who pre)) ∧ Boxed W w.heap.size 3 (.int .i64 who)) ∧ Below w.heap.size w W)
    (fun _ _ _ => False)
    (OwnFrom.and (OwnFrom.and (Own.from (boxed_own _ _ _) _) (Own.from (boxed_own _ _ _) _)) (ownFrom_below (Nat.le_refl _) (by omega)))
    (fun _ _ _ _ _ hs _ _ => hs)
    ⟨⟨bN, bW⟩, hB0⟩
    (fun x a' W => ∃ Bx, Blk W Bx 69 #[.int .i64 (pick x).1, .int .i64 (pick x).2] ∧ a' = { tmps := #[.slice A len cap, .int .i64 who, undef, .pointer (some ⟨w.heap.size, 0, none⟩), .int .i64 0, .pointer (some ⟨w.heap.size + 1, 0, none⟩), .pointer (some ⟨Bx, 0, none⟩), .slice A len cap, .func (.func 94) #[] #[.pointer (some ⟨w.heap.size + 1 + 1, 0, none⟩)], .agg #[.int .i64 (pick x).1, .int .i64 (pick x).2], undef, undef, undef, undef, undef, undef, undef], defers := [] })
    (fun x a' _ X Y row hs hg hr => by obtain ⟨Bx, h2, h3⟩ := hs; exact ⟨Bx, blk_own Bx 69 _ () X Y row h2 hg (fun r e => (hr r e).2), h3⟩)
    ?assign ?body ?done ?stop
  case assign =>
    rintro l pre x W K ⟨⟨hn, hw⟩, hB⟩ hK
    simp only [val]
    gi_wp2
    exact hK _ _ ((KeepsOthers.alloc _ _).from _) ((Below.refl _ W).alloc hB.size _) ⟨⟨hn.alloc _, hw.alloc _⟩, hB.alloc hB.size _⟩ ⟨W.heap.size, Blk.new W _ _, rfl⟩
  case body =>
    rintro l pre x a' W hl _ ⟨⟨hn, hw⟩, hB⟩ ⟨Bx, hbx, rfl⟩ hlt
    have cn := hn.cell
    have fn := hn.frozen
    have cw := hw.cell
    have hx0 : W.cell? ⟨Bx, 0, none⟩ = some (.int .i64 (pick x).1) := by rw [hbx.cell]; rfl
    have hx1 : W.cell? ⟨Bx, 1, none⟩ = some (.int .i64 (pick x).2) := by rw [hbx.cell]; rfl
    have hle := share_le who pre
    have hsn := Lib.hid (share_snoc who pre x)
    have heq := pick_eql (pick x).1 (pick x).2 0 who
    have hgd := fun a b => pick_guard .eql a b (pick x).1 (pick x).2 0 who
    generalize (pick x).1 = a at *
    generalize (pick x).2 = b at *
    cases ht : (a == 0 && b == who)
    · rw [ht] at heq hsn
      gi_wp2
      exact ⟨KeepsFrom.refl _ _, Below.refl _ _, ⟨⟨by rw [hsn.out]; exact hn, hw⟩, hB⟩⟩
    · rw [ht] at heq hsn
      gi_wp2
      exact ⟨(KeepsOthers.setCell _ _ _).from _, (Below.refl _ W).setCell (p := ⟨w.heap.size + 1, 0, none⟩) (by simp) _, ⟨⟨by rw [hsn.out]; exact hn.set _, hw.other (by omega) _⟩, hB.setCell (p := ⟨w.heap.size + 1, 0, none⟩) (by simp) _⟩⟩
  case done =>
    rintro D ys W hD rfl ⟨⟨hn, hw⟩, hB⟩ hK
    have cn := hn.cell
    gi_wp2
    refine ⟨by simp, .inl ⟨_, _, rfl, run_takeDeferred hK, ?_⟩⟩
    exact ⟨_, results_tmp rfl _ _ _, rfl, hB.trans (belowK_b (w := w) (Nat.le_refl _) W D _ _ (by omega) hK rfl rfl)⟩
  case stop =>
    rintro D c pre W _ _ h _
    exact h.elim
theorem share_any (A : Option Addr) (len cap : Nat) (zs : List Int) (who : Int) (hlen : len ≤ 1000000) (w : World) (hr : Reads w w.heap.size 1 A len (zs.map (Value.int .i64))) (hz : ∀ z ∈ zs, -9223372036854775808 ≤ z ∧ z ≤ 9223372036854775807) :
    Calls Try.prog 57 #[.slice A len cap, .int .i64 who] w fun e W' => e = .returned (.int .i64 (share who zs)) ∧ Below w.heap.size w W' :=
  (callsIn_wide (n := 4)).1 (share_in A len cap zs who hlen w hr hz)
end Script
end Go.Proofs.Yteejgejeggackaa
