/-
  The contracts of package park (layer 11).
-/
import Derived.Test.YteejgejeggackaaWords2
namespace Go.Proofs.Yteejgejeggackaa
open Go.RowKit
namespace Park

/-- A goroutine's rest, and its two cells. -/
abbrev G := Int × Bool
def cells (g : G) : List Value := [.int .i64 g.1, .bool g.2]
theorem cells_len (g : G) : (cells g).length = 2 := rfl

theorem at_ {w : World} {B n k : Nat} {A : Option Addr} {gs : List G} (h : Reads w B 2 A n (gs.flatMap cells)) (hk : k < n) :
    ∃ ad s p, A = some ad ∧ ad.block < B ∧ gs[k]? = some (s, p) ∧ w.cell? (ad.add (k * 2)) = some (.int .i64 s) ∧ w.cell? ⟨(ad.add (k * 2)).block, (ad.add (k * 2)).off + 1, none⟩ = some (.bool p) := by
  obtain ⟨ad, hA, hb, hc⟩ := h.2 (by omega)
  have hl : gs.length = n := by have := h.1; rw [flat_len cells 2 cells_len] at this; omega
  have hg : gs[k]? = some gs[k] := List.getElem?_eq_getElem (by omega)
  exact ⟨ad, gs[k].1, gs[k].2, hA, hb, hg, hc _ _ (flat_at cells 2 cells_len gs k 0 _ hg (by omega)), by rw [show (⟨(ad.add (k * 2)).block, (ad.add (k * 2)).off + 1, none⟩ : Addr) = (ad.add (k * 2)).add 1 from rfl, add_of_add]; exact hc _ _ (flat_at cells 2 cells_len gs k 1 _ hg (by omega))⟩
theorem len_ {w : World} {B n : Nat} {A : Option Addr} {gs : List G} (h : Reads w B 2 A n (gs.flatMap cells)) : gs.length = n := by
  have := h.1; rw [flat_len cells 2 cells_len] at this; omega

def odd (g : G) : Bool := decide (g.1 < 0) || decide (2 < g.1) || (g.2 && (g.1 != 0))
def right (gs : List G) : Bool := decide (gs.length ≤ 8) && gs.all (fun g => !odd g)

theorem odd_any (s : Int) (p : Bool) (w : World) : Calls Try.prog 84 #[.agg #[.int .i64 s, .bool p]] w fun e w' => e = .returned (.bool (odd (s, p))) ∧ Below w.heap.size w w' := by
  have hc : (s < 0) ∨ (¬ s < 0 ∧ 2 < s) ∨ (¬ s < 0 ∧ ¬ 2 < s ∧ p = false) ∨ (¬ s < 0 ∧ ¬ 2 < s ∧ p = true) := by cases p <;> simp <;> omega
  rcases hc with h | ⟨h, h2⟩ | ⟨h, h2, rfl⟩ | ⟨h, h2, rfl⟩
  · have : Hid (odd (s, p) = true) := by unfold Hid; simp [odd, h]
    go_enter Try.func84, Try.ntmps84
    go_wp2_with fail
    go_ret
    exact ⟨ret_bool (by rw [this.out]), (Below.refl _ _).alloc (Nat.le_refl _) _⟩
  · have : Hid (odd (s, p) = true) := by unfold Hid; simp [odd, h2]
    go_enter Try.func84, Try.ntmps84
    go_wp2_with fail
    go_ret
    exact ⟨ret_bool (by rw [this.out]), (Below.refl _ _).alloc (Nat.le_refl _) _⟩
  · have : Hid (odd (s, false) = false) := by unfold Hid; simp [odd]; omega
    go_enter Try.func84, Try.ntmps84
    go_wp2_with fail
    go_ret
    exact ⟨ret_bool (by rw [this.out]), (Below.refl _ _).alloc (Nat.le_refl _) _⟩
  · have : Hid (odd (s, true) = (s != 0)) := by unfold Hid; simp [odd]; omega
    go_enter Try.func84, Try.ntmps84
    go_wp2_with fail
    go_ret
    exact ⟨ret_bool (by rw [this.out]), (Below.refl _ _).alloc (Nat.le_refl _) _⟩

theorem idx_any (A : Option Addr) (n c : Nat) (gs : List G) (w : World) (hr : Reads w w.heap.size 2 A n (gs.flatMap cells)) (hn : n ≤ maxLen) :
    Calls Try.prog 93 #[.slice A n c, .func (.func 84) #[] #[]] w fun e w' => (∃ i : Int, -1 ≤ i ∧ e = .returned (.int .i64 i) ∧ (0 ≤ i ↔ ∃ g ∈ gs, odd g = true)) ∧ Below w.heap.size w w' := by
  unfold maxLen at hn
  have hl := len_ hr
  have HL := Lib.hid hl
  clear hl
  go_enter Try.func93, Try.ntmps93
  go_wp2_with fail
  go_loopw [8] (fun i wr => ∃ k : Nat, k ≤ n ∧ i = .int .i64 k ∧ (∀ g ∈ gs.take k, odd g = false) ∧ Below w.heap.size w wr) (fun i _ => n - (intOf i).toNat)
  case atStart => exact ⟨0, Nat.zero_le _, rfl, by simp, Below.refl _ _⟩
  case round =>
    obtain ⟨k, hk, rfl, hall, hbw⟩ := hrel
    have HALL := Lib.hid hall
    have hrr := hr.below hbw
    clear hall
    by_cases hlt : k < n
    · obtain ⟨ad, s, p, rfl, hb, hg, hc0, hc1⟩ := at_ hrr hlt
      have HG := Lib.hid hg
      have HB := Lib.hid hbw
      clear hg hrr hbw
      go_wp2_with fail
      refine (odd_any s p _).mono ?_
      rintro e w1 ⟨rfl, hb1⟩
      cases ho : odd (s, p) with
      | false =>
        have HO := Lib.hid ho
        have HB1 := Lib.hid (HB.out.trans (hb1.mono HB.out.size))
        clear ho hb1
        go_wp2
        go_roundw
        case rel =>
          refine ⟨k + 1, by omega, by go_num, fun y hy => ?_, HB1.out⟩
          rw [List.take_add_one, HG.out] at hy
          simp at hy
          rcases hy with hy | rfl
          · exact HALL.out y hy
          · exact HO.out
        case measure => simp [intOf]; omega
      | true =>
        have HO := Lib.hid ho
        have HB1 := Lib.hid (HB.out.trans (hb1.mono HB.out.size))
        clear ho hb1
        go_wp2
        go_ret
        exact ⟨⟨k, by omega, rfl, fun _ => ⟨(s, p), List.mem_of_getElem? HG.out, HO.out⟩, fun _ => by omega⟩, HB1.out⟩
    · have HB := Lib.hid hbw
      clear hbw hrr
      go_wp2
      go_ret
      refine ⟨⟨-1, by omega, rfl, fun h => absurd h (by omega), fun ⟨z, hz, hzf⟩ => ?_⟩, HB.out⟩
      have hk' : k = n := by omega
      have h2 := HALL.out z (by rw [hk', ← HL.out, List.take_length]; exact hz)
      rw [h2] at hzf
      cases hzf

theorem contains_any (A : Option Addr) (n c : Nat) (gs : List G) (w : World) (hr : Reads w w.heap.size 2 A n (gs.flatMap cells)) (hn : n ≤ maxLen) :
    Calls Try.prog 85 #[.slice A n c, .func (.func 84) #[] #[]] w fun e w' => e = .returned (.bool (gs.any odd)) ∧ Below w.heap.size w w' := by
  go_enter Try.func85, Try.ntmps85
  go_wp2_with fail
  refine (idx_any A n c gs _ hr hn).mono ?_
  rintro e w' ⟨⟨i, hi, rfl, hiff⟩, hb⟩
  have HI := Lib.hid hiff
  clear hiff
  go_wp2_with fail
  go_ret
  refine ⟨ret_bool ?_, hb⟩
  rw [Bool.eq_iff_iff]
  simp [HI.out]

theorem right_any (A : Option Addr) (n c : Nat) (gs : List G) (w : World) (hr : Reads w w.heap.size 2 A n (gs.flatMap cells)) (hn : n ≤ maxLen) :
    Calls Try.prog 41 #[.slice A n c] w fun e w' => e = .returned (.bool (right gs)) ∧ Below w.heap.size w w' := by
  have hl := len_ hr
  by_cases h : n ≤ 8
  · have hd : decide ((n : Int) ≤ 8) = true := by simp; omega
    have he : Hid (right gs = !gs.any odd) := by unfold Hid right; rw [decide_eq_true (by omega)]; simp [List.all_eq_not_any_not]
    clear hl
    go_enter Try.func41, Try.ntmps41
    go_wp2_with fail
    refine (contains_any A n c gs _ hr hn).mono ?_
    rintro e w' ⟨rfl, hb⟩
    go_wp2_with fail
    go_ret
    exact ⟨ret_bool (by rw [he.out]), hb⟩
  · have hd : decide ((n : Int) ≤ 8) = false := by simp; omega
    have he : Hid (right gs = false) := by unfold Hid right; rw [decide_eq_false (by omega)]; rfl
    clear hl
    go_enter Try.func41, Try.ntmps41
    go_wp2_with fail
    go_ret
    exact ⟨ret_bool (by rw [he.out]), Below.refl _ _⟩
/-! ### One goroutine that is changed. -/

/-- What parking, being told and ending come to: why it is refused, or what is left. -/
def parkOne (g : G) : Int × G := if g.1 ≠ 0 then (6, g) else if g.2 then (0, (g.1, false)) else (0, (1, g.2))
def readyOne (g : G) : Int × G := if g.1 = 2 then (6, g) else if g.2 then (7, g) else (0, (0, g.1 == 0))
def endOne (g : G) : Int × G := if g.1 ≠ 0 then (6, g) else (0, (2, false))

theorem park_any (s : Int) (p : Bool) (B : Nat) (w : World) (hB : Blk w B 108 #[.int .i64 s, .bool p]) :
    Calls Try.prog 79 #[.pointer (some ⟨B, 0, none⟩)] w fun e w' => e = .returned (.int .i64 (parkOne (s, p)).1) ∧ Blk w' B 108 #[.int .i64 (parkOne (s, p)).2.1, .bool (parkOne (s, p)).2.2] ∧ Below B w w' := by
  have hc0 := hB.cell 0
  have hc1 := hB.cell 1
  have hf0 := hB.frozen 0
  have hf1 := hB.frozen 1
  simp at hc0 hc1
  have HB := Lib.hid hB
  clear hB
  rcases (show s ≠ 0 ∨ (s = 0 ∧ p = true) ∨ (s = 0 ∧ p = false) by cases p <;> simp <;> omega) with h | ⟨h, h2⟩ | ⟨h, h2⟩
  · have hn : (s != 0) = true := by simp [h]
    have he : Hid (parkOne (s, p) = (6, (s, p))) := by unfold Hid parkOne; simp_all
    rw [he.out]
    clear he
    go_enter Try.func79, Try.ntmps79
    go_wp2_with fail
    go_ret
    exact ⟨rfl, HB.out, Below.refl _ _⟩
  · subst h h2
    have he : Hid (parkOne (0, true) = (0, (0, false))) := by unfold Hid parkOne; simp_all
    rw [he.out]
    clear he
    go_enter Try.func79, Try.ntmps79
    go_wp2_with fail
    go_ret
    exact ⟨rfl, by simpa using (HB.out).set_ 1 (.bool false), (Below.refl B _).setCell (p := ⟨B, 1, none⟩) (Nat.le_refl _) _⟩
  · subst h h2
    have he : Hid (parkOne (0, false) = (0, (1, false))) := by unfold Hid parkOne; simp_all
    rw [he.out]
    clear he
    go_enter Try.func79, Try.ntmps79
    go_wp2_with fail
    go_ret
    exact ⟨rfl, by simpa using (HB.out).set_ 0 (.int .i64 1), (Below.refl B _).setCell (p := ⟨B, 0, none⟩) (Nat.le_refl _) _⟩

theorem ready_any (s : Int) (p : Bool) (B : Nat) (w : World) (hB : Blk w B 108 #[.int .i64 s, .bool p]) :
    Calls Try.prog 81 #[.pointer (some ⟨B, 0, none⟩)] w fun e w' => e = .returned (.int .i64 (readyOne (s, p)).1) ∧ Blk w' B 108 #[.int .i64 (readyOne (s, p)).2.1, .bool (readyOne (s, p)).2.2] ∧ Below B w w' := by
  have hc0 := hB.cell 0
  have hc1 := hB.cell 1
  have hf0 := hB.frozen 0
  have hf1 := hB.frozen 1
  simp at hc0 hc1
  have HB := Lib.hid hB
  clear hB
  rcases (show s = 2 ∨ (s ≠ 2 ∧ p = true) ∨ (s ≠ 2 ∧ p = false) by cases p <;> simp <;> omega) with h | ⟨h, h2⟩ | ⟨h, h2⟩
  · subst h
    have he : Hid (readyOne (2, p) = (6, (2, p))) := by unfold Hid readyOne; simp_all
    rw [he.out]
    clear he
    go_enter Try.func81, Try.ntmps81
    go_wp2_with fail
    go_ret
    exact ⟨rfl, HB.out, Below.refl _ _⟩
  · have hn : (s == 2) = false := by simp [h]
    subst h2
    have he : Hid (readyOne (s, true) = (7, (s, true))) := by unfold Hid readyOne; simp_all
    rw [he.out]
    clear he
    go_enter Try.func81, Try.ntmps81
    go_wp2_with fail
    go_ret
    exact ⟨rfl, HB.out, Below.refl _ _⟩
  · have hn : (s == 2) = false := by simp [h]
    subst h2
    have he : Hid (readyOne (s, false) = (0, (0, s == 0))) := by unfold Hid readyOne; simp_all
    rw [he.out]
    clear he
    go_enter Try.func81, Try.ntmps81
    go_wp2_with fail
    go_ret
    exact ⟨rfl, by simpa using ((HB.out).set_ 0 (.int .i64 0)).set_ 1 (.bool (s == 0)), ((Below.refl B _).setCell (p := ⟨B, 0, none⟩) (Nat.le_refl _) _).setCell (p := ⟨B, 1, none⟩) (Nat.le_refl _) _⟩

theorem end_any (s : Int) (p : Bool) (B : Nat) (w : World) (hB : Blk w B 108 #[.int .i64 s, .bool p]) :
    Calls Try.prog 83 #[.pointer (some ⟨B, 0, none⟩)] w fun e w' => e = .returned (.int .i64 (endOne (s, p)).1) ∧ Blk w' B 108 #[.int .i64 (endOne (s, p)).2.1, .bool (endOne (s, p)).2.2] ∧ Below B w w' := by
  have hc0 := hB.cell 0
  have hc1 := hB.cell 1
  have hf0 := hB.frozen 0
  have hf1 := hB.frozen 1
  simp at hc0 hc1
  have HB := Lib.hid hB
  clear hB
  rcases (show s ≠ 0 ∨ s = 0 by omega) with h | h
  · have hn : (s != 0) = true := by simp [h]
    have he : Hid (endOne (s, p) = (6, (s, p))) := by unfold Hid endOne; simp_all
    rw [he.out]
    clear he
    go_enter Try.func83, Try.ntmps83
    go_wp2_with fail
    go_ret
    exact ⟨rfl, HB.out, Below.refl _ _⟩
  · subst h
    have he : Hid (endOne (0, p) = (0, (2, false))) := by unfold Hid endOne; simp_all
    rw [he.out]
    clear he
    go_enter Try.func83, Try.ntmps83
    go_wp2_with fail
    go_ret
    exact ⟨rfl, by simpa using ((HB.out).set_ 0 (.int .i64 2)).set_ 1 (.bool false), ((Below.refl B _).setCell (p := ⟨B, 0, none⟩) (Nat.le_refl _) _).setCell (p := ⟨B, 1, none⟩) (Nat.le_refl _) _⟩


/-- What is left where one of some goroutines is changed. -/
def Changed (r : Int × G) (gs : List G) (k n : Nat) (w : World) (e : Ending) (w' : World) : Prop :=
  (if r.1 = 0 then ∃ ad, e = .returned (.tuple #[.slice (some ad) n n, .int .i64 0]) ∧ Reads w' w'.heap.size 2 (some ad) n ((gs.set k r.2).flatMap cells) else e = .returned (.tuple #[.slice none 0 0, .int .i64 r.1])) ∧ Below w.heap.size w w'

theorem info : (Try.prog.info? 55).map (fun i => (i.zero, i.size, i.bytes)) = some (some (.agg #[.int .i64 0, .bool false]), 2, 16) := by kernel_rfl

theorem one_cells : ∀ (gs : List G), ∀ v ∈ gs.flatMap cells, v.oneCell' = true := by
  intro gs v hv
  obtain ⟨g, _, hg⟩ := List.mem_flatMap.1 hv
  simp [cells] at hg
  rcases hg with rfl | rfl <;> rfl

end Park
end Go.Proofs.Yteejgejeggackaa
