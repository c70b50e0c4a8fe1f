/-
  The document's own function Place (layer 7), and what is known of who runs.
-/
import Derived.Test.YteejgejeggackaaParkMore
namespace Go.Proofs.Yteejgejeggackaa
open Go.RowKit
namespace Park

theorem place_any (A : Option Addr) (n c : Nat) (who : Int) (zs : List Int) (w : World) (hr : Reads w w.heap.size 1 A n (zs.map (Value.int .i64))) (hn : n ≤ maxLen) :
    Calls Try.prog 40 #[.slice A n c, .int .i64 who] w fun e w' => (∃ i : Int, -1 ≤ i ∧ e = .returned (.int .i64 i) ∧ (0 ≤ i ↔ who ∈ zs)) ∧ w = w' := by
  unfold maxLen at hn
  have hl := hr.int_len
  have HL := Lib.hid hl
  clear hl
  go_enter Try.func40, Try.ntmps40
  go_wp2_with fail
  go_loop [9] (fun i => ∃ k : Nat, k ≤ n ∧ i = .int .i64 k ∧ who ∉ zs.take k) (fun i => n - (intOf i).toNat)
  case atStart => exact ⟨0, Nat.zero_le _, rfl, by simp⟩
  case round =>
    obtain ⟨k, hk, rfl, hall⟩ := hrel
    have HALL := Lib.hid hall
    clear hall
    by_cases hlt : k < n
    · obtain ⟨ad, z, rfl, hb, hz, hc⟩ := hr.int_at hlt
      have HZ := Lib.hid hz
      clear hz
      by_cases he : z = who
      · subst he
        go_wp2
        go_ret
        exact ⟨⟨k, by omega, rfl, fun _ => List.mem_of_getElem? HZ.out, fun _ => by omega⟩, rfl⟩
      · have hf : (z == who) = false := by simpa using he
        have HE := Lib.hid he
        clear he
        go_wp2
        go_round
        case rel =>
          refine ⟨k + 1, by omega, by go_num, ?_⟩
          rw [List.take_add_one, HZ.out]
          simp
          exact ⟨HALL.out, fun h => HE.out h.symm⟩
        case measure => simp [intOf]; omega
    · go_wp2
      go_ret
      have hk' : k = n := by omega
      refine ⟨⟨-1, by omega, rfl, fun h => absurd h (by omega), fun h => ?_⟩, rfl⟩
      have h2 := HALL.out
      rw [hk', ← HL.out, List.take_length] at h2
      exact absurd h h2

theorem mem_runs {gs : List G} {k : Nat} {g : G} (h : gs[k]? = some g) : (k : Int) ∈ runs gs ↔ g.1 = 0 := by
  have hk : k < gs.length := (List.getElem?_eq_some_iff.1 h).1
  unfold runs runsTo
  simp only [List.mem_map, List.mem_filter, List.mem_range, decide_eq_true_eq]
  constructor
  · rintro ⟨i, ⟨_, h2⟩, h3⟩
    have : i = k := by have h4 : (i : Int) = k := h3; omega
    subst this
    rw [h] at h2
    simpa using h2
  · intro h2
    exact ⟨k, ⟨hk, by rw [h]; simp [h2]⟩, rfl⟩

theorem runs_len (gs : List G) : (runs gs).length = gs.countP (fun g => decide (g.1 = 0)) := by
  have : ∀ (k : Nat), k ≤ gs.length → (runsTo gs k).length = (gs.take k).countP (fun g => decide (g.1 = 0)) := by
    intro k
    induction k with
    | zero => intro _; simp [runsTo]
    | succ k ih =>
      intro hk
      have hg : gs[k]? = some gs[k] := List.getElem?_eq_getElem (by omega)
      rw [runsTo_succ gs k gs[k].1 gs[k].2 hg, List.length_append, ih (by omega), List.take_add_one, hg, List.countP_append]
      by_cases h0 : gs[k].1 = 0 <;> simp [h0]
  have h := this gs.length (Nat.le_refl _)
  rwa [List.take_length] at h

theorem runs_set : ∀ (gs : List G) (k : Nat) (g g' : G), gs[k]? = some g →
    (runs (gs.set k g')).length + (if g.1 = 0 then 1 else 0) = (runs gs).length + (if g'.1 = 0 then 1 else 0) := by
  intro gs k g g' h
  rw [runs_len, runs_len]
  have : ∀ (l : List G) (k : Nat), l[k]? = some g → (l.set k g').countP (fun g => decide (g.1 = 0)) + (if g.1 = 0 then 1 else 0) = l.countP (fun g => decide (g.1 = 0)) + (if g'.1 = 0 then 1 else 0) := by
    intro l
    induction l with
    | nil => intro k h; simp at h
    | cons y l ih =>
      intro k h
      cases k with
      | zero =>
        simp at h
        subst h
        simp only [List.set_cons_zero, List.countP_cons]
        by_cases h1 : y.1 = 0 <;> by_cases h2 : g'.1 = 0 <;> simp [h1, h2]
      | succ k =>
        rw [List.getElem?_cons_succ] at h
        have := ih k h
        simp only [List.set_cons_succ, List.countP_cons]
        omega
  exact this gs k h
end Park
end Go.Proofs.Yteejgejeggackaa
