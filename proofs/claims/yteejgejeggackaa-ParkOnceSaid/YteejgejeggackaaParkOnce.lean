/-
  What ParkOnce (layer 11) leans on: what a goroutine is by how often it was told more than it parked.
-/
import Derived.Test.YteejgejeggackaaLParkEither
namespace Go.Proofs.Yteejgejeggackaa
open Go.RowKit
namespace Park

/-- A goroutine that was told t times more than it parked. -/
def st (t : Int) : G := if t < 0 then (1, false) else if 0 < t then (0, true) else (0, false)
def Told (ts : List Int) : Prop := ∀ t ∈ ts, t = -1 ∨ t = 0 ∨ t = 1

theorem right_told {ts : List Int} (h : Told ts) (hl : ts.length ≤ 8) : right (ts.map st) = true := by
  unfold right
  simp only [Bool.and_eq_true, decide_eq_true_eq, List.length_map, List.all_eq_true, List.mem_map, Bool.not_eq_true']
  refine ⟨hl, ?_⟩
  rintro g ⟨t, ht, rfl⟩
  rcases h t ht with rfl | rfl | rfl <;> decide

theorem told_set {ts : List Int} (h : Told ts) {k : Nat} {t : Int} (ht : t = -1 ∨ t = 0 ∨ t = 1) : Told (ts.set k t) := by
  intro x hx
  rcases List.mem_or_eq_of_mem_set hx with hx | rfl
  · exact h x hx
  · exact ht

/-- A row of ints that a block holds whole, and a row of goroutines elsewhere. -/
theorem far {w : World} {T B n : Nat} {t : TypeId} {ad : Addr} {ts : List Int} {gs : List G} (hB : Blk w T t (ts.map (Value.int .i64)).toArray) (hr : Reads w B 2 (some ad) n (gs.flatMap cells)) (hn : 0 < n) : ad.block ≠ T := by
  obtain ⟨ad', s, p, hA, _, _, _, h1⟩ := at_ hr hn
  obtain rfl := Option.some.inj hA
  rintro rfl
  rw [Nat.zero_mul] at h1
  have e : ad.add 0 = ad := by simp [Addr.add]
  rw [e] at h1
  have h2 := hB.cell (ad.off + 1)
  rw [h1] at h2
  rw [List.getElem?_toArray, List.getElem?_map] at h2
  cases hx : ts[ad.off + 1]? with
  | none => rw [hx] at h2; cases h2
  | some z => rw [hx] at h2; simp at h2

theorem reads_far {w : World} {B n size : Nat} {ad p : Addr} {xs : List Value} (h : Reads w B size (some ad) n xs) (hne : ad.block ≠ p.block) (u : Value) : Reads (w.setCell p u) B size (some ad) n xs := by
  refine ⟨h.1, fun hn => ?_⟩
  obtain ⟨ad', hA, hb, hc⟩ := h.2 hn
  obtain rfl := Option.some.inj hA
  refine ⟨ad, rfl, hb, fun j v hj => ?_⟩
  rw [World.cell?_setCell_other w p (ad.add j) u (fun e => hne (by rw [e, block_of_add]))]
  exact hc j v hj

theorem tmod_range (x : Int) (n : Nat) (hn : 1 ≤ n) : ∃ k : Nat, k < n ∧ (x.tmod n + n).tmod n = k := by
  have h1 : -(n : Int) < x.tmod n := by
    have := Int.lt_tmod_of_pos x (show (0 : Int) < n by omega)
    omega
  have h2 : x.tmod n < n := Int.tmod_lt_of_pos x (by omega)
  have h3 : 0 ≤ (x.tmod n + n).tmod n := Int.tmod_nonneg _ (by omega)
  have h4 : (x.tmod n + n).tmod n < n := Int.tmod_lt_of_pos _ (by omega)
  exact ⟨((x.tmod n + n).tmod n).toNat, by omega, by omega⟩
end Park
end Go.Proofs.Yteejgejeggackaa
