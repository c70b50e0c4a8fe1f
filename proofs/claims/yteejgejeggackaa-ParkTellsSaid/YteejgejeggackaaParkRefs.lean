/-
  The document's own Park, Ready and End (layer 11), of one that there is.
-/
import Derived.Test.YteejgejeggackaaParkWith
namespace Go.Proofs.Yteejgejeggackaa
open Go.RowKit
namespace Park

theorem cell_of {w : World} {B n k : Nat} {ad : Addr} {gs : List G} {s : Int} {p : Bool} (h : Reads w B 2 (some ad) n (gs.flatMap cells)) (hk : k < n) (hg : gs[k]? = some (s, p)) :
    w.cell? (ad.add (k * 2)) = some (.int .i64 s) ∧ w.cell? ⟨(ad.add (k * 2)).block, (ad.add (k * 2)).off + 1, none⟩ = some (.bool p) := by
  obtain ⟨ad', s', p', hA, _, hg', h0, h1⟩ := at_ h hk
  obtain rfl := Option.some.inj hA
  rw [hg] at hg'
  obtain ⟨rfl, rfl⟩ : s = s' ∧ p = p' := by simpa using hg'
  exact ⟨h0, h1⟩

theorem refPark_state (A : Option Addr) (n c k : Nat) (gs : List G) (s : Int) (p : Bool) (hs : s ≠ 0) (w : World) (hr : Reads w w.heap.size 2 A n (gs.flatMap cells)) (_ : n ≤ 12) (hk : k < n) (hg : gs[k]? = some (s, p)) :
    Calls Try.prog 46 #[.slice A n c, .int .i64 k] w fun e w' => e = .returned (.tuple #[.slice none 0 0, .int .i64 6]) ∧ Below w.heap.size w w' := by
  obtain ⟨ad, _, _, rfl, hrest⟩ := at_ hr hk
  clear hrest
  obtain ⟨hc0, hc1⟩ := cell_of hr hk hg
  clear hg hr
  have hne : (s != 0) = true := by simpa using hs
  clear hs
  go_enter Try.func46, Try.ntmps46
  go_wp2_with fail
  go_ret2
  exact ⟨rfl, (Below.refl _ _).alloc (Nat.le_refl _) _⟩

theorem refPark_permit (A : Option Addr) (n c k : Nat) (gs : List G)  (w : World) (hr : Reads w w.heap.size 2 A n (gs.flatMap cells)) (hn : n ≤ 12) (hk : k < n) (hg : gs[k]? = some (0, true)) :
    Calls Try.prog 46 #[.slice A n c, .int .i64 k] w fun e w' => (∃ a cap, e = .returned (.tuple #[.slice a n cap, .int .i64 0]) ∧ Reads w' w'.heap.size 2 a n ((gs.set k (0, false)).flatMap cells)) ∧ Below w.heap.size w w' := by
  obtain ⟨ad, _, _, rfl, hrest⟩ := at_ hr hk
  clear hrest
  obtain ⟨hc0, hc1⟩ := cell_of hr hk hg
  have HR := Lib.hid hr
  clear hg hr
  go_enter Try.func46, Try.ntmps46
  go_wp2_with fail
  refine (with_any (some ad) n c k gs _ _ _ ((HR.out.alloc (Nat.le_refl _) _).more (by simp)) hn).mono ?_
  rintro e w1 ⟨⟨a, cap, rfl, hrd⟩, hb1⟩
  have HRD := Lib.hid hrd
  clear hrd
  go_wp2_with fail
  go_ret2
  exact ⟨⟨a, cap, rfl, HRD.out⟩, ((Below.refl w.heap.size w).alloc (Nat.le_refl _) _).trans (hb1.mono (by simp))⟩

theorem refPark_run (A : Option Addr) (n c k : Nat) (gs : List G)  (w : World) (hr : Reads w w.heap.size 2 A n (gs.flatMap cells)) (hn : n ≤ 12) (hk : k < n) (hg : gs[k]? = some (0, false)) :
    Calls Try.prog 46 #[.slice A n c, .int .i64 k] w fun e w' => (∃ a cap, e = .returned (.tuple #[.slice a n cap, .int .i64 0]) ∧ Reads w' w'.heap.size 2 a n ((gs.set k (1, false)).flatMap cells)) ∧ Below w.heap.size w w' := by
  obtain ⟨ad, _, _, rfl, hrest⟩ := at_ hr hk
  clear hrest
  obtain ⟨hc0, hc1⟩ := cell_of hr hk hg
  have HR := Lib.hid hr
  clear hg hr
  go_enter Try.func46, Try.ntmps46
  go_wp2_with fail
  refine (with_any (some ad) n c k gs _ _ _ ((HR.out.alloc (Nat.le_refl _) _).more (by simp)) hn).mono ?_
  rintro e w1 ⟨⟨a, cap, rfl, hrd⟩, hb1⟩
  have HRD := Lib.hid hrd
  clear hrd
  go_wp2_with fail
  go_ret2
  exact ⟨⟨a, cap, rfl, HRD.out⟩, ((Below.refl w.heap.size w).alloc (Nat.le_refl _) _).trans (hb1.mono (by simp))⟩

theorem refReady_state (A : Option Addr) (n c k : Nat) (gs : List G) (p : Bool) (w : World) (hr : Reads w w.heap.size 2 A n (gs.flatMap cells)) (_ : n ≤ 12) (hk : k < n) (hg : gs[k]? = some (2, p)) :
    Calls Try.prog 47 #[.slice A n c, .int .i64 k] w fun e w' => e = .returned (.tuple #[.slice none 0 0, .int .i64 6]) ∧ Below w.heap.size w w' := by
  obtain ⟨ad, _, _, rfl, hrest⟩ := at_ hr hk
  clear hrest
  obtain ⟨hc0, hc1⟩ := cell_of hr hk hg
  clear hg hr
  go_enter Try.func47, Try.ntmps47
  go_wp2_with fail
  go_ret2
  exact ⟨rfl, (Below.refl _ _).alloc (Nat.le_refl _) _⟩

theorem refReady_twice (A : Option Addr) (n c k : Nat) (gs : List G) (s : Int) (hs : s ≠ 2) (w : World) (hr : Reads w w.heap.size 2 A n (gs.flatMap cells)) (_ : n ≤ 12) (hk : k < n) (hg : gs[k]? = some (s, true)) :
    Calls Try.prog 47 #[.slice A n c, .int .i64 k] w fun e w' => e = .returned (.tuple #[.slice none 0 0, .int .i64 7]) ∧ Below w.heap.size w w' := by
  obtain ⟨ad, _, _, rfl, hrest⟩ := at_ hr hk
  clear hrest
  obtain ⟨hc0, hc1⟩ := cell_of hr hk hg
  clear hg hr
  have hne : (s == 2) = false := by simpa using hs
  clear hs
  go_enter Try.func47, Try.ntmps47
  go_wp2_with fail
  go_ret2
  exact ⟨rfl, (Below.refl _ _).alloc (Nat.le_refl _) _⟩

theorem refReady_yes (A : Option Addr) (n c k : Nat) (gs : List G) (s : Int) (hs : s ≠ 2) (w : World) (hr : Reads w w.heap.size 2 A n (gs.flatMap cells)) (hn : n ≤ 12) (hk : k < n) (hg : gs[k]? = some (s, false)) :
    Calls Try.prog 47 #[.slice A n c, .int .i64 k] w fun e w' => (∃ a cap, e = .returned (.tuple #[.slice a n cap, .int .i64 0]) ∧ Reads w' w'.heap.size 2 a n ((gs.set k (0, s == 0)).flatMap cells)) ∧ Below w.heap.size w w' := by
  obtain ⟨ad, _, _, rfl, hrest⟩ := at_ hr hk
  clear hrest
  obtain ⟨hc0, hc1⟩ := cell_of hr hk hg
  have HR := Lib.hid hr
  clear hg hr
  have hne : (s == 2) = false := by simpa using hs
  clear hs
  go_enter Try.func47, Try.ntmps47
  go_wp2_with fail
  refine (with_any (some ad) n c k gs _ _ _ ((HR.out.alloc (Nat.le_refl _) _).more (by simp)) hn).mono ?_
  rintro e w1 ⟨⟨a, cap, rfl, hrd⟩, hb1⟩
  have HRD := Lib.hid hrd
  clear hrd
  go_wp2_with fail
  go_ret2
  exact ⟨⟨a, cap, rfl, HRD.out⟩, ((Below.refl w.heap.size w).alloc (Nat.le_refl _) _).trans (hb1.mono (by simp))⟩

theorem refEnd_state (A : Option Addr) (n c k : Nat) (gs : List G) (s : Int) (p : Bool) (hs : s ≠ 0) (w : World) (hr : Reads w w.heap.size 2 A n (gs.flatMap cells)) (_ : n ≤ 12) (hk : k < n) (hg : gs[k]? = some (s, p)) :
    Calls Try.prog 48 #[.slice A n c, .int .i64 k] w fun e w' => e = .returned (.tuple #[.slice none 0 0, .int .i64 6]) ∧ Below w.heap.size w w' := by
  obtain ⟨ad, _, _, rfl, hrest⟩ := at_ hr hk
  clear hrest
  obtain ⟨hc0, hc1⟩ := cell_of hr hk hg
  clear hg hr
  have hne : (s != 0) = true := by simpa using hs
  clear hs
  go_enter Try.func48, Try.ntmps48
  go_wp2_with fail
  go_ret2
  exact ⟨rfl, Below.refl _ _⟩

theorem refEnd_yes (A : Option Addr) (n c k : Nat) (gs : List G) (p : Bool) (w : World) (hr : Reads w w.heap.size 2 A n (gs.flatMap cells)) (hn : n ≤ 12) (hk : k < n) (hg : gs[k]? = some (0, p)) :
    Calls Try.prog 48 #[.slice A n c, .int .i64 k] w fun e w' => (∃ a cap, e = .returned (.tuple #[.slice a n cap, .int .i64 0]) ∧ Reads w' w'.heap.size 2 a n ((gs.set k (2, false)).flatMap cells)) ∧ Below w.heap.size w w' := by
  obtain ⟨ad, _, _, rfl, hrest⟩ := at_ hr hk
  clear hrest
  obtain ⟨hc0, hc1⟩ := cell_of hr hk hg
  have HR := Lib.hid hr
  clear hg hr
  go_enter Try.func48, Try.ntmps48
  go_wp2_with fail
  refine (with_any (some ad) n c k gs _ _ _ HR.out hn).mono ?_
  rintro e w1 ⟨⟨a, cap, rfl, hrd⟩, hb1⟩
  have HRD := Lib.hid hrd
  clear hrd
  go_wp2_with fail
  go_ret2
  exact ⟨⟨a, cap, rfl, HRD.out⟩, hb1⟩

end Park
end Go.Proofs.Yteejgejeggackaa
