/-
  The laws' own 'alive' for layer 11.
-/
import Derived.Test.YteejgejeggackaaParkSame
import Derived.Test.YteejgejeggackaaParkPark
import Derived.Test.YteejgejeggackaaParkReady
namespace Go.Proofs.Yteejgejeggackaa
open Go.RowKit
namespace Park

/-- The cells of the first of some goroutines. -/
theorem first_at {w : World} {B n : Nat} {ad : Addr} {s : Int} {p : Bool} {gs : List G} (h : Reads w B 2 (some ad) n (((s, p) :: gs).flatMap cells)) (hn : 0 < n) :
    w.cell? ad = some (.int .i64 s) ∧ w.cell? ⟨ad.block, ad.off + 1, none⟩ = some (.bool p) ∧ ad.block < B := by
  obtain ⟨ad', s', p', hA, hb, hg, h0, h1⟩ := at_ h hn
  obtain rfl := Option.some.inj hA
  simp at hg
  obtain ⟨rfl, rfl⟩ := hg
  rw [Nat.zero_mul] at h0 h1
  exact ⟨by simpa [Addr.add] using h0, by simpa [Addr.add] using h1, hb⟩

theorem alive_any (w : World) : Calls Try.prog 35 #[] w fun e w' => e = .returned (.bool true) ∧ Below w.heap.size w w' := by
  have h1 : (readyOne (0, false)).1 = 0 := by decide
  have h2 : (parkOne (0, true)).1 = 0 := by decide
  have hq : ∀ w, (binOp .eql 55 (.agg #[.int .i64 0, .bool false]) (.agg #[.int .i64 0, .bool false])).run Try.prog w = .ok (.bool true) w := fun w => by rw [eql]; simp
  have hgd := fun x y => guard .eql x y 0 0 false false
  have hr0 := Reads.of_blk (n := 1) (size := 2) (Blk.new w 55 #[.int .i64 0, .bool false]) rfl
  go_enter Try.func35, Try.ntmps35
  go_wp2_with fail
  refine (readyTop_yes _ 1 1 0 [(0, false)] 0 false _ hr0 (by decide) (by omega) rfl h1).mono ?_
  rintro e w1 ⟨⟨ad, rfl, hr1⟩, hb1⟩
  have HR1 := Lib.hid hr1
  have HB1 := Lib.hid hb1
  clear hr1 hb1 hr0
  go_wp2_with fail
  refine (parkTop_yes (some ad) 1 1 0 [(0, true)] 0 true _ HR1.out (by decide) (by omega) rfl h2).mono ?_
  rintro e w2 ⟨⟨ad2, rfl, hr2⟩, hb2⟩
  obtain ⟨c0, c1, _⟩ := first_at ((HR1.out.below hb2) : Reads w2 _ 2 (some ad) 1 (([(0, true)] : List G).flatMap cells)) (by omega)
  obtain ⟨d0, d1, _⟩ := first_at (show Reads w2 _ 2 (some ad2) 1 (([(0, false)] : List G).flatMap cells) from hr2) (by omega)
  have HB2 := Lib.hid (((Below.refl w.heap.size w).alloc (Nat.le_refl _) (.cells #[.int .i64 0, .bool false] 55)).trans ((HB1.out.trans (hb2.mono HB1.out.size)).mono (by simp)))
  clear hr2 hb2
  go_wp2_with fail
  go_ret
  exact ⟨rfl, HB2.out⟩
end Park
end Go.Proofs.Yteejgejeggackaa
