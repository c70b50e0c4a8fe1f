/-
  The contracts of package park (layer 11): Ready.
-/
import Derived.Test.YteejgejeggackaaParkAny
namespace Go.Proofs.Yteejgejeggackaa
open Go.RowKit
namespace Park

theorem readyFn (a : Addr) (w : World) : Calls Try.prog 80 #[.pointer (some a)] w fun e w' => e = .returned (.func (.func 81) #[.pointer (some a)] #[]) ∧ w = w' := by
  have hmf : ∀ (fn : Fn) (first cap : Array Value) (w : World), (Instr.makeFunc fn first cap).run Try.prog w = .ok (.func fn first cap) w := fun _ _ _ _ => rfl
  go_enter Try.func80, Try.ntmps80
  go_wp2_with fail
  go_ret
  exact ⟨rfl, rfl⟩

theorem ready_arg (A : Option Addr) (n c : Nat) (gs : List G) (i : Int) (w : World) (hr : Reads w w.heap.size 2 A n (gs.flatMap cells)) (hn : n ≤ maxLen) (h : right gs = false) :
    Calls Try.prog 77 #[.slice A n c, .int .i64 i, .func (.func 80) #[] #[]] w fun e w' => e = .returned (.tuple #[.slice none 0 0, .int .i64 1]) ∧ Below w.heap.size w w' := by
  go_enter Try.func77, Try.ntmps77
  go_wp2_with fail
  refine (right_any A n c gs _ hr hn).mono ?_
  rintro e w1 ⟨rfl, hb⟩
  rw [h]
  go_wp2_with fail
  go_ret2
  exact ⟨rfl, hb⟩

theorem ready_range (A : Option Addr) (n c : Nat) (gs : List G) (i : Int) (w : World) (hr : Reads w w.heap.size 2 A n (gs.flatMap cells)) (hn : n ≤ maxLen) (h : right gs = true) (hi : i < 0 ∨ n ≤ i) :
    Calls Try.prog 77 #[.slice A n c, .int .i64 i, .func (.func 80) #[] #[]] w fun e w' => e = .returned (.tuple #[.slice none 0 0, .int .i64 3]) ∧ Below w.heap.size w w' := by
  rcases (show i < 0 ∨ (¬ i < 0 ∧ (n : Int) ≤ i) by omega) with hi | ⟨hi, hi2⟩
  · have hd : decide (i < 0) = true := by simpa using hi
    go_enter Try.func77, Try.ntmps77
    go_wp2_with fail
    refine (right_any A n c gs _ hr hn).mono ?_
    rintro e w1 ⟨rfl, hb⟩
    rw [h]
    go_wp2_with fail
    go_ret2
    exact ⟨rfl, hb⟩
  · have hd : decide (i < 0) = false := by simpa using hi
    go_enter Try.func77, Try.ntmps77
    go_wp2_with fail
    refine (right_any A n c gs _ hr hn).mono ?_
    rintro e w1 ⟨rfl, hb⟩
    rw [h]
    go_wp2_with fail
    go_ret2
    exact ⟨rfl, hb⟩

theorem ready_in (A : Option Addr) (n c k : Nat) (gs : List G) (s : Int) (p : Bool) (w : World) (hr : Reads w w.heap.size 2 A n (gs.flatMap cells)) (h : right gs = true) (hk : k < n) (hg : gs[k]? = some (s, p)) :
    Calls Try.prog 77 #[.slice A n c, .int .i64 k, .func (.func 80) #[] #[]] w (Changed (readyOne (s, p)) gs k n w) := by
  have hl := len_ hr
  have hn8 : n ≤ 8 := by unfold right at h; simp at h; omega
  have hn : n ≤ maxLen := by simp [maxLen]; omega
  have hd : decide ((k : Int) < 0) = false := by simp
  have hd2 : decide ((n : Int) ≤ k) = false := by simp; omega
  obtain ⟨ad, s', p', hA, hb, hg', hc0, hc1⟩ := at_ hr hk
  rw [hg] at hg'
  injection hg' with hg'
  injection hg' with e1 e2
  subst e1 e2 hA
  have HG := Lib.hid hg
  have HR := Lib.hid hr
  have HL := Lib.hid hl
  clear hg hl hr
  obtain ⟨⟨er, ⟨s1, p1⟩⟩, ho⟩ : ∃ r, readyOne (s, p) = r := ⟨_, rfl⟩
  go_enter Try.func77, Try.ntmps77
  go_wp2_with fail
  refine (right_any (some ad) n c gs _ HR.out hn).mono ?_
  rintro e w1 ⟨rfl, hb1⟩
  rw [h]
  have hd0 := (hb1.cell (p := ad.add (k * 2)) (by rw [block_of_add]; exact hb)).trans hc0
  have hd1 := (hb1.cell (p := ⟨(ad.add (k * 2)).block, (ad.add (k * 2)).off + 1, none⟩) (by show (ad.add (k * 2)).block < _; rw [block_of_add]; exact hb)).trans hc1
  have HB1 := Lib.hid hb1
  clear hc0 hc1 hb1
  go_wp2_with fail
  refine (readyFn _ _).mono ?_
  rintro e w' ⟨rfl, rfl⟩
  go_wp2_with fail
  refine (ready_any s p w1.heap.size _ (Blk.new w1 _ _)).mono ?_
  rintro e w2 ⟨rfl, hB2, hb2⟩
  rw [ho] at hB2
  rw [show (readyOne (s, p)).1 = er by rw [ho]]
  have hq := HB1.out.trans ((Below.refl _ _).alloc HB1.out.size (.cells #[.int .i64 s, .bool p] 108)) |>.trans (hb2.mono HB1.out.size)
  have HQ := Lib.hid hq
  have HB2 := Lib.hid hB2
  have hx0 := hB2.cell 0
  have hx1 := hB2.cell 1
  simp at hx0 hx1
  clear hq hB2 hb2 HB1
  by_cases he : er = 0
  · subst he
    have HO := Lib.hid ho
    clear ho
    obtain ⟨i0, hi0, hz0, hz1, hz2⟩ := info_parts info
    have hmk := run_make_rowN (P := Try.prog) 50 55 i0 _ Try.underlying50 hi0 hz0 .i64 .i64 n n (Nat.le_refl _) (by rw [hz2]; omega) (by omega)
    rw [hz1] at hmk
    obtain ⟨mk, hmkc⟩ : ∃ mk, madeCells (Value.agg #[.int .i64 0, .bool false]).cells (n * 2) = mk := ⟨_, rfl⟩
    have hmks : mk.size = n * 2 := by rw [← hmkc]; simp [madeCells]
    rw [hmkc] at hmk
    obtain ⟨cs, hcs⟩ : ∃ cs, gs.flatMap cells = cs := ⟨_, rfl⟩
    have hcl : cs.length = n * 2 := by rw [← hcs, flat_len cells 2 cells_len, HL.out]
    have hr2 := (HR.out.below HQ.out).more HQ.out.size
    rw [hcs] at hr2
    have hr3 := hr2.alloc (Nat.le_refl _) (.cells mk 55)
    have hn0 : 0 < n := by omega
    have hsrc : ∀ j v, cs[j]? = some v → (w2.alloc (.cells mk 55)).cell? (ad.add j) = some v := by
      intro j v hj
      obtain ⟨ad', hA, hb', hc'⟩ := hr3.2 hn0
      obtain rfl := Option.some.inj hA
      exact hc' j v hj
    have hone : ∀ v ∈ cs, v.oneCell' = true := by rw [← hcs]; exact one_cells gs
    have hsz : (Try.prog.info? 55).map (·.size) = some 2 := by rw [hi0]; simp [hz1]
    have hcp := fun ty => run_copy_made (P := Try.prog) w2 50 50 ty 55 2 n n ad c mk 55 cs Try.underlying50 hsz hcl hmks hsrc hone
    have hBn := Blk.new w2 55 cs.toArray
    have hs0 := hBn.cell (k * 2)
    have hs1 := hBn.cell (k * 2 + 1)
    have hf0 := hBn.frozen (k * 2)
    have hf1 := hBn.frozen (k * 2 + 1)
    have hl0 : cs[k * 2]? = some (.int .i64 s) := by rw [← hcs]; exact flat_at cells 2 cells_len gs k 0 _ HG.out (by omega)
    have hl1 : cs[k * 2 + 1]? = some (.bool p) := by rw [← hcs]; exact flat_at cells 2 cells_len gs k 1 _ HG.out (by omega)
    rw [show cs.toArray[k * 2]? = some (.int .i64 s) by simpa using hl0] at hs0
    rw [show cs.toArray[k * 2 + 1]? = some (.bool p) by simpa using hl1] at hs1
    have hlt := HB2.out.lt
    have HCS := Lib.hid hcs
    have HBN := Lib.hid hBn
    clear hmkc hmks hcs hcl hr2 hBn hi0 hz0 hz1 hz2 hr3 hsrc hone hsz
    go_wp2
    go_ret2
    refine ⟨?_, ?_⟩
    · rw [HO.out, if_pos rfl]
      refine ⟨_, rfl, ?_⟩
      have hk' : k < gs.length := by rw [HL.out]; exact hk
      have e : (cs.set (k * 2) (.int .i64 s1)).set (k * 2 + 1) (.bool p1) = (gs.set k (s1, p1)).flatMap cells := by rw [← HCS.out]; exact flat_set2 cells cells_len gs k (s1, p1) _ _ hk' rfl
      rw [e]
      have hb := Reads.of_blk (n := n) (size := 2) (Blk.new w2 55 ((gs.set k (s1, p1)).flatMap cells).toArray) (by simp [flat_len cells 2 cells_len, HL.out])
      simpa using hb
    · exact HQ.out.alloc HQ.out.size _
  · have hne : (er != 0) = true := by simp [he]
    have HE := Lib.hid he
    have HO := Lib.hid ho
    clear he ho
    go_wp2_with fail
    go_ret2
    exact ⟨by rw [HO.out, if_neg HE.out]; rfl, HQ.out⟩

theorem readyTop_arg (A : Option Addr) (n c : Nat) (gs : List G) (i : Int) (w : World) (hr : Reads w w.heap.size 2 A n (gs.flatMap cells)) (hn : n ≤ maxLen) (h : right gs = false) :
    Calls Try.prog 34 #[.slice A n c, .int .i64 i] w fun e w' => e = .returned (.tuple #[.slice none 0 0, .int .i64 1]) ∧ Below w.heap.size w w' := by
  go_enter Try.func34, Try.ntmps34
  go_wp2_with fail
  refine (ready_arg A n c gs i _ hr hn h).mono ?_
  rintro e w1 ⟨rfl, hb⟩
  go_wp2_with fail
  go_ret2
  exact ⟨rfl, hb⟩

theorem readyTop_range (A : Option Addr) (n c : Nat) (gs : List G) (i : Int) (w : World) (hr : Reads w w.heap.size 2 A n (gs.flatMap cells)) (hn : n ≤ maxLen) (h : right gs = true) (hi : i < 0 ∨ n ≤ i) :
    Calls Try.prog 34 #[.slice A n c, .int .i64 i] w fun e w' => e = .returned (.tuple #[.slice none 0 0, .int .i64 3]) ∧ Below w.heap.size w w' := by
  go_enter Try.func34, Try.ntmps34
  go_wp2_with fail
  refine (ready_range A n c gs i _ hr hn h hi).mono ?_
  rintro e w1 ⟨rfl, hb⟩
  go_wp2_with fail
  go_ret2
  exact ⟨rfl, hb⟩

theorem readyTop_yes (A : Option Addr) (n c k : Nat) (gs : List G) (s : Int) (p : Bool) (w : World) (hr : Reads w w.heap.size 2 A n (gs.flatMap cells)) (h : right gs = true) (hk : k < n) (hg : gs[k]? = some (s, p)) (ho : (readyOne (s, p)).1 = 0) :
    Calls Try.prog 34 #[.slice A n c, .int .i64 k] w fun e w' => (∃ ad, e = .returned (.tuple #[.slice (some ad) n n, .int .i64 0]) ∧ Reads w' w'.heap.size 2 (some ad) n ((gs.set k (readyOne (s, p)).2).flatMap cells)) ∧ Below w.heap.size w w' := by
  have HO := Lib.hid ho
  clear ho
  go_enter Try.func34, Try.ntmps34
  go_wp2_with fail
  refine (ready_in A n c k gs s p _ hr h hk hg).mono ?_
  rintro e w1 ⟨he, hb⟩
  rw [if_pos HO.out] at he
  obtain ⟨ad, rfl, hrd⟩ := he
  have HR := Lib.hid hrd
  clear hrd
  go_wp2_with fail
  go_ret2
  exact ⟨⟨ad, rfl, HR.out⟩, hb⟩

theorem readyTop_no (A : Option Addr) (n c k : Nat) (gs : List G) (s : Int) (p : Bool) (w : World) (hr : Reads w w.heap.size 2 A n (gs.flatMap cells)) (h : right gs = true) (hk : k < n) (hg : gs[k]? = some (s, p)) (ho : (readyOne (s, p)).1 ≠ 0) :
    Calls Try.prog 34 #[.slice A n c, .int .i64 k] w fun e w' => e = .returned (.tuple #[.slice none 0 0, .int .i64 (readyOne (s, p)).1]) ∧ Below w.heap.size w w' := by
  have HO := Lib.hid ho
  clear ho
  go_enter Try.func34, Try.ntmps34
  go_wp2_with fail
  refine (ready_in A n c k gs s p _ hr h hk hg).mono ?_
  rintro e w1 ⟨he, hb⟩
  rw [if_neg HO.out] at he
  subst he
  go_wp2_with fail
  go_ret2
  exact ⟨rfl, hb⟩
end Park
end Go.Proofs.Yteejgejeggackaa
