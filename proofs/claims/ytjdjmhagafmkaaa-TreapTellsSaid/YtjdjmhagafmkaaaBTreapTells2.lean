/-
  Texts of this claim, one behind the other: TreapRep4, TreapRep5, TreapRep6, TreapRep7, PXx0, TreapPut, Over, JudgeDel, JudgeDelF, TreapDelete, TreapWithout, TreapDel, CTreap, PXx13, PXx14, PXx15.
-/
import Derived.Test.YtjdjmhagafmkaaaBTreapTells1
import Derived.Test.YtjdjmhagafmkaaaProg
import Derived.Below
import Derived.Deep.Draws
import Derived.Deep.AppendLies
import Derived.Maps.AppendAt
import Derived.OwnWalk
import Derived.Laws.BytesArg
import Derived.Laws.MakeOwn
import Derived.Laws.OwnMore
import Derived.Deep.OwnRows
import Derived.Tactics
import Derived.Lib.ConvBytes
import Derived.Laws.Slices
import Derived.WalkKit
import Derived.KernelRfl
import Derived.RowKit3
import Derived.Deep.LoopGhost
import Derived.Deep.QuietTactic
import Derived.BigQuiet
import Derived.WideLaws
import Derived.Deep.DeepCutAuto
import Derived.Deep.CutBlock
import Derived.Deep.RegionHeld3
import Derived.Laws.Rows
import Derived.Lib.AppendStr
import Derived.ArgAppend
import Derived.Laws.IdiomCopy
import Derived.OrdersHeld
import Derived.Laws.BitsLemmas
import Derived.RowKit
import Derived.Test.YtjdjmhagafmkaaaWWords
import Derived.Test.YtjdjmhagafmkaaaWLast
import Derived.Test.YtjdjmhagafmkaaaWQPut
import Derived.Test.YtjdjmhagafmkaaaWApart
import Derived.Test.YtjdjmhagafmkaaaWArr
import Derived.Test.YtjdjmhagafmkaaaWZeros
import Derived.Test.YtjdjmhagafmkaaaWFoot
import Derived.Test.YtjdjmhagafmkaaaWKept
import Derived.Test.YtjdjmhagafmkaaaWShare
import Derived.Test.YtjdjmhagafmkaaaWN
import Derived.Test.YtjdjmhagafmkaaaWRepsOne
import Derived.Test.YtjdjmhagafmkaaaWGuard
import Derived.Test.YtjdjmhagafmkaaaWNEv
import Derived.Test.YtjdjmhagafmkaaaWMore
import Derived.Deep.RegionLaw
import Derived.Deep.MidRow
import Derived.Deep.Upon
import Derived.StillTailTactics
/-
 What the ways down, the parting and the joining make of the order of the keys and of the weights. No program.
-/
namespace Go.Proofs.Ytjdjmhagafmkaaa
open Go.RowKit
namespace Treap
section
variable (go : Nat → Bool) (k : Nat → Int) (key : Int) (p : Nat → Int)
theorem up_node {i : Nat} {l r : T} (h : ((T.node i l r).ins.map k).Pairwise (· < ·)) : (l.ins.map k).Pairwise (· < ·) ∧ (r.ins.map k).Pairwise (· < ·) ∧ (∀ j ∈ l.ins, k j < k i) ∧ (∀ j ∈ r.ins, k i < k j) := by
 rw [T.ins, List.map_append, List.map_cons, List.pairwise_append, List.pairwise_cons] at h
 obtain ⟨h1, ⟨h2, h3⟩, h4⟩ := h
 exact ⟨h1, h3, fun j hj => h4 _ (List.mem_map.2 ⟨j, hj, rfl⟩) _ (by simp), fun j hj => h2 _ (List.mem_map.2 ⟨j, hj, rfl⟩)⟩
/-- The way down: what is to its left is less, what is to its right is not. -/
theorem path_spec : ∀ (t : T), (t.ins.map k).Pairwise (· < ·) → ∃ A B, t.ins = A ++ (subT go k key t).ins ++ B ∧ (∀ u, (replT go k key u t).ins = A ++ u.ins ++ B) ∧ (∀ i ∈ A, k i < key) ∧ (∀ i ∈ B, key ≤ k i) := by
 intro t
 induction t with
 | leaf => exact fun _ => ⟨[], [], by simp [subT, T.ins], fun u => by simp [replT], by simp, by simp⟩
 | node i l r ihl ihr =>
  intro hup
  obtain ⟨u1, u2, u3, u4⟩ := up_node k hup
  by_cases hg : go i = false
  ·exact ⟨[], [], by simp [subT, hg], fun u => by simp [replT, hg], by simp, by simp⟩
  ·by_cases hk : k i < key
   ·obtain ⟨A, B, h1, h2, h3, h4⟩ := ihr u2
    refine ⟨l.ins ++ i :: A, B, ?_, fun u => ?_, fun j hj => ?_, h4⟩
    ·rw [subT, if_neg hg, if_pos hk, T.ins, h1]
     simp
    ·rw [replT, if_neg hg, if_pos hk, T.ins, h2]
     simp
    ·rcases List.mem_append.1 hj with hj | hj
     ·exact Int.lt_trans (u3 j hj) hk
     ·rcases List.mem_cons.1 hj with rfl | hj
      ·exact hk
      ·exact h3 j hj
   ·obtain ⟨A, B, h1, h2, h3, h4⟩ := ihl u1
    refine ⟨A, B ++ i :: r.ins, ?_, fun u => ?_, h3, fun j hj => ?_⟩
    ·rw [subT, if_neg hg, if_neg hk, T.ins, h1]
     simp
    ·rw [replT, if_neg hg, if_neg hk, T.ins, h2]
     simp
    ·rcases List.mem_append.1 hj with hj | hj
     ·exact h4 j hj
     ·rcases List.mem_cons.1 hj with rfl | hj
      ·omega
      ·have := u4 j hj; omega
theorem repl_mem : ∀ (t u : T), ∀ j ∈ (replT go k key u t).ins, j ∈ t.ins ∨ j ∈ u.ins := by
 intro t
 induction t with
 | leaf => exact fun u j hj => .inr hj
 | node i l r ihl ihr =>
  intro u j hj
  unfold replT at hj
  split at hj
  ·exact .inr hj
  ·split at hj
   ·simp only [T.ins, List.mem_append, List.mem_cons] at hj
    rcases hj with hj | rfl | hj
    ·exact .inl (by simp [T.ins, hj])
    ·exact .inl (by simp [T.ins])
    ·exact (ihr u j hj).imp (fun h => by simp [T.ins, h]) id
   ·simp only [T.ins, List.mem_append, List.mem_cons] at hj
    rcases hj with hj | rfl | hj
    ·exact (ihl u j hj).imp (fun h => by simp [T.ins, h]) id
    ·exact .inl (by simp [T.ins])
    ·exact .inl (by simp [T.ins, hj])
theorem repl_heap : ∀ (t u : T), Heap p t → Heap p u → (∀ j ∈ u.ins, j ∈ (subT go k key t).ins ∨ ∀ i ∈ t.ins, go i = true → p j < p i) → Heap p (replT go k key u t) := by
 intro t
 induction t with
 | leaf => exact fun u _ hu _ => hu
 | node i l r ihl ihr =>
  intro u ht hu hju
  unfold replT
  by_cases hg : go i = false
  ·rw [if_pos hg]
   exact hu
  ·rw [if_neg hg]
   have hg' : go i = true := by cases h : go i with | true => rfl | false => exact absurd h hg
   by_cases hk : k i < key
   ·rw [if_pos hk]
    rw [subT, if_neg hg, if_pos hk] at hju
    refine ⟨ht.1, fun j hj => ?_, ht.2.2.1, ihr u ht.2.2.2 hu (fun j hj => (hju j hj).imp id (fun h q hq => h q (by simp [T.ins, hq])))⟩
    rcases repl_mem go k key r u j hj with h | h
    ·exact ht.2.1 j h
    ·rcases hju j h with h | h
     ·exact ht.2.1 j (sub_mem _ _ _ r j h)
     ·exact h i (by simp [T.ins]) hg'
   ·rw [if_neg hk]
    rw [subT, if_neg hg, if_neg hk] at hju
    refine ⟨fun j hj => ?_, ht.2.1, ihl u ht.2.2.1 hu (fun j hj => (hju j hj).imp id (fun h q hq => h q (by simp [T.ins, hq]))), ht.2.2.2⟩
    rcases repl_mem go k key l u j hj with h | h
    ·exact ht.1 j h
    ·rcases hju j h with h | h
     ·exact ht.1 j (sub_mem _ _ _ l j h)
     ·exact h i (by simp [T.ins]) hg'
theorem sub_heap : ∀ (t : T), Heap p t → Heap p (subT go k key t) := by
 intro t
 induction t with
 | leaf => exact fun h => h
 | node i l r ihl ihr =>
  intro h
  unfold subT
  split
  ·exact h
  ·split
   ·exact ihr h.2.2.2
   ·exact ihl h.2.2.1
theorem sub_up : ∀ (t : T), (t.ins.map k).Pairwise (· < ·) → ((subT go k key t).ins.map k).Pairwise (· < ·) := by
 intro t
 induction t with
 | leaf => exact fun h => h
 | node i l r ihl ihr =>
  intro h
  obtain ⟨u1, u2, _⟩ := up_node k h
  unfold subT
  split
  ·exact h
  ·split
   ·exact ihr u2
   ·exact ihl u1
theorem split_ins : ∀ (t : T), (t.ins.map k).Pairwise (· < ·) → t.ins = (splitT k key t).1.ins ++ (splitT k key t).2.ins ∧ (∀ i ∈ (splitT k key t).1.ins, k i < key) ∧ (∀ i ∈ (splitT k key t).2.ins, key ≤ k i) := by
 intro t
 induction t with
 | leaf => exact fun _ => ⟨rfl, by simp [splitT, T.ins], by simp [splitT, T.ins]⟩
 | node i l r ihl ihr =>
  intro h
  obtain ⟨u1, u2, u3, u4⟩ := up_node k h
  unfold splitT
  by_cases hk : k i < key
  ·rw [if_pos hk]
   obtain ⟨h1, h2, h3⟩ := ihr u2
   refine ⟨?_, fun j hj => ?_, h3⟩
   ·show l.ins ++ i :: r.ins = (l.ins ++ i :: (splitT k key r).1.ins) ++ (splitT k key r).2.ins
    conv => lhs; rw [h1]
    simp
   ·simp only [T.ins, List.mem_append, List.mem_cons] at hj
    rcases hj with hj | rfl | hj
    ·exact Int.lt_trans (u3 j hj) hk
    ·exact hk
    ·exact h2 j hj
  ·rw [if_neg hk]
   obtain ⟨h1, h2, h3⟩ := ihl u1
   refine ⟨?_, h2, fun j hj => ?_⟩
   ·show l.ins ++ i :: r.ins = (splitT k key l).1.ins ++ ((splitT k key l).2.ins ++ i :: r.ins)
    conv => lhs; rw [h1]
    simp
   ·simp only [T.ins, List.mem_append, List.mem_cons] at hj
    rcases hj with hj | rfl | hj
    ·exact h3 j hj
    ·omega
    ·have := u4 j hj; omega
theorem split_mem : ∀ (t : T), (∀ j ∈ (splitT k key t).1.ins, j ∈ t.ins) ∧ (∀ j ∈ (splitT k key t).2.ins, j ∈ t.ins) := by
 intro t
 induction t with
 | leaf => exact ⟨fun j hj => hj, fun j hj => hj⟩
 | node i l r ihl ihr =>
  unfold splitT
  split
  ·refine ⟨fun j hj => ?_, fun j hj => by simp [T.ins, ihr.2 j hj]⟩
   simp only [T.ins, List.mem_append, List.mem_cons] at hj ⊢
   exact hj.imp id (fun h => h.imp id (fun h => ihr.1 j h))
  ·refine ⟨fun j hj => by simp [T.ins, ihl.1 j hj], fun j hj => ?_⟩
   simp only [T.ins, List.mem_append, List.mem_cons] at hj ⊢
   exact hj.imp (fun h => ihl.2 j h) id
theorem split_heap : ∀ (t : T), Heap p t → Heap p (splitT k key t).1 ∧ Heap p (splitT k key t).2 := by
 intro t
 induction t with
 | leaf => exact fun _ => ⟨trivial, trivial⟩
 | node i l r ihl ihr =>
  intro h
  unfold splitT
  split
  ·exact ⟨⟨h.1, fun j hj => h.2.1 j ((split_mem k key r).1 j hj), h.2.2.1, (ihr h.2.2.2).1⟩, (ihr h.2.2.2).2⟩
  ·exact ⟨(ihl h.2.2.1).1, ⟨fun j hj => h.1 j ((split_mem k key l).2 j hj), h.2.1, (ihl h.2.2.1).2, h.2.2.2⟩⟩
theorem merge_heap : ∀ (f : Nat) (a b : T), a.ins.length + b.ins.length < f → Heap p a → Heap p b → (∀ i ∈ a.ins, ∀ j ∈ b.ins, p i ≠ p j) → Heap p (mergeT p f a b) := by
 intro f
 induction f with
 | zero => intro a b h; omega
 | succ f ih =>
  intro a b hf ha hb hne
  cases a with
  | leaf => exact hb
  | node i l r =>
   cases b with
   | leaf => exact ha
   | node j l' r' =>
    rw [len_node, len_node] at hf
    unfold mergeT
    by_cases hp : p j < p i
    ·rw [if_pos hp]
     refine ⟨ha.1, fun q hq => ?_, ha.2.2.1, ih _ _ (by rw [len_node]; omega) ha.2.2.2 hb (fun x hx y hy => hne x (by simp [T.ins, hx]) y hy)⟩
     rw [merge_ins _ _ _ _ (by rw [len_node]; omega), List.mem_append] at hq
     rcases hq with hq | hq
     ·exact ha.2.1 q hq
     ·exact Int.lt_of_le_of_lt (heap_top hb q hq) hp
    ·rw [if_neg hp]
     have hn := hne i (by simp [T.ins]) j (by simp [T.ins])
     refine ⟨fun q hq => ?_, hb.2.1, ih _ _ (by rw [len_node]; omega) ha hb.2.2.1 (fun x hx y hy => hne x hx y (by simp [T.ins, hy])), hb.2.2.2⟩
     rw [merge_ins _ _ _ _ (by rw [len_node]; omega), List.mem_append] at hq
     rcases hq with hq | hq
     ·have := heap_top ha q hq; omega
     ·exact hb.1 q hq
end
/-- Weights of keys are unlike. -/
theorem and_mask (x : Int) : bits .and .i64 x 4294967295 = x % 4294967296 := by
 show IntKind.i64.wrap ((BitVec.ofInt 64 x &&& BitVec.ofInt 64 (4294967295 : Int)).toNat : Int) = _
 rw [BitVec.toNat_and, show (BitVec.ofInt 64 (4294967295 : Int)).toNat = 2 ^ 32 - 1 from rfl, Nat.and_two_pow_sub_one_eq_mod, BitVec.toNat_ofInt, IntKind.wrap_i64]
 obtain ⟨y, hy⟩ : ∃ y : Nat, (x % ((2 ^ 64 : Nat) : Int)).toNat = y := ⟨_, rfl⟩
 rw [hy]
 omega
theorem priOf_eq {a : Int} (h : isKey a = true) : priOf a = a * 2654435761 % 4294967296 := by
 unfold priOf
 rw [if_pos h, and_mask]
 unfold wrap64
 omega
theorem odd_inv : BitVec.ofInt 32 2654435761 * BitVec.ofInt 32 244002641 = 1#32 := by decide
theorem low_inj {a b : Int} (h0 : 0 ≤ a) (h1 : a ≤ 4294967295) (h2 : 0 ≤ b) (h3 : b ≤ 4294967295) (e3 : (a % 4294967296).toNat = (b % 4294967296).toNat) : a = b := by omega
theorem mul_inj (M N : Int) (hm : BitVec.ofInt 32 M * BitVec.ofInt 32 N = 1#32) {a b : Int} (h0 : 0 ≤ a) (h1 : a ≤ 4294967295) (h2 : 0 ≤ b) (h3 : b ≤ 4294967295) (h : a * M % 4294967296 = b * M % 4294967296) : a = b := by
 have e : BitVec.ofInt 32 (a * M) = BitVec.ofInt 32 (b * M) := by
  apply BitVec.eq_of_toNat_eq
  rw [BitVec.toNat_ofInt, BitVec.toNat_ofInt]
  exact congrArg Int.toNat h
 rw [BitVec.ofInt_mul, BitVec.ofInt_mul] at e
 have e2 := congrArg (· * BitVec.ofInt 32 N) e
 simp only [BitVec.mul_assoc] at e2
 rw [hm, BitVec.mul_one, BitVec.mul_one] at e2
 have e3 := congrArg BitVec.toNat e2
 rw [BitVec.toNat_ofInt, BitVec.toNat_ofInt] at e3
 exact low_inj h0 h1 h2 h3 e3
theorem isKey_iff {a : Int} : isKey a = true ↔ 0 ≤ a ∧ a ≤ 4294967295 := by
 unfold isKey
 simp only [Bool.and_eq_true, decide_eq_true_eq]
theorem pri_inj {a b : Int} (ha : isKey a = true) (hb : isKey b = true) (h : priOf a = priOf b) : a = b := by
 rw [priOf_eq ha, priOf_eq hb] at h
 have ha := isKey_iff.1 ha
 have hb := isKey_iff.1 hb
 exact mul_inj _ _ odd_inv ha.1 ha.2 hb.1 hb.2 h
end Treap
end Go.Proofs.Ytjdjmhagafmkaaa

/-
 A key more, a key less, told by the rows of keys. No program.
-/
namespace Go.Proofs.Ytjdjmhagafmkaaa
open Go.RowKit
namespace Treap
theorem nd_app {ns : List Nd} {x : Nd} {j : Nat} (h : j < ns.length) : nd (ns ++ [x]) j = nd ns j := by
 unfold nd
 rw [List.getD_eq_getElem?_getD, List.getD_eq_getElem?_getD, List.getElem?_append_left h]
theorem nd_new {ns : List Nd} {x : Nd} : nd (ns ++ [x]) ns.length = x := by
 unfold nd
 rw [List.getD_eq_getElem?_getD, List.getElem?_concat_length]
 rfl
theorem Rep.grow {ns : List Nd} {root : Int} (x : Nd) : ∀ (t : T) (a : Int), Rep (ns, root) a t → Rep (ns ++ [x], root) a t := by
 intro t
 induction t with
 | leaf => exact fun a h => h
 | node i l r ihl ihr =>
  rintro a ⟨rfl, hi, h1, h2⟩
  have hi' : i < ns.length := hi
  have e1 : G (ns ++ [x], root) (.left i) = G (ns, root) (.left i) := by show (nd (ns ++ [x]) i).left = (nd ns i).left; rw [nd_app hi']
  have e2 : G (ns ++ [x], root) (.right i) = G (ns, root) (.right i) := by show (nd (ns ++ [x]) i).right = (nd ns i).right; rw [nd_app hi']
  refine ⟨rfl, by show i < (ns ++ [x]).length; simp; omega, ?_, ?_⟩
  ·rw [e1]; exact ihl _ h1
  ·rw [e2]; exact ihr _ h2
theorem heap_congr {p q : Nat → Int} : ∀ (t : T), (∀ j ∈ t.ins, p j = q j) → Heap p t → Heap q t := by
 intro t
 induction t with
 | leaf => exact fun _ _ => trivial
 | node i l r ihl ihr =>
  rintro h ⟨h1, h2, h3, h4⟩
  have hi := h i (by simp [T.ins])
  exact ⟨fun j hj => by rw [← hi, ← h j (by simp [T.ins, hj])]; exact h1 j hj, fun j hj => by rw [← hi, ← h j (by simp [T.ins, hj])]; exact h2 j hj, ihl (fun j hj => h j (by simp [T.ins, hj])) h3, ihr (fun j hj => h j (by simp [T.ins, hj])) h4⟩
/-- The way to a key: where nothing hangs, it is not there. -/
theorem sub_other (key : Int) (k : Nat → Int) : ∀ (t : T), (t.ins.map k).Pairwise (· < ·) → (key ∉ t.ins.map k ∧ subT (fun j => k j != key) k key t = .leaf) ∨ (∃ i l r, subT (fun j => k j != key) k key t = .node i l r ∧ k i = key ∧ key ∈ t.ins.map k) := by
 intro t
 induction t with
 | leaf => exact fun _ => .inl ⟨by simp [T.ins], rfl⟩
 | node i l r ihl ihr =>
  intro hup
  obtain ⟨u1, u2, u3, u4⟩ := up_node k hup
  unfold subT
  by_cases he : k i = key
  ·rw [if_pos (by simp [he])]
   exact .inr ⟨i, l, r, rfl, he, by simp [T.ins, he]⟩
  ·rw [if_neg (by simp [he])]
   by_cases hk : k i < key
   ·rw [if_pos hk]
    rcases ihr u2 with ⟨h1, h2⟩ | ⟨i', l', r', h1, h2, h3⟩
    ·refine .inl ⟨?_, h2⟩
     simp only [T.ins, List.map_append, List.map_cons, List.mem_append, List.mem_cons, not_or]
     refine ⟨fun h => ?_, fun e => he e.symm, h1⟩
     obtain ⟨j, hj, e⟩ := List.mem_map.1 h
     have := u3 j hj
     omega
    ·exact .inr ⟨i', l', r', h1, h2, by simp only [T.ins, List.map_append, List.map_cons, List.mem_append, List.mem_cons]; exact .inr (.inr h3)⟩
   ·rw [if_neg hk]
    rcases ihl u1 with ⟨h1, h2⟩ | ⟨i', l', r', h1, h2, h3⟩
    ·refine .inl ⟨?_, h2⟩
     simp only [T.ins, List.map_append, List.map_cons, List.mem_append, List.mem_cons, not_or]
     refine ⟨h1, fun e => he e.symm, fun h => ?_⟩
     obtain ⟨j, hj, e⟩ := List.mem_map.1 h
     have := u4 j hj
     omega
    ·exact .inr ⟨i', l', r', h1, h2, by simp only [T.ins, List.map_append, List.map_cons, List.mem_append, List.mem_cons]; exact .inl h3⟩
theorem no_root {j : Nat} : ¬ isOf .root j := fun h => by rcases h with h | h <;> cases h
theorem Good.may {s : List Nd × Int} {t : T} (h : Good s t) (h64 : s.1.length ≤ 64) {key : Int} (hk : isKey key = true) : ¬ mayB s.1 s.2 key = false := by
 unfold mayB
 rw [h.right h64, hk]
 simp
/-- A key that is there already; a tree that is full. -/
theorem put_twice {s : List Nd × Int} {t : T} (h : Good s t) (h64 : s.1.length ≤ 64) {key : Int} (hk : isKey key = true) (hin : key ∈ t.ins.map (K s)) : putF s.1 s.2 key = some (([], 0), 7) := by
 obtain ⟨m, h1, h2, _⟩ := seek_spec (goOther key) key s t (s.1.length + 1) .root h.rep h.nodup (by rw [h.len]; omega) trivial (fun _ _ => no_root)
 unfold putF
 rw [if_neg (h.may h64 hk), h1]
 simp only
 rcases sub_other key (K s) t h.up with ⟨h3, _⟩ | ⟨i, l, r, h3, _⟩
 ·exact absurd hin h3
 ·have e : (fun j => goOther key (nd s.1 j)) = fun j => K s j != key := rfl
  rw [e, h3] at h2
  have e2 : lget s.1 s.2 m = i := h2.1
  rw [if_pos (by rw [e2]; omega)]
theorem put_full {s : List Nd × Int} {t : T} (h : Good s t) (h64 : s.1.length = 64) {key : Int} (hk : isKey key = true) (hin : key ∉ t.ins.map (K s)) : putF s.1 s.2 key = some (([], 0), 5) := by
 obtain ⟨m, h1, h2, _⟩ := seek_spec (goOther key) key s t (s.1.length + 1) .root h.rep h.nodup (by rw [h.len]; omega) trivial (fun _ _ => no_root)
 unfold putF
 rw [if_neg (h.may (Nat.le_of_eq h64) hk), h1]
 simp only
 rcases sub_other key (K s) t h.up with ⟨_, h3⟩ | ⟨i, l, r, h3, _, h4⟩
 ·have e : (fun j => goOther key (nd s.1 j)) = fun j => K s j != key := rfl
  rw [e, h3] at h2
  have e2 : lget s.1 s.2 m = -1 := h2
  rw [if_neg (by rw [e2]; simp), if_pos h64]
 ·exact absurd h4 hin
/-- A key more. -/
theorem put_good {s : List Nd × Int} {t : T} (h : Good s t) (h64 : s.1.length < 64) {key : Int} (hk : isKey key = true) (hin : key ∉ t.ins.map (K s)) :
  ∃ s' t', putF s.1 s.2 key = some (s', 0) ∧ s'.1.length = s.1.length + 1 ∧ Good s' t' ∧ ∃ A B, t.ins.map (K s) = A ++ B ∧ t'.ins.map (K s') = A ++ key :: B ∧ (∀ x ∈ A, x < key) ∧ (∀ x ∈ B, key < x) := by
 obtain ⟨m0, h1, h2, _⟩ := seek_spec (goOther key) key s t (s.1.length + 1) .root h.rep h.nodup (by rw [h.len]; omega) trivial (fun _ _ => no_root)
 have hl0 : lget s.1 s.2 m0 = -1 := by
  rcases sub_other key (K s) t h.up with ⟨_, h3⟩ | ⟨i, l, r, h3, _, h4⟩
  ·have e : (fun j => goOther key (nd s.1 j)) = fun j => K s j != key := rfl
   rw [e, h3] at h2
   exact h2
  ·exact absurd h4 hin
 clear h2
 -- the row with the new node
 obtain ⟨s1, hs1⟩ : ∃ s1 : List Nd × Int, s1 = (s.1 ++ [⟨key, -1, -1⟩], s.2) := ⟨_, rfl⟩
 have hrep1 : Rep s1 (G s1 .root) t := by rw [hs1]; exact Rep.grow _ t _ h.rep
 have hlen1 : s1.1.length = s.1.length + 1 := by rw [hs1]; simp
 have hKold : ∀ j, j < s.1.length → K s1 j = K s j := fun j hj => by rw [hs1]; show (nd (s.1 ++ [_]) j).key = _; rw [nd_app hj]; rfl
 have hKnew : K s1 s.1.length = key := by rw [hs1]; show (nd (s.1 ++ [_]) s.1.length).key = _; rw [nd_new]
 have hlt : ∀ j ∈ t.ins, j < s.1.length := fun j hj => h.rep.lt t _ j hj
 have hkmap : t.ins.map (K s1) = t.ins.map (K s) := List.map_congr_left (fun j hj => hKold j (hlt j hj))
 have hup1 : (t.ins.map (K s1)).Pairwise (· < ·) := by rw [hkmap]; exact h.up
 have hheap1 : Heap (Pr s1) t := heap_congr t (fun j hj => by unfold Pr; rw [hKold j (hlt j hj)]) h.heap
 have hne : ∀ j ∈ t.ins, Pr s1 j ≠ priOf key := fun j hj e => hin (List.mem_map.2 ⟨j, hj, pri_inj (h.keys j hj) hk (by rw [← hKold j (hlt j hj)]; exact e)⟩)
 obtain ⟨m, g1, g2, g3, g4, g5, g6⟩ := seek_spec (goHeavy key) key s1 t (s.1.length + 2) .root hrep1 h.nodup (by rw [h.len]; omega) trivial (fun _ _ => no_root)
 obtain ⟨go, hgo⟩ : ∃ go : Nat → Bool, go = fun j => goHeavy key (nd s1.1 j) := ⟨_, rfl⟩
 rw [← hgo] at g1 g2 g5 g6
 have hgoj : ∀ j, go j = decide (priOf key < Pr s1 j) := fun j => by rw [hgo]; rfl
 obtain ⟨t0, ht0⟩ : ∃ t0, t0 = subT go (K s1) key t := ⟨_, rfl⟩
 rw [← ht0] at g2 g5 g6
 have ht0m : ∀ j ∈ t0.ins, j ∈ t.ins := by rw [ht0]; exact sub_mem _ _ _ t
 have ht0n : t0.ins.Nodup := by rw [ht0]; exact sub_nodup _ _ _ t h.nodup
 have ht0l : t0.ins.length ≤ t.ins.length := by rw [ht0]; exact subT_len _ _ _ t
 have hmn : ∀ j, isOf m j → j < s.1.length := fun j hj => by
  rcases g4 with rfl | ⟨q, hq, hmq⟩
  ·exact absurd hj no_root
  ·rw [isOf_inj hj hmq]; exact hlt q hq
 have hnt0 : s.1.length ∉ t0.ins := fun hh => Nat.lt_irrefl _ (hlt _ (ht0m _ hh))
 -- the new node is hung up
 have hs2len : (lset s1 m s.1.length).1.length = s.1.length + 1 := by rw [lset_len, hlen1]
 have hs2K : K (lset s1 m s.1.length) = K s1 := K_set _ _ _ g3
 have hrep2 : Rep (lset s1 m s.1.length) (G s1 m) t0 := Rep.frame (lset_len _ _ _) t0 _ g2 (fun j hj => ⟨G_other _ _ _ _ g3 (fun e => g5 j hj (.inl e.symm)), G_other _ _ _ _ g3 (fun e => g5 j hj (.inr e.symm))⟩)
 obtain ⟨s', p1, p2, p3, p4, p5, p6⟩ := split_spec key t0 (s.1.length + 2) (lset s1 m s.1.length) (G s1 m) (.left s.1.length) (.right s.1.length) hrep2 ht0n (by have := h.len; omega) (by rw [hs2len]; exact Nat.lt_succ_self _) (by rw [hs2len]; exact Nat.lt_succ_self _) (fun e => by cases e) (fun j hj => ⟨fun e => hnt0 (by rw [isOf_inj (i := s.1.length) (.inl rfl) e]; exact hj), fun e => hnt0 (by rw [isOf_inj (i := s.1.length) (.inr rfl) e]; exact hj)⟩)
 rw [hs2K] at p2 p3 p5
 have hlen' : s'.1.length = s.1.length + 1 := by rw [p4, hs2len]
 obtain ⟨u, hu⟩ : ∃ u, u = T.node s.1.length (splitT (K s1) key t0).1 (splitT (K s1) key t0).2 := ⟨_, rfl⟩
 have hGm : G s' m = s.1.length := by
  rw [p6 m (fun e => Nat.lt_irrefl _ (hmn s.1.length (.inl e))) (fun e => Nat.lt_irrefl _ (hmn s.1.length (.inr e))) (fun j hj => g5 j hj), G_same _ _ _ g3]
 have hrepu : Rep s' (G s' m) u := by rw [hu]; exact ⟨hGm, by rw [hlen']; exact Nat.lt_succ_self _, p2, p3⟩
 have hrep' := g6 s' u (by rw [hlen', hlen1]) (fun m' hm' hne hsub => by
  have hno : ∀ q, isOf m' q → q < s.1.length := fun q hq => by
   rcases hm' with rfl | ⟨j, hj, hjm⟩
   ·exact absurd hq no_root
   ·rw [isOf_inj hq hjm]; exact hlt j hj
  rw [p6 m' (fun e => Nat.lt_irrefl _ (hno s.1.length (.inl e))) (fun e => Nat.lt_irrefl _ (hno s.1.length (.inr e))) (fun j hj => hsub j hj), G_other _ _ _ _ g3 hne]) hrepu
 -- what order and weights are
 obtain ⟨A, B, q1, q2, q3, q4⟩ := path_spec go (K s1) key t hup1
 rw [← ht0] at q1
 obtain ⟨r1, r2, r3⟩ := split_ins (K s1) key t0 (by rw [ht0]; exact sub_up _ _ _ t hup1)
 have hins : (replT go (K s1) key u t).ins = (A ++ (splitT (K s1) key t0).1.ins) ++ s.1.length :: ((splitT (K s1) key t0).2.ins ++ B) := by
  rw [q2, hu]
  simp [T.ins]
 have htins : t.ins = (A ++ (splitT (K s1) key t0).1.ins) ++ ((splitT (K s1) key t0).2.ins ++ B) := by
  rw [q1, r1]
  simp
 have hA : ∀ i ∈ A ++ (splitT (K s1) key t0).1.ins, K s1 i < key := fun i hi => by
  rcases List.mem_append.1 hi with hi | hi
  ·exact q3 i hi
  ·exact r2 i hi
 have hB : ∀ i ∈ (splitT (K s1) key t0).2.ins ++ B, key < K s1 i := fun i hi => by
  have hle : key ≤ K s1 i := by
   rcases List.mem_append.1 hi with hi | hi
   ·exact r3 i hi
   ·exact q4 i hi
  have hmem : i ∈ t.ins := by rw [htins]; exact List.mem_append.2 (.inr hi)
  have : K s1 i ≠ key := fun e => hin (by rw [← hkmap]; exact List.mem_map.2 ⟨i, hmem, e⟩)
  omega
 have hheap' : Heap (Pr s1) (replT go (K s1) key u t) := by
  have hPn : Pr s1 s.1.length = priOf key := by unfold Pr; rw [hKnew]
  refine repl_heap go (K s1) key (Pr s1) t u hheap1 ?_ (fun j hj => ?_)
  ·rw [hu]
   have hlow : ∀ j ∈ t0.ins, Pr s1 j < Pr s1 s.1.length := by
    have hh0 : Heap (Pr s1) t0 := by rw [ht0]; exact sub_heap _ _ _ _ t hheap1
    cases ht : t0 with
    | leaf => intro j hj; simp [T.ins] at hj
    | node i l r =>
     intro j hj
     have hgi : go i = false := by
      have key2 : ∀ (t : T) (i : Nat) (l r : T), subT go (K s1) key t = .node i l r → go i = false := by
       intro t
       induction t with
       | leaf => intro i l r e; cases e
       | node i0 l0 r0 ihl ihr =>
        intro i l r e
        unfold subT at e
        split at e
        ·rename_i hg; injection e with e; rw [← e]; exact hg
        ·split at e
         ·exact ihr i l r e
         ·exact ihl i l r e
      exact key2 t i l r (by rw [← ht0]; exact ht)
     rw [hgoj, decide_eq_false_iff_not] at hgi
     rw [ht] at hh0
     have hji := heap_top hh0 j hj
     have hin0 := hne i (ht0m i (by rw [ht]; simp [T.ins]))
     rw [hPn]
     omega
   obtain ⟨v1, v2⟩ := split_heap (K s1) key (Pr s1) t0 (by rw [ht0]; exact sub_heap _ _ _ _ t hheap1)
   exact ⟨fun j hj => hlow j ((split_mem (K s1) key t0).1 j hj), fun j hj => hlow j ((split_mem (K s1) key t0).2 j hj), v1, v2⟩
  ·rw [hu] at hj
   simp only [T.ins, List.mem_append, List.mem_cons] at hj
   rcases hj with hj | rfl | hj
   ·exact .inl (by rw [← ht0]; exact (split_mem (K s1) key t0).1 j hj)
   ·right
    intro i _ hi
    rw [hgoj, decide_eq_true_eq] at hi
    rw [hPn]
    exact hi
   ·exact .inl (by rw [← ht0]; exact (split_mem (K s1) key t0).2 j hj)
 refine ⟨s', replT go (K s1) key u t, ?_, hlen', ⟨?_, ?_, ?_, ?_, ?_⟩, (A ++ (splitT (K s1) key t0).1.ins).map (K s1), ((splitT (K s1) key t0).2.ins ++ B).map (K s1), ?_, ?_, ?_, ?_⟩
 ·unfold putF
  rw [if_neg (h.may (Nat.le_of_lt h64) hk), h1]
  simp only
  rw [if_neg (by rw [hl0]; simp), if_neg (by omega)]
  obtain ⟨z1, hz1⟩ : ∃ z, some (m, z) = some (m, depT go (K s1) key t, (visT go (K s1) key t).map (nd s1.1)) := ⟨_, rfl⟩
  rw [← hz1] at g1
  rw [hs1] at g1
  dsimp only at g1
  rw [g1]
  simp only
  have p1' : splitF key (s.1.length + 2) (lset (s.1 ++ [⟨key, -1, -1⟩], s.2) m s.1.length) (lget (s.1 ++ [⟨key, -1, -1⟩]) s.2 m) (.left s.1.length) (.right s.1.length) = some s' := by rw [hs1] at p1; exact p1
  rw [p1']
 ·exact hrep'
 ·rw [hins, hlen']
  have := congrArg List.length htins
  rw [h.len] at this
  simp only [List.length_append, List.length_cons] at this ⊢
  omega
 ·rw [p5, hins, List.map_append, List.map_cons, hKnew, List.pairwise_append, List.pairwise_cons]
  rw [htins, List.map_append, List.pairwise_append] at hup1
  refine ⟨hup1.1, ⟨fun x hx => ?_, hup1.2.1⟩, fun x hx y hy => ?_⟩
  ·obtain ⟨i, hi, rfl⟩ := List.mem_map.1 hx
   exact hB i hi
  ·obtain ⟨i, hi, rfl⟩ := List.mem_map.1 hx
   rcases List.mem_cons.1 hy with rfl | hy
   ·exact hA i hi
   ·exact Int.lt_trans (hA i hi) (by obtain ⟨j, hj, rfl⟩ := List.mem_map.1 hy; exact hB j hj)
 ·intro j hj
  rw [p5]
  rw [hins] at hj
  have : j = s.1.length ∨ j ∈ t.ins := by
   rw [htins]
   simp only [List.mem_append, List.mem_cons] at hj ⊢
   rcases hj with hj | rfl | hj
   ·exact .inr (.inl hj)
   ·exact .inl rfl
   ·exact .inr (.inr hj)
  rcases this with rfl | hj
  ·rw [hKnew]; exact hk
  ·rw [hKold j (hlt j hj)]; exact h.keys j hj
 ·have e : Pr s' = Pr s1 := funext fun j => by unfold Pr; rw [p5]
  rw [e]
  exact hheap'
 ·rw [← List.map_append, ← htins, hkmap]
 ·rw [p5, hins, List.map_append, List.map_cons, hKnew]
 ·intro x hx
  obtain ⟨i, hi, rfl⟩ := List.mem_map.1 hx
  exact hA i hi
 ·intro x hx
  obtain ⟨i, hi, rfl⟩ := List.mem_map.1 hx
  exact hB i hi
end Treap
end Go.Proofs.Ytjdjmhagafmkaaa

/-
 A key less, told by the rows of keys. No program.
-/
namespace Go.Proofs.Ytjdjmhagafmkaaa
open Go.RowKit
namespace Treap
def shiftN (at_ j : Nat) : Nat := if at_ < j then j - 1 else j
def T.mapI (f : Nat → Nat) : T → T
 | .leaf => .leaf
 | .node i l r => .node (f i) (l.mapI f) (r.mapI f)
theorem mapI_ins (f : Nat → Nat) : ∀ t : T, (t.mapI f).ins = t.ins.map f := by
 intro t
 induction t with
 | leaf => rfl
 | node i l r ihl ihr => simp [T.mapI, T.ins, ihl, ihr]
theorem mapI_heap {p q : Nat → Int} (f : Nat → Nat) : ∀ t : T, (∀ j ∈ t.ins, q (f j) = p j) → Heap p t → Heap q (t.mapI f) := by
 intro t
 induction t with
 | leaf => exact fun _ _ => trivial
 | node i l r ihl ihr =>
  rintro h ⟨h1, h2, h3, h4⟩
  have hi := h i (by simp [T.ins])
  refine ⟨fun j hj => ?_, fun j hj => ?_, ihl (fun j hj => h j (by simp [T.ins, hj])) h3, ihr (fun j hj => h j (by simp [T.ins, hj])) h4⟩
  ·rw [mapI_ins] at hj
   obtain ⟨q', hq, rfl⟩ := List.mem_map.1 hj
   rw [hi, h q' (by simp [T.ins, hq])]
   exact h1 q' hq
  ·rw [mapI_ins] at hj
   obtain ⟨q', hq, rfl⟩ := List.mem_map.1 hj
   rw [hi, h q' (by simp [T.ins, hq])]
   exact h2 q' hq
theorem nd_without (s : List Nd × Int) (at_ j : Nat) (_hat : at_ < s.1.length) (hj : j < s.1.length) (hne : j ≠ at_) : nd (withoutL s at_).1 (shiftN at_ j) = ⟨(nd s.1 j).key, shiftI at_ (nd s.1 j).left, shiftI at_ (nd s.1 j).right⟩ := by
 have e : (s.1.eraseIdx at_)[shiftN at_ j]? = some (nd s.1 j) := by
  rw [List.getElem?_eraseIdx]
  unfold shiftN
  by_cases h : at_ < j
  ·rw [if_pos h, if_neg (by omega), show j - 1 + 1 = j by omega]
   exact nd_at hj
  ·rw [if_neg h, if_pos (by omega)]
   exact nd_at hj
 have e2 : (withoutL s at_).1[shiftN at_ j]? = some ⟨(nd s.1 j).key, shiftI at_ (nd s.1 j).left, shiftI at_ (nd s.1 j).right⟩ := by
  unfold withoutL
  rw [List.getElem?_map, e]
  rfl
 unfold nd at *
 rw [List.getD_eq_getElem?_getD, e2]
 rfl
theorem shift_nat (at_ i : Nat) (_h : i ≠ at_) : shiftI at_ (i : Int) = (shiftN at_ i : Int) := by
 unfold shiftI shiftN
 by_cases hi : at_ < i
 ·rw [if_pos hi, if_pos (by omega)]
  omega
 ·rw [if_neg hi, if_neg (by omega)]
theorem without_len (s : List Nd × Int) (at_ : Nat) (hat : at_ < s.1.length) : (withoutL s at_).1.length = s.1.length - 1 := by
 unfold withoutL
 rw [List.length_map, List.length_eraseIdx, if_pos hat]
theorem rep_without (s : List Nd × Int) (at_ : Nat) (hat : at_ < s.1.length) : ∀ (t : T) (a : Int), Rep s a t → at_ ∉ t.ins → Rep (withoutL s at_) (shiftI at_ a) (t.mapI (shiftN at_)) := by
 intro t
 induction t with
 | leaf =>
  intro a h _
  have h : a = -1 := h
  show shiftI at_ a = -1
  rw [h]
  unfold shiftI
  rw [if_neg (by omega)]
 | node i l r ihl ihr =>
  rintro a ⟨rfl, hi, h1, h2⟩ hn
  have hne : i ≠ at_ := fun e => hn (by simp [T.ins, e])
  have e := nd_without s at_ i hat hi hne
  refine ⟨shift_nat at_ i hne, ?_, ?_, ?_⟩
  ·rw [without_len s at_ hat]
   unfold shiftN
   split <;> omega
  ·show Rep _ (nd (withoutL s at_).1 (shiftN at_ i)).left _
   rw [e]
   exact ihl _ h1 (fun h => hn (by simp [T.ins, h]))
  ·show Rep _ (nd (withoutL s at_).1 (shiftN at_ i)).right _
   rw [e]
   exact ihr _ h2 (fun h => hn (by simp [T.ins, h]))
theorem del_none {s : List Nd × Int} {t : T} (h : Good s t) (h64 : s.1.length ≤ 64) {key : Int} (hk : isKey key = true) (hin : key ∉ t.ins.map (K s)) : delF s.1 s.2 key = some (([], 0), 4) := by
 obtain ⟨m, h1, h2, _⟩ := seek_spec (goOther key) key s t (s.1.length + 1) .root h.rep h.nodup (by rw [h.len]; omega) trivial (fun _ _ => no_root)
 unfold delF
 rw [if_neg (h.may h64 hk), h1]
 simp only
 rcases sub_other key (K s) t h.up with ⟨_, h3⟩ | ⟨i, l, r, h3, _, h4⟩
 ·have e : (fun j => goOther key (nd s.1 j)) = fun j => K s j != key := rfl
  rw [e, h3] at h2
  have e2 : lget s.1 s.2 m = -1 := h2
  rw [if_pos e2]
 ·exact absurd h4 hin
/-- A key less. -/
theorem del_good {s : List Nd × Int} {t : T} (h : Good s t) (h64 : s.1.length ≤ 64) {key : Int} (hk : isKey key = true) (hin : key ∈ t.ins.map (K s)) :
  ∃ s' t', delF s.1 s.2 key = some (s', 0) ∧ s'.1.length = s.1.length - 1 ∧ Good s' t' ∧ ∃ A B, t.ins.map (K s) = A ++ key :: B ∧ t'.ins.map (K s') = A ++ B := by
 obtain ⟨m, h1, h2, h3, h4, h5, h6⟩ := seek_spec (goOther key) key s t (s.1.length + 1) .root h.rep h.nodup (by rw [h.len]; omega) trivial (fun _ _ => no_root)
 obtain ⟨go, hgo⟩ : ∃ go : Nat → Bool, go = fun j => goOther key (nd s.1 j) := ⟨_, rfl⟩
 have hgo2 : go = fun j => K s j != key := hgo
 rw [← hgo] at h1 h2 h5 h6
 rcases sub_other key (K s) t h.up with ⟨hn, _⟩ | ⟨i, l, r, hs, hki, _⟩
 ·exact absurd hin hn
 rw [← hgo2] at hs
 rw [hs] at h2 h5 h6
 obtain ⟨g1, g2, g3, g4⟩ := h2
 have hlm : lget s.1 s.2 m = i := g1
 have hsub : ∀ j ∈ (T.node i l r).ins, j ∈ t.ins := fun j hj => sub_mem go (K s) key t j (by rw [hs]; exact hj)
 have hnd : (T.node i l r).ins.Nodup := by rw [← hs]; exact sub_nodup go (K s) key t h.nodup
 obtain ⟨n1, n2, n3, n4, n5⟩ := nodup_node hnd
 have hlen : (T.node i l r).ins.length ≤ t.ins.length := by rw [← hs]; exact subT_len go (K s) key t
 rw [len_node, h.len] at hlen
 have hheap0 : Heap (Pr s) (.node i l r) := by rw [← hs]; exact sub_heap go (K s) key (Pr s) t h.heap
 obtain ⟨s1, p1, p2, p3, p4, p5⟩ := merge_spec (2 * s.1.length + 2) l r s m (G s (.left i)) (G s (.right i)) g3 g4 n1 n2 n5 (by omega) h3 (fun j hj => h5 j (by simp only [T.ins, List.mem_append, List.mem_cons]; exact hj.imp id .inr))
 obtain ⟨u, hu⟩ : ∃ u, u = mergeT (Pr s) (2 * s.1.length + 2) l r := ⟨_, rfl⟩
 rw [← hu] at p2
 have hui : u.ins = l.ins ++ r.ins := by rw [hu]; exact merge_ins _ _ _ _ (by omega)
 have hrep1 := h6 s1 u p3 (fun m' _ hne hsub => p5 m' hne (fun j hj => hsub j (by simp only [T.ins, List.mem_append, List.mem_cons]; exact hj.imp id .inr))) p2
 obtain ⟨t1, ht1⟩ : ∃ t1, t1 = replT go (K s) key u t := ⟨_, rfl⟩
 rw [← ht1] at hrep1
 obtain ⟨A, B, q1, q2, _, _⟩ := path_spec go (K s) key t h.up
 rw [hs] at q1
 have q2 := q2 u
 rw [← ht1, hui] at q2
 have htins : t.ins = (A ++ l.ins) ++ i :: (r.ins ++ B) := by rw [q1]; simp [T.ins]
 have ht1ins : t1.ins = (A ++ l.ins) ++ (r.ins ++ B) := by rw [q2]; simp
 have hin1 : i ∉ t1.ins := by
  have hn := h.nodup
  rw [htins, List.nodup_append, List.nodup_cons] at hn
  rw [ht1ins, List.mem_append, not_or]
  exact ⟨fun hh => hn.2.2 i hh i (by simp) rfl, hn.2.1.1⟩
 have hsubt : ∀ j ∈ t1.ins, j ∈ t.ins := fun j hj => by
  rw [htins]
  rw [ht1ins] at hj
  rcases List.mem_append.1 hj with hj | hj
  ·exact List.mem_append.2 (.inl hj)
  ·exact List.mem_append.2 (.inr (List.mem_cons_of_mem _ hj))
 have hheap1 : Heap (Pr s) t1 := by
  rw [ht1]
  refine repl_heap go (K s) key (Pr s) t u h.heap ?_ (fun j hj => .inl ?_)
  ·rw [hu]
   refine merge_heap _ _ _ _ (by omega) hheap0.2.2.1 hheap0.2.2.2 (fun x hx y hy e => ?_)
   have hx' := hsub x (by simp [T.ins, hx])
   have hy' := hsub y (by simp [T.ins, hy])
   have ek : K s x = K s y := pri_inj (h.keys x hx') (h.keys y hy') e
   have hup := sub_up go (K s) key t h.up
   rw [hs, T.ins, List.map_append, List.map_cons, List.pairwise_append] at hup
   have := hup.2.2 (K s x) (List.mem_map.2 ⟨x, hx, rfl⟩) (K s y) (List.mem_cons_of_mem _ (List.mem_map.2 ⟨y, hy, rfl⟩))
   omega
  ·rw [hs]
   rw [hui] at hj
   simp only [T.ins, List.mem_append, List.mem_cons] at hj ⊢
   exact hj.imp id .inr
 have hat : i < s1.1.length := by rw [p3]; exact g2
 have hKw : ∀ j ∈ t1.ins, K (withoutL s1 i) (shiftN i j) = K s j := fun j hj => by
  have hne : j ≠ i := fun e => hin1 (by rw [← e]; exact hj)
  have hjl : j < s1.1.length := by rw [p3]; exact h.rep.lt t _ j (hsubt j hj)
  show (nd (withoutL s1 i).1 (shiftN i j)).key = _
  rw [nd_without s1 i j hat hjl hne, ← p4]
  rfl
 have hkeys : (t1.mapI (shiftN i)).ins.map (K (withoutL s1 i)) = t1.ins.map (K s) := by
  rw [mapI_ins, List.map_map]
  exact List.map_congr_left (fun j hj => hKw j hj)
 have hlen1 : t1.ins.length = s.1.length - 1 := by
  have := congrArg List.length htins
  rw [h.len] at this
  rw [ht1ins]
  simp only [List.length_append, List.length_cons] at this ⊢
  omega
 refine ⟨withoutL s1 i, t1.mapI (shiftN i), ?_, by rw [without_len s1 i hat, p3], ⟨rep_without s1 i hat t1 _ hrep1 hin1, ?_, ?_, ?_, ?_⟩, (A ++ l.ins).map (K s), (r.ins ++ B).map (K s), ?_, ?_⟩
 ·unfold delF
  rw [if_neg (h.may h64 hk), h1]
  simp only
  rw [hlm, if_neg (by omega), if_neg (by omega), Int.toNat_natCast]
  have p1' : mergeF (2 * s.1.length + 2) (s.1, s.2) m (nd s.1 i).left (nd s.1 i).right = some s1 := p1
  rw [p1']
 ·rw [mapI_ins, List.length_map, hlen1, without_len s1 i hat, p3]
 ·rw [hkeys]
  have hup := h.up
  rw [htins] at hup
  rw [ht1ins]
  rw [List.map_append, List.map_cons, List.pairwise_append, List.pairwise_cons] at hup
  rw [List.map_append, List.pairwise_append]
  exact ⟨hup.1, hup.2.1.2, fun x hx y hy => hup.2.2 x hx y (List.mem_cons_of_mem _ hy)⟩
 ·intro j hj
  rw [mapI_ins] at hj
  obtain ⟨q, hq, rfl⟩ := List.mem_map.1 hj
  rw [hKw q hq]
  exact h.keys q (hsubt q hq)
 ·refine mapI_heap (p := Pr s) (shiftN i) t1 (fun j hj => ?_) hheap1
  unfold Pr
  rw [hKw j hj]
 ·rw [htins, List.map_append, List.map_cons, hki]
 ·rw [hkeys, ht1ins, List.map_append]
end Treap
end Go.Proofs.Ytjdjmhagafmkaaa

/-
 How deep keys are, and which comes next, told by the rows of keys: the tree of rising keys is one alone. No program.
-/
namespace Go.Proofs.Ytjdjmhagafmkaaa
open Go.RowKit
namespace Treap
inductive KT where
 | leaf : KT
 | node : Int → KT → KT → KT
def T.kt (k : Nat → Int) : T → KT
 | .leaf => .leaf
 | .node i l r => .node (k i) (l.kt k) (r.kt k)
namespace KT
def keys : KT → List Int
 | .leaf => []
 | .node k l r => l.keys ++ k :: r.keys
def Heap : KT → Prop
 | .leaf => True
 | .node k l r => (∀ x ∈ l.keys, priOf x < priOf k) ∧ (∀ x ∈ r.keys, priOf x < priOf k) ∧ l.Heap ∧ r.Heap
def dep (key : Int) : KT → Nat
 | .leaf => 0
 | .node k l r => if k = key then 0 else (if k < key then dep key r else dep key l) + 1
theorem app_inj {α : Type} {a : α} : ∀ (L L' R R' : List α), L ++ a :: R = L' ++ a :: R' → a ∉ L → a ∉ L' → L = L' ∧ R = R' := by
 intro L
 induction L with
 | nil =>
  intro L' R R' h _ h2
  cases L' with
  | nil => exact ⟨rfl, (List.cons.inj h).2⟩
  | cons x L' => exact absurd (List.mem_cons.2 (.inl (List.cons.inj h).1)) h2
 | cons x L ih =>
  intro L' R R' h h1 h2
  cases L' with
  | nil => exact absurd (List.mem_cons.2 (.inl (List.cons.inj h).1.symm)) h1
  | cons y L' =>
   obtain ⟨e1, e2⟩ := List.cons.inj h
   obtain ⟨e3, e4⟩ := ih L' R R' e2 (fun hh => h1 (List.mem_cons_of_mem _ hh)) (fun hh => h2 (List.mem_cons_of_mem _ hh))
   exact ⟨by rw [e1, e3], e4⟩
theorem root_max {k : Int} {l r : KT} (h : (KT.node k l r).Heap) : ∀ x ∈ (KT.node k l r).keys, x = k ∨ priOf x < priOf k := by
 intro x hx
 simp only [keys, List.mem_append, List.mem_cons] at hx
 rcases hx with hx | rfl | hx
 ·exact .inr (h.1 x hx)
 ·exact .inl rfl
 ·exact .inr (h.2.1 x hx)
theorem root_notin {k : Int} {l r : KT} (h : (KT.node k l r).Heap) : k ∉ l.keys ∧ k ∉ r.keys := ⟨fun hh => Int.lt_irrefl _ (h.1 k hh), fun hh => Int.lt_irrefl _ (h.2.1 k hh)⟩
theorem root_eq {k k' : Int} {l r l' r' : KT} (h : (KT.node k l r).Heap) (h' : (KT.node k' l' r').Heap) (h1 : k ∈ (KT.node k' l' r').keys) (h2 : k' ∈ (KT.node k l r).keys) : k = k' := by
 rcases root_max h' k h1 with e | e
 ·exact e
 ·rcases root_max h k' h2 with e2 | e2
  ·exact e2.symm
  ·omega
theorem mem_root (k : Int) (l r : KT) : k ∈ (KT.node k l r).keys := by simp [keys]
theorem uniq : ∀ (a b : KT), a.Heap → b.Heap → a.keys = b.keys → a = b := by
 intro a
 induction a with
 | leaf =>
  intro b _ _ h
  cases b with
  | leaf => rfl
  | node k l r =>
   have := mem_root k l r
   rw [← h] at this
   simp [keys] at this
 | node k l r ihl ihr =>
  intro b ha hb h
  cases b with
  | leaf =>
   have := mem_root k l r
   rw [h] at this
   simp [keys] at this
  | node k' l' r' =>
   have e := root_eq ha hb (by rw [← h]; exact mem_root _ _ _) (by rw [h]; exact mem_root _ _ _)
   subst e
   obtain ⟨e1, e2⟩ := app_inj _ _ _ _ h (root_notin ha).1 (root_notin hb).1
   rw [ihl l' ha.2.2.1 hb.2.2.1 e1, ihr r' ha.2.2.2 hb.2.2.2 e2]
theorem dep_lt (key : Int) : ∀ (t : KT), t.keys.Pairwise (· < ·) → key ∈ t.keys → dep key t < t.keys.length := by
 intro t
 induction t with
 | leaf => intro _ h; simp [keys] at h
 | node k l r ihl ihr =>
  intro hup hin
  rw [keys, List.pairwise_append, List.pairwise_cons] at hup
  obtain ⟨u1, ⟨u2, u3⟩, u4⟩ := hup
  simp only [keys, List.mem_append, List.mem_cons] at hin
  unfold dep
  rw [keys, List.length_append, List.length_cons]
  by_cases he : k = key
  ·rw [if_pos he]; omega
  ·rw [if_neg he]
   by_cases hk : k < key
   ·rw [if_pos hk]
    have hr : key ∈ r.keys := by
     rcases hin with h | h | h
     ·have := u4 key h k (by simp); omega
     ·exact absurd h.symm he
     ·exact h
    have := ihr u3 hr
    omega
   ·rw [if_neg hk]
    have hl : key ∈ l.keys := by
     rcases hin with h | h | h
     ·exact h
     ·exact absurd h.symm he
     ·have := u2 key h; omega
    have := ihl u1 hl
    omega
/-- One key more: what is heavier is as deep as it was. -/
theorem more (key k : Int) (hp : priOf key < priOf k) : ∀ (t' t : KT) (A B : List Int), t.Heap → t'.Heap → t.keys = A ++ B → t'.keys = A ++ key :: B → (A ++ B).Pairwise (· < ·) → k ∈ A ++ B → dep k t' = dep k t := by
 intro t'
 induction t' with
 | leaf => intro t A B _ _ _ h; simp [keys] at h
 | node a l' r' ihl ihr =>
  intro t A B ht ht' h1 h2 hup hin
  have hk' : k ∈ (KT.node a l' r').keys := by
   rw [h2]
   simp only [List.mem_append, List.mem_cons] at hin ⊢
   exact hin.imp id .inr
  have hak : a ≠ key := fun e => by
   rcases root_max ht' k hk' with h | h
   ·rw [h, e] at hp; omega
   ·rw [e] at h; omega
  cases t with
  | leaf => rw [← h1] at hin; simp [keys] at hin
  | node a0 l r =>
   have ha' : a ∈ (KT.node a0 l r).keys := by
    have := mem_root a l' r'
    rw [h2] at this
    rw [h1]
    simp only [List.mem_append, List.mem_cons] at this ⊢
    rcases this with h | h | h
    ·exact .inl h
    ·exact absurd h hak
    ·exact .inr h
   have ha0' : a0 ∈ (KT.node a l' r').keys := by
    have := mem_root a0 l r
    rw [h1] at this
    rw [h2]
    simp only [List.mem_append, List.mem_cons] at this ⊢
    exact this.imp id .inr
   have e := root_eq ht' ht ha' ha0'
   subst e
   have hup2 := hup
   rw [← h1, keys, List.pairwise_append, List.pairwise_cons] at hup2
   obtain ⟨u1, ⟨u2, u3⟩, u4⟩ := hup2
   have hin2 := hin
   rw [← h1] at hin2
   simp only [keys, List.mem_append, List.mem_cons] at hin2
   unfold dep
   by_cases he : a = k
   ·rw [if_pos he, if_pos he]
   ·rw [if_neg he, if_neg he]
    rw [keys] at h2
    rcases List.append_eq_append_iff.1 h2 with ⟨C, e1, e2⟩ | ⟨C, e1, e2⟩
    ·-- A = l'.keys ++ C, a :: r'.keys = C ++ key :: B
     cases C with
     | nil => exact absurd (List.cons.inj e2).1 hak
     | cons c C =>
      obtain ⟨rfl, e3⟩ := List.cons.inj e2
      have hs : l.keys ++ a :: r.keys = l'.keys ++ a :: (C ++ B) := by
       have := h1
       rw [keys, e1] at this
       simpa using this
      obtain ⟨e4, e5⟩ := app_inj _ _ _ _ hs (root_notin ht).1 (root_notin ht').1
      have hl : l' = l := uniq _ _ ht'.2.2.1 ht.2.2.1 e4.symm
      by_cases hk : a < k
      ·rw [if_pos hk, if_pos hk]
       have hkr : k ∈ r.keys := by
        rcases hin2 with h | h | h
        ·have := u4 k h a (by simp); omega
        ·exact absurd h.symm he
        ·exact h
       rw [ihr r C B ht.2.2.2 ht'.2.2.2 e5 e3 (by rw [← e5]; exact u3) (by rw [← e5]; exact hkr)]
      ·rw [if_neg hk, if_neg hk, hl]
    ·-- l'.keys = A ++ C, key :: B = C ++ a :: r'.keys
     cases C with
     | nil => exact absurd (List.cons.inj e2).1.symm hak
     | cons c C =>
      obtain ⟨rfl, e3⟩ := List.cons.inj e2
      have hs : l.keys ++ a :: r.keys = (A ++ C) ++ a :: r'.keys := by
       have := h1
       rw [keys, e3] at this
       simpa using this
      have hac : a ∉ A ++ C := fun hh => (root_notin ht').1 (by
       rw [e1]
       simp only [List.mem_append, List.mem_cons] at hh ⊢
       exact hh.imp id .inr)
      obtain ⟨e4, e5⟩ := app_inj _ _ _ _ hs (root_notin ht).1 hac
      have hr : r' = r := uniq _ _ ht'.2.2.2 ht.2.2.2 e5.symm
      by_cases hk : a < k
      ·rw [if_pos hk, if_pos hk, hr]
      ·rw [if_neg hk, if_neg hk]
       have hkl : k ∈ l.keys := by
        rcases hin2 with h | h | h
        ·exact h
        ·exact absurd h.symm he
        ·have := u2 k h; omega
       rw [ihl l A C ht.2.2.1 ht'.2.2.1 e4 e1 (by rw [← e4]; exact u1) (by rw [← e4]; exact hkl)]
end KT
theorem kt_keys (k : Nat → Int) : ∀ t : T, (t.kt k).keys = t.ins.map k := by
 intro t
 induction t with
 | leaf => rfl
 | node i l r ihl ihr => simp [T.kt, KT.keys, T.ins, ihl, ihr]
theorem kt_heap (s : List Nd × Int) : ∀ t : T, Heap (Pr s) t → (t.kt (K s)).Heap := by
 intro t
 induction t with
 | leaf => exact fun _ => trivial
 | node i l r ihl ihr =>
  rintro ⟨h1, h2, h3, h4⟩
  refine ⟨fun x hx => ?_, fun x hx => ?_, ihl h3, ihr h4⟩
  ·rw [kt_keys] at hx
   obtain ⟨j, hj, rfl⟩ := List.mem_map.1 hx
   exact h1 j hj
  ·rw [kt_keys] at hx
   obtain ⟨j, hj, rfl⟩ := List.mem_map.1 hx
   exact h2 j hj
theorem dep_kt (k : Nat → Int) (key : Int) : ∀ t : T, depT (fun j => k j != key) k key t = KT.dep key (t.kt k) := by
 intro t
 induction t with
 | leaf => rfl
 | node i l r ihl ihr =>
  unfold depT T.kt KT.dep
  by_cases he : k i = key
  ·simp [he]
  ·simp [he, ihl, ihr]
/-- Where a key is. -/
theorem find_good {s : List Nd × Int} {t : T} (h : Good s t) (h64 : s.1.length ≤ 64) {key : Int} (hk : isKey key = true) :
  findF s.1 s.2 key = some (if key ∈ t.ins.map (K s) then ((((KT.dep key (t.kt (K s)) : Nat) : Int), (0 : Int)) : Int × Int) else (0, 4)) := by
 obtain ⟨m, h1, h2, _⟩ := seek_spec (goOther key) key s t (s.1.length + 1) .root h.rep h.nodup (by rw [h.len]; omega) trivial (fun _ _ => no_root)
 unfold findF
 rw [if_neg (h.may h64 hk), h1]
 have e : (fun j => goOther key (nd s.1 j)) = fun j => K s j != key := rfl
 rw [e] at h2 ⊢
 simp only
 rcases sub_other key (K s) t h.up with ⟨h4, h3⟩ | ⟨i, l, r, h3, _, h4⟩
 ·rw [h3] at h2
  have e2 : lget s.1 s.2 m = -1 := h2
  rw [if_pos e2, if_neg h4]
 ·rw [h3] at h2
  have e2 : lget s.1 s.2 m = i := h2.1
  rw [if_neg (by rw [e2]; omega), if_pos h4, dep_kt]
theorem vis_next (k : Nat → Int) (key : Int) : ∀ (t : T) (best : Int), (t.ins.map k).Pairwise (· < ·) → (visT (fun j => k j != key) k key t).foldl (fun b j => if key ≤ k j then k j else b) best = ((t.ins.map k).find? (fun x => decide (key ≤ x))).getD best := by
 intro t
 induction t with
 | leaf => exact fun best _ => rfl
 | node i l r ihl ihr =>
  intro best hup
  obtain ⟨u1, u2, u3, u4⟩ := up_node k hup
  have hl : k i ≤ key → (l.ins.map k).find? (fun x => decide (key ≤ x)) = none := fun hle => by
   rw [List.find?_eq_none]
   intro x hx
   obtain ⟨j, hj, rfl⟩ := List.mem_map.1 hx
   have := u3 j hj
   simp
   omega
  unfold visT
  rw [List.foldl_cons, T.ins, List.map_append, List.map_cons, List.find?_append, List.find?_cons]
  by_cases he : k i = key
  ·rw [if_pos (show (k i != key) = false by simp [he]), List.foldl_nil, if_pos (show key ≤ k i by omega), hl (by omega), decide_eq_true (show key ≤ k i by omega)]
   rfl
  ·rw [if_neg (show ¬ (k i != key) = false by simp [he])]
   by_cases hk : k i < key
   ·rw [if_pos hk, if_neg (show ¬ key ≤ k i by omega), ihr best u2, hl (by omega), decide_eq_false (show ¬ key ≤ k i by omega)]
    rfl
   ·rw [if_neg hk, if_pos (show key ≤ k i by omega), ihl (k i) u1, decide_eq_true (show key ≤ k i by omega)]
    cases (l.ins.map k).find? (fun x => decide (key ≤ x)) with
    | none => rfl
    | some y => rfl
/-- Which key comes next. -/
theorem next_good {s : List Nd × Int} {t : T} (h : Good s t) (h64 : s.1.length ≤ 64) {key : Int} (hk : isKey key = true) :
  nextF s.1 s.2 key = some (match (t.ins.map (K s)).find? (fun x => decide (key ≤ x)) with | some x => (x, 0) | none => (0, 4)) := by
 obtain ⟨m, h1, h2, _⟩ := seek_spec (goOther key) key s t (s.1.length + 1) .root h.rep h.nodup (by rw [h.len]; omega) trivial (fun _ _ => no_root)
 unfold nextF
 rw [if_neg (h.may h64 hk), h1]
 have e : (fun j => goOther key (nd s.1 j)) = fun j => K s j != key := rfl
 rw [e] at h2 ⊢
 simp only
 have hv := vis_next (K s) key t (-1) h.up
 have hf : ((visT (fun j => K s j != key) (K s) key t).map (nd s.1)).foldl (stepN key) (-1) = (visT (fun j => K s j != key) (K s) key t).foldl (fun b j => if key ≤ K s j then K s j else b) (-1) := by
  rw [List.foldl_map]
  rfl
 rw [hf, hv]
 cases hfd : (t.ins.map (K s)).find? (fun x => decide (key ≤ x)) with
 | none => rfl
 | some x =>
  have hx := List.find?_some hfd
  have h0 := (isKey_iff.1 hk).1
  simp only [decide_eq_true_eq] at hx
  show (if x = -1 then _ else _) = _
  rw [if_neg (by omega)]
  rfl
theorem find_bad {ns : List Nd} {root key : Int} (h : mayB ns root key = false) : findF ns root key = some (0, 1) ∧ nextF ns root key = some (0, 1) ∧ putF ns root key = some (([], 0), 1) ∧ delF ns root key = some (([], 0), 1) :=
 ⟨by unfold findF; rw [if_pos h], by unfold nextF; rw [if_pos h], by unfold putF; rw [if_pos h], by unfold delF; rw [if_pos h]⟩
/-- Two trees of the same keys. -/
theorem same_kt {s s' : List Nd × Int} {t t' : T} (h : Good s t) (h' : Good s' t') (e : t.ins.map (K s) = t'.ins.map (K s')) : t.kt (K s) = t'.kt (K s') :=
 KT.uniq _ _ (kt_heap s t h.heap) (kt_heap s' t' h'.heap) (by rw [kt_keys, kt_keys, e])
end Treap
end Go.Proofs.Ytjdjmhagafmkaaa

namespace Go.Proofs.Ytjdjmhagafmkaaa.PX
open Go.RowKit Go.Proofs.YtjdjmhagafmkaaaW.PrintWords Go.Proofs.YtjdjmhagafmkaaaW.PrintLast Go.Proofs.YtjdjmhagafmkaaaW.PrintMore
attribute [local go_sem] max2_int min2_int max_two min_two max_three min_three max_four min_four   -- for this text's walks alone
set_option linter.unusedVariables false
set_option linter.unusedSimpArgs false



def errW : Option Int → Value
 | none => .nilIface
 | some c => .iface 0 (.int .i64 c)
theorem errW_none : errW none = .nilIface := rfl
theorem errW_some (c : Int) : errW (some c) = .iface 0 (.int .i64 c) := rfl

theorem info3 : (Try.prog.info? 3).map (fun i => (i.zero, i.size, i.bytes)) = some (some (.int .i64 0), 1, 8) := by kernel_rfl
theorem info33 : (Try.prog.info? 33).map (fun i => (i.zero, i.size, i.bytes)) = some (some (.agg #[(.int .i64 0), (.int .i64 0), (.int .i64 0), (.int .i64 0), (.int .i64 0)]), 5, 40) := by kernel_rfl
theorem info87 : (Try.prog.info? 87).map (fun i => (i.zero, i.size, i.bytes)) = some (some (.agg #[(.int .i64 0), (.int .i64 0), (.int .i64 0)]), 3, 24) := by kernel_rfl
-- the values' own types
/-! #### struct type 31 -/
structure S31 where
 f0 : Int
 f1 : Int
 f2 : Int
def z31 : S31 := ⟨(0 : Int), (0 : Int), (0 : Int)⟩
def k31 : Kd S31 := Kd.iso (Kd.pair (Kd.int .i64) (Kd.pair (Kd.int .i64) (Kd.int .i64))) (fun x : S31 => (x.f0, x.f1, x.f2))
theorem k31_open {w : World} {x : S31} {cs : List Value} (h : k31.K w x cs) : cs = [.int .i64 x.f0, .int .i64 x.f1, .int .i64 x.f2] := by
 obtain ⟨_, _, rfl, rfl, ⟨_, _, rfl, rfl, rfl⟩⟩ := h
 exact rfl
theorem k31_openM {w : World} {base : Nat} {ok : Nat → Prop} {x : S31} {cs : List Value} (h : k31.M w base ok x cs) : cs = [.int .i64 x.f0, .int .i64 x.f1, .int .i64 x.f2] := by
 obtain ⟨_, _, rfl, rfl, ⟨_, _, rfl, rfl, rfl⟩⟩ := h
 exact rfl
theorem k31_mk (w : World) (x : S31)  : k31.K w x [.int .i64 x.f0, .int .i64 x.f1, .int .i64 x.f2] := ⟨[.int .i64 x.f0], [.int .i64 x.f1, .int .i64 x.f2], rfl, rfl, ⟨[.int .i64 x.f1], [.int .i64 x.f2], rfl, rfl, rfl⟩⟩
theorem k31_mkM (w : World) (base : Nat) (ok : Nat → Prop) (x : S31)  : k31.M w base ok x [.int .i64 x.f0, .int .i64 x.f1, .int .i64 x.f2] := ⟨[.int .i64 x.f0], [.int .i64 x.f1, .int .i64 x.f2], rfl, rfl, ⟨[.int .i64 x.f1], [.int .i64 x.f2], rfl, rfl, rfl⟩⟩
def rd_T31 (xs : List S31) (i : Int) : S31 := xs.getD i.toNat z31
theorem at_T31 {w : World} {A : Option Addr} {n : Nat} {xs : List S31} (h : Kd.C k31 w A n xs) (i : Int) (h0 : 0 ≤ i) (h1 : i < n) : ∃ ad , A = some ad ∧ w.cell? (ad.add (i.toNat * 3)) = some (.int .i64 (rd_T31 xs i).f0) ∧ w.cell? ⟨(ad.add (i.toNat * 3)).block, (ad.add (i.toNat * 3)).off + 1, none⟩ = some (.int .i64 (rd_T31 xs i).f1) ∧ w.cell? ⟨(ad.add (i.toNat * 3)).block, (ad.add (i.toNat * 3)).off + 2, none⟩ = some (.int .i64 (rd_T31 xs i).f2) := by
 obtain ⟨ad, c, e, _, hK, hc0⟩ := Kd.C_get h z31 i h0 h1
 have hc : ∀ j u, c[j]? = some u → w.cell? (ad.add (i.toNat * 3 + j)) = some u := hc0
 obtain rfl := k31_open hK
 exact ⟨ad, e, hc 0 _ rfl, by rw [← add_field _ _ 1 (by omega)]; exact hc 1 _ rfl, by rw [← add_field _ _ 2 (by omega)]; exact hc 2 _ rfl⟩

/-! #### struct type 33 -/
structure S33 where
 f0 : Int
 f1 : Int
 f2 : S31
def z33 : S33 := ⟨(0 : Int), (0 : Int), z31⟩
def k33 : Kd S33 := Kd.iso (Kd.pair (Kd.int .i64) (Kd.pair (Kd.int .i64) k31)) (fun x : S33 => (x.f0, x.f1, x.f2))
theorem k33_open {w : World} {x : S33} {cs : List Value} (h : k33.K w x cs) : cs = [.int .i64 x.f0, .int .i64 x.f1, .int .i64 x.f2.f0, .int .i64 x.f2.f1, .int .i64 x.f2.f2] := by
 obtain ⟨_, _, rfl, rfl, ⟨_, _, rfl, rfl, s2⟩⟩ := h
 obtain rfl := k31_open s2
 exact rfl
theorem k33_openM {w : World} {base : Nat} {ok : Nat → Prop} {x : S33} {cs : List Value} (h : k33.M w base ok x cs) : cs = [.int .i64 x.f0, .int .i64 x.f1, .int .i64 x.f2.f0, .int .i64 x.f2.f1, .int .i64 x.f2.f2] := by
 obtain ⟨_, _, rfl, rfl, ⟨_, _, rfl, rfl, s2⟩⟩ := h
 obtain rfl := k31_openM s2
 exact rfl
theorem k33_mk (w : World) (x : S33)  : k33.K w x [.int .i64 x.f0, .int .i64 x.f1, .int .i64 x.f2.f0, .int .i64 x.f2.f1, .int .i64 x.f2.f2] := ⟨[.int .i64 x.f0], [.int .i64 x.f1, .int .i64 x.f2.f0, .int .i64 x.f2.f1, .int .i64 x.f2.f2], rfl, rfl, ⟨[.int .i64 x.f1], [.int .i64 x.f2.f0, .int .i64 x.f2.f1, .int .i64 x.f2.f2], rfl, rfl, (k31_mk w x.f2 )⟩⟩
theorem k33_mkM (w : World) (base : Nat) (ok : Nat → Prop) (x : S33)  : k33.M w base ok x [.int .i64 x.f0, .int .i64 x.f1, .int .i64 x.f2.f0, .int .i64 x.f2.f1, .int .i64 x.f2.f2] := ⟨[.int .i64 x.f0], [.int .i64 x.f1, .int .i64 x.f2.f0, .int .i64 x.f2.f1, .int .i64 x.f2.f2], rfl, rfl, ⟨[.int .i64 x.f1], [.int .i64 x.f2.f0, .int .i64 x.f2.f1, .int .i64 x.f2.f2], rfl, rfl, (k31_mkM w base ok x.f2 )⟩⟩
def rd_T33 (xs : List S33) (i : Int) : S33 := xs.getD i.toNat z33
theorem at_T33 {w : World} {A : Option Addr} {n : Nat} {xs : List S33} (h : Kd.C k33 w A n xs) (i : Int) (h0 : 0 ≤ i) (h1 : i < n) : ∃ ad , A = some ad ∧ w.cell? (ad.add (i.toNat * 5)) = some (.int .i64 (rd_T33 xs i).f0) ∧ w.cell? ⟨(ad.add (i.toNat * 5)).block, (ad.add (i.toNat * 5)).off + 1, none⟩ = some (.int .i64 (rd_T33 xs i).f1) ∧ w.cell? ⟨(ad.add (i.toNat * 5)).block, (ad.add (i.toNat * 5)).off + 2, none⟩ = some (.int .i64 (rd_T33 xs i).f2.f0) ∧ w.cell? ⟨(ad.add (i.toNat * 5)).block, (ad.add (i.toNat * 5)).off + 3, none⟩ = some (.int .i64 (rd_T33 xs i).f2.f1) ∧ w.cell? ⟨(ad.add (i.toNat * 5)).block, (ad.add (i.toNat * 5)).off + 4, none⟩ = some (.int .i64 (rd_T33 xs i).f2.f2) := by
 obtain ⟨ad, c, e, _, hK, hc0⟩ := Kd.C_get h z33 i h0 h1
 have hc : ∀ j u, c[j]? = some u → w.cell? (ad.add (i.toNat * 5 + j)) = some u := hc0
 obtain rfl := k33_open hK
 exact ⟨ad, e, hc 0 _ rfl, by rw [← add_field _ _ 1 (by omega)]; exact hc 1 _ rfl, by rw [← add_field _ _ 2 (by omega)]; exact hc 2 _ rfl, by rw [← add_field _ _ 3 (by omega)]; exact hc 3 _ rfl, by rw [← add_field _ _ 4 (by omega)]; exact hc 4 _ rfl⟩

def rd_L3 (xs : List (List S33)) (i : Int) : (List S33) := xs.getD i.toNat ([] : List S33)
theorem at_L3 {w : World} {A : Option Addr} {n : Nat} {xs : List (List S33)} (h : Kd.C (Kd.slice 33 k33) w A n xs) (i : Int) (h0 : 0 ≤ i) (h1 : i < n) : ∃ ad A0 c0, A = some ad ∧ w.cell? (ad.add i.toNat) = some (.slice A0 (rd_L3 xs i).length c0) ∧ (rd_L3 xs i).length ≤ c0 ∧ k33.C w A0 (rd_L3 xs i).length (rd_L3 xs i) := by
 obtain ⟨ad, c, e, _, hK, hc0⟩ := Kd.C_get h ([] : List S33) i h0 h1
 have hc : ∀ j u, c[j]? = some u → w.cell? (ad.add (i.toNat * 1 + j)) = some u := hc0
 obtain ⟨A0, c0, rfl, l0, g0⟩ := hK
 exact ⟨ad, A0, c0, e, by have hq := hc 0 _ rfl; rwa [Nat.mul_one, Nat.add_zero] at hq, l0, g0⟩

def rd_L4 (xs : List (List Int)) (i : Int) : (List Int) := xs.getD i.toNat ([] : List Int)
theorem at_L4 {w : World} {A : Option Addr} {n : Nat} {xs : List (List Int)} (h : Kd.C (Kd.slice 3 (Kd.int .i64)) w A n xs) (i : Int) (h0 : 0 ≤ i) (h1 : i < n) : ∃ ad A0 c0, A = some ad ∧ w.cell? (ad.add i.toNat) = some (.slice A0 (rd_L4 xs i).length c0) ∧ (rd_L4 xs i).length ≤ c0 ∧ (Kd.int .i64).C w A0 (rd_L4 xs i).length (rd_L4 xs i) := by
 obtain ⟨ad, c, e, _, hK, hc0⟩ := Kd.C_get h ([] : List Int) i h0 h1
 have hc : ∀ j u, c[j]? = some u → w.cell? (ad.add (i.toNat * 1 + j)) = some u := hc0
 obtain ⟨A0, c0, rfl, l0, g0⟩ := hK
 exact ⟨ad, A0, c0, e, by have hq := hc 0 _ rfl; rwa [Nat.mul_one, Nat.add_zero] at hq, l0, g0⟩

/-! #### struct type 87 -/
structure S87 where
 f0 : Int
 f1 : Int
 f2 : Int
def z87 : S87 := ⟨(0 : Int), (0 : Int), (0 : Int)⟩
def k87 : Kd S87 := Kd.iso (Kd.pair (Kd.int .i64) (Kd.pair (Kd.int .i64) (Kd.int .i64))) (fun x : S87 => (x.f0, x.f1, x.f2))
theorem k87_open {w : World} {x : S87} {cs : List Value} (h : k87.K w x cs) : cs = [.int .i64 x.f0, .int .i64 x.f1, .int .i64 x.f2] := by
 obtain ⟨_, _, rfl, rfl, ⟨_, _, rfl, rfl, rfl⟩⟩ := h
 exact rfl
theorem k87_openM {w : World} {base : Nat} {ok : Nat → Prop} {x : S87} {cs : List Value} (h : k87.M w base ok x cs) : cs = [.int .i64 x.f0, .int .i64 x.f1, .int .i64 x.f2] := by
 obtain ⟨_, _, rfl, rfl, ⟨_, _, rfl, rfl, rfl⟩⟩ := h
 exact rfl
theorem k87_mk (w : World) (x : S87)  : k87.K w x [.int .i64 x.f0, .int .i64 x.f1, .int .i64 x.f2] := ⟨[.int .i64 x.f0], [.int .i64 x.f1, .int .i64 x.f2], rfl, rfl, ⟨[.int .i64 x.f1], [.int .i64 x.f2], rfl, rfl, rfl⟩⟩
theorem k87_mkM (w : World) (base : Nat) (ok : Nat → Prop) (x : S87)  : k87.M w base ok x [.int .i64 x.f0, .int .i64 x.f1, .int .i64 x.f2] := ⟨[.int .i64 x.f0], [.int .i64 x.f1, .int .i64 x.f2], rfl, rfl, ⟨[.int .i64 x.f1], [.int .i64 x.f2], rfl, rfl, rfl⟩⟩
def rd_T87 (xs : List S87) (i : Int) : S87 := xs.getD i.toNat z87
theorem at_T87 {w : World} {A : Option Addr} {n : Nat} {xs : List S87} (h : Kd.C k87 w A n xs) (i : Int) (h0 : 0 ≤ i) (h1 : i < n) : ∃ ad , A = some ad ∧ w.cell? (ad.add (i.toNat * 3)) = some (.int .i64 (rd_T87 xs i).f0) ∧ w.cell? ⟨(ad.add (i.toNat * 3)).block, (ad.add (i.toNat * 3)).off + 1, none⟩ = some (.int .i64 (rd_T87 xs i).f1) ∧ w.cell? ⟨(ad.add (i.toNat * 3)).block, (ad.add (i.toNat * 3)).off + 2, none⟩ = some (.int .i64 (rd_T87 xs i).f2) := by
 obtain ⟨ad, c, e, _, hK, hc0⟩ := Kd.C_get h z87 i h0 h1
 have hc : ∀ j u, c[j]? = some u → w.cell? (ad.add (i.toNat * 3 + j)) = some u := hc0
 obtain rfl := k87_open hK
 exact ⟨ad, e, hc 0 _ rfl, by rw [← add_field _ _ 1 (by omega)]; exact hc 1 _ rfl, by rw [← add_field _ _ 2 (by omega)]; exact hc 2 _ rfl⟩

def rd_L6 (xs : List (List S87)) (i : Int) : (List S87) := xs.getD i.toNat ([] : List S87)
theorem at_L6 {w : World} {A : Option Addr} {n : Nat} {xs : List (List S87)} (h : Kd.C (Kd.slice 87 k87) w A n xs) (i : Int) (h0 : 0 ≤ i) (h1 : i < n) : ∃ ad A0 c0, A = some ad ∧ w.cell? (ad.add i.toNat) = some (.slice A0 (rd_L6 xs i).length c0) ∧ (rd_L6 xs i).length ≤ c0 ∧ k87.C w A0 (rd_L6 xs i).length (rd_L6 xs i) := by
 obtain ⟨ad, c, e, _, hK, hc0⟩ := Kd.C_get h ([] : List S87) i h0 h1
 have hc : ∀ j u, c[j]? = some u → w.cell? (ad.add (i.toNat * 1 + j)) = some u := hc0
 obtain ⟨A0, c0, rfl, l0, g0⟩ := hK
 exact ⟨ad, A0, c0, e, by have hq := hc 0 _ rfl; rwa [Nat.mul_one, Nat.add_zero] at hq, l0, g0⟩

/-! #### struct type 50 -/
structure S50 where
 f0 : Int
 f1 : (List S87)
def z50 : S50 := ⟨(0 : Int), ([] : List S87)⟩
def k50 : Kd S50 := Kd.iso (Kd.pair (Kd.int .i64) (Kd.slice 87 k87)) (fun x : S50 => (x.f0, x.f1))
theorem k50_open {w : World} {x : S50} {cs : List Value} (h : k50.K w x cs) : ∃ A1 c1, cs = [.int .i64 x.f0, .slice A1 x.f1.length c1] ∧ x.f1.length ≤ c1 ∧ k87.C w A1 x.f1.length x.f1 := by
 obtain ⟨_, _, rfl, rfl, ⟨A1, c1, rfl, l1, g1⟩⟩ := h
 exact ⟨A1, c1, rfl, l1, g1⟩
theorem k50_openM {w : World} {base : Nat} {ok : Nat → Prop} {x : S50} {cs : List Value} (h : k50.M w base ok x cs) : ∃ v1, cs = [.int .i64 x.f0, v1] ∧ k87.R 87 w base ok v1 x.f1 := by
 obtain ⟨_, _, rfl, rfl, ⟨v1, rfl, g1⟩⟩ := h
 exact ⟨v1, rfl, g1⟩
theorem k50_mk (w : World) (x : S50) {A1 : Option Addr} {c1 : Nat} (l1 : x.f1.length ≤ c1) (g1 : k87.C w A1 x.f1.length x.f1) : k50.K w x [.int .i64 x.f0, .slice A1 x.f1.length c1] := ⟨[.int .i64 x.f0], [.slice A1 x.f1.length c1], rfl, rfl, ⟨A1, c1, rfl, l1, g1⟩⟩
theorem k50_mkM (w : World) (base : Nat) (ok : Nat → Prop) (x : S50) {v1 : Value} (g1 : k87.R 87 w base ok v1 x.f1) : k50.M w base ok x [.int .i64 x.f0, v1] := ⟨[.int .i64 x.f0], [v1], rfl, rfl, ⟨v1, rfl, g1⟩⟩
def rd_T50 (xs : List S50) (i : Int) : S50 := xs.getD i.toNat z50
theorem at_T50 {w : World} {A : Option Addr} {n : Nat} {xs : List S50} (h : Kd.C k50 w A n xs) (i : Int) (h0 : 0 ≤ i) (h1 : i < n) : ∃ ad A1 c1, A = some ad ∧ w.cell? (ad.add (i.toNat * 2)) = some (.int .i64 (rd_T50 xs i).f0) ∧ w.cell? ⟨(ad.add (i.toNat * 2)).block, (ad.add (i.toNat * 2)).off + 1, none⟩ = some (.slice A1 (rd_T50 xs i).f1.length c1) ∧ (rd_T50 xs i).f1.length ≤ c1 ∧ k87.C w A1 (rd_T50 xs i).f1.length (rd_T50 xs i).f1 := by
 obtain ⟨ad, c, e, _, hK, hc0⟩ := Kd.C_get h z50 i h0 h1
 have hc : ∀ j u, c[j]? = some u → w.cell? (ad.add (i.toNat * 2 + j)) = some u := hc0
 obtain ⟨A1, c1, rfl, l1, g1⟩ := k50_open hK
 exact ⟨ad, A1, c1, e, hc 0 _ rfl, by rw [← add_field _ _ 1 (by omega)]; exact hc 1 _ rfl, l1, g1⟩

end Go.Proofs.Ytjdjmhagafmkaaa.PX

/-
 The contract of treap.Put.
-/
namespace Go.Proofs.Ytjdjmhagafmkaaa
open Go.RowKit
namespace Treap
/-- What treap.Put and treap.Del leave. -/
def Handed (s : List Nd × Int) (er : Int) (w : World) (e : Ending) (w' : World) : Prop := ∃ (A' : Option Addr) (c' : Nat), e = .returned (.tuple #[.agg #[.int .i64 s.2, .slice A' s.1.length c'], .int .i64 er]) ∧ w'.ownsRow w.heap.size 87 3 (.slice A' s.1.length c') s.1.length (s.1.flatMap cells) ∧ Below w.heap.size w w'
theorem appended {w4 w5 : World} {B U n c4 c5 : Nat} {root key : Int} {ns : List Nd} {A4 A5 : Option Addr} (hU : Blk w4 U 50 #[.int .i64 root, .slice A4 n c4]) (hown : w4.ownsRow B 87 3 (.slice A4 n c4) n (ns.flatMap cells)) (hne : (Value.slice A4 n c4).ownBlock ≠ some U)
  (hg : (w4.alloc (.cells #[.int .i64 key, .int .i64 (-1), .int .i64 (-1)] 87)).drew.grownBy w5 (Value.slice A4 n c4).ownBlock) (h5 : w5.ownsRow B 87 3 (.slice A5 (n + 1) c5) (n + 1) (ns.flatMap cells ++ [.int .i64 key, .int .i64 (-1), .int .i64 (-1)]))
  (hb : (Value.slice A5 (n + 1) c5).ownBlock = (Value.slice A4 n c4).ownBlock ∨ (Value.slice A5 (n + 1) c5).ownBlock = some (w4.alloc (.cells #[.int .i64 key, .int .i64 (-1), .int .i64 (-1)] 87)).drew.heap.size) (hBU : B ≤ U) :
  ∃ ad, A5 = some ad ∧ TR (w5.setCell ⟨U, 1, none⟩ (.slice A5 (n + 1) c5)) B U ad (n + 1) c5 root (ns ++ [⟨key, -1, -1⟩]) := by
 have hl : ns.length = n := by have := hown.1; rw [flat_len cells 3 cells_len] at this; omega
 obtain ⟨ad, rfl⟩ : ∃ ad, A5 = some ad := by
  rcases h5.2 with ⟨h0, _⟩ | ⟨g, cap, cur, hv, _⟩
  ·cases h0
  ·injection hv with a; exact ⟨_, a⟩
 have e : (ns ++ [⟨key, -1, -1⟩] : List Nd).flatMap cells = ns.flatMap cells ++ [.int .i64 key, .int .i64 (-1), .int .i64 (-1)] := by rw [List.flatMap_append]; rfl
 rw [← e] at h5
 obtain ⟨h1, h2, h3⟩ := RowIs.of_own (by simp [hl]) h5
 have hUlt := hU.lt
 have hne5 : ad.block ≠ U := by
  have ho : (Value.slice (some ad) (n + 1) c5).ownBlock = some ad.block := by rw [h3]; rfl
  rw [ho] at hb
  rcases hb with hb | hb
  ·rintro rfl
   exact hne hb.symm
  ·have hs : (w4.alloc (.cells #[.int .i64 key, .int .i64 (-1), .int .i64 (-1)] 87)).drew.heap.size = w4.heap.size + 1 := by show (w4.alloc _).heap.size = _; simp
   rw [hs] at hb
   have := Option.some.inj hb
   omega
 have hU5 : Blk w5 U 50 #[.int .i64 root, .slice A4 n c4] := (hU.alloc _).drew.grown hg (fun e => hne e.symm)
 exact ⟨ad, rfl, hU5.set_ 1 _, h1.block (Below.heap_setCell w5 ⟨U, 1, none⟩ _ ad.block hne5), h3, hne5, hBU, h2⟩
theorem via_cont {α β γ : Type} {F C : α → β → γ → Prop} {G : Prop} (h1 : (∀ a b c, F a b c → C a b c) → G) (h2 : ∀ a b c, F a b c → C a b c) : G := h1 h2
theorem infoT : (Try.prog.info? 50).map (·.size) = some 2 := by kernel_rfl
theorem results_tree {fn : Func} {p u : Tmp} (h : fn.results = #[.cell p 50, .tmp u]) (tmps : Array Value) (w : World) (g : Nat) (a b : Value)
  (hp : tmps.getD p undef = .pointer (some ⟨g, 0, none⟩)) (hg : Blk w g 50 #[a, b]) :
  (results fn tmps).run Try.prog w = .ok (.tuple #[.agg #[a, b], tmps.getD u undef]) w := by
 have hp' : tmps[p]?.getD undef = .pointer (some ⟨g, 0, none⟩) := by simpa using hp
 simp [results, h, hp', asAddr, run_loadVar_row w g 50 50 #[a, b] (0, 0) _ hg Try.underlying50 rfl infoT]
set_option maxRecDepth 100000 in
set_option maxHeartbeats 4000000 in
theorem put_any (root key : Int) (ns : List Nd) (A : Option Addr) (n c : Nat) (hn : n ≤ 1000) (r : (List Nd × Int) × Int) (w : World) (hr : Reads w w.heap.size 3 A n (ns.flatMap cells)) (hf : putF ns root key = some r) :
  Calls Try.prog 45 #[.agg #[.int .i64 root, .slice A n c], .int .i64 key] w (Handed r.1 r.2 w) := by
 have hl : ns.length = n := by have := hr.1; rw [flat_len cells 3 cells_len] at this; omega
 obtain ⟨i0, hi, hz0, hz1, hz2⟩ := info_parts infoN3
 have hT := ((Blk.new w 50 #[.int .i64 root, .slice A n c]).alloc (.cells #[.int .i64 key] 3)).alloc (.cells #[.int .i64 0, .slice none 0 0] 50)
 have hK := (Blk.new (w.alloc (.cells #[.int .i64 root, .slice A n c] 50)) 3 #[.int .i64 key]).alloc (.cells #[.int .i64 0, .slice none 0 0] 50)
 have hRc := Blk.new ((w.alloc (.cells #[.int .i64 root, .slice A n c] 50)).alloc (.cells #[.int .i64 key] 3)) 50 #[.int .i64 0, .slice none 0 0]
 have hb0 := (((Below.refl w.heap.size w).alloc (Nat.le_refl _) (.cells #[.int .i64 root, .slice A n c] 50)).alloc (by simp) (.cells #[.int .i64 key] 3)).alloc (by simp; omega) (.cells #[.int .i64 0, .slice none 0 0] 50)
 rw [World.size_alloc] at hK
 rw [World.size_alloc, World.size_alloc] at hRc
 have HB0 := Lib.hid hb0
 have HT := Lib.hid hT
 have HKb := Lib.hid hK
 have HRc := Lib.hid hRc
 have HR := Lib.hid hr
 have HL := Lib.hid hl
 have HF := Lib.hid hf
 clear hT hb0 hr hl hf hK hRc
 go_enter Try.func45, Try.ntmps45
 go_wp2_with fail
 obtain ⟨w0, hw0⟩ : ∃ W, ((w.alloc (.cells #[.int .i64 root, .slice A n c] 50)).alloc (.cells #[.int .i64 key] 3)).alloc (.cells #[.int .i64 0, .slice none 0 0] 50) = W := ⟨_, rfl⟩
 rw [hw0] at HB0 HT HKb HRc ⊢
 clear hw0
 refine (may_any root key ns A n c hn w0 ((HR.out.below HB0.out).more HB0.out.size)).mono ?_
 rintro e w1 ⟨rfl, hb1⟩
 have HB1 := Lib.hid (bthen HB0.out hb1)
 have HT1 := Lib.hid (HT.out.below hb1 HT.out.lt)
 have HK1 := Lib.hid (HKb.out.below hb1 HKb.out.lt)
 have hRc1 := HRc.out.below hb1 HRc.out.lt
 have HRc1 := Lib.hid hRc1
 have f0 := fun i => hRc1.frozen i
 have r0 : w1.cell? ⟨w.heap.size + 1 + 1, 0, none⟩ = some (.int .i64 0) := by rw [hRc1.cell]; rfl
 have r1 : w1.cell? ⟨w.heap.size + 1 + 1, 1, none⟩ = some (.slice none 0 0) := by rw [hRc1.cell]; rfl
 clear hRc1
 cases hm : mayB ns root key with
 | false =>
  have hf := HF.out
  unfold putF at hf
  rw [if_pos hm] at hf
  obtain rfl := Option.some.inj hf
  clear hm hb1 hf
  go_wp2_with fail
  have hz := (HRc1.out.set_ 0 (.int .i64 0)).set_ 1 (.slice none 0 0)
  have hB2 := (HB1.out.setCell (p := ⟨w.heap.size + 1 + 1, 0, none⟩) (by show w.heap.size ≤ w.heap.size + 1 + 1; omega) (.int .i64 0)).setCell (p := ⟨w.heap.size + 1 + 1, 1, none⟩) (by show w.heap.size ≤ w.heap.size + 1 + 1; omega) (.slice none 0 0)
  refine bodyPost_ret (results_tree (p := 4) (u := 5) (by kernel_rfl) _ _ _ _ _ rfl hz) rfl ?_
  exact ⟨none, 0, rfl, World.ownsRow_nil _ _ _ _, hB2⟩
 | true =>
  have hf := HF.out
  unfold putF at hf
  rw [if_neg (by rw [hm]; simp)] at hf
  have h64 := right_few hm
  cases hs : seekF (goOther key) key ns root (ns.length + 1) .root with
  | none => rw [hs] at hf; cases hf
  | some q =>
   obtain ⟨l, d, xs⟩ := q
   rw [hs] at hf
   have HF2 := Lib.hid hf
   have HS := Lib.hid hs
   have HRW := Lib.hid ((HR.out.below HB1.out).more HB1.out.size)
   have k0 : w1.cell? ⟨w.heap.size + 1, 0, none⟩ = some (.int .i64 key) := by rw [HK1.out.cell]; rfl
   have hs1 : w.heap.size + 1 < w1.heap.size := HK1.out.lt
   have hT1l := HT1.out.lt
   clear hm hb1 hf hs
   go_wp2_with fail
   have hD0 := (Below.refl w1.heap.size w1).drew
   go_region_held3 (fun w' => Below w1.heap.size w1 w' ∧ w'.cell? ⟨w.heap.size + 1, 0, none⟩ = some (.int .i64 key)) (first | exact ⟨hD0, k0⟩ | exact ⟨by assumption, by assumption⟩)
    (first
     | (go_at_call 68; refine (other_any key _).mono ?_; rintro e w2 ⟨rfl, hw2⟩; have hKq := Blk.new w1.drew 3 #[.int .i64 key]; have hB2 := hD0.alloc (Nat.le_refl _) (.cells #[.int .i64 key] 3); have k2 := (hB2.cell (p := ⟨w.heap.size + 1, 0, none⟩) hs1).trans k0; rw [hw2] at hKq hB2 k2; clear hw2)
     | (go_at_call 65; refine (seek_any (onOther w1.heap.size key) () key root ns A n c w1.heap.size w.heap.size (ns.length + 1) l d xs (by have := HL.out; omega) w2 (HT1.out.below hB2 hT1l) (HRW.out.below hB2) hB2.size (fun h => Nat.ne_of_lt hT1l h) (fun ad hA h0 h => by
       obtain ⟨ad', hA', hb, _⟩ := HRW.out.2 h0
       rw [hA] at hA'
       obtain rfl := Option.some.inj hA'
       exact Nat.ne_of_lt hb h) hKq HS.out).mono ?_; rintro e w3 ⟨rfl, hlk, _, hkp⟩; have hB3 := hB2.trans (hkp.below_ hB2.size (fun k hk => Nat.le_of_eq (show w1.heap.size = k from hk.symm))); have k3 := (hB3.cell (p := ⟨w.heap.size + 1, 0, none⟩) hs1).trans k0; clear hkp))
   rename_i hHeld
   have hb3 := bthen HB1.out hB3
   have HB3 := Lib.hid hb3
   have HT3 := Lib.hid (HT1.out.below hB3 hT1l)
   have HK3 := Lib.hid (HK1.out.below hB3 hs1)
   have hRc3 := HRc1.out.below hB3 HRc1.out.lt
   have HRc3 := Lib.hid hRc3
   have cl := link_at HT3.out (HR.out.below hb3) hlk
   have cT0 : w3.cell? ⟨w.heap.size, 0, none⟩ = some (.int .i64 root) := by rw [HT3.out.cell]; rfl
   have cT1 : w3.cell? ⟨w.heap.size, 1, none⟩ = some (.slice A n c) := by rw [HT3.out.cell]; rfl
   have f3 := fun i => hRc3.frozen i
   have q0 : w3.cell? ⟨w.heap.size + 1 + 1, 0, none⟩ = some (.int .i64 0) := by rw [hRc3.cell]; rfl
   have q1 : w3.cell? ⟨w.heap.size + 1 + 1, 1, none⟩ = some (.slice none 0 0) := by rw [hRc3.cell]; rfl
   obtain ⟨p, hp⟩ : ∃ p, lkA w.heap.size A l = p := ⟨_, rfl⟩
   rw [hp] at cl ⊢
   clear hHeld hb3 hRc3 hp hB3 hB2 hKq k2 hD0 hlk f0 r0 r1 k0 hs1 hT1l
   by_cases h1 : lget ns root l = -1
   ·have hf := HF2.out
    simp only [h1, ne_eq, not_true_eq_false, if_false] at hf
    rw [h1] at cl
    by_cases h6 : n = 64
    ·rw [if_pos (by rw [HL.out]; exact h6)] at hf
     obtain rfl := Option.some.inj hf
     subst h6
     clear hf h1 HF HF2
     go_wp2_with fail
     have hz := (HRc3.out.set_ 0 (.int .i64 0)).set_ 1 (.slice none 0 0)
     have hB2 := (HB3.out.setCell (p := ⟨w.heap.size + 1 + 1, 0, none⟩) (by show w.heap.size ≤ w.heap.size + 1 + 1; omega) (.int .i64 0)).setCell (p := ⟨w.heap.size + 1 + 1, 1, none⟩) (by show w.heap.size ≤ w.heap.size + 1 + 1; omega) (.slice none 0 0)
     refine bodyPost_ret (results_tree (p := 4) (u := 5) (by kernel_rfl) _ _ _ _ _ rfl hz) rfl ?_
     exact ⟨none, 0, rfl, World.ownsRow_nil _ _ _ _, hB2⟩
    ·rw [if_neg (by rw [HL.out]; exact h6)] at hf
     have d6 : ((n : Int) == 64) = false := beq_eq_false_iff_ne.2 (by omega)
     cases hs2 : seekF (goHeavy key) key (ns ++ [⟨key, -1, -1⟩]) root (ns.length + 2) .root with
     | none => rw [hs2] at hf; cases hf
     | some q2 =>
      obtain ⟨m, d2, xs2⟩ := q2
      rw [hs2] at hf
      have HS2 := Lib.hid hs2
      cases hsp : splitF key (ns.length + 2) (lset (ns ++ [⟨key, -1, -1⟩], root) m ns.length) (lget (ns ++ [⟨key, -1, -1⟩]) root m) (.left ns.length) (.right ns.length) with
      | none => simp only [hsp] at hf; cases hf
      | some s =>
       simp only [hsp] at hf
       obtain rfl := Option.some.inj hf
       have HSP := Lib.hid hsp
       clear hf h1 h6 hs2 hsp HF HF2
       go_wp2_with fail
       refine (own_any root ns A n c hn w3 ((HR.out.below HB3.out).more HB3.out.size)).mono ?_
       rintro e w4 ⟨U, A4, c4, rfl, hU0, hU, hown, hb4⟩
       have hne4 : (Value.slice A4 n c4).ownBlock ≠ some U := own_blk_ne hown hU (by decide)
       have HB4 := Lib.hid (bthen HB3.out hb4)
       have hK4 := HK3.out.below hb4 HK3.out.lt
       have HK4 := Lib.hid hK4
       have HRc4 := Lib.hid (HRc3.out.below hb4 HRc3.out.lt)
       have HU := Lib.hid hU
       have HOWN := Lib.hid hown
       have HNE4 := Lib.hid hne4
       have HNR : Hid (some (w.heap.size + 1 + 1) ≠ (Value.slice A4 n c4).ownBlock) := fun e => by have := (hown.lt _ e.symm).1; have := HRc3.out.lt; omega
       have HKU : Hid (w.heap.size + 1 ≠ U) := by unfold Hid; have := HK3.out.lt; omega
       have HRU : Hid (w.heap.size + 1 + 1 ≠ U) := by unfold Hid; have := HRc3.out.lt; omega
       have HNK : Hid (some (w.heap.size + 1) ≠ (Value.slice A4 n c4).ownBlock) := fun e => by have := (hown.lt _ e.symm).1; have := HK3.out.lt; omega
       have k4 : w4.cell? ⟨w.heap.size + 1, 0, none⟩ = some (.int .i64 key) := by rw [hK4.cell]; rfl
       have k4a : ∀ o, (w4.alloc o).cell? ⟨w.heap.size + 1, 0, none⟩ = some (.int .i64 key) := fun o => by rw [(hK4.alloc o).cell]; rfl
       have u4 : w4.cell? ⟨U, 1, none⟩ = some (.slice A4 n c4) := by rw [hU.cell]; rfl
       have u4a : ∀ o, (w4.alloc o).cell? ⟨U, 1, none⟩ = some (.slice A4 n c4) := fun o => by rw [(hU.alloc o).cell]; rfl
       have hc1 := Reads.of_blk (n := 1) (size := 3) (Blk.new w4 87 #[.int .i64 key, .int .i64 (-1), .int .i64 (-1)]) rfl
       have hc2 := World.ownsRow.alloc hown (.cells #[.int .i64 key, .int .i64 (-1), .int .i64 (-1)] 87)
       have g1 : Hid (∀ u ∈ [Value.int .i64 key, .int .i64 (-1), .int .i64 (-1)], u.oneCell' = true) := by intro u hu; simp at hu; rcases hu with rfl | rfl <;> rfl
       have g2 : Hid (n + 1 ≤ maxLen) := by unfold Hid; simp [maxLen]; omega
       have g3 : Hid ((n + 1) * 24 ≤ 140737488355328) := by unfold Hid; omega
       have g4 : Hid (w3.heap.size ≤ (w4.alloc (.cells #[.int .i64 key, .int .i64 (-1), .int .i64 (-1)] 87)).heap.size) := by unfold Hid; have := hb4.size; simp; omega
       have HSZ : Hid (w3.heap.size ≤ w4.heap.size) := hb4.size
       clear hU hown hne4 hb4 hK4 cl cT0 cT1 f3 q0 q1
       go_wp2_with fail
       apply via_cont (F := fun (w5 : World) (A5 : Option Addr) (c5 : Nat) => w5.ownsRow w3.heap.size 87 3 (.slice A5 (n + 1) c5) (n + 1) (ns.flatMap cells ++ [.int .i64 key, .int .i64 (-1), .int .i64 (-1)]) ∧ (w4.alloc (.cells #[.int .i64 key, .int .i64 (-1), .int .i64 (-1)] 87)).drew.grownBy w5 (Value.slice A4 n c4).ownBlock ∧ ((Value.slice A5 (n + 1) c5).ownBlock = (Value.slice A4 n c4).ownBlock ∨ (Value.slice A5 (n + 1) c5).ownBlock = some (w4.alloc (.cells #[.int .i64 key, .int .i64 (-1), .int .i64 (-1)] 87)).drew.heap.size))
       case h1 =>
        intro CONT
        go_region_law ((refine step_append_any _ (by rfl) _ _ 48 (by rfl) w3.heap.size 87 i0 (.agg #[.int .i64 0, .int .i64 0, .int .i64 0]) 3 24 Try.underlying48 hi hz0 hz1 hz2 rfl (by decide) (.slice A4 n c4) n (ns.flatMap cells) (by rfl) hc2 _ (some ⟨w4.heap.size, 0, none⟩) 1 1 [.int .i64 key, .int .i64 (-1), .int .i64 (-1)] (by rfl) hc1 g1.out g2.out g3.out g4.out ?_; intro v' w5 hown5 hgrow5 hblk5; obtain ⟨A5, c5, rfl, _, _, _⟩ := own_reads3 hown5; have hU5 := (HU.out.alloc (.cells #[.int .i64 key, .int .i64 (-1), .int .i64 (-1)] 87)).drew.grown hgrow5 (fun e => HNE4.out e.symm); have f5 := hU5.frozen 1; have u5 : w5.cell? ⟨U, 1, none⟩ = some (.slice A4 n c4) := by rw [hU5.cell]; rfl))
        all_goals exact CONT w5 A5 c5 ⟨hown5, hgrow5, hblk5⟩
       rintro w5 A5 c5 ⟨hown5, hgrow5, hblk5⟩
       have hap := appended (ns := ns) HU.out HOWN.out HNE4.out hgrow5 hown5 hblk5 hU0
       obtain ⟨ad, rfl, htr⟩ := hap
       have hK6 := ((HK4.out.alloc (.cells #[.int .i64 key, .int .i64 (-1), .int .i64 (-1)] 87)).drew.grown hgrow5 HNK.out).far (p := ⟨U, 1, none⟩) HKU.out (.slice (some ad) (n + 1) c5)
       have hRc6 := ((HRc4.out.alloc (.cells #[.int .i64 key, .int .i64 (-1), .int .i64 (-1)] 87)).drew.grown hgrow5 HNR.out).far (p := ⟨U, 1, none⟩) HRU.out (.slice (some ad) (n + 1) c5)
       have hb6 := (((HB4.out.alloc HB4.out.size (.cells #[.int .i64 key, .int .i64 (-1), .int .i64 (-1)] 87)).drew).grown hgrow5 (by have := HB4.out.size; show w.heap.size ≤ (w4.alloc _).heap.size; simp; omega) (fun g hg => Nat.le_trans HB3.out.size (HOWN.out.lt g hg).1)).setCell (p := ⟨U, 1, none⟩) (Nat.le_trans HB3.out.size hU0) (.slice (some ad) (n + 1) c5)
       obtain ⟨w6, hw6⟩ : ∃ W, w5.setCell ⟨U, 1, none⟩ (.slice (some ad) (n + 1) c5) = W := ⟨_, rfl⟩
       rw [hw6] at htr hK6 hRc6 hb6 ⊢
       have HTR := Lib.hid htr
       have HK6 := Lib.hid hK6
       have HRc6 := Lib.hid hRc6
       have HB6 := Lib.hid hb6
       have k6 : w6.cell? ⟨w.heap.size + 1, 0, none⟩ = some (.int .i64 key) := by rw [hK6.cell]; rfl
       have u6 : w6.cell? ⟨U, 1, none⟩ = some (.slice (some ad) (n + 1) c5) := by rw [htr.box.cell]; rfl
       have hwn : Value.int .i64 (wrap64 (((n + 1 : Nat) : Int) - 1)) = .int .i64 (n : Int) := by congr 1; unfold wrap64; omega
       clear htr hK6 hRc6 hb6 hw6 hown5 hgrow5 hblk5 k4 k4a u4 u4a hc1 hc2 g1 g2 g3 g4 
       go_wp2_with fail
       have hnk : ¬ (onPut (w.heap.size + 1) key).own U := fun h => HKU.out (show U = w.heap.size + 1 from h).symm
       have hnk2 : ¬ (onPut (w.heap.size + 1) key).own ad.block := fun h => by
        have h : ad.block = w.heap.size + 1 := h
        have := HTR.out.loA
        have := HK3.out.lt
        omega
       refine (seek_any (onPut (w.heap.size + 1) key) () key root (ns ++ [(⟨key, -1, -1⟩ : Nd)]) (some ad) (n + 1) c5 w6.heap.size U (ns.length + 2) m d2 xs2 (by have := HL.out; omega) w6 HTR.out.box HTR.out.reads (Nat.le_refl _) hnk (fun ad' hA _ => by
        obtain rfl := Option.some.inj hA
        exact hnk2) HK6.out HS2.out).mono ?_
       rintro e w7 ⟨rfl, hlm, hK7, hkp⟩
       have htr7 := HTR.out.kp hkp hnk hnk2
       have hRc7 := HRc6.out.kp hkp (fun h => by have h : w.heap.size + 1 + 1 = w.heap.size + 1 := h; omega)
       have hb7 := HB6.out.trans (hkp.below_ HB6.out.size (fun k hk => by have hk : k = w.heap.size + 1 := hk; omega))
       have hK7' : Blk w7 (w.heap.size + 1) 3 #[.int .i64 key] := hK7
       have cm := htr7.link hlm
       have fm := htr7.frozen m
       have HTR7 := Lib.hid htr7
       have HRc7 := Lib.hid hRc7
       have HB7 := Lib.hid hb7
       have HK7 := Lib.hid hK7'
       have HLM := Lib.hid hlm
       have u7 : w7.cell? ⟨U, 1, none⟩ = some (.slice (some ad) (n + 1) c5) := by rw [htr7.box.cell]; rfl
       obtain ⟨pm, hpm⟩ : ∃ p, lkA U (some ad) m = p := ⟨_, rfl⟩
       rw [hpm] at cm fm ⊢
       have HPM := Lib.hid hpm
       have hpne : ∀ k, k < w3.heap.size → k ≠ pm.block := fun k hk e => by
        have := HTR.out.lo m
        rw [hpm] at this
        omega
       have HPNE := Lib.hid hpne
       clear hnk hnk2 hkp htr7 hRc7 hb7 hK7 hK7' hpm hlm hpne k6 u6 hwn
       go_wp2_with fail
       have htr8 := HTR7.out.set HLM.out (n : Int)
       rw [HPM.out] at htr8
       have hK8 := HK7.out.far (p := pm) (HPNE.out _ HK3.out.lt) (.int .i64 n)
       have hRc8 := HRc7.out.far (p := pm) (HPNE.out _ HRc3.out.lt) (.int .i64 n)
       have hb8 := HB7.out.setCell (p := pm) (by have := HTR7.out.lo m; rw [HPM.out] at this; exact Nat.le_trans HB3.out.size this) (.int .i64 n)
       obtain ⟨w8, hw8⟩ : ∃ W, w7.setCell pm (.int .i64 n) = W := ⟨_, rfl⟩
       rw [hw8] at htr8 hK8 hRc8 hb8 ⊢
       have u8 : w8.cell? ⟨U, 1, none⟩ = some (.slice (some ad) (n + 1) c5) := by rw [htr8.box.cell]; rfl
       have HTR8 := Lib.hid htr8
       have HK8 := Lib.hid hK8
       have HRc8 := Lib.hid hRc8
       have HB8 := Lib.hid hb8
       clear htr8 hK8 hRc8 hb8 hw8 cm fm u7
       go_quiet (fail)
       obtain ⟨w9, hw9⟩ : ∃ W, w8.drewN nq = W := ⟨_, rfl⟩
       have htr9 := HTR8.out.drewN nq
       have hK9 := HK8.out.drewN nq
       have hRc9 := HRc8.out.drewN nq
       have hb9 := below_drewN HB8.out nq
       rw [hw9] at htr9 hK9 hRc9 hb9 ⊢
       have HTR9 := Lib.hid htr9
       have HK9 := Lib.hid hK9
       have HRc9 := Lib.hid hRc9
       have HB9 := Lib.hid hb9
       have hs9 : w9.heap.size = w8.heap.size := by rw [← hw9]; rfl
       have HKA : Hid (w.heap.size + 1 ≠ ad.block) := by unfold Hid; have := HTR9.out.loA; have := HK3.out.lt; omega
       have HRA : Hid (w.heap.size + 1 + 1 ≠ ad.block) := by unfold Hid; have := HTR9.out.loA; have := HRc3.out.lt; omega
       have HLN : Hid (ns.length = n) := HL.out
       clear htr9 hK9 hRc9 hb9 hw9 u8
       go_wp2_with fail
       go_loopg [12, 13, 14] (ns.length + 2) (fun k v12 v13 v14 wr => ∃ (s' : List Nd × Int) (rest : Int) (l' r' : Lk), v12 = .int .i64 rest ∧ v13 = .pointer (some (lkA U (some ad) l')) ∧ v14 = .pointer (some (lkA U (some ad) r')) ∧ splitF key k s' rest l' r' = some s ∧ lok (n + 1) l' ∧ lok (n + 1) r' ∧ TR wr w3.heap.size U ad (n + 1) c5 s'.2 s'.1 ∧ Kp (fun k => k = U ∨ k = ad.block) w9 wr)
       case atStart => exact ⟨_, _, .left ns.length, .right ns.length, rfl, by rw [HLN.out]; rfl, by rw [HLN.out]; rfl, HSP.out, by show ns.length < n + 1; have := HLN.out; omega, by show ns.length < n + 1; have := HLN.out; omega, by rw [HLN.out]; exact HTR9.out, Kp.refl _ _⟩
       case round =>
        obtain ⟨s', rest, l', r', rfl, rfl, rfl, hsp, hl', hr', htr, hkp⟩ := hrel
        obtain ⟨k, rfl⟩ : ∃ q, gk = q + 1 := ⟨gk - 1, by cases gk with | zero => cases hsp | succ g => rfl⟩
        unfold splitF at hsp
        have hKr := HK9.out.kp hkp (fun h => by rcases h with h | h; exact HKU.out h; exact HKA.out h)
        have hRcr := HRc9.out.kp hkp (fun h => by rcases h with h | h; exact HRU.out h; exact HRA.out h)
        have hbr := HB9.out.trans (hkp.below_ HB9.out.size (fun k hk => by
         have := HB3.out.size
         have := HTR9.out.loU
         have := HTR9.out.loA
         rcases hk with rfl | rfl <;> omega))
        have hlr := htr.len
        have HL' := Lib.hid hl'
        have HR' := Lib.hid hr'
        have HTRr := Lib.hid htr
        have HKP := Lib.hid hkp
        have HKr := Lib.hid hKr
        have HRcr := Lib.hid hRcr
        have HBr := Lib.hid hbr
        have kr : wr.cell? ⟨w.heap.size + 1, 0, none⟩ = some (.int .i64 key) := by rw [hKr.cell]; rfl
        have ur : wr.cell? ⟨U, 1, none⟩ = some (.slice (some ad) (n + 1) c5) := by rw [htr.box.cell]; rfl
        have cl' := htr.link hl'
        have fl' := htr.frozen l'
        have cr' := htr.link hr'
        have fr' := htr.frozen r'
        obtain ⟨pl, hpl⟩ : ∃ p, lkA U (some ad) l' = p := ⟨_, rfl⟩
        obtain ⟨pr, hpr⟩ : ∃ p, lkA U (some ad) r' = p := ⟨_, rfl⟩
        rw [hpl] at cl' fl' ⊢
        rw [hpr] at cr' fr' ⊢
        have HPL := Lib.hid hpl
        have HPR := Lib.hid hpr
        clear hl' hr' htr hkp hKr hRcr hbr hpl hpr
        by_cases h1 : rest = -1
        ·rw [if_pos h1] at hsp
         subst h1
         obtain rfl := Option.some.inj hsp
         have htr2 := HTRr.out.set HL'.out (-1)
         rw [HPL.out] at htr2
         have crq := htr2.link HR'.out
         have frq := htr2.frozen r'
         rw [HPR.out] at crq frq
         have htr3 := htr2.set HR'.out (-1)
         rw [HPR.out] at htr3
         have hbl1 : w3.heap.size ≤ pl.block := by have := HTRr.out.lo l'; rwa [HPL.out] at this
         have hbl2 : w3.heap.size ≤ pr.block := by have := HTRr.out.lo r'; rwa [HPR.out] at this
         have hlt3 := HRc3.out.lt
         have hRc2 := (HRcr.out.far (p := pl) (fun e => by omega) (.int .i64 (-1))).far (p := pr) (fun e => by omega) (.int .i64 (-1))
         have hb2 := (HBr.out.setCell (p := pl) (Nat.le_trans HB3.out.size hbl1) (.int .i64 (-1))).setCell (p := pr) (Nat.le_trans HB3.out.size hbl2) (.int .i64 (-1))
         have x0 : ((wr.setCell pl (.int .i64 (-1))).setCell pr (.int .i64 (-1))).cell? ⟨U, 0, none⟩ = some (.int .i64 (lset (lset s' l' (-1)) r' (-1)).2) := by rw [htr3.box.cell]; rfl
         have x1 : ((wr.setCell pl (.int .i64 (-1))).setCell pr (.int .i64 (-1))).cell? ⟨U, 1, none⟩ = some (.slice (some ad) (n + 1) c5) := by rw [htr3.box.cell]; rfl
         have y0 : ((wr.setCell pl (.int .i64 (-1))).setCell pr (.int .i64 (-1))).cell? ⟨w.heap.size + 1 + 1, 0, none⟩ = some (.int .i64 0) := by rw [hRc2.cell]; rfl
         have y1 : ((wr.setCell pl (.int .i64 (-1))).setCell pr (.int .i64 (-1))).cell? ⟨w.heap.size + 1 + 1, 1, none⟩ = some (.slice none 0 0) := by rw [hRc2.cell]; rfl
         have yf := fun i => hRc2.frozen i
         have HTRz := Lib.hid htr3
         have HRcz := Lib.hid hRc2
         have HBz := Lib.hid hb2
         have HLz : Hid ((lset (lset s' l' (-1)) r' (-1)).1.length = n + 1) := htr3.len
         clear hsp htr2 htr3 hRc2 hb2 hbl1 hbl2 hlt3
         go_wp2_with fail
         have hz := (HRcz.out.set_ 0 (.int .i64 (lset (lset s' l' (-1)) r' (-1)).2)).set_ 1 (.slice (some ad) (n + 1) c5)
         have hB2 := (HBz.out.setCell (p := ⟨w.heap.size + 1 + 1, 0, none⟩) (by show w.heap.size ≤ w.heap.size + 1 + 1; omega) (.int .i64 (lset (lset s' l' (-1)) r' (-1)).2)).setCell (p := ⟨w.heap.size + 1 + 1, 1, none⟩) (by show w.heap.size ≤ w.heap.size + 1 + 1; omega) (.slice (some ad) (n + 1) c5)
         have ht1 := HTRz.out.keep (w' := ((wr.setCell pl (.int .i64 (-1))).setCell pr (.int .i64 (-1))).setCell ⟨w.heap.size + 1 + 1, 0, none⟩ (.int .i64 (lset (lset s' l' (-1)) r' (-1)).2)) (Below.heap_setCell _ ⟨w.heap.size + 1 + 1, 0, none⟩ _ U (fun e => HRU.out e.symm)) (Below.heap_setCell _ ⟨w.heap.size + 1 + 1, 0, none⟩ _ ad.block (fun e => HRA.out e.symm))
         have ht2 := ht1.keep (w' := (((wr.setCell pl (.int .i64 (-1))).setCell pr (.int .i64 (-1))).setCell ⟨w.heap.size + 1 + 1, 0, none⟩ (.int .i64 (lset (lset s' l' (-1)) r' (-1)).2)).setCell ⟨w.heap.size + 1 + 1, 1, none⟩ (.slice (some ad) (n + 1) c5)) (Below.heap_setCell _ ⟨w.heap.size + 1 + 1, 1, none⟩ _ U (fun e => HRU.out e.symm)) (Below.heap_setCell _ ⟨w.heap.size + 1 + 1, 1, none⟩ _ ad.block (fun e => HRA.out e.symm))
         refine bodyPost_ret (results_tree (p := 4) (u := 5) (by kernel_rfl) _ _ _ _ _ rfl hz) rfl ?_
         refine ⟨some ad, c5, ?_, ?_, hB2⟩
         ·rw [HLz.out]; rfl
         ·rw [HLz.out]; exact own_base ht2.own HB3.out.size
        ·rw [if_neg h1] at hsp
         by_cases h2 : rest < 0 ∨ (s'.1.length : Int) ≤ rest
         ·rw [if_pos h2] at hsp; cases hsp
         ·rw [if_neg h2] at hsp
          obtain ⟨i, rfl⟩ : ∃ i : Nat, rest = i := ⟨rest.toNat, by omega⟩
          rw [Int.toNat_natCast] at hsp
          have hin : i < n + 1 := by omega
          have d1 : ((i : Int) != -1) = true := bne_iff_ne.2 h1
          obtain ⟨ad', hA', hbl, n0, n1, n2⟩ := node_at HTRr.out.reads hin
          obtain rfl := Option.some.inj hA'
          have HLR := Lib.hid hlr
          obtain ⟨kx, hkx⟩ : ∃ x, (nd s'.1 i).key = x := ⟨_, rfl⟩
          rw [hkx] at n0 hsp
          have e1 : (⟨(ad.add (i * 3)).block, (ad.add (i * 3)).off + 1, none⟩ : Addr) = lkA U (some ad) (.left i) := rfl
          have e2 : (⟨(ad.add (i * 3)).block, (ad.add (i * 3)).off + 2, none⟩ : Addr) = lkA U (some ad) (.right i) := rfl
          have E1 := Lib.hid e1
          have E2 := Lib.hid e2
          clear h1 h2 hA' hbl hkx hlr e1 e2 n1 n2
          by_cases hk : kx < key
          ·rw [if_pos hk] at hsp
           have dk : decide (kx < key) = true := decide_eq_true hk
           have htr2 : ∀ q, TR ((wr.drewN q).setCell pl (.int .i64 i)) w3.heap.size U ad (n + 1) c5 (lset s' l' i).2 (lset s' l' i).1 := fun q => by
            have := (HTRr.out.drewN q).set HL'.out (i : Int)
            rwa [HPL.out] at this
           have cR : ∀ q, ((wr.drewN q).setCell pl (.int .i64 i)).cell? ⟨(ad.add (i * 3)).block, (ad.add (i * 3)).off + 2, none⟩ = some (.int .i64 (nd (lset s' l' i).1 i).right) := fun q => by
            rw [E2.out]
            exact (htr2 q).link (l := .right i) hin
           have HTR2 := Lib.hid htr2
           have HSPk := Lib.hid hsp
           clear hk htr2 hsp
           go_wp2_with fail
           go_quiet (fail)
           obtain ⟨wq, hwq⟩ : ∃ W, wr.drewN nq = W := ⟨_, rfl⟩
           have cR2 := cR nq
           have htr3 := HTR2.out nq
           have hkp3 := (HKP.out.more (below_drewN (Below.refl wr.heap.size wr) nq)).setCell (p := pl) (.inl (by
            have := lkA_block (U := U) (ad := ad) l'
            rw [HPL.out] at this
            exact this)) (.int .i64 i)
           have clq : (wr.drewN nq).cell? pl = some (.int .i64 (lget s'.1 s'.2 l')) := cl'
           have flq : (wr.drewN nq).frozen? pl = false := fl'
           rw [hwq] at cR2 htr3 hkp3 clq flq ⊢
           have HTR3 := Lib.hid htr3
           have HKP3 := Lib.hid hkp3
           clear cR htr3 hkp3 hwq
           go_wp2_with fail
           go_roundg k
           case measure => omega
           case rel => exact ⟨_, _, .right i, r', rfl, by rw [← E2.out], by rw [← HPR.out], HSPk.out, hin, HR'.out, HTR3.out, HKP3.out⟩
          ·rw [if_neg hk] at hsp
           have dk : decide (kx < key) = false := decide_eq_false hk
           have htr2 : ∀ q, TR ((wr.drewN q).setCell pr (.int .i64 i)) w3.heap.size U ad (n + 1) c5 (lset s' r' i).2 (lset s' r' i).1 := fun q => by
            have := (HTRr.out.drewN q).set HR'.out (i : Int)
            rwa [HPR.out] at this
           have cR : ∀ q, ((wr.drewN q).setCell pr (.int .i64 i)).cell? ⟨(ad.add (i * 3)).block, (ad.add (i * 3)).off + 1, none⟩ = some (.int .i64 (nd (lset s' r' i).1 i).left) := fun q => by
            rw [E1.out]
            exact (htr2 q).link (l := .left i) hin
           have HTR2 := Lib.hid htr2
           have HSPk := Lib.hid hsp
           clear hk htr2 hsp
           go_wp2_with fail
           go_quiet (fail)
           obtain ⟨wq, hwq⟩ : ∃ W, wr.drewN nq = W := ⟨_, rfl⟩
           have cR2 := cR nq
           have htr3 := HTR2.out nq
           have hkp3 := (HKP.out.more (below_drewN (Below.refl wr.heap.size wr) nq)).setCell (p := pr) (.inl (by
            have := lkA_block (U := U) (ad := ad) r'
            rw [HPR.out] at this
            exact this)) (.int .i64 i)
           have clq : (wr.drewN nq).cell? pr = some (.int .i64 (lget s'.1 s'.2 r')) := cr'
           have flq : (wr.drewN nq).frozen? pr = false := fr'
           rw [hwq] at cR2 htr3 hkp3 clq flq ⊢
           have HTR3 := Lib.hid htr3
           have HKP3 := Lib.hid hkp3
           clear cR htr3 hkp3 hwq
           go_wp2_with fail
           go_roundg k
           case measure => omega
           case rel => exact ⟨_, _, l', .left i, rfl, by rw [← HPL.out], by rw [← E1.out], HSPk.out, HL'.out, hin, HTR3.out, HKP3.out⟩
   ·have hf := HF2.out
    simp only [ne_eq, h1, not_false_eq_true, if_true] at hf
    obtain rfl := Option.some.inj hf
    have d1 : (lget ns root l != -1) = true := bne_iff_ne.2 h1
    clear hf h1
    go_wp2_with fail
    have hz := (HRc3.out.set_ 0 (.int .i64 0)).set_ 1 (.slice none 0 0)
    have hB2 := (HB3.out.setCell (p := ⟨w.heap.size + 1 + 1, 0, none⟩) (by show w.heap.size ≤ w.heap.size + 1 + 1; omega) (.int .i64 0)).setCell (p := ⟨w.heap.size + 1 + 1, 1, none⟩) (by show w.heap.size ≤ w.heap.size + 1 + 1; omega) (.slice none 0 0)
    refine bodyPost_ret (results_tree (p := 4) (u := 5) (by kernel_rfl) _ _ _ _ _ rfl hz) rfl ?_
    exact ⟨none, 0, rfl, World.ownsRow_nil _ _ _ _, hB2⟩
end Treap
end Go.Proofs.Ytjdjmhagafmkaaa

/-
 Cells that are written one behind the other into a row.
-/
namespace Go.Proofs.Ytjdjmhagafmkaaa
open Go.RowKit
def over (cs : Array Value) : Nat → List Value → Array Value
 | _, [] => cs
 | o, v :: vs => over (cs.setIfInBounds o v) (o + 1) vs
theorem Blk.setCells {g : Nat} {t : TypeId} : ∀ (vs : List Value) (o : Nat) (w : World) (cs : Array Value), Blk w g t cs → Blk (w.setCells g o vs) g t (over cs o vs)
 | [], _, _, _, h => h
 | v :: vs, o, w, _, h => Blk.setCells vs (o + 1) (w.setCell ⟨g, o, none⟩ v) _ (h.set_ o v)
theorem over_size : ∀ (vs : List Value) (o : Nat) (cs : Array Value), (over cs o vs).size = cs.size
 | [], _, _ => rfl
 | _ :: _, _, _ => by rw [over, over_size]; simp
theorem over_list : ∀ (vs : List Value) (o : Nat) (cs : Array Value), o + vs.length ≤ cs.size → (over cs o vs).toList = cs.toList.take o ++ vs ++ cs.toList.drop (o + vs.length)
 | [], _, _, _ => by simp [over]
 | v :: vs, o, cs, h => by
  have hl : o < cs.size := by simp at h; omega
  rw [over, over_list vs (o + 1) _ (by simp at h ⊢; omega), Array.toList_setIfInBounds]
  have e1 : (cs.toList.set o v).take (o + 1) = cs.toList.take o ++ [v] := by
   rw [List.take_add_one, List.take_set_of_le (Nat.le_refl _), List.getElem?_set_self (by simpa using hl)]
   rfl
  have e2 : (cs.toList.set o v).drop (o + 1 + vs.length) = cs.toList.drop (o + (v :: vs).length) := by
   rw [List.drop_set_of_lt (by omega), List.length_cons, show o + 1 + vs.length = o + (vs.length + 1) by omega]
  rw [e1, e2]
  simp
end Go.Proofs.Ytjdjmhagafmkaaa

/-
 The contract of slices.DeleteFunc over judge.of's function, in place in a row of the call's own.
-/
namespace Go.Proofs.Ytjdjmhagafmkaaa
open Go.RowKit
namespace Judge
/-- A row of the call's own that reads as a list. -/
def RowIs (w : World) (g n : Nat) (L : List H) : Prop := L.length = n ∧ ∃ cur cap, w.heap[g]? = some (.cells cur 33 (0, 0)) ∧ cur.size = cap * 5 ∧ n ≤ cap ∧ cap ≤ maxLen ∧ cur.toList.take (n * 5) = L.flatMap cells
theorem RowIs.lt {w : World} {g n : Nat} {L : List H} (h : RowIs w g n L) : g < w.heap.size := by
 obtain ⟨_, cur, cap, hh, _⟩ := h
 exact Blk.lt hh
theorem RowIs.below {w w' : World} {g n B : Nat} {L : List H} (h : RowIs w g n L) (hb : Below B w w') (hg : g < B) : RowIs w' g n L := by
 obtain ⟨hl, cur, cap, hh, h2⟩ := h
 exact ⟨hl, cur, cap, (hb.block g hg).trans hh, h2⟩
theorem RowIs.alloc {w : World} {g n : Nat} {L : List H} (h : RowIs w g n L) (o : Obj) : RowIs (w.alloc o) g n L := by
 obtain ⟨hl, cur, cap, hh, h2⟩ := h
 exact ⟨hl, cur, cap, Blk.alloc hh o, h2⟩
theorem RowIs.reads {w : World} {g n : Nat} {L : List H} (h : RowIs w g n L) : Reads w w.heap.size 5 (some ⟨g, 0, none⟩) n (L.flatMap cells) := by
 have hlt := h.lt
 obtain ⟨hl, cur, cap, hh, hs, hn, _, hx⟩ := h
 refine ⟨by rw [flat_len cells 5 cells_len, hl], fun _ => ⟨_, rfl, hlt, fun j u hu => ?_⟩⟩
 have e : ((⟨g, 0, none⟩ : Addr).add j) = ⟨g, j, none⟩ := by unfold Addr.add; by_cases hj : j = 0 <;> simp [hj]
 rw [e, Blk.cell hh]
 rw [← hx] at hu
 obtain ⟨hj, hv⟩ := List.getElem?_eq_some_iff.1 hu
 rw [List.getElem_take] at hv
 rw [List.length_take] at hj
 rw [← hv, Array.getElem?_eq_getElem (by simpa using (Nat.lt_of_lt_of_le hj (Nat.min_le_right _ _)))]
 rfl
theorem RowIs.of_own {w : World} {B n c : Nat} {g : Nat} {L : List H} (hl : L.length = n) (h : w.ownsRow B 33 5 (.slice (some ⟨g, 0, none⟩) n c) n (L.flatMap cells)) : RowIs w g n L ∧ B ≤ g := by
 rcases h.2 with ⟨h0, _⟩ | ⟨g', cap, cur, hv, hB, hh, h1, h2, h3, h4⟩
 ·cases h0
 ·have : g' = g := by injection hv with a; injection a with a; injection a with a; exact a.symm
  subst this
  exact ⟨⟨hl, cur, cap, hh, h3, h1, h2, h4⟩, hB⟩
theorem take_set_ge {α : Type} : ∀ (l : List α) (k i : Nat) (x : α), k ≤ i → (l.set i x).take k = l.take k := fun l k i x h => by
 rw [List.take_set_of_le h]
/-- A struct is stored at an index. -/
theorem RowIs.set_ {w : World} {g n i : Nat} {L : List H} (h : RowIs w g n L) (hi : i < n) (x : H) :
  RowIs (((((w.setCell ⟨g, i * 5, none⟩ (.int .i64 x.at_)).setCell ⟨g, i * 5 + 1, none⟩ (.int .i64 x.now)).setCell ⟨g, i * 5 + 2, none⟩ (.int .i64 x.who)).setCell ⟨g, i * 5 + 3, none⟩ (.int .i64 x.kind)).setCell ⟨g, i * 5 + 4, none⟩ (.int .i64 x.mutex)) g n (L.set i x) := by
 obtain ⟨hl, cur, cap, hh, hs, hn, hm, hx⟩ := h
 refine ⟨by simp [hl], _, cap, ((((Blk.set_ hh _ _).set_ _ _).set_ _ _).set_ _ _).set_ _ _, by simp [hs], hn, hm, ?_⟩
 simp only [Array.toList_setIfInBounds, List.take_set]
 rw [hx]
 have key : ∀ (l : List H) (i : Nat), i < l.length → (((((l.flatMap cells).set (i * 5) (.int .i64 x.at_)).set (i * 5 + 1) (.int .i64 x.now)).set (i * 5 + 2) (.int .i64 x.who)).set (i * 5 + 3) (.int .i64 x.kind)).set (i * 5 + 4) (.int .i64 x.mutex) = (l.set i x).flatMap cells := by
  intro l
  induction l with
  | nil => intro i h; simp at h
  | cons y l ih =>
   intro i h
   cases i with
   | zero => simp [cells]
   | succ i =>
    have := ih i (by simpa using h)
    rw [List.set_cons_succ, List.flatMap_cons, List.flatMap_cons, ← this]
    have hy : (cells y).length = 5 := rfl
    simp only [List.set_append, hy]
    rw [if_neg (by omega), show (i + 1) * 5 - 5 = i * 5 by omega]
    simp only [List.set_append, hy]
    rw [if_neg (by omega), show (i + 1) * 5 + 1 - 5 = i * 5 + 1 by omega]
    simp only [List.set_append, hy]
    rw [if_neg (by omega), show (i + 1) * 5 + 2 - 5 = i * 5 + 2 by omega]
    simp only [List.set_append, hy]
    rw [if_neg (by omega), show (i + 1) * 5 + 3 - 5 = i * 5 + 3 by omega]
    simp only [List.set_append, hy]
    rw [if_neg (by omega), show (i + 1) * 5 + 4 - 5 = i * 5 + 4 by omega]
 exact key L i (by omega)
end Judge
end Go.Proofs.Ytjdjmhagafmkaaa

/-
 The contract of slices.DeleteFunc over judge.of's function, in place in a row of the call's own.
-/
namespace Go.Proofs.Ytjdjmhagafmkaaa
open Go.RowKit
namespace Judge
open JudgeLaws (infoH)
/-- 'clear(s)' of a run of a row: what lies ahead of it stays. -/
theorem run_clear_row {P : Program} (w : World) (t e ty t' : TypeId) (z : Value) (hu : P.underlying t = some (.slice e)) (hv : ∀ w, (zeroValue e).run P w = .ok z w) (m g o n c : Nat) (hm : z.cells.size = m) (h1 : ∀ v ∈ z.cells, v.oneCell' = true)
  (cur : Array Value) (hg : w.heap[g]? = some (.cells cur t' (0, 0))) (hfit : o + n * m ≤ cur.size) :
  ∃ cur' : Array Value, (Builtin.clear_ #[t] ty #[.slice (some ⟨g, o, none⟩) n c]).run P w = .ok (.tuple #[]) (w.setRow g cur') ∧ cur'.size = cur.size ∧ cur'.toList.take o = cur.toList.take o := by
 rcases Nat.eq_zero_or_pos n with h0 | h0
 ·subst h0
  refine ⟨cur, ?_, rfl, rfl⟩
  rw [setRow_self w g cur t' (0, 0) hg]
  simp [Builtin.clear_, run_underlying hu]
 ·have hlen : (Builtin.zeroCells z.cells n).toList.length = n * m := by simp [Builtin.zeroCells, hm]
  have hone : ∀ v ∈ (Builtin.zeroCells z.cells n).toList, v.oneCell' = true := by
   intro v hv
   simp only [Builtin.zeroCells, Array.toList_map, List.mem_map] at hv
   obtain ⟨i, hi, rfl⟩ := hv
   have hi' : i < n * z.cells.size := by simpa using hi
   have hpos : 0 < z.cells.size := by
    rcases Nat.eq_zero_or_pos z.cells.size with h | h
    ·rw [h] at hi'; omega
    ·exact h
   have hlt := Nat.mod_lt i hpos
   rw [getElem!_pos z.cells (i % z.cells.size) hlt]
   exact h1 _ (by simp)
  have hst := run_storeCells_at P g o t' (Builtin.zeroCells z.cells n).toList 0 cur w hg (by rw [hlen]; simpa using hfit) hone
  refine ⟨(cur.toList.take o ++ (Builtin.zeroCells z.cells n).toList ++ cur.toList.drop (o + n * m)).toArray, ?_, ?_, ?_⟩
  ·obtain ⟨k, rfl⟩ : ∃ k, n = k + 1 := ⟨n - 1, by omega⟩
   rw [hlen] at hst
   simp only [Nat.add_zero] at hst
   simp [Builtin.clear_, run_underlying hu, hv, hst]
  ·simp [Builtin.zeroCells, hm]; omega
  ·rw [List.append_assoc, List.take_append_of_le_length (by simp; omega), List.take_take, Nat.min_self]
/-- What DeleteFunc leaves. -/
def Del (g : Nat) (m : Int) (hs : List H) (w : World) (e : Ending) (w' : World) : Prop := ∃ c', e = .returned (.slice (some ⟨g, 0, none⟩) (hs.filter (keepB m)).length c') ∧ RowIs w' g (hs.filter (keepB m)).length (hs.filter (keepB m)) ∧ Below g w w'
theorem filter_all {m : Int} {hs : List H} (h : ∀ x ∈ hs, keepB m x = true) : hs.filter (keepB m) = hs := List.filter_eq_self.2 h
theorem RowIs.at_ {w : World} {g n i : Nat} {L : List H} (h : RowIs w g n L) (hi : i < n) : ∃ x, L[i]? = some x ∧ w.cell? ⟨g, i * 5, none⟩ = some (.int .i64 x.at_) ∧ w.cell? ⟨g, i * 5 + 1, none⟩ = some (.int .i64 x.now) ∧
  w.cell? ⟨g, i * 5 + 2, none⟩ = some (.int .i64 x.who) ∧ w.cell? ⟨g, i * 5 + 3, none⟩ = some (.int .i64 x.kind) ∧ w.cell? ⟨g, i * 5 + 4, none⟩ = some (.int .i64 x.mutex) := by
 obtain ⟨ad, x, had, hx, _, e0, e1, e2, e3, e4⟩ := happened_at h.reads hi
 obtain rfl : (⟨g, 0, none⟩ : Addr) = ad := Option.some.inj had
 have e : ((⟨g, 0, none⟩ : Addr).add (i * 5)) = ⟨g, i * 5, none⟩ := by unfold Addr.add; split <;> simp_all
 rw [e] at e0 e1 e2 e3 e4
 exact ⟨x, hx, e0, e1, e2, e3, e4⟩
theorem RowIs.fr {w : World} {g n : Nat} {L : List H} (h : RowIs w g n L) (i : Nat) : w.frozen? ⟨g, i, none⟩ = false := by
 obtain ⟨_, cur, cap, hh, _⟩ := h
 exact Blk.frozen hh i
set_option maxRecDepth 100000 in
set_option maxHeartbeats 2000000 in
theorem del_any (g n c B : Nat) (m : Int) (hs : List H) (hn : n ≤ 1000) (hc : n ≤ c) (w : World) (hr : RowIs w g n hs) (hb : Blk w B 3 #[.int .i64 m]) (hBg : B < g) :
  Calls Try.prog 82 #[.slice (some ⟨g, 0, none⟩) n c, .func (.func 84) #[] #[.pointer (some ⟨B, 0, none⟩)]] w (Del g m hs w) := by
 have hl : hs.length = n := hr.1
 have HL := Lib.hid hl
 have HR := Lib.hid hr
 have HB := Lib.hid hb
 clear hl hr hb
 go_enter Try.func82, Try.ntmps82
 go_wp2_with fail
 refine (idx_any (some ⟨g, 0, none⟩) n c B m hs hn _ HR.out.reads HB.out).mono ?_
 rintro e w1 ⟨h | ⟨k, hk, rfl, hall, h, hh, hkf⟩, hb1⟩
 ·obtain ⟨rfl, hall⟩ := h
  have HALL := Lib.hid hall
  have HB1 := Lib.hid hb1
  clear hall hb1
  go_wp2_with fail
  go_ret
  refine ⟨c, by rw [filter_all HALL.out, HL.out]; rfl, ?_, HB1.out.mono (Nat.le_of_lt HR.out.lt)⟩
  rw [filter_all HALL.out, HL.out]
  exact HR.out.below HB1.out HR.out.lt
 ·have HALL := Lib.hid hall
  have HB1 := Lib.hid hb1
  have HH := Lib.hid hh
  have HKF := Lib.hid hkf
  have hkn : k < n := by rw [← HL.out]; exact hk
  clear hall hb1 hh hkf
  go_wp2_with fail
  go_loopw [5, 6] (fun i j wr => ∃ (a b : Nat) (L : List H), i = .int .i64 a ∧ j = .int .i64 b ∧ a < b ∧ b ≤ n ∧ RowIs wr g n L ∧ L.take a = (hs.take b).filter (keepB m) ∧ L.drop b = hs.drop b ∧ Below g w wr) (fun _ j _ => n - (intOf j).toNat)
  case atStart =>
   refine ⟨k, k + 1, hs, rfl, by go_num, by omega, by omega, HR.out.below HB1.out HR.out.lt, ?_, rfl, HB1.out.mono (Nat.le_of_lt HR.out.lt)⟩
   rw [List.take_add_one, HH.out, List.filter_append, filter_all HALL.out]
   simp [HKF.out]
  case round =>
   obtain ⟨a, b, L, rfl, rfl, hab, hbn, hrw, htk, hdr, hbw⟩ := hrel
   have HRW := Lib.hid hrw
   have HTK := Lib.hid htk
   have HDR := Lib.hid hdr
   have HBW := Lib.hid hbw
   clear hrw htk hdr hbw
   by_cases hlt : b < n
   ·obtain ⟨x, hx, e0, e1, e2, e3, e4⟩ := HRW.out.at_ hlt
    have HX := Lib.hid hx
    clear hx
    go_wp2_with fail
    have hgw : g ≤ wr.heap.size := Nat.le_of_lt HRW.out.lt
    have HA := Lib.hid ((HRW.out.alloc (.cells #[.int .i64 x.at_, .int .i64 x.now, .int .i64 x.who, .int .i64 x.kind, .int .i64 x.mutex] 33)))
    have HAB := Lib.hid (HBW.out.alloc hgw (.cells #[.int .i64 x.at_, .int .i64 x.now, .int .i64 x.who, .int .i64 x.kind, .int .i64 x.mutex] 33))
    have HAN := Lib.hid (Blk.new wr 33 #[.int .i64 x.at_, .int .i64 x.now, .int .i64 x.who, .int .i64 x.kind, .int .i64 x.mutex])
    obtain ⟨W, hW⟩ : ∃ W, wr.alloc (.cells #[.int .i64 x.at_, .int .i64 x.now, .int .i64 x.who, .int .i64 x.kind, .int .i64 x.mutex] 33) = W := ⟨_, rfl⟩
    rw [hW] at HA HAB HAN ⊢
    have hne : wr.heap.size ≠ g := by have := HRW.out.lt; omega
    clear hW e0 e1 e2 e3 e4 hgw
    refine (of1_any B m x _ ((HB.out.below (HAB.out) hBg))).mono ?_
    rintro e w2 ⟨rfl, hb2⟩
    have HR2 := Lib.hid (HA.out.below hb2 HA.out.lt)
    have HB2 := Lib.hid (HAB.out.trans (hb2.mono (Nat.le_of_lt HA.out.lt)))
    have HN2 := Lib.hid (HAN.out.below hb2 HAN.out.lt)
    clear hb2
    cases hkp : keepB m x with
    | true =>
     obtain ⟨y, _, f0, f1, f2, f3, f4⟩ := HR2.out.at_ (show a < n by omega)
     obtain ⟨q0, q1, q2, q3, q4⟩ := HN2.out.at5
     have z0 := HR2.out.fr
     have HK := Lib.hid hkp
     clear hkp
     go_wp2_with fail
     refine ⟨⟨_, _, _, _, _, _, _, _, _, _, _, _, _, _, _, _, _, _, _, _, _, _, _, ⟨a + 1, b + 1, L.set a x, by go_num, by go_num, by omega, by omega, HR2.out.set_ (show a < n by omega) x, ?_, ?_, ?_⟩, rfl⟩, by simp [intOf]; omega⟩
     ·have hal : a < L.length := by rw [HR2.out.1]; omega
      have hbx : hs[b]? = some x := by
       have h1 := congrArg (fun l => l[0]?) HDR.out
       simp only [List.getElem?_drop, Nat.add_zero] at h1
       rw [← h1]; exact HX.out
      rw [List.take_add_one, List.take_add_one, List.filter_append, ← HTK.out, hbx, List.getElem?_set_self hal, List.take_set_of_le (Nat.le_refl a)]
      simp [HK.out]
     ·rw [List.drop_set_of_lt (by omega), ← List.drop_drop, ← List.drop_drop, HDR.out]
     ·exact ((((HB2.out.setCell (p := ⟨g, a * 5, none⟩) (Nat.le_refl _) _).setCell (p := ⟨g, a * 5 + 1, none⟩) (Nat.le_refl _) _).setCell (p := ⟨g, a * 5 + 2, none⟩) (Nat.le_refl _) _).setCell (p := ⟨g, a * 5 + 3, none⟩) (Nat.le_refl _) _).setCell (p := ⟨g, a * 5 + 4, none⟩) (Nat.le_refl _) _
    | false =>
     have HK := Lib.hid hkp
     clear hkp
     go_wp2_with fail
     refine ⟨⟨_, _, _, _, _, _, _, _, _, _, _, _, _, _, _, _, _, _, _, _, _, _, _, ⟨a, b + 1, L, rfl, by go_num, by omega, by omega, HR2.out, ?_, ?_, HB2.out⟩, rfl⟩, by simp [intOf]; omega⟩
     ·have hbx : hs[b]? = some x := by
       have h1 := congrArg (fun l => l[0]?) HDR.out
       simp only [List.getElem?_drop, Nat.add_zero] at h1
       rw [← h1]; exact HX.out
      rw [List.take_add_one, List.filter_append, ← HTK.out, hbx]
      simp [HK.out]
     ·rw [← List.drop_drop, ← List.drop_drop, HDR.out]
   ·obtain rfl : b = n := by omega
    have han : a ≤ b := by omega
    have hac : a ≤ c := by omega
    obtain ⟨_, cur, cap, hh, hs5, hcap, hcm2, hflat⟩ := HRW.out
    have hq : ∀ ty, ∃ cur' : Array Value, (Builtin.clear_ #[22] ty #[.slice (some ⟨g, a * 5, none⟩) (b - a) (c - a)]).run Try.prog wr = .ok (.tuple #[]) (wr.setRow g cur') ∧ cur'.size = cur.size ∧ cur'.toList.take (a * 5) = cur.toList.take (a * 5) := fun ty =>
     run_clear_row wr 22 33 ty 33 (.agg #[.int .i64 0, .int .i64 0, .int .i64 0, .int .i64 0, .int .i64 0]) Try.underlying22 (fun w => by kernel_rfl) 5 g (a * 5) (b - a) (c - a) rfl (by simp [Value.cells, Value.oneCell']) cur hh (by rw [hs5, ← Nat.add_mul]; exact Nat.mul_le_mul_right 5 (by omega))
    obtain ⟨cur', hcl, hsz, htk⟩ := hq 0
    have HSZ := Lib.hid hsz
    have HT := Lib.hid htk
    have HF := Lib.hid hflat
    have HH2 := Lib.hid hh
    have HCAP := Lib.hid hcap
    have HCM := Lib.hid hcm2
    have HS5 := Lib.hid hs5
    clear hq hsz htk hflat hh hcap hcm2 hs5
    go_wp2_with fail
    go_ret
    have hF : hs.filter (keepB m) = L.take a := by rw [HTK.out, ← HL.out, List.take_length]
    have hlen : (L.take a).length = a := by rw [List.length_take, HRW.out.1]; omega
    refine ⟨c, by rw [hF, hlen]; rfl, ?_, below_setRow HBW.out (Nat.le_refl _) _⟩
    rw [hF, hlen]
    refine ⟨hlen, cur', cap, setRow_heap wr g cur cur' _ _ HH2.out, by rw [HSZ.out, HS5.out], Nat.le_trans han HCAP.out, HCM.out, ?_⟩
    have e : List.take (a * 5) cur.toList = List.take (a * 5) (L.flatMap cells) := by
     rw [← HF.out, List.take_take, Nat.min_eq_left (Nat.mul_le_mul_right 5 han)]
    rw [HT.out, e]
    conv => lhs; rw [← List.take_append_drop a L, List.flatMap_append]
    exact List.take_left' (by rw [flat_len cells 5 cells_len, hlen])
end Judge
end Go.Proofs.Ytjdjmhagafmkaaa

/-
 The contract of slices.Delete at a place of a row of the call's own.
-/
namespace Go.Proofs.Ytjdjmhagafmkaaa
open Go.RowKit
namespace Treap
theorem kp_cells (g : Nat) : ∀ (vs : List Value) (o : Nat) (w a : World), Kp (fun k => k = g) w a → Kp (fun k => k = g) w (a.setCells g o vs)
 | [], _, _, _, h => h
 | v :: vs, o, w, a, h => kp_cells g vs (o + 1) w (a.setCell ⟨g, o, none⟩ v) (h.setCell (p := ⟨g, o, none⟩) (.inl rfl) v)
theorem kp_setRow {own : Nat → Prop} {w a : World} {g : Nat} (h : Kp own w a) (hg : own g) (cs : Array Value) : Kp own w (a.setRow g cs) := by
 refine ⟨Judge.below_setRow h.zero (Nat.zero_le _) cs, fun k hk hn => ?_⟩
 have := (Judge.below_setRow (B := 0) (g := g) (Below.refl 0 a) (Nat.zero_le _) cs)
 refine Eq.trans ?_ (h.same k hk hn)
 have hne : g ≠ k := fun e => hn (e ▸ hg)
 simp [World.setRow, Array.getElem?_modify, hne]
theorem RowIs.fr {w : World} {g n cap : Nat} {L : List Nd} (h : RowIs w g n cap L) (i : Nat) : w.frozen? ⟨g, i, none⟩ = false := by
 obtain ⟨_, cur, hh, _⟩ := h
 exact Blk.frozen hh i
theorem RowIs.reads {w : World} {g n cap : Nat} {L : List Nd} (h : RowIs w g n cap L) : Reads w w.heap.size 3 (some ⟨g, 0, none⟩) n (L.flatMap cells) := Reads.of_own (RowIs.own (ad := ⟨g, 0, none⟩) (B := 0) h (Nat.zero_le _) rfl)
set_option maxRecDepth 100000 in
set_option maxHeartbeats 1000000 in
theorem delete_any (g n c at_ : Nat) (L : List Nd) (hn : n ≤ 1000) (ha : at_ < n) (w : World) (hr : RowIs w g n c L) :
  Calls Try.prog 91 #[.slice (some ⟨g, 0, none⟩) n c, .int .i64 at_, .int .i64 ((at_ + 1 : Nat) : Int)] w fun e w' => e = .returned (.slice (some ⟨g, 0, none⟩) (n - 1) c) ∧ RowIs w' g (n - 1) c (L.eraseIdx at_) ∧ Kp (fun k => k = g) w w' := by
 obtain ⟨q, rfl⟩ : ∃ q, n = at_ + 1 + q := ⟨n - (at_ + 1), by omega⟩
 have hnc : at_ + 1 + q ≤ c := by obtain ⟨_, _, _, _, h, _⟩ := hr; exact h
 have hlt := hr.lt
 have hl : L.length = at_ + 1 + q := hr.1
 have hrd := hr.reads
 obtain ⟨i0, hi0, hz0, hz1, hz2⟩ := info_parts infoN3
 have hfz : ∀ k, w.frozen? ⟨g, k, none⟩ = false := hr.fr
 obtain ⟨A, hA, hnews⟩ : ∃ A : Addr, (if c = at_ + 1 then some (⟨g, 0, none⟩ : Addr) else some ⟨g, (at_ + 1) * 3, none⟩) = some A ∧ Hid (∀ j u, ((L.drop (at_ + 1)).flatMap cells)[j]? = some u → w.drew.cell? (A.add j) = some u) := by
  by_cases h : c = at_ + 1
  ·refine ⟨⟨g, 0, none⟩, by rw [if_pos h], fun j u hu => ?_⟩
   rw [List.drop_eq_nil_of_le (by omega)] at hu
   simp at hu
  ·refine ⟨⟨g, (at_ + 1) * 3, none⟩, by rw [if_neg h], fun j u hu => ?_⟩
   have := (hrd.2 (by omega))
   obtain ⟨ad, had, _, hc⟩ := this
   obtain rfl := Option.some.inj had
   show w.cell? _ = _
   have e : ((⟨g, (at_ + 1) * 3, none⟩ : Addr).add j) = (⟨g, 0, none⟩ : Addr).add ((at_ + 1) * 3 + j) := by unfold Addr.add; by_cases h1 : j = 0 <;> simp [h1]
   rw [e]
   apply hc
   conv => lhs; rw [← List.take_append_drop (at_ + 1) L, List.flatMap_append]
   have e2 : ((L.take (at_ + 1)).flatMap cells).length = (at_ + 1) * 3 := by rw [flat_len cells 3 cells_len, List.length_take, hl]; congr 1; omega
   rw [List.getElem?_append_right (by rw [e2]; omega), e2, Nat.add_sub_cancel_left]
   exact hu
 have s1 : Hid (((L.drop (at_ + 1)).flatMap cells).length = q * 3) := by unfold Hid; rw [flat_len cells 3 cells_len, List.length_drop, hl]; congr 1; omega
 have s2 : Hid (∀ u ∈ (L.drop (at_ + 1)).flatMap cells, u.oneCell' = true) := one_nd _
 have s3 : Hid (∀ j, j < ((L.drop (at_ + 1)).flatMap cells).length → (w.drew.cell? ⟨g, 0 + at_ * 3 + j, none⟩).isSome = true ∧ w.drew.frozen? ⟨g, 0 + at_ * 3 + j, none⟩ = false) := by
  intro j hj
  rw [s1.out] at hj
  refine ⟨?_, hfz _⟩
  obtain ⟨_, cur, hh, hs3, hcap, _, _⟩ := hr
  show (w.cell? _).isSome = true
  rw [Blk.cell hh, Array.getElem?_eq_getElem (by rw [hs3]; omega)]
  rfl
 have HR := Lib.hid hr
 have HL := Lib.hid hl
 have i1 : (0 : Int) ≤ at_ := by omega
 have i2 : (at_ : Int) ≤ (at_ : Int) + 1 := by omega
 have i3 : (at_ : Int) + 1 ≤ (at_ : Int) + 1 + q := by omega
 have i4 : (at_ : Int) + 1 + q ≤ c := by omega
 have i5 : (0 : Int) ≤ (at_ : Int) + 1 := by omega
 have j0 : (0 : Int) ≤ (at_ : Int) + q := by omega
 have j1 : (at_ : Int) + q ≤ (at_ : Int) + 1 + q := by omega
 have j2 : ((at_ : Int) + q).toNat = at_ + q := by omega
 have j3 : ((at_ : Int) + 1 + q).toNat = at_ + 1 + q := by omega
 have j4 : ¬ c = at_ + q := by omega
 have hac : at_ ≤ c := by omega
 have hp2 : ((at_ : Int) + 1).toNat = at_ + 1 := by omega
 have d1 : ((at_ : Int) == (at_ : Int) + 1) = false := beq_eq_false_iff_ne.2 (by omega)
 clear hr hrd hfz hl
 go_enter Try.func91, Try.ntmps91
 go_wp2_with fail
 go_region_law (refine step_append_room rfl (.tmp 22) (.tmp 25) 48 rfl 87 i0 3 Try.underlying48 hi0 hz1 g 0 at_ c (by simp [Act.eval, Act.put]) A q (c - (at_ + 1)) ((L.drop (at_ + 1)).flatMap cells) (by simp [Act.eval, Act.put]) s1.out hnews.out s2.out (by omega) s3.out ?_)
 obtain ⟨hl2, cur, hh, hs3, hcap, hcm, hflat⟩ := HR.out
 have hb2 := Blk.setCells ((L.drop (at_ + 1)).flatMap cells) (at_ * 3) w.drew cur (Blk.drew hh)
 have hsz2 := over_size ((L.drop (at_ + 1)).flatMap cells) (at_ * 3) cur
 obtain ⟨w2, hw2⟩ : ∃ W, w.drew.setCells g (at_ * 3) ((L.drop (at_ + 1)).flatMap cells) = W := ⟨_, rfl⟩
 rw [hw2] at hb2 ⊢
 obtain ⟨cur', hcl, hsz, htk⟩ := Judge.run_clear_row w2 48 87 0 87 (.agg #[.int .i64 0, .int .i64 0, .int .i64 0]) Try.underlying48 (fun w => by kernel_rfl) 3 g ((at_ + q) * 3) 1 (c - (at_ + q)) rfl (by simp [Value.cells, Value.oneCell']) _ hb2 (by rw [hsz2, hs3, ← Nat.add_mul]; exact Nat.mul_le_mul_right 3 (by omega))
 have HCL := Lib.hid hcl
 rw [show (1 : Nat) = at_ + 1 + q - (at_ + q) by omega] at hcl
 have hrow : RowIs (w2.setRow g cur') g (at_ + q) c (L.eraseIdx at_) := by
  refine ⟨by rw [List.length_eraseIdx, HL.out]; split <;> omega, cur', setRow_heap w2 g _ cur' _ _ hb2, by rw [hsz, hsz2, hs3], by omega, hcm, ?_⟩
  rw [htk, over_list _ _ _ (by rw [s1.out, hs3]; omega), s1.out]
  have e0 : cur.toList.take (at_ * 3) = (L.take at_).flatMap cells := by
   have : cur.toList.take (at_ * 3) = (cur.toList.take ((at_ + 1 + q) * 3)).take (at_ * 3) := by rw [List.take_take, Nat.min_eq_left (by omega)]
   rw [this, hflat]
   conv => lhs; rw [← List.take_append_drop at_ L, List.flatMap_append]
   exact List.take_left' (by rw [flat_len cells 3 cells_len, List.length_take, HL.out]; omega)
  rw [e0, List.eraseIdx_eq_take_drop_succ, List.flatMap_append]
  exact List.take_left' (by rw [List.length_append, s1.out, flat_len cells 3 cells_len, List.length_take, HL.out]; omega)
 have HROW := Lib.hid hrow
 clear hi0 hz0 hz1 hz2 hrow
 go_wp2_with fail
 go_ret
 refine ⟨by rw [show at_ + 1 + q - 1 = at_ + q by omega]; rfl, by rw [show at_ + 1 + q - 1 = at_ + q by omega]; exact HROW.out, ?_⟩
 refine kp_setRow (own := fun k => k = g) (g := g) ?_ rfl _
 rw [← hw2]
 exact kp_cells g _ _ _ _ (Kp.refl _ w).drew
end Treap
end Go.Proofs.Ytjdjmhagafmkaaa

/-
 The contract of treap.without: a place is taken out, the links behind it are moved down.
-/
namespace Go.Proofs.Ytjdjmhagafmkaaa
open Go.RowKit
namespace Treap
theorem shift_any (Kb : Nat) (at_ : Nat) (i : Int) (hi : -1 ≤ i) (h63 : i ≤ 1000) (w : World) (hK : Blk w Kb 3 #[.int .i64 at_]) :
  Calls Try.prog 90 #[.int .i64 i, .pointer (some ⟨Kb, 0, none⟩)] w fun e w' => e = .returned (.int .i64 (shiftI at_ i)) ∧ w = w' := by
 have c0 : w.cell? ⟨Kb, 0, none⟩ = some (.int .i64 at_) := by rw [hK.cell]; rfl
 clear hK
 by_cases h : (at_ : Int) < i
 ·have d0 : decide ((at_ : Int) < i) = true := decide_eq_true h
  have HE : Hid (shiftI at_ i = i - 1) := by unfold Hid shiftI; rw [if_pos h]
  go_enter Try.func90, Try.ntmps90
  go_wp2_with fail
  go_ret
  exact ⟨by rw [HE.out]; rfl, rfl⟩
 ·have d0 : decide ((at_ : Int) < i) = false := decide_eq_false h
  have HE : Hid (shiftI at_ i = i) := by unfold Hid shiftI; rw [if_neg h]
  go_enter Try.func90, Try.ntmps90
  go_wp2_with fail
  go_ret
  exact ⟨by rw [HE.out]; rfl, rfl⟩
theorem results_tree1 {fn : Func} {p : Tmp} (h : fn.results = #[.cell p 50]) (tmps : Array Value) (w : World) (g : Nat) (a b : Value)
  (hp : tmps.getD p undef = .pointer (some ⟨g, 0, none⟩)) (hg : Blk w g 50 #[a, b]) : (results fn tmps).run Try.prog w = .ok (.agg #[a, b]) w :=
 results_cell_row h tmps w g 50 #[a, b] (0, 0) _ hp hg Try.underlying50 rfl (by kernel_rfl)
def moveN (at_ : Nat) (x : Nd) : Nd := ⟨x.key, shiftI at_ x.left, shiftI at_ x.right⟩
def small (i : Int) : Prop := -1 ≤ i ∧ i ≤ 1000
def Without (g n c at_ : Nat) (L : List Nd) (root : Int) (w : World) (e : Ending) (w' : World) : Prop :=
 e = .returned (.agg #[.int .i64 (shiftI at_ root), .slice (some ⟨g, 0, none⟩) (n - 1) c]) ∧ RowIs w' g (n - 1) c ((L.eraseIdx at_).map (moveN at_)) ∧ Kp (fun k => k = g) w w'
theorem row_cell {w : World} {g n cap : Nat} {L : List Nd} (h : RowIs w g n cap L) {i j : Nat} (hi : i < n) (hj : j < 3) : ∃ v, w.cell? ⟨g, i * 3 + j, none⟩ = some v := by
 obtain ⟨ad, hA, _, n0, n1, n2⟩ := node_at h.reads hi
 obtain rfl := Option.some.inj hA
 have ead : (⟨g, 0, none⟩ : Addr).add (i * 3) = ⟨g, i * 3, none⟩ := by
  unfold Addr.add
  by_cases hj : i * 3 = 0 <;> simp [hj]
 rw [ead] at n0 n1 n2
 rcases (show j = 0 ∨ j = 1 ∨ j = 2 by omega) with rfl | rfl | rfl
 ·exact ⟨_, n0⟩
 ·exact ⟨_, n1⟩
 ·exact ⟨_, n2⟩
theorem row_put {w : World} {g n cap : Nat} {L : List Nd} (h : RowIs w g n cap L) {i : Nat} (hi : i < n) (x : Nd) :
  RowIs (((w.setCell ⟨g, i * 3, none⟩ (.int .i64 x.key)).setCell ⟨g, i * 3 + 1, none⟩ (.int .i64 x.left)).setCell ⟨g, i * 3 + 2, none⟩ (.int .i64 x.right)) g n cap (L.set i x) := by
 have hl := h.1
 have h0 := h.set_ hi (j := 0) (by omega) (.int .i64 x.key) ⟨x.key, (nd L i).left, (nd L i).right⟩ rfl
 have h1 := h0.set_ hi (j := 1) (by omega) (.int .i64 x.left) ⟨x.key, x.left, (nd L i).right⟩ (by rw [nd_set _ _ _ _ (by omega), if_pos rfl]; rfl)
 have h2 := h1.set_ hi (j := 2) (by omega) (.int .i64 x.right) x (by rw [nd_set _ _ _ _ (by simp; omega), if_pos rfl]; rfl)
 rw [List.set_set, List.set_set] at h2
 exact h2
theorem moved_row (at_ k : Nat) (L1 : List Nd) (hk : k < L1.length) : ((L1.take k).map (moveN at_) ++ L1.drop k).set k (moveN at_ (nd L1 k)) = (L1.take (k + 1)).map (moveN at_) ++ L1.drop (k + 1) := by
 rw [List.set_append, if_neg (by simp; omega)]
 have e1 : k - ((L1.take k).map (moveN at_)).length = 0 := by simp; omega
 rw [e1, List.drop_eq_getElem_cons hk, List.set_cons_zero, List.take_add_one, nd_at hk, List.map_append]
 simp
set_option maxRecDepth 100000 in
set_option maxHeartbeats 2000000 in
theorem without_any (g n c at_ : Nat) (L : List Nd) (root : Int) (hn : n ≤ 1000) (ha : at_ < n) (w : World) (hr : RowIs w g n c L) (hroot : small root) (hsm : ∀ x ∈ L, small x.left ∧ small x.right) :
  Calls Try.prog 79 #[.agg #[.int .i64 root, .slice (some ⟨g, 0, none⟩) n c], .int .i64 at_] w (Without g n c at_ L root w) := by
 have hlt := hr.lt
 have hT := ((Blk.new w 50 #[.int .i64 root, .slice (some ⟨g, 0, none⟩) n c]).alloc (.cells #[.int .i64 at_] 3)).alloc (.cells #[.int .i64 0, .slice none 0 0] 50)
 have hK := (Blk.new (w.alloc (.cells #[.int .i64 root, .slice (some ⟨g, 0, none⟩) n c] 50)) 3 #[.int .i64 at_]).alloc (.cells #[.int .i64 0, .slice none 0 0] 50)
 have hRc := Blk.new ((w.alloc (.cells #[.int .i64 root, .slice (some ⟨g, 0, none⟩) n c] 50)).alloc (.cells #[.int .i64 at_] 3)) 50 #[.int .i64 0, .slice none 0 0]
 have hk0 := (((Kp.refl (fun k => k = g) w).alloc (.cells #[.int .i64 root, .slice (some ⟨g, 0, none⟩) n c] 50)).alloc (.cells #[.int .i64 at_] 3)).alloc (.cells #[.int .i64 0, .slice none 0 0] 50)
 have hb3 : Below w.heap.size w (((w.alloc (.cells #[.int .i64 root, .slice (some ⟨g, 0, none⟩) n c] 50)).alloc (.cells #[.int .i64 at_] 3)).alloc (.cells #[.int .i64 0, .slice none 0 0] 50)) := (((Below.refl w.heap.size w).alloc (Nat.le_refl _) _).alloc (by simp) _).alloc (by simp; omega) _
 have hr0 := hr.block (hb3.block g hlt)
 rw [World.size_alloc] at hK
 rw [World.size_alloc, World.size_alloc] at hRc
 have HT := Lib.hid hT
 have HK := Lib.hid hK
 have HRc := Lib.hid hRc
 have HK0 := Lib.hid hk0
 have HR0 := Lib.hid hr0
 have HSM := Lib.hid hsm
 have HLT := Lib.hid hlt
 have kk : (((w.alloc (.cells #[.int .i64 root, .slice (some ⟨g, 0, none⟩) n c] 50)).alloc (.cells #[.int .i64 at_] 3)).alloc (.cells #[.int .i64 0, .slice none 0 0] 50)).cell? ⟨w.heap.size + 1, 0, none⟩ = some (.int .i64 at_) := by rw [hK.cell]; rfl
 have kt : (((w.alloc (.cells #[.int .i64 root, .slice (some ⟨g, 0, none⟩) n c] 50)).alloc (.cells #[.int .i64 at_] 3)).alloc (.cells #[.int .i64 0, .slice none 0 0] 50)).cell? ⟨w.heap.size, 1, none⟩ = some (.slice (some ⟨g, 0, none⟩) n c) := by rw [hT.cell]; rfl
 clear hT hK hRc hk0 hr0 hr hsm hlt
 go_enter Try.func79, Try.ntmps79
 go_wp2_with fail
 obtain ⟨w0, hw0⟩ : ∃ W, ((w.alloc (.cells #[.int .i64 root, .slice (some ⟨g, 0, none⟩) n c] 50)).alloc (.cells #[.int .i64 at_] 3)).alloc (.cells #[.int .i64 0, .slice none 0 0] 50) = W := ⟨_, rfl⟩
 rw [hw0] at HT HK HRc HK0 HR0 ⊢
 clear hw0 kk kt hb3
 refine (delete_any g n c at_ L hn ha w0 HR0.out).mono ?_
 rintro e w2 ⟨rfl, hr2, hk2⟩
 have hT2 := HT.out.kp hk2 (fun h => by have := HLT.out; omega)
 have hK2 := HK.out.kp hk2 (fun h => by have := HLT.out; omega)
 have hRc2 := HRc.out.kp hk2 (fun h => by have := HLT.out; omega)
 have hkp2 := HK0.out.trans hk2 (fun _ h => .inl h)
 obtain ⟨m, hm⟩ : ∃ m, n - 1 = m := ⟨_, rfl⟩
 have HM := Lib.hid hm
 rw [hm] at hr2 ⊢
 have hm1 : m ≤ 1000 := by omega
 have HT2 := Lib.hid hT2
 have HK2 := Lib.hid hK2
 have HRc2 := Lib.hid hRc2
 have HKP2 := Lib.hid hkp2
 have HR2 := Lib.hid hr2
 obtain ⟨L1, hL1⟩ : ∃ l, L.eraseIdx at_ = l := ⟨_, rfl⟩
 have HSM1 : Hid (∀ x ∈ L1, small x.left ∧ small x.right) := fun x hx => HSM.out x (List.mem_of_mem_eraseIdx (by rw [hL1]; exact hx))
 have HL1 := Lib.hid hL1
 rw [hL1] at HR2
 have HLL : Hid (L1.length = m) := HR2.out.1
 clear hT2 hK2 hRc2 hkp2 hk2 hr2 hm hL1 HT HK HRc HK0 HR0 hn ha
 go_wp2_with fail
 go_loopw [18] (fun v18 wr => ∃ k : Nat, k ≤ m ∧ v18 = .int .i64 k ∧ RowIs wr g m c ((L1.take k).map (moveN at_) ++ L1.drop k) ∧ Kp (fun k => k = g) w2 wr) (fun v _ => m - (intOf v).toNat)
 case atStart => exact ⟨0, Nat.zero_le _, rfl, by simpa using HR2.out, Kp.refl _ _⟩
 case round =>
  obtain ⟨k, hkm, rfl, hrow, hkp⟩ := hrel
  have hTr := HT2.out.kp hkp (fun h => by have := HLT.out; omega)
  have hKr := HK2.out.kp hkp (fun h => by have := HLT.out; omega)
  have hRcr := HRc2.out.kp hkp (fun h => by have := HLT.out; omega)
  have HKP := Lib.hid hkp
  have HTr := Lib.hid hTr
  have HKr := Lib.hid hKr
  have HRcr := Lib.hid hRcr
  have HROW := Lib.hid hrow
  by_cases hlt : k < m
  ·obtain ⟨ad, hA, hbl, n0, n1, n2⟩ := node_at hrow.reads hlt
   obtain rfl := Option.some.inj hA
   have hnd : nd ((L1.take k).map (moveN at_) ++ L1.drop k) k = nd L1 k := by
    unfold nd
    rw [List.getD_eq_getElem?_getD, List.getD_eq_getElem?_getD, List.getElem?_append_right (by simp; omega)]
    simp [HLL.out, Nat.min_eq_left (Nat.le_of_lt hlt)]
   have ead : (⟨g, 0, none⟩ : Addr).add (k * 3) = ⟨g, k * 3, none⟩ := by
    unfold Addr.add
    by_cases hj : k * 3 = 0 <;> simp [hj]
   rw [hnd] at n0 n1 n2
   rw [ead] at n0 n1 n2
   obtain ⟨x, hx⟩ : ∃ x, nd L1 k = x := ⟨_, rfl⟩
   rw [hx] at n0 n1 n2
   have hmem : x ∈ L1 := by
    have := nd_at (ns := L1) (i := k) (by rw [HLL.out]; exact hlt)
    rw [hx] at this
    exact List.mem_of_getElem? this
   have hsx := HSM1.out x hmem
   obtain ⟨kx, lx, rx⟩ := x
   have HSX := Lib.hid hsx
   have HX := Lib.hid hx
   have fg := fun i => hrow.fr i
   clear hTr hKr hRcr hrow hkp hA hbl hnd hx hsx hmem ead
   have d0 : decide ((k : Int) < m) = true := decide_eq_true (by omega)
   go_wp2_with fail
   have hN := Blk.new wr 87 #[.int .i64 kx, .int .i64 lx, .int .i64 rx]
   have hKa := HKr.out.alloc (.cells #[.int .i64 kx, .int .i64 lx, .int .i64 rx] 87)
   have hrowa := HROW.out.block (Below.heap_alloc _ (.cells #[.int .i64 kx, .int .i64 lx, .int .i64 rx] 87) _ HROW.out.lt)
   have hkpa := HKP.out.alloc (.cells #[.int .i64 kx, .int .i64 lx, .int .i64 rx] 87)
   obtain ⟨wa, hwa⟩ : ∃ W, wr.alloc (.cells #[.int .i64 kx, .int .i64 lx, .int .i64 rx] 87) = W := ⟨_, rfl⟩
   rw [hwa] at hN hKa hrowa hkpa ⊢
   have b0 : wa.cell? ⟨wr.heap.size, 0, none⟩ = some (.int .i64 kx) := by rw [hN.cell]; rfl
   have b1 : wa.cell? ⟨wr.heap.size, 1, none⟩ = some (.int .i64 lx) := by rw [hN.cell]; rfl
   have b2 : wa.cell? ⟨wr.heap.size, 2, none⟩ = some (.int .i64 rx) := by rw [hN.cell]; rfl
   have HROWa := Lib.hid hrowa
   have HKPa := Lib.hid hkpa
   have HKa : Hid (Blk wa.drew (w.heap.size + 1) 3 #[.int .i64 at_]) := hKa
   have fga := fun i => hrowa.fr i
   clear n0 n1 n2 hwa hN hKa hrowa hkpa fg
   refine wp_region_still_tail 14 (by kernel_rfl) (by kernel_rfl) ?_
   simp only [List.take_succ_cons, List.take_zero, List.drop_succ_cons, List.drop_zero]
   repeat still_step
   still_call ((shift_any _ at_ lx HSX.out.1.1 HSX.out.1.2 _ HKa.out).mono (fun _ _ ⟨h1, h2⟩ => ⟨h1, h2.symm⟩))
   repeat still_step
   still_call ((shift_any _ at_ rx HSX.out.2.1 HSX.out.2.2 _ HKa.out).mono (fun _ _ ⟨h1, h2⟩ => ⟨h1, h2.symm⟩))
   repeat still_step
   refine wpStill_nil ?_
   change wpList _ _ _ _ _ wa.drew
   have hrowb : RowIs wa.drew g m c ((L1.take k).map (moveN at_) ++ L1.drop k) := HROWa.out
   have hkpb := HKPa.out.drew
   have fgb : ∀ i, wa.drew.frozen? ⟨g, i, none⟩ = false := fga
   have cgb := fun j hj => row_cell hrowb (i := k) (j := j) hlt hj
   obtain ⟨wb, hwb⟩ : ∃ W, wa.drew = W := ⟨_, rfl⟩
   rw [hwb] at hrowb hkpb fgb cgb ⊢
   obtain ⟨c0, hc0⟩ := cgb 0 (by omega)
   obtain ⟨c1, hc1⟩ := cgb 1 (by omega)
   obtain ⟨c2, hc2⟩ := cgb 2 (by omega)
   rw [Nat.add_zero] at hc0
   have HROWb := Lib.hid hrowb
   have HKPb := Lib.hid hkpb
   clear hwb hrowb hkpb HROWa HKPa HKa fga b0 b1 b2 cgb
   go_wp2_with fail
   refine ⟨⟨k + 1, by omega, rfl, ?_, ((HKPb.out.setCell (p := ⟨g, k * 3, none⟩) (.inl rfl) _).setCell (p := ⟨g, k * 3 + 1, none⟩) (.inl rfl) _).setCell (p := ⟨g, k * 3 + 2, none⟩) (.inl rfl) _⟩, ?_⟩
   ·rw [← moved_row at_ k L1 (by rw [HLL.out]; exact hlt), HX.out]
    exact row_put HROWb.out hlt (moveN at_ ⟨kx, lx, rx⟩)
   ·simp only [intOf]
    omega
  ·have hkm2 : k = m := by omega
   subst hkm2
   have d0 : decide ((k : Int) < k) = false := decide_eq_false (Int.lt_irrefl _)
   have t0 : wr.cell? ⟨w.heap.size, 0, none⟩ = some (.int .i64 root) := by rw [hTr.cell]; rfl
   have r0 : wr.cell? ⟨w.heap.size + 1 + 1, 0, none⟩ = some (.int .i64 0) := by rw [hRcr.cell]; rfl
   have r1 : wr.cell? ⟨w.heap.size + 1 + 1, 1, none⟩ = some (.slice none 0 0) := by rw [hRcr.cell]; rfl
   have fr := fun i => hRcr.frozen i
   clear hTr hKr hRcr hrow hkp
   go_wp2_with fail
   refine (shift_any _ at_ root hroot.1 hroot.2 wr HKr.out).mono ?_
   rintro e w9 ⟨rfl, rfl⟩
   go_wp2_with fail
   have hz := (HRcr.out.set_ 0 (.int .i64 (shiftI at_ root))).set_ 1 (.slice (some ⟨g, 0, none⟩) k c)
   have hrow2 := HROW.out
   rw [List.take_of_length_le (by rw [HLL.out]; exact Nat.le_refl _), List.drop_of_length_le (by rw [HLL.out]; exact Nat.le_refl _), List.append_nil] at hrow2
   refine bodyPost_ret (results_tree1 (p := 4) (by kernel_rfl) _ _ _ _ _ rfl hz) rfl ?_
   have hgne : g ≠ w.heap.size + 1 + 1 := by have := HLT.out; omega
   refine ⟨by rw [HM.out], ?_, ?_⟩
   ·rw [HM.out, HL1.out]
    exact (hrow2.block (Below.heap_setCell wr ⟨w.heap.size + 1 + 1, 0, none⟩ _ g hgne)).block (Below.heap_setCell _ ⟨w.heap.size + 1 + 1, 1, none⟩ _ g hgne)
   ·exact ((HKP2.out.trans HKP.out (fun _ h => .inl h)).setCell (p := ⟨w.heap.size + 1 + 1, 0, none⟩) (.inr (by show w.heap.size ≤ w.heap.size + 1 + 1; omega)) _).setCell (p := ⟨w.heap.size + 1 + 1, 1, none⟩) (.inr (by show w.heap.size ≤ w.heap.size + 1 + 1; omega)) _
end Treap
end Go.Proofs.Ytjdjmhagafmkaaa

/-
 The contract of treap.Del.
-/
namespace Go.Proofs.Ytjdjmhagafmkaaa
open Go.RowKit
namespace Treap
def Smalls (s : List Nd × Int) : Prop := small s.2 ∧ ∀ x ∈ s.1, small x.left ∧ small x.right
theorem Smalls.nd {s : List Nd × Int} (h : Smalls s) {i : Nat} (hi : i < s.1.length) : small (nd s.1 i).left ∧ small (nd s.1 i).right := h.2 _ (List.mem_of_getElem? (nd_at hi))
theorem Smalls.set {s : List Nd × Int} (h : Smalls s) {l : Lk} (hl : lok s.1.length l) {x : Int} (hx : small x) : Smalls (lset s l x) := by
 cases l with
 | root => exact ⟨hx, h.2⟩
 | left i =>
  refine ⟨h.1, fun y hy => ?_⟩
  rcases List.mem_or_eq_of_mem_set hy with hy | rfl
  ·exact h.2 y hy
  ·exact ⟨hx, (h.nd hl).2⟩
 | right i =>
  refine ⟨h.1, fun y hy => ?_⟩
  rcases List.mem_or_eq_of_mem_set hy with hy | rfl
  ·exact h.2 y hy
  ·exact ⟨(h.nd hl).1, hx⟩
theorem may_smalls {ns : List Nd} {root key : Int} (h : mayB ns root key = true) : Smalls (ns, root) := by
 have h64 := right_few h
 unfold mayB rightB at h
 simp only [Bool.and_eq_true] at h
 obtain ⟨⟨_, hw, hr, _⟩, _⟩ := h
 have ho : ∀ i : Int, okLink ns.length i → small i := fun i hi => by
  unfold okLink at hi
  unfold small
  omega
 refine ⟨ho _ (inord_ok ns _ _ _ _ _ (whole_some hw)).1, fun x hx => ?_⟩
 obtain ⟨i, hi, rfl⟩ := List.getElem_of_mem hx
 have e : nd ns i = ns[i] := by have := nd_at hi; rw [List.getElem?_eq_getElem hi] at this; exact (Option.some.inj this).symm
 have := links_ok hw hr i hi
 rw [e] at this
 exact ⟨ho _ this.1, ho _ this.2⟩
set_option maxRecDepth 100000 in
set_option maxHeartbeats 4000000 in
theorem del_any (root key : Int) (ns : List Nd) (A : Option Addr) (n c : Nat) (hn : n ≤ 1000) (r : (List Nd × Int) × Int) (w : World) (hr : Reads w w.heap.size 3 A n (ns.flatMap cells)) (hf : delF ns root key = some r) :
  Calls Try.prog 46 #[.agg #[.int .i64 root, .slice A n c], .int .i64 key] w (Handed r.1 r.2 w) := by
 have hl : ns.length = n := by have := hr.1; rw [flat_len cells 3 cells_len] at this; omega
 have hT := (Blk.new w 50 #[.int .i64 root, .slice A n c]).alloc (.cells #[.int .i64 0, .slice none 0 0] 50)
 have hRc := Blk.new (w.alloc (.cells #[.int .i64 root, .slice A n c] 50)) 50 #[.int .i64 0, .slice none 0 0]
 have hb0 := ((Below.refl w.heap.size w).alloc (Nat.le_refl _) (.cells #[.int .i64 root, .slice A n c] 50)).alloc (by simp) (.cells #[.int .i64 0, .slice none 0 0] 50)
 rw [World.size_alloc] at hRc
 have HB0 := Lib.hid hb0
 have HT := Lib.hid hT
 have HRc := Lib.hid hRc
 have HR := Lib.hid hr
 have HL := Lib.hid hl
 have HF := Lib.hid hf
 have t0 : ((w.alloc (.cells #[.int .i64 root, .slice A n c] 50)).alloc (.cells #[.int .i64 0, .slice none 0 0] 50)).cell? ⟨w.heap.size, 0, none⟩ = some (.int .i64 root) := by rw [hT.cell]; rfl
 have t1 : ((w.alloc (.cells #[.int .i64 root, .slice A n c] 50)).alloc (.cells #[.int .i64 0, .slice none 0 0] 50)).cell? ⟨w.heap.size, 1, none⟩ = some (.slice A n c) := by rw [hT.cell]; rfl
 clear hT hb0 hr hl hf hRc
 go_enter Try.func46, Try.ntmps46
 go_wp2_with fail
 obtain ⟨w0, hw0⟩ : ∃ W, (w.alloc (.cells #[.int .i64 root, .slice A n c] 50)).alloc (.cells #[.int .i64 0, .slice none 0 0] 50) = W := ⟨_, rfl⟩
 rw [hw0] at HB0 HT HRc t0 t1 ⊢
 clear hw0
 refine (may_any root key ns A n c hn w0 ((HR.out.below HB0.out).more HB0.out.size)).mono ?_
 rintro e w1 ⟨rfl, hb1⟩
 have HB1 := Lib.hid (bthen HB0.out hb1)
 have hT1 := HT.out.below hb1 HT.out.lt
 have HT1 := Lib.hid hT1
 have hRc1 := HRc.out.below hb1 HRc.out.lt
 have HRc1 := Lib.hid hRc1
 have f0 := fun i => hRc1.frozen i
 have r0 : w1.cell? ⟨w.heap.size + 1, 0, none⟩ = some (.int .i64 0) := by rw [hRc1.cell]; rfl
 have r1 : w1.cell? ⟨w.heap.size + 1, 1, none⟩ = some (.slice none 0 0) := by rw [hRc1.cell]; rfl
 have T0 : w1.cell? ⟨w.heap.size, 0, none⟩ = some (.int .i64 root) := by rw [hT1.cell]; rfl
 have T1 : w1.cell? ⟨w.heap.size, 1, none⟩ = some (.slice A n c) := by rw [hT1.cell]; rfl
 clear hRc1 hT1 t0 t1
 cases hm : mayB ns root key with
 | false =>
  have hf := HF.out
  unfold delF at hf
  rw [if_pos hm] at hf
  obtain rfl := Option.some.inj hf
  clear hm hb1 hf
  go_wp2_with fail
  have hz := (HRc1.out.set_ 0 (.int .i64 0)).set_ 1 (.slice none 0 0)
  have hB2 := (HB1.out.setCell (p := ⟨w.heap.size + 1, 0, none⟩) (by show w.heap.size ≤ w.heap.size + 1; omega) (.int .i64 0)).setCell (p := ⟨w.heap.size + 1, 1, none⟩) (by show w.heap.size ≤ w.heap.size + 1; omega) (.slice none 0 0)
  refine bodyPost_ret (results_tree (p := 4) (u := 5) (by kernel_rfl) _ _ _ _ _ rfl hz) rfl ?_
  exact ⟨none, 0, rfl, World.ownsRow_nil _ _ _ _, hB2⟩
 | true =>
  have hf := HF.out
  unfold delF at hf
  rw [if_neg (by rw [hm]; simp)] at hf
  have h64 := right_few hm
  have HSM := Lib.hid (may_smalls hm)
  cases hs : seekF (goOther key) key ns root (ns.length + 1) .root with
  | none => rw [hs] at hf; cases hf
  | some q =>
   obtain ⟨l, d, xs⟩ := q
   rw [hs] at hf
   have HF2 := Lib.hid hf
   have HS := Lib.hid hs
   have HSZ1 : Hid (w.heap.size + 1 < w1.heap.size) := HRc1.out.lt
   clear hm hb1 hf hs
   go_wp2_with fail
   refine (own_any root ns A n c hn w1 ((HR.out.below HB1.out).more HB1.out.size)).mono ?_
   rintro e w2 ⟨U, A2, c2, rfl, hU0, hU, hown, hb2⟩
   have hne2 : (Value.slice A2 n c2).ownBlock ≠ some U := own_blk_ne hown hU (by decide)
   have HB2 := Lib.hid (bthen HB1.out hb2)
   have HRc2 := Lib.hid (HRc1.out.below hb2 HRc1.out.lt)
   have HU := Lib.hid hU
   have HOWN := Lib.hid hown
   have HNE2 := Lib.hid hne2
   have HU0 := Lib.hid hU0
   have HRU : Hid (w.heap.size + 1 ≠ U) := by unfold Hid; have := HRc1.out.lt; omega
   have hd2 := (Below.refl w2.heap.size w2).drew
   clear hU hown hne2 hb2 f0 r0 r1 T0 T1 hU0
   go_wp2_with fail
   refine (other_any key w2).mono ?_
   rintro e w3 ⟨rfl, hw3⟩
   have hKq := Blk.new w2 3 #[.int .i64 key]
   have hB3 := (Below.refl w2.heap.size w2).alloc (Nat.le_refl _) (.cells #[.int .i64 key] 3)
   rw [hw3] at hKq hB3
   have HKQ := Lib.hid hKq
   have HB3 := Lib.hid hB3
   clear hw3 hKq hB3 hd2
   go_wp2_with fail
   have hr3 := Reads.of_own HOWN.out
   refine (seek_any (onOther w2.heap.size key) () key root ns A2 n c2 w2.heap.size U (ns.length + 1) l d xs (by have := HL.out; omega) w3 (HU.out.below HB3.out HU.out.lt) (hr3.below HB3.out) HB3.out.size (fun h => Nat.ne_of_lt HU.out.lt h) (fun ad hA h0 h => by
    obtain ⟨ad', hA', hb, _⟩ := hr3.2 h0
    rw [hA] at hA'
    obtain rfl := Option.some.inj hA'
    exact Nat.ne_of_lt hb h) HKQ.out HS.out).mono ?_
   rintro e w4 ⟨rfl, hlk, _, hkp⟩
   have hB4 := HB3.out.trans (hkp.below_ HB3.out.size (fun k hk => Nat.le_of_eq (show w2.heap.size = k from hk.symm)))
   have hb4 := bthen HB2.out hB4
   have hRc4 := HRc2.out.below hB4 HRc2.out.lt
   have hU4 := HU.out.below hB4 HU.out.lt
   have cl := link_at hU4 (hr3.below hB4) hlk
   have HB4 := Lib.hid hb4
   have HBB := Lib.hid hB4
   have HRc4 := Lib.hid hRc4
   have HU4 := Lib.hid hU4
   have HLK := Lib.hid hlk
   have f4 := fun i => hRc4.frozen i
   have q0 : w4.cell? ⟨w.heap.size + 1, 0, none⟩ = some (.int .i64 0) := by rw [hRc4.cell]; rfl
   have q1 : w4.cell? ⟨w.heap.size + 1, 1, none⟩ = some (.slice none 0 0) := by rw [hRc4.cell]; rfl
   obtain ⟨p, hp⟩ : ∃ p, lkA U A2 l = p := ⟨_, rfl⟩
   rw [hp] at cl ⊢
   have HP := Lib.hid hp
   clear hr3 hkp hB4 hb4 hRc4 hU4 hp hlk
   by_cases h1 : lget ns root l = -1
   ·have hf := HF2.out
    simp only [h1, if_true] at hf
    obtain rfl := Option.some.inj hf
    rw [h1] at cl
    clear hf h1 HF HF2
    go_wp2_with fail
    have hz := (HRc4.out.set_ 0 (.int .i64 0)).set_ 1 (.slice none 0 0)
    have hB2 := (HB4.out.setCell (p := ⟨w.heap.size + 1, 0, none⟩) (by show w.heap.size ≤ w.heap.size + 1; omega) (.int .i64 0)).setCell (p := ⟨w.heap.size + 1, 1, none⟩) (by show w.heap.size ≤ w.heap.size + 1; omega) (.slice none 0 0)
    refine bodyPost_ret (results_tree (p := 4) (u := 5) (by kernel_rfl) _ _ _ _ _ rfl hz) rfl ?_
    exact ⟨none, 0, rfl, World.ownsRow_nil _ _ _ _, hB2⟩
   ·have hf := HF2.out
    simp only [h1, if_false] at hf
    by_cases h2 : lget ns root l < 0 ∨ (ns.length : Int) ≤ lget ns root l
    ·rw [if_pos h2] at hf; cases hf
    ·rw [if_neg h2] at hf
     obtain ⟨i, hi⟩ : ∃ i : Nat, lget ns root l = i := ⟨(lget ns root l).toNat, by omega⟩
     rw [hi] at h1 h2 cl hf
     rw [Int.toNat_natCast] at hf
     have hin : i < n := by have := HL.out; omega
     have d1 : ((i : Int) == -1) = false := beq_eq_false_iff_ne.2 h1
     cases hmg : mergeF (2 * ns.length + 2) (ns, root) l (nd ns i).left (nd ns i).right with
     | none => rw [hmg] at hf; cases hf
     | some s =>
      rw [hmg] at hf
      obtain rfl := Option.some.inj hf
      have HMG := Lib.hid hmg
      obtain ⟨ad, rfl⟩ : ∃ ad, A2 = some ad := by
       obtain ⟨ad, hA, _⟩ := (Reads.of_own HOWN.out).2 (by omega)
       exact ⟨ad, hA⟩
      obtain ⟨e1, e2, e3⟩ := RowIs.of_own HL.out HOWN.out
      have hne : ad.block ≠ U := fun e => HNE2.out (by rw [e3, ← e]; rfl)
      have htr : TR w4 w1.heap.size U ad n c2 root ns := TR.keep ⟨HU.out, e1, e3, hne, HU0.out, e2⟩ (HBB.out.block U HU.out.lt) (HBB.out.block ad.block e1.lt)
      obtain ⟨ad', hA', hbl, n0, n1, n2⟩ := node_at htr.reads hin
      obtain rfl := Option.some.inj hA'
      have u1 : w4.cell? ⟨U, 1, none⟩ = some (.slice (some ad) n c2) := by rw [htr.box.cell]; rfl
      have HTR := Lib.hid htr
      have HRA : Hid (w.heap.size + 1 ≠ ad.block) := by unfold Hid; have := HTR.out.loA; have := HSZ1.out; omega
      have hsx := (HSM.out : Smalls (ns, root)).nd (i := i) (by have := HL.out; show i < ns.length; omega)
      have HSX := Lib.hid hsx
      clear hf h1 h2 hi hmg e1 e2 e3 hne htr hA' hbl hsx HF HF2 h64
      go_wp2_with fail
      go_quiet (fail)
      obtain ⟨w5, hw5⟩ : ∃ W, w4.drewN nq = W := ⟨_, rfl⟩
      have htr5 := HTR.out.drewN nq
      have hRc5 := HRc4.out.drewN nq
      have hb5 := below_drewN HB4.out nq
      rw [hw5] at htr5 hRc5 hb5 ⊢
      have HTR5 := Lib.hid htr5
      have HRc5 := Lib.hid hRc5
      have HB5 := Lib.hid hb5
      clear htr5 hRc5 hb5 hw5 n0 n1 n2 u1 f4 q0 q1 cl
      go_wp2_with fail
      go_loopg [7, 10, 11] (2 * ns.length + 2) (fun k v7 v10 v11 wr => ∃ (s' : List Nd × Int) (l' : Lk) (a b : Int), v7 = .pointer (some (lkA U (some ad) l')) ∧ v10 = .int .i64 a ∧ v11 = .int .i64 b ∧ mergeF k s' l' a b = some s ∧ lok n l' ∧ small a ∧ small b ∧ Smalls s' ∧ TR wr w1.heap.size U ad n c2 s'.2 s'.1 ∧ Kp (fun k => k = U ∨ k = ad.block) w5 wr)
      case atStart => exact ⟨(ns, root), l, _, _, by rw [HP.out], rfl, rfl, HMG.out, HLK.out, HSX.out.1, HSX.out.2, HSM.out, HTR5.out, Kp.refl _ _⟩
      case round =>
       obtain ⟨s', l', a, b, rfl, rfl, rfl, hmg, hl', hsa, hsb, hss, htr, hkp⟩ := hrel
       obtain ⟨k, rfl⟩ : ∃ q, gk = q + 1 := ⟨gk - 1, by cases gk with | zero => cases hmg | succ g => rfl⟩
       unfold mergeF at hmg
       have hRcr := HRc5.out.kp hkp (fun h => by rcases h with h | h; exact HRU.out h; exact HRA.out h)
       have hbr := HB5.out.trans (hkp.below_ HB5.out.size (fun k hk => by
        have := HB1.out.size
        have := HTR5.out.loU
        have := HTR5.out.loA
        rcases hk with rfl | rfl <;> omega))
       have hlr := htr.len
       have HL' := Lib.hid hl'
       have HTRr := Lib.hid htr
       have HKP := Lib.hid hkp
       have HRcr := Lib.hid hRcr
       have HBr := Lib.hid hbr
       have HSA := Lib.hid hsa
       have HSB := Lib.hid hsb
       have HSS := Lib.hid hss
       have HLR := Lib.hid hlr
       have ur : wr.cell? ⟨U, 1, none⟩ = some (.slice (some ad) n c2) := by rw [htr.box.cell]; rfl
       have cl' := htr.link hl'
       have fl' := htr.frozen l'
       obtain ⟨pl, hpl⟩ : ∃ p, lkA U (some ad) l' = p := ⟨_, rfl⟩
       rw [hpl] at cl' fl' ⊢
       have HPL := Lib.hid hpl
       clear hl' htr hkp hRcr hbr hpl hsa hsb hss hlr
       by_cases h1 : a = -1 ∨ b = -1
       ·rw [if_pos h1] at hmg
        obtain rfl := Option.some.inj hmg
        have htr2 := HTRr.out.set HL'.out (max a b)
        rw [HPL.out] at htr2
        have hpb : w1.heap.size ≤ pl.block := by have := HTRr.out.lo l'; rwa [HPL.out] at this
        have hb2 := HBr.out.setCell (p := pl) (Nat.le_trans HB1.out.size hpb) (.int .i64 (max a b))
        have hRc2 := HRcr.out.far (p := pl) (fun e => by have := HSZ1.out; omega) (.int .i64 (max a b))
        have hfin : Smalls (lset s' l' (max a b)) := HSS.out.set (by rw [HLR.out]; exact HL'.out) (by have := HSA.out.1; have := HSA.out.2; have := HSB.out.1; have := HSB.out.2; unfold small; omega)
        have HFIN := Lib.hid hfin
        have HTR2 := Lib.hid htr2
        have HB2x := Lib.hid hb2
        have HRc2x := Lib.hid hRc2
        have HIN := Lib.hid hin
        clear hmg htr2 hpb hb2 hRc2 hfin hin
        by_cases ha : a = -1
        ·subst ha
         by_cases hb : b = -1
         ·subst hb
          have hmx : max (-1 : Int) (-1) = -1 := by omega
          rw [hmx] at HTR2 HB2x HRc2x HFIN
          have HMX := Lib.hid hmx
          have x0 : (wr.setCell pl (.int .i64 (-1))).cell? ⟨U, 0, none⟩ = some (.int .i64 (lset s' l' (-1)).2) := by rw [HTR2.out.box.cell]; rfl
          have x1 : (wr.setCell pl (.int .i64 (-1))).cell? ⟨U, 1, none⟩ = some (.slice (some ad) n c2) := by rw [HTR2.out.box.cell]; rfl
          have y0 : (wr.setCell pl (.int .i64 (-1))).cell? ⟨w.heap.size + 1, 0, none⟩ = some (.int .i64 0) := by rw [HRc2x.out.cell]; rfl
          have y1 : (wr.setCell pl (.int .i64 (-1))).cell? ⟨w.heap.size + 1, 1, none⟩ = some (.slice none 0 0) := by rw [HRc2x.out.cell]; rfl
          have yf := fun i => HRc2x.out.frozen i
          have hin2 : i < n := by have := HIN.out; omega
          clear h1 hmx
          go_wp2_with fail
          have H := without_any ad.block n c2 i (lset s' l' (-1)).1 (lset s' l' (-1)).2 hn hin2 (wr.setCell pl (.int .i64 (-1))) HTR2.out.row HFIN.out.1 HFIN.out.2
          rw [← HTR2.out.zero] at H
          refine H.mono ?_
          clear H
          rintro e w7 ⟨rfl, hrow7, hk7⟩
          have hRc7 := HRc2x.out.kp hk7 (fun h => HRA.out h)
          have hb7 := HB2x.out.trans (hk7.below_ HB2x.out.size (fun k hk => by
           have := HB1.out.size
           have := HTR5.out.loA
           rw [hk]
           omega))
          have HRc7 := Lib.hid hRc7
          have HB7 := Lib.hid hb7
          have HROW7 := Lib.hid hrow7
          have HLO := HTR2.out.loA
          have hlenE : (lset s' l' (-1)).1.length = n := HTR2.out.len
          have z0 : w7.cell? ⟨w.heap.size + 1, 0, none⟩ = some (.int .i64 0) := by rw [hRc7.cell]; rfl
          have z1 : w7.cell? ⟨w.heap.size + 1, 1, none⟩ = some (.slice none 0 0) := by rw [hRc7.cell]; rfl
          have zf := fun i => hRc7.frozen i
          have HLE := Lib.hid hlenE
          have HLOA := Lib.hid HLO
          clear hrow7 hk7 hRc7 hb7 x0 x1 y0 y1 yf hlenE HLO cl' fl' ur
          go_wp2_with fail
          have hz := (HRc7.out.set_ 0 (.int .i64 (shiftI i (lset s' l' (-1)).2))).set_ 1 (.slice (some ⟨ad.block, 0, none⟩) (n - 1) c2)
          refine bodyPost_ret (results_tree (p := 4) (u := 5) (by kernel_rfl) _ _ _ _ _ rfl hz) rfl ?_
          have hwl : (withoutL (lset s' l' (-1)) i).1.length = n - 1 := by
           unfold withoutL
           rw [List.length_map, List.length_eraseIdx, if_pos (by rw [HLE.out]; exact hin2), HLE.out]
          have hgne : ad.block ≠ w.heap.size + 1 := fun e => HRA.out e.symm
          have hrow8 := (HROW7.out.block (Below.heap_setCell w7 ⟨w.heap.size + 1, 0, none⟩ (.int .i64 (shiftI i (lset s' l' (-1)).2)) ad.block hgne)).block (Below.heap_setCell _ ⟨w.heap.size + 1, 1, none⟩ (.slice (some ⟨ad.block, 0, none⟩) (n - 1) c2) ad.block hgne)
          rw [HMX.out]
          refine ⟨some ad, c2, ?_, ?_, ?_⟩
          ·rw [hwl, ← HTR2.out.zero]; rfl
          ·rw [hwl]
           exact RowIs.own hrow8 (Nat.le_trans HB1.out.size HLOA.out) HTR2.out.zero
          ·exact (HB7.out.setCell (p := ⟨w.heap.size + 1, 0, none⟩) (by show w.heap.size ≤ w.heap.size + 1; omega) _).setCell (p := ⟨w.heap.size + 1, 1, none⟩) (by show w.heap.size ≤ w.heap.size + 1; omega) _
         ·have hgt : b > -1 := by have := HSB.out.1; omega
          have hmx : max (-1) b = b := by omega
          clear hb
          rw [hmx] at HTR2 HB2x HRc2x HFIN
          have HMX := Lib.hid hmx
          have x0 : (wr.setCell pl (.int .i64 b)).cell? ⟨U, 0, none⟩ = some (.int .i64 (lset s' l' b).2) := by rw [HTR2.out.box.cell]; rfl
          have x1 : (wr.setCell pl (.int .i64 b)).cell? ⟨U, 1, none⟩ = some (.slice (some ad) n c2) := by rw [HTR2.out.box.cell]; rfl
          have y0 : (wr.setCell pl (.int .i64 b)).cell? ⟨w.heap.size + 1, 0, none⟩ = some (.int .i64 0) := by rw [HRc2x.out.cell]; rfl
          have y1 : (wr.setCell pl (.int .i64 b)).cell? ⟨w.heap.size + 1, 1, none⟩ = some (.slice none 0 0) := by rw [HRc2x.out.cell]; rfl
          have yf := fun i => HRc2x.out.frozen i
          have hin2 : i < n := by have := HIN.out; omega
          clear h1 hmx
          go_wp2_with fail
          have H := without_any ad.block n c2 i (lset s' l' b).1 (lset s' l' b).2 hn hin2 (wr.setCell pl (.int .i64 b)) HTR2.out.row HFIN.out.1 HFIN.out.2
          rw [← HTR2.out.zero] at H
          refine H.mono ?_
          clear H
          rintro e w7 ⟨rfl, hrow7, hk7⟩
          have hRc7 := HRc2x.out.kp hk7 (fun h => HRA.out h)
          have hb7 := HB2x.out.trans (hk7.below_ HB2x.out.size (fun k hk => by
           have := HB1.out.size
           have := HTR5.out.loA
           rw [hk]
           omega))
          have HRc7 := Lib.hid hRc7
          have HB7 := Lib.hid hb7
          have HROW7 := Lib.hid hrow7
          have HLO := HTR2.out.loA
          have hlenE : (lset s' l' b).1.length = n := HTR2.out.len
          have z0 : w7.cell? ⟨w.heap.size + 1, 0, none⟩ = some (.int .i64 0) := by rw [hRc7.cell]; rfl
          have z1 : w7.cell? ⟨w.heap.size + 1, 1, none⟩ = some (.slice none 0 0) := by rw [hRc7.cell]; rfl
          have zf := fun i => hRc7.frozen i
          have HLE := Lib.hid hlenE
          have HLOA := Lib.hid HLO
          clear hrow7 hk7 hRc7 hb7 x0 x1 y0 y1 yf hlenE HLO cl' fl' ur
          go_wp2_with fail
          have hz := (HRc7.out.set_ 0 (.int .i64 (shiftI i (lset s' l' b).2))).set_ 1 (.slice (some ⟨ad.block, 0, none⟩) (n - 1) c2)
          refine bodyPost_ret (results_tree (p := 4) (u := 5) (by kernel_rfl) _ _ _ _ _ rfl hz) rfl ?_
          have hwl : (withoutL (lset s' l' b) i).1.length = n - 1 := by
           unfold withoutL
           rw [List.length_map, List.length_eraseIdx, if_pos (by rw [HLE.out]; exact hin2), HLE.out]
          have hgne : ad.block ≠ w.heap.size + 1 := fun e => HRA.out e.symm
          have hrow8 := (HROW7.out.block (Below.heap_setCell w7 ⟨w.heap.size + 1, 0, none⟩ (.int .i64 (shiftI i (lset s' l' b).2)) ad.block hgne)).block (Below.heap_setCell _ ⟨w.heap.size + 1, 1, none⟩ (.slice (some ⟨ad.block, 0, none⟩) (n - 1) c2) ad.block hgne)
          rw [HMX.out]
          refine ⟨some ad, c2, ?_, ?_, ?_⟩
          ·rw [hwl, ← HTR2.out.zero]; rfl
          ·rw [hwl]
           exact RowIs.own hrow8 (Nat.le_trans HB1.out.size HLOA.out) HTR2.out.zero
          ·exact (HB7.out.setCell (p := ⟨w.heap.size + 1, 0, none⟩) (by show w.heap.size ≤ w.heap.size + 1; omega) _).setCell (p := ⟨w.heap.size + 1, 1, none⟩) (by show w.heap.size ≤ w.heap.size + 1; omega) _
        ·obtain rfl : b = -1 := by omega
         have hgt : ¬ (-1 > a) := by have := HSA.out.1; omega
         have dA : (a != -1) = true := bne_iff_ne.2 ha
         have hmx : max a (-1) = a := by omega
         clear ha
         rw [hmx] at HTR2 HB2x HRc2x HFIN
         have HMX := Lib.hid hmx
         have x0 : (wr.setCell pl (.int .i64 a)).cell? ⟨U, 0, none⟩ = some (.int .i64 (lset s' l' a).2) := by rw [HTR2.out.box.cell]; rfl
         have x1 : (wr.setCell pl (.int .i64 a)).cell? ⟨U, 1, none⟩ = some (.slice (some ad) n c2) := by rw [HTR2.out.box.cell]; rfl
         have y0 : (wr.setCell pl (.int .i64 a)).cell? ⟨w.heap.size + 1, 0, none⟩ = some (.int .i64 0) := by rw [HRc2x.out.cell]; rfl
         have y1 : (wr.setCell pl (.int .i64 a)).cell? ⟨w.heap.size + 1, 1, none⟩ = some (.slice none 0 0) := by rw [HRc2x.out.cell]; rfl
         have yf := fun i => HRc2x.out.frozen i
         have hin2 : i < n := by have := HIN.out; omega
         clear h1 hmx
         go_wp2_with fail
         have H := without_any ad.block n c2 i (lset s' l' a).1 (lset s' l' a).2 hn hin2 (wr.setCell pl (.int .i64 a)) HTR2.out.row HFIN.out.1 HFIN.out.2
         rw [← HTR2.out.zero] at H
         refine H.mono ?_
         clear H
         rintro e w7 ⟨rfl, hrow7, hk7⟩
         have hRc7 := HRc2x.out.kp hk7 (fun h => HRA.out h)
         have hb7 := HB2x.out.trans (hk7.below_ HB2x.out.size (fun k hk => by
          have := HB1.out.size
          have := HTR5.out.loA
          rw [hk]
          omega))
         have HRc7 := Lib.hid hRc7
         have HB7 := Lib.hid hb7
         have HROW7 := Lib.hid hrow7
         have HLO := HTR2.out.loA
         have hlenE : (lset s' l' a).1.length = n := HTR2.out.len
         have z0 : w7.cell? ⟨w.heap.size + 1, 0, none⟩ = some (.int .i64 0) := by rw [hRc7.cell]; rfl
         have z1 : w7.cell? ⟨w.heap.size + 1, 1, none⟩ = some (.slice none 0 0) := by rw [hRc7.cell]; rfl
         have zf := fun i => hRc7.frozen i
         have HLE := Lib.hid hlenE
         have HLOA := Lib.hid HLO
         clear hrow7 hk7 hRc7 hb7 x0 x1 y0 y1 yf hlenE HLO cl' fl' ur
         go_wp2_with fail
         have hz := (HRc7.out.set_ 0 (.int .i64 (shiftI i (lset s' l' a).2))).set_ 1 (.slice (some ⟨ad.block, 0, none⟩) (n - 1) c2)
         refine bodyPost_ret (results_tree (p := 4) (u := 5) (by kernel_rfl) _ _ _ _ _ rfl hz) rfl ?_
         have hwl : (withoutL (lset s' l' a) i).1.length = n - 1 := by
          unfold withoutL
          rw [List.length_map, List.length_eraseIdx, if_pos (by rw [HLE.out]; exact hin2), HLE.out]
         have hgne : ad.block ≠ w.heap.size + 1 := fun e => HRA.out e.symm
         have hrow8 := (HROW7.out.block (Below.heap_setCell w7 ⟨w.heap.size + 1, 0, none⟩ (.int .i64 (shiftI i (lset s' l' a).2)) ad.block hgne)).block (Below.heap_setCell _ ⟨w.heap.size + 1, 1, none⟩ (.slice (some ⟨ad.block, 0, none⟩) (n - 1) c2) ad.block hgne)
         rw [HMX.out]
         refine ⟨some ad, c2, ?_, ?_, ?_⟩
         ·rw [hwl, ← HTR2.out.zero]; rfl
         ·rw [hwl]
          exact RowIs.own hrow8 (Nat.le_trans HB1.out.size HLOA.out) HTR2.out.zero
         ·exact (HB7.out.setCell (p := ⟨w.heap.size + 1, 0, none⟩) (by show w.heap.size ≤ w.heap.size + 1; omega) _).setCell (p := ⟨w.heap.size + 1, 1, none⟩) (by show w.heap.size ≤ w.heap.size + 1; omega) _
       ·rw [if_neg h1] at hmg
        by_cases h2 : (a < 0 ∨ (s'.1.length : Int) ≤ a) ∨ (b < 0 ∨ (s'.1.length : Int) ≤ b)
        ·rw [if_pos h2] at hmg; cases hmg
        ·rw [if_neg h2] at hmg
         obtain ⟨x, rfl⟩ : ∃ x : Nat, a = x := ⟨a.toNat, by omega⟩
         obtain ⟨y, rfl⟩ : ∃ y : Nat, b = y := ⟨b.toNat, by omega⟩
         rw [Int.toNat_natCast, Int.toNat_natCast] at hmg
         have hxn : x < n := by have := HLR.out; omega
         have hyn : y < n := by have := HLR.out; omega
         have dA : ((x : Int) != -1) = true := bne_iff_ne.2 (by omega)
         have dB : ((y : Int) != -1) = true := bne_iff_ne.2 (by omega)
         obtain ⟨ad', hA', hbl, n0, _, _⟩ := node_at HTRr.out.reads hxn
         obtain rfl := Option.some.inj hA'
         obtain ⟨ad', hA2, hbl2, m0, _, _⟩ := node_at HTRr.out.reads hyn
         obtain rfl := Option.some.inj hA2
         obtain ⟨kx, hkx⟩ : ∃ q, (nd s'.1 x).key = q := ⟨_, rfl⟩
         obtain ⟨ky, hky⟩ : ∃ q, (nd s'.1 y).key = q := ⟨_, rfl⟩
         rw [hkx] at n0 hmg
         rw [hky] at m0 hmg
         have HPB : Hid (pl.block = U ∨ pl.block = ad.block) := by
          have := lkA_block (U := U) (ad := ad) l'
          rw [HPL.out] at this
          exact this
         clear h1 h2 hA' hA2 hbl hbl2 hkx hky
         by_cases hk : priOf ky < priOf kx
         ·rw [if_pos hk] at hmg
          have dk : decide (priOf ky < priOf kx) = true := decide_eq_true hk
          have HMG2 := Lib.hid hmg
          have htr2 : ∀ q, TR ((wr.drewN q).setCell pl (.int .i64 x)) w1.heap.size U ad n c2 (lset s' l' x).2 (lset s' l' x).1 := fun q => by
           have := (HTRr.out.drewN q).set HL'.out (x : Int)
           rwa [HPL.out] at this
          have HTR2 := Lib.hid htr2
          have hkp2 : ∀ q, Kp (fun k => k = U ∨ k = ad.block) w5 ((wr.drewN q).setCell pl (.int .i64 x)) := fun q => (HKP.out.more (below_drewN (Below.refl wr.heap.size wr) q)).setCell (p := pl) (.inl HPB.out) _
          have HKP2 := Lib.hid hkp2
          clear hk hmg htr2 hkp2
          go_wp2_with fail
          go_quiet ((go_at_call 32; refine Calls.quiet_of ((pri_any _ _).mono fun _ _ ⟨he, hw⟩ => ⟨he, 0, hw.symm⟩)))
          have htr3 := HTR2.out nq
          have hkp3 := HKP2.out nq
          have cR : ((wr.drewN nq).setCell pl (.int .i64 x)).cell? ⟨(ad.add (x * 3)).block, (ad.add (x * 3)).off + 2, none⟩ = some (.int .i64 (nd (lset s' l' x).1 x).right) := htr3.link (l := .right x) hxn
          have u3 : ((wr.drewN nq).setCell pl (.int .i64 x)).cell? ⟨U, 1, none⟩ = some (.slice (some ad) n c2) := by rw [htr3.box.cell]; rfl
          obtain ⟨wq, hwq⟩ : ∃ W, wr.drewN nq = W := ⟨_, rfl⟩
          have clq : (wr.drewN nq).cell? pl = some (.int .i64 (lget s'.1 s'.2 l')) := cl'
          have flq : (wr.drewN nq).frozen? pl = false := fl'
          rw [hwq] at cR u3 htr3 hkp3 clq flq ⊢
          have HTR3 := Lib.hid htr3
          have HKP3 := Lib.hid hkp3
          clear htr3 hkp3 hwq
          go_wp2_with fail
          go_roundg k
          case measure => omega
          case rel =>
           have hsc : small (x : Int) := by exact HSA.out
           have hS3 := HSS.out.set (by rw [HLR.out]; exact HL'.out) hsc
           refine ⟨lset s' l' x, .right x, _, _, rfl, rfl, rfl, HMG2.out, hxn, ?_, ?_, hS3, HTR3.out, HKP3.out⟩
           ·exact (hS3.nd (i := x) (by rw [lset_len, HLR.out]; exact hxn)).2
           ·exact HSB.out
         ·rw [if_neg hk] at hmg
          have dk : decide (priOf ky < priOf kx) = false := decide_eq_false hk
          have HMG2 := Lib.hid hmg
          have htr2 : ∀ q, TR ((wr.drewN q).setCell pl (.int .i64 y)) w1.heap.size U ad n c2 (lset s' l' y).2 (lset s' l' y).1 := fun q => by
           have := (HTRr.out.drewN q).set HL'.out (y : Int)
           rwa [HPL.out] at this
          have HTR2 := Lib.hid htr2
          have hkp2 : ∀ q, Kp (fun k => k = U ∨ k = ad.block) w5 ((wr.drewN q).setCell pl (.int .i64 y)) := fun q => (HKP.out.more (below_drewN (Below.refl wr.heap.size wr) q)).setCell (p := pl) (.inl HPB.out) _
          have HKP2 := Lib.hid hkp2
          clear hk hmg htr2 hkp2
          go_wp2_with fail
          go_quiet ((go_at_call 32; refine Calls.quiet_of ((pri_any _ _).mono fun _ _ ⟨he, hw⟩ => ⟨he, 0, hw.symm⟩)))
          have htr3 := HTR2.out nq
          have hkp3 := HKP2.out nq
          have cR : ((wr.drewN nq).setCell pl (.int .i64 y)).cell? ⟨(ad.add (y * 3)).block, (ad.add (y * 3)).off + 1, none⟩ = some (.int .i64 (nd (lset s' l' y).1 y).left) := htr3.link (l := .left y) hyn
          have u3 : ((wr.drewN nq).setCell pl (.int .i64 y)).cell? ⟨U, 1, none⟩ = some (.slice (some ad) n c2) := by rw [htr3.box.cell]; rfl
          obtain ⟨wq, hwq⟩ : ∃ W, wr.drewN nq = W := ⟨_, rfl⟩
          have clq : (wr.drewN nq).cell? pl = some (.int .i64 (lget s'.1 s'.2 l')) := cl'
          have flq : (wr.drewN nq).frozen? pl = false := fl'
          rw [hwq] at cR u3 htr3 hkp3 clq flq ⊢
          have HTR3 := Lib.hid htr3
          have HKP3 := Lib.hid hkp3
          clear htr3 hkp3 hwq
          go_wp2_with fail
          go_roundg k
          case measure => omega
          case rel =>
           have hsc : small (y : Int) := by exact HSB.out
           have hS3 := HSS.out.set (by rw [HLR.out]; exact HL'.out) hsc
           refine ⟨lset s' l' y, .left y, _, _, rfl, rfl, rfl, HMG2.out, hyn, ?_, ?_, hS3, HTR3.out, HKP3.out⟩
           ·exact HSA.out
           ·exact (hS3.nd (i := y) (by rw [lset_len, HLR.out]; exact hyn)).1
end Treap
end Go.Proofs.Ytjdjmhagafmkaaa

/-
 The contracts of treap's functions, in the form that the printed texts lean on.
-/
namespace Go.Proofs.Ytjdjmhagafmkaaa.PX
open Go.RowKit Go.Proofs.YtjdjmhagafmkaaaW.PrintWords Go.Proofs.YtjdjmhagafmkaaaW.PrintLast Go.Proofs.YtjdjmhagafmkaaaW.PrintMore

def toNd (x : S87) : Treap.Nd := ⟨x.f0, x.f1, x.f2⟩
def ofNd (x : Treap.Nd) : S87 := ⟨x.key, x.left, x.right⟩
theorem to_of (x : Treap.Nd) : toNd (ofNd x) = x := rfl
theorem of_to (x : S87) : ofNd (toNd x) = x := rfl
theorem flat_toNd (l : List S87) : (l.map toNd).flatMap Treap.cells = l.flatMap (fun x => Treap.cells (toNd x)) := by
 induction l with
 | nil => rfl
 | cons x l ih => simp [ih]
theorem map_to_of (l : List Treap.Nd) : (l.map ofNd).map toNd = l := by
 rw [List.map_map]
 induction l with
 | nil => rfl
 | cons x l ih => rw [List.map_cons, ih]; rfl
theorem map_of_to (l : List S87) : (l.map toNd).map ofNd = l := by
 rw [List.map_map]
 induction l with
 | nil => rfl
 | cons x l ih => rw [List.map_cons, ih]; rfl
theorem flat_ofNd (l : List Treap.Nd) : (l.map ofNd).flatMap (fun x => Treap.cells (toNd x)) = l.flatMap Treap.cells := by rw [← flat_toNd, map_to_of]
theorem reads_Nd {w : World} {A : Option Addr} {n : Nat} {l : List S87} (h : Kd.C k87 w A n l) : Reads w w.heap.size 3 A n ((l.map toNd).flatMap Treap.cells) := by
 rw [flat_toNd]
 exact reads_of_rows (R := k87.K w) (fun x => Treap.cells (toNd x)) (fun _ => rfl) (by decide) (fun _ _ h => k87_open h) h
theorem kd_Nd {w : World} {base : Nat} {v : Value} {l : List Treap.Nd} (h : w.ownsRow base 87 3 v l.length (l.flatMap Treap.cells)) : Kd.R k87 87 w base (fun _ => True) v (l.map ofNd) := by
 have h2 : w.ownsRow base 87 k87.sz v l.length ((l.map ofNd).flatMap (fun x => Treap.cells (toNd x))) := by rw [flat_ofNd]; exact h
 exact kd_own (d := k87) (fun x => Treap.cells (toNd x)) (fun _ => rfl) (fun _ _ => k87_mkM _ _ _ _) h2 (by simp)

theorem flat_ints (l : List Int) : l.flatMap (fun x => [Value.int .i64 x]) = l.map (Value.int .i64) := by
 induction l with
 | nil => rfl
 | cons x l ih => rw [List.flatMap_cons, ih]; rfl

def treap_Right.f (a0 : Int) (l1 : List S87) : Option Bool := if l1.length ≤ 1000 then some (Treap.rightB (l1.map toNd) a0) else none
theorem treap_Right.calls (a0 : Int) (A1 : Option Addr) (c1 : Nat) (l1 : List S87) (r : Bool) (w : World) (hr1 : Kd.C k87 w A1 l1.length l1) (_hc1 : l1.length ≤ c1) (h : treap_Right.f a0 l1 = some r) :
  Calls Try.prog 39 #[.agg #[.int .i64 a0, .slice A1 l1.length c1]] w fun e w' => e = .returned (.bool r) ∧ Below w.heap.size w w' := by
 unfold treap_Right.f at h
 split at h
 ·rename_i hn
  obtain rfl := Option.some.inj h
  exact Treap.right_any a0 (l1.map toNd) A1 l1.length c1 hn w (reads_Nd hr1)
 ·cases h

def treap_Find.f (a0 : Int) (l1 : List S87) (a2 : Int) : Option (Int × Int) := if l1.length ≤ 1000 then Treap.findF (l1.map toNd) a0 a2 else none
theorem treap_Find.calls (a0 : Int) (A1 : Option Addr) (c1 : Nat) (l1 : List S87) (a2 : Int) (r1 r2 : Int) (w : World) (hr1 : Kd.C k87 w A1 l1.length l1) (_hc1 : l1.length ≤ c1) (h : treap_Find.f a0 l1 a2 = some (r1, r2)) :
  Calls Try.prog 34 #[.agg #[.int .i64 a0, .slice A1 l1.length c1], .int .i64 a2] w fun e w' => e = .returned (.tuple #[.int .i64 r1, .int .i64 r2]) ∧ Below w.heap.size w w' := by
 unfold treap_Find.f at h
 split at h
 ·rename_i hn
  exact Treap.find_any a0 a2 (l1.map toNd) A1 l1.length c1 hn (r1, r2) w (reads_Nd hr1) h
 ·cases h

def treap_Next.f (a0 : Int) (l1 : List S87) (a2 : Int) : Option (Int × Int) := if l1.length ≤ 1000 then Treap.nextF (l1.map toNd) a0 a2 else none
theorem treap_Next.calls (a0 : Int) (A1 : Option Addr) (c1 : Nat) (l1 : List S87) (a2 : Int) (r1 r2 : Int) (w : World) (hr1 : Kd.C k87 w A1 l1.length l1) (_hc1 : l1.length ≤ c1) (h : treap_Next.f a0 l1 a2 = some (r1, r2)) :
  Calls Try.prog 31 #[.agg #[.int .i64 a0, .slice A1 l1.length c1], .int .i64 a2] w fun e w' => e = .returned (.tuple #[.int .i64 r1, .int .i64 r2]) ∧ Below w.heap.size w w' := by
 unfold treap_Next.f at h
 split at h
 ·rename_i hn
  exact Treap.next_any a0 a2 (l1.map toNd) A1 l1.length c1 hn (r1, r2) w (reads_Nd hr1) h
 ·cases h

def treap_Keys.f (a0 : Int) (l1 : List S87) : Option (List Int × Int) := if l1.length ≤ 1000 then some (Treap.keysF (l1.map toNd) a0) else none
theorem treap_Keys.calls (a0 : Int) (A1 : Option Addr) (c1 : Nat) (l1 : List S87) (r1 : List Int) (r2 : Int) (w : World) (hr1 : Kd.C k87 w A1 l1.length l1) (_hc1 : l1.length ≤ c1) (h : treap_Keys.f a0 l1 = some (r1, r2)) :
  Calls Try.prog 35 #[.agg #[.int .i64 a0, .slice A1 l1.length c1]] w fun e w' => ∃ v1_ : Value, e = .returned (.tuple #[v1_, .int .i64 r2]) ∧ Kd.R (Kd.int .i64) 3 w' w.heap.size (fun _ => True) v1_ r1 ∧ Below w.heap.size w w' := by
 unfold treap_Keys.f at h
 split at h
 ·rename_i hn
  have e2 : Treap.keysF (l1.map toNd) a0 = (r1, r2) := Option.some.inj h
  refine (Treap.keys_any a0 (l1.map toNd) A1 l1.length c1 hn w (reads_Nd hr1)).mono ?_
  rintro e w' ⟨v, rfl, hown, hb⟩
  rw [e2] at hown ⊢
  refine ⟨v, rfl, ?_, hb⟩
  have h2 : w'.ownsRow w.heap.size 3 (Kd.int .i64).sz v r1.length (r1.flatMap (fun x => [Value.int .i64 x])) := by
   rw [flat_ints]
   exact hown
  exact kd_own (d := Kd.int .i64) (fun x => [Value.int .i64 x]) (fun _ => rfl) (fun _ _ => rfl) h2 rfl
 ·cases h

def treap_Put.f (a0 : Int) (l1 : List S87) (a2 : Int) : Option (Int × List S87 × Int) := if l1.length ≤ 1000 then (Treap.putF (l1.map toNd) a0 a2).map (fun r => (r.1.2, r.1.1.map ofNd, r.2)) else none
theorem treap_Put.calls (a0 : Int) (A1 : Option Addr) (c1 : Nat) (l1 : List S87) (a2 : Int) (r1 : Int) (r2 : List S87) (r3 : Int) (w : World) (hr1 : Kd.C k87 w A1 l1.length l1) (_hc1 : l1.length ≤ c1) (h : treap_Put.f a0 l1 a2 = some (r1, r2, r3)) :
  Calls Try.prog 45 #[.agg #[.int .i64 a0, .slice A1 l1.length c1], .int .i64 a2] w fun e w' => ∃ v2_ : Value, e = .returned (.tuple #[.agg #[.int .i64 r1, v2_], .int .i64 r3]) ∧ Kd.R k87 87 w' w.heap.size (fun _ => True) v2_ r2 ∧ Below w.heap.size w w' := by
 unfold treap_Put.f at h
 split at h
 ·rename_i hn
  cases hp : Treap.putF (l1.map toNd) a0 a2 with
  | none => rw [hp] at h; cases h
  | some r =>
   rw [hp] at h
   have e : (r.1.2, r.1.1.map ofNd, r.2) = (r1, r2, r3) := Option.some.inj h
   obtain ⟨e1, e2⟩ := Prod.mk.inj e
   obtain ⟨e3, e4⟩ := Prod.mk.inj e2
   subst e1 e3 e4
   refine (Treap.put_any a0 a2 (l1.map toNd) A1 l1.length c1 hn r w (reads_Nd hr1) hp).mono ?_
   rintro e w' ⟨A', c', rfl, hown, hb⟩
   exact ⟨_, rfl, kd_Nd hown, hb⟩
 ·cases h

def treap_Del.f (a0 : Int) (l1 : List S87) (a2 : Int) : Option (Int × List S87 × Int) := if l1.length ≤ 1000 then (Treap.delF (l1.map toNd) a0 a2).map (fun r => (r.1.2, r.1.1.map ofNd, r.2)) else none
theorem treap_Del.calls (a0 : Int) (A1 : Option Addr) (c1 : Nat) (l1 : List S87) (a2 : Int) (r1 : Int) (r2 : List S87) (r3 : Int) (w : World) (hr1 : Kd.C k87 w A1 l1.length l1) (_hc1 : l1.length ≤ c1) (h : treap_Del.f a0 l1 a2 = some (r1, r2, r3)) :
  Calls Try.prog 46 #[.agg #[.int .i64 a0, .slice A1 l1.length c1], .int .i64 a2] w fun e w' => ∃ v2_ : Value, e = .returned (.tuple #[.agg #[.int .i64 r1, v2_], .int .i64 r3]) ∧ Kd.R k87 87 w' w.heap.size (fun _ => True) v2_ r2 ∧ Below w.heap.size w w' := by
 unfold treap_Del.f at h
 split at h
 ·rename_i hn
  cases hp : Treap.delF (l1.map toNd) a0 a2 with
  | none => rw [hp] at h; cases h
  | some r =>
   rw [hp] at h
   have e : (r.1.2, r.1.1.map ofNd, r.2) = (r1, r2, r3) := Option.some.inj h
   obtain ⟨e1, e2⟩ := Prod.mk.inj e
   obtain ⟨e3, e4⟩ := Prod.mk.inj e2
   subst e1 e3 e4
   refine (Treap.del_any a0 a2 (l1.map toNd) A1 l1.length c1 hn r w (reads_Nd hr1) hp).mono ?_
   rintro e w' ⟨A', c', rfl, hown, hb⟩
   exact ⟨_, rfl, kd_Nd hown, hb⟩
 ·cases h
end Go.Proofs.Ytjdjmhagafmkaaa.PX

namespace Go.Proofs.Ytjdjmhagafmkaaa.PX
open Go.RowKit Go.Proofs.YtjdjmhagafmkaaaW.PrintWords Go.Proofs.YtjdjmhagafmkaaaW.PrintLast Go.Proofs.YtjdjmhagafmkaaaW.PrintMore
attribute [local go_sem] max2_int min2_int max_two min_two max_three min_three max_four min_four   -- for this text's walks alone
set_option linter.unusedVariables false
set_option linter.unusedSimpArgs false

/-! ### deadboltref08_Place: function 43 -/
def deadboltref08_Place.l0 : Nat → Int → List Int → Int → Int → Option (Int)
 | 0, _, _, _, _ => none
 | k + 1, x1, x7, x8, x9 => if x9 < x8 then (if 0 ≤ x9 then (if x9 < (x7.length : Int) then (if (rd x7 x9) = x1 then (some x9) else (deadboltref08_Place.l0 k x1 x7 x8 (wrap64 (x9 + 1)))) else (none)) else (none)) else (some (-1))
def deadboltref08_Place.f (k : Nat) (l0 : List Int) (a1 : Int) : Option (Int) := deadboltref08_Place.l0 k a1 l0 (l0.length : Int) 0
theorem deadboltref08_Place.mono_l : ∀ k, (∀ y0 y1 y2 y3, LeO (deadboltref08_Place.l0 k y0 y1 y2 y3) (deadboltref08_Place.l0 (k + 1) y0 y1 y2 y3))
 | 0 => fun _ _ _ _ r h => by simp [deadboltref08_Place.l0] at h
 | k + 1 => by
  have ih0 := deadboltref08_Place.mono_l k
  ·intro y0 y1 y2 y3
   unfold deadboltref08_Place.l0
   repeat' first
   | (with_reducible exact ih0 _ _ _ _)
   | (with_reducible exact LeO.refl _)
   | (with_reducible exact LeO.none _)
   | (with_reducible refine LeO.ite ?_ ?_)
   | (with_reducible refine LeO.bind ?_ (fun _ => ?_))
   | exact ih0 _ _ _ _
   | exact LeO.none _
   | refine LeO.ite ?_ ?_
   | refine LeO.bind ?_ (fun _ => ?_)
theorem deadboltref08_Place.mono : ∀ a0 a1 k, LeO (deadboltref08_Place.f k a0 a1) (deadboltref08_Place.f (k + 1) a0 a1) := by
 intro a0 a1 k
 have ih0 := deadboltref08_Place.mono_l k
 unfold deadboltref08_Place.f
 repeat' first
   | (with_reducible exact ih0 _ _ _ _)
   | (with_reducible exact LeO.refl _)
   | (with_reducible exact LeO.none _)
   | (with_reducible refine LeO.ite ?_ ?_)
   | (with_reducible refine LeO.bind ?_ (fun _ => ?_))
   | exact ih0 _ _ _ _
   | exact LeO.none _
   | refine LeO.ite ?_ ?_
   | refine LeO.bind ?_ (fun _ => ?_)
set_option maxHeartbeats 8000000 in
set_option maxRecDepth 100000 in
theorem deadboltref08_Place.calls (k : Nat) (A0 : Option Addr) (c0 : Nat) (l0 : List Int) (a1 : Int) (r : Int) (w : World) (hr0 : Kd.C (Kd.int .i64) w A0 l0.length l0) (hc0 : l0.length ≤ c0) (h : deadboltref08_Place.f k l0 a1 = some r) :
  Calls Try.prog 43 #[.slice A0 l0.length c0, .int .i64 a1] w fun e w' => e = .returned (.int .i64 r) ∧ Drawn0 w w' := by
 have HR0 := Aside0.mk hr0
 have HC0 := Aside0.mk hc0
 clear hr0 hc0
 have H : (deadboltref08_Place.l0 k a1 l0 (l0.length : Int) 0) = some r := h
 clear h
 have H' := Aside0.mk H
 clear H
 go_enter Try.func43, Try.ntmps43
 go_wp2
 go_loopg [9] k (fun kq v9 w' => ∃ (x9_1 : Int), v9 = .int .i64 x9_1 ∧ Aside0 (deadboltref08_Place.l0 kq a1 l0 (l0.length : Int) x9_1 = some r) ∧ Aside0 (kq ≤ k) ∧ Drawn0 w w')
 case atStart => exact ⟨(0), (by first | rfl | (simp; done) | (simp [*]; done)), H', ⟨Nat.le_refl _⟩, by repeat (first | exact Drawn0.refl _ | apply Drawn0.step)⟩
 case round =>
  clear H'
  try clear p2
  obtain ⟨x9_1, rfl, HA, HK1, ⟨m1, rfl⟩⟩ := hrel
  cases gk with
  | zero => exact absurd HA.out (by simp [deadboltref08_Place.l0])
  | succ k1 =>
   have H := HA.out
   clear HA
   simp only [deadboltref08_Place.l0] at H
   by_cases c3 : x9_1 < (l0.length : Int)
   ·rw [if_pos c3] at H
    have c3b0 : decide (x9_1 < (l0.length : Int)) = true := decide_eq_true c3
    clear c3
    by_cases c4 : 0 ≤ x9_1
    ·rw [if_pos c4] at H
     have c4b0 : decide (0 ≤ x9_1) = true := decide_eq_true c4
     clear c4
     by_cases c5 : x9_1 < (l0.length : Int)
     ·rw [if_pos c5] at H
      have c5b0 : decide (x9_1 < (l0.length : Int)) = true := decide_eq_true c5
      clear c5
      by_cases c6 : (rd l0 x9_1) = a1
      ·rw [if_pos c6] at H
       have c6b0 : ((rd l0 x9_1) == a1) = true := beq_iff_eq.mpr c6
       have c6b1 : ((rd l0 x9_1) != a1) = false := bne_eq_false_iff_eq.mpr c6
       clear c6
       obtain rfl := Option.some.inj H
       have p205 : 0 ≤ (x9_1 : Int) := of_decide_eq_true (by first | (with_reducible assumption) | assumption)
       have q205 : x9_1 < (l0.length : Int) := of_decide_eq_true (by first | (with_reducible assumption) | assumption)
       obtain ⟨ad205, e205, hx205_0⟩ := Kd.at_int HR0.out x9_1 p205 q205
       cases e205
       replace p205 := eq_true p205
       replace q205 := eq_true q205
       go_wp2
       go_ret
       exact ⟨by first | rfl | (simp; done) | (simp [*]; done), by repeat (first | exact Drawn0.refl _ | apply Drawn0.step)⟩
      ·rw [if_neg c6] at H
       have c6b0 : ((rd l0 x9_1) == a1) = false := beq_eq_false_iff_ne.mpr c6
       have c6b1 : ((rd l0 x9_1) != a1) = true := bne_iff_ne.mpr c6
       have H' := Aside0.mk H
       clear H
       have p205 : 0 ≤ (x9_1 : Int) := of_decide_eq_true (by first | (with_reducible assumption) | assumption)
       have q205 : x9_1 < (l0.length : Int) := of_decide_eq_true (by first | (with_reducible assumption) | assumption)
       obtain ⟨ad205, e205, hx205_0⟩ := Kd.at_int HR0.out x9_1 p205 q205
       cases e205
       replace p205 := eq_true p205
       replace q205 := eq_true q205
       go_wp2
       go_roundg k1
       case measure => have := HK1.out; omega
       case rel => exact ⟨(wrap64 (x9_1 + 1)), (by first | rfl | (simp; done) | (simp [*]; done)), H', ⟨by have := HK1.out; omega⟩, by repeat (first | exact Drawn0.refl _ | apply Drawn0.step)⟩
     ·rw [if_neg c5] at H
      exact absurd H (by simp)
    ·rw [if_neg c4] at H
     exact absurd H (by simp)
   ·rw [if_neg c3] at H
    have c3b0 : decide (x9_1 < (l0.length : Int)) = false := decide_eq_false c3
    clear c3
    obtain rfl := Option.some.inj H
    go_wp2
    go_ret
    exact ⟨by first | rfl | (simp; done) | (simp [*]; done), by repeat (first | exact Drawn0.refl _ | apply Drawn0.step)⟩

end Go.Proofs.Ytjdjmhagafmkaaa.PX

namespace Go.Proofs.Ytjdjmhagafmkaaa.PX
open Go.RowKit Go.Proofs.YtjdjmhagafmkaaaW.PrintWords Go.Proofs.YtjdjmhagafmkaaaW.PrintLast Go.Proofs.YtjdjmhagafmkaaaW.PrintMore
attribute [local go_sem] max2_int min2_int max_two min_two max_three min_three max_four min_four   -- for this text's walks alone
set_option linter.unusedVariables false
set_option linter.unusedSimpArgs false

/-! ### deadboltref08_With: function 49 -/
def deadboltref08_With.l0 : Nat → Int → List Int → Bool → List Int → Int → Int → Option (List Int)
 | 0, _, _, _, _, _, _ => none
 | k + 1, x1, x5, x6, x10, x11, x12 => if x12 < x11 then (if 0 ≤ x12 then (if x12 < (x10.length : Int) then (if x6 = true then (if x5.length < 17592186044416 then (deadboltref08_With.l0 k x1 (x5 ++ [rd x10 x12]) x6 x10 x11 (wrap64 (x12 + 1))) else (none)) else (if x1 < (rd x10 x12) then (if x5.length < 17592186044416 then ((some (x5 ++ [x1] : List Int)).bind fun y213 => (if y213.length < 17592186044416 then (deadboltref08_With.l0 k x1 (y213 ++ [rd x10 x12]) true x10 x11 (wrap64 (x12 + 1))) else (none))) else (none)) else (if x5.length < 17592186044416 then (deadboltref08_With.l0 k x1 (x5 ++ [rd x10 x12]) x6 x10 x11 (wrap64 (x12 + 1))) else (none)))) else (none)) else (none)) else (if x6 = true then (some x5) else (if x5.length < 17592186044416 then (some (x5 ++ [x1])) else (none)))
def deadboltref08_With.f (k : Nat) (l0 : List Int) (a1 : Int) : Option (List Int) := deadboltref08_With.l0 k a1 (([] : List Int)) false l0 (l0.length : Int) 0
theorem deadboltref08_With.mono_l : ∀ k, (∀ y0 y1 y2 y3 y4 y5, LeO (deadboltref08_With.l0 k y0 y1 y2 y3 y4 y5) (deadboltref08_With.l0 (k + 1) y0 y1 y2 y3 y4 y5))
 | 0 => fun _ _ _ _ _ _ r h => by simp [deadboltref08_With.l0] at h
 | k + 1 => by
  have ih0 := deadboltref08_With.mono_l k
  ·intro y0 y1 y2 y3 y4 y5
   unfold deadboltref08_With.l0
   repeat' first
   | (with_reducible exact ih0 _ _ _ _ _ _)
   | (with_reducible exact LeO.refl _)
   | (with_reducible exact LeO.none _)
   | (with_reducible refine LeO.ite ?_ ?_)
   | (with_reducible refine LeO.bind ?_ (fun _ => ?_))
   | exact ih0 _ _ _ _ _ _
   | exact LeO.none _
   | refine LeO.ite ?_ ?_
   | refine LeO.bind ?_ (fun _ => ?_)
theorem deadboltref08_With.mono : ∀ a0 a1 k, LeO (deadboltref08_With.f k a0 a1) (deadboltref08_With.f (k + 1) a0 a1) := by
 intro a0 a1 k
 have ih0 := deadboltref08_With.mono_l k
 unfold deadboltref08_With.f
 repeat' first
   | (with_reducible exact ih0 _ _ _ _ _ _)
   | (with_reducible exact LeO.refl _)
   | (with_reducible exact LeO.none _)
   | (with_reducible refine LeO.ite ?_ ?_)
   | (with_reducible refine LeO.bind ?_ (fun _ => ?_))
   | exact ih0 _ _ _ _ _ _
   | exact LeO.none _
   | refine LeO.ite ?_ ?_
   | refine LeO.bind ?_ (fun _ => ?_)
set_option maxHeartbeats 8000000 in
set_option maxRecDepth 100000 in
theorem deadboltref08_With.calls (k : Nat) (A0 : Option Addr) (c0 : Nat) (l0 : List Int) (a1 : Int) (r : List Int) (w : World) (hr0 : Kd.C (Kd.int .i64) w A0 l0.length l0) (hc0 : l0.length ≤ c0) (h : deadboltref08_With.f k l0 a1 = some r) :
  Calls Try.prog 49 #[.slice A0 l0.length c0, .int .i64 a1] w fun e w' => ∃ v0_ : Value, e = .returned (v0_) ∧ Kd.R (Kd.int .i64) 3 w' w.heap.size (fun _ => True) v0_ r ∧ Below w.heap.size w w' := by
 have HR0 := Aside0.mk hr0
 have HC0 := Aside0.mk hc0
 clear hr0 hc0
 have HB := Aside0.mk (Below.refl w.heap.size w)
 have H : (deadboltref08_With.l0 k a1 (([] : List Int)) false l0 (l0.length : Int) 0) = some r := h
 clear h
 obtain ⟨y206, hy206⟩ : ∃ y_ : List Int, y_ = (([] : List Int)) := ⟨_, rfl⟩
 replace H : (deadboltref08_With.l0 k a1 y206 false l0 (l0.length : Int) 0) = some r := by first | (rw [hy206]; with_reducible exact H) | (have H2_ := (Option.bind_some _ _).symm.trans H; rw [hy206]; with_reducible exact H2_) | (have H2_ := (Option.bind_some _ _).symm.trans H; with_reducible exact H2_) | with_reducible exact H | (rw [hy206]; exact H) | exact H
 have Ny206 := Aside0.mk hy206
 clear hy206
 have H' := Aside0.mk H
 clear H
 go_enter Try.func49, Try.ntmps49
 go_wp2_with (first | ((with_reducible refine gate_dst (N := 9) rfl ?_); refine Kd.R_lit (Kd.int .i64) _ 3 ?hg (N := 9) ?hd (xs := ([] : List Int)) (inner := []) (ok := fun _ => True) (okp := fun _ => True) ?hr ?hp (fun _ hk => hk) trivial (Below.refl _ _) (Nat.le_refl _) (by simp) ?_; (case hd => rfl); (case hg => rfl); (case hr => first | (go_simp; done) | (go_simp; rfl)); (case hp => exact (Reps.none _ _)); intro v207 w3 ho4 hb hg_ hnew_; clear hg_ hnew_; (first | rw [← Ny206.out] at ho4 | (simp only [Int.reduceToNat] at ho4; rw [← Ny206.out] at ho4)); have n0_ := Aside0.mk (Kd.R_lower ho4 (below_size (by repeat (first | (with_reducible first | exact HB.out | apply below_alloc | apply pw_below_drewN | apply below_drew1) | exact HB.out)))); have n1_ := Aside0.mk (below_step (by repeat (first | (with_reducible first | exact HB.out | apply below_alloc | apply pw_below_drewN | apply below_drew1) | exact HB.out)) hb); clear HB; have HO208 := n0_; have HB := n1_; clear n0_ n1_; clear hb ho4))
 go_loopg [5, 6, 12] k (fun kq v5 v6 v12 w' => ∃ (x5_1 : List Int) (x6_1 : Bool) (x12_1 : Int), v6 = .bool x6_1 ∧ v12 = .int .i64 x12_1 ∧ Aside0 (deadboltref08_With.l0 kq a1 x5_1 x6_1 l0 (l0.length : Int) x12_1 = some r) ∧ Aside0 (kq ≤ k) ∧ Aside0 (Kd.R (Kd.int .i64) 3 w' w.heap.size (fun _ => True) v5 x5_1) ∧ Aside0 (Below w.heap.size w w'))
 case atStart => exact ⟨(y206), (false), (0), (by first | rfl | (simp; done) | (simp [*]; done)), (by first | rfl | (simp; done) | (simp [*]; done)), H', ⟨Nat.le_refl _⟩, ⟨by (with_reducible repeat (first | apply Kd.R_alloc | apply Kd.R_drewN | apply Kd.R_drew)); exact HO208.out⟩, ⟨by repeat (first | (with_reducible first | exact HB.out | apply below_alloc | apply pw_below_drewN | apply below_drew1) | exact HB.out)⟩⟩
 case round =>
  clear H'
  try clear p2
  try clear c4
  obtain ⟨x5_1, x6_1, x12_1, rfl, rfl, HA, HK1, HO_5, HB⟩ := hrel
  cases gk with
  | zero => exact absurd HA.out (by simp [deadboltref08_With.l0])
  | succ k1 =>
   have H := HA.out
   clear HA
   simp only [deadboltref08_With.l0] at H
   by_cases c5 : x12_1 < (l0.length : Int)
   ·rw [if_pos c5] at H
    have c5b0 : decide (x12_1 < (l0.length : Int)) = true := decide_eq_true c5
    clear c5
    by_cases c6 : 0 ≤ x12_1
    ·rw [if_pos c6] at H
     have c6b0 : decide (0 ≤ x12_1) = true := decide_eq_true c6
     clear c6
     by_cases c7 : x12_1 < (l0.length : Int)
     ·rw [if_pos c7] at H
      have c7b0 : decide (x12_1 < (l0.length : Int)) = true := decide_eq_true c7
      clear c7
      by_cases c8 : x6_1 = true
      ·subst c8
       have H1 : (if x5_1.length < 17592186044416 then (deadboltref08_With.l0 k1 a1 (x5_1 ++ [rd l0 x12_1]) true l0 (l0.length : Int) (wrap64 (x12_1 + 1))) else (none)) = some r := by rw [if_pos rfl] at H; exact H
       clear H
       have H := H1
       clear H1
       by_cases c9 : x5_1.length < 17592186044416
       ·rw [if_pos c9] at H
        have LMc9 := Aside0.mk c9
        clear c9
        obtain ⟨y210, hy210⟩ : ∃ y_ : List Int, y_ = (x5_1 ++ [rd l0 x12_1]) := ⟨_, rfl⟩
        replace H : (deadboltref08_With.l0 k1 a1 y210 true l0 (l0.length : Int) (wrap64 (x12_1 + 1))) = some r := by first | (rw [hy210]; with_reducible exact H) | (have H2_ := (Option.bind_some _ _).symm.trans H; rw [hy210]; with_reducible exact H2_) | (have H2_ := (Option.bind_some _ _).symm.trans H; with_reducible exact H2_) | with_reducible exact H | (rw [hy210]; exact H) | exact H
        have Ny210 := Aside0.mk hy210
        clear hy210
        have H' := Aside0.mk H
        clear H
        have p209 : 0 ≤ (x12_1 : Int) := of_decide_eq_true (by first | (with_reducible assumption) | assumption)
        have q209 : x12_1 < (l0.length : Int) := of_decide_eq_true (by first | (with_reducible assumption) | assumption)
        obtain ⟨ad209, e209, hx209_0⟩ := Kd.at_int HR0.out x12_1 p209 q209
        cases e209
        replace hx209_0 := (HB.out.cell (World.block_lt_of_cell? w _ hx209_0)).trans hx209_0
        replace p209 := eq_true p209
        replace q209 := eq_true q209
        go_wp2_with (first | ((with_reducible refine gate_builtin (b := .append) (xs := #[.tmp 27, .tmp 29]) rfl ?_); at_builtin; refine Kd.R_append (Kd.int .i64) (w0 := w) w.heap.size rfl (.tmp 27) (.tmp 29) 26 3 (.int .i64 0) 8 rfl Try.underlying26 info3 rfl (by decide) (by omega) u5 x5_1 (rd l0 x12_1) [.int .i64 (rd l0 x12_1)] (fun _ => True) (fun _ => False) rfl rfl ?aP (fun _ hk => hk.elim) ?aF ?aO ?aB ?aS ?aL ?_; (case aP => exact rfl); (case aB => exact (by repeat (first | (with_reducible first | exact HB.out | apply below_alloc | apply pw_below_drewN | apply below_drew1) | exact HB.out))); (case aF => exact (fun _ _ => trivial)); (case aO => exact (by (with_reducible repeat (first | apply Kd.R_alloc | apply Kd.R_drewN | apply Kd.R_drew)); exact HO_5.out)); (case aS => exact (below_size (by repeat (first | (with_reducible first | exact HB.out | apply below_alloc | apply pw_below_drewN | apply below_drew1) | exact HB.out)))); (case aL => have := LMc9.out; omega); intro v211 w10 ho hb hg hat; rw [← Ny210.out] at ho; have n0_ := Aside0.mk (hb); have n1_ := Aside0.mk (ho); clear HB; clear HO_5; have HB := n0_; have HO212 := n1_; clear n0_ n1_; clear ho hb hg hat))
        go_roundg k1
        case measure => have := HK1.out; omega
        case rel => exact ⟨(y210), (true), (wrap64 (x12_1 + 1)), (by first | rfl | (simp; done) | (simp [*]; done)), (by first | rfl | (simp; done) | (simp [*]; done)), H', ⟨by have := HK1.out; omega⟩, ⟨by (with_reducible repeat (first | apply Kd.R_alloc | apply Kd.R_drewN | apply Kd.R_drew)); exact HO212.out⟩, ⟨by repeat (first | (with_reducible first | exact HB.out | apply below_alloc | apply pw_below_drewN | apply below_drew1) | exact HB.out)⟩⟩
       ·rw [if_neg c9] at H
        exact absurd H (by simp)
      ·replace c8 := Bool.eq_false_iff.mpr c8
       subst c8
       have H1 : (if a1 < (rd l0 x12_1) then (if x5_1.length < 17592186044416 then ((some (x5_1 ++ [a1] : List Int)).bind fun y213 => (if y213.length < 17592186044416 then (deadboltref08_With.l0 k1 a1 (y213 ++ [rd l0 x12_1]) true l0 (l0.length : Int) (wrap64 (x12_1 + 1))) else (none))) else (none)) else (if x5_1.length < 17592186044416 then (deadboltref08_With.l0 k1 a1 (x5_1 ++ [rd l0 x12_1]) false l0 (l0.length : Int) (wrap64 (x12_1 + 1))) else (none))) = some r := by rw [if_neg (show ¬ (false = true) by decide)] at H; exact H
       clear H
       have H := H1
       clear H1
       by_cases c11 : a1 < (rd l0 x12_1)
       ·rw [if_pos c11] at H
        have c11b0 : decide (a1 < (rd l0 x12_1)) = true := decide_eq_true c11
        clear c11
        by_cases c12 : x5_1.length < 17592186044416
        ·rw [if_pos c12] at H
         have LMc12 := Aside0.mk c12
         clear c12
         obtain ⟨y213, hy213⟩ : ∃ y_ : List Int, y_ = (x5_1 ++ [a1]) := ⟨_, rfl⟩
         replace H : (if y213.length < 17592186044416 then (deadboltref08_With.l0 k1 a1 (y213 ++ [rd l0 x12_1]) true l0 (l0.length : Int) (wrap64 (x12_1 + 1))) else (none)) = some r := by first | (rw [hy213]; with_reducible exact H) | (have H2_ := (Option.bind_some _ _).symm.trans H; rw [hy213]; with_reducible exact H2_) | (have H2_ := (Option.bind_some _ _).symm.trans H; with_reducible exact H2_) | with_reducible exact H | (rw [hy213]; exact H) | exact H
         have Ny213 := Aside0.mk hy213
         clear hy213
         by_cases c13 : y213.length < 17592186044416
         ·rw [if_pos c13] at H
          have LMc13 := Aside0.mk c13
          clear c13
          obtain ⟨y216, hy216⟩ : ∃ y_ : List Int, y_ = (y213 ++ [rd l0 x12_1]) := ⟨_, rfl⟩
          replace H : (deadboltref08_With.l0 k1 a1 y216 true l0 (l0.length : Int) (wrap64 (x12_1 + 1))) = some r := by first | (rw [hy216]; with_reducible exact H) | (have H2_ := (Option.bind_some _ _).symm.trans H; rw [hy216]; with_reducible exact H2_) | (have H2_ := (Option.bind_some _ _).symm.trans H; with_reducible exact H2_) | with_reducible exact H | (rw [hy216]; exact H) | exact H
          have Ny216 := Aside0.mk hy216
          clear hy216
          have H' := Aside0.mk H
          clear H
          have p209 : 0 ≤ (x12_1 : Int) := of_decide_eq_true (by first | (with_reducible assumption) | assumption)
          have q209 : x12_1 < (l0.length : Int) := of_decide_eq_true (by first | (with_reducible assumption) | assumption)
          obtain ⟨ad209, e209, hx209_0⟩ := Kd.at_int HR0.out x12_1 p209 q209
          cases e209
          replace hx209_0 := (HB.out.cell (World.block_lt_of_cell? w _ hx209_0)).trans hx209_0
          replace p209 := eq_true p209
          replace q209 := eq_true q209
          go_wp2_with (first | ((with_reducible refine gate_builtin (b := .append) (xs := #[.tmp 23, .tmp 25]) rfl ?_); at_builtin; refine Kd.R_append (Kd.int .i64) (w0 := w) w.heap.size rfl (.tmp 23) (.tmp 25) 26 3 (.int .i64 0) 8 rfl Try.underlying26 info3 rfl (by decide) (by omega) u5 x5_1 a1 [.int .i64 a1] (fun _ => True) (fun _ => False) rfl rfl ?aP (fun _ hk => hk.elim) ?aF ?aO ?aB ?aS ?aL ?_; (case aP => exact rfl); (case aB => exact (by repeat (first | (with_reducible first | exact HB.out | apply below_alloc | apply pw_below_drewN | apply below_drew1) | exact HB.out))); (case aF => exact (fun _ _ => trivial)); (case aO => exact (by (with_reducible repeat (first | apply Kd.R_alloc | apply Kd.R_drewN | apply Kd.R_drew)); exact HO_5.out)); (case aS => exact (below_size (by repeat (first | (with_reducible first | exact HB.out | apply below_alloc | apply pw_below_drewN | apply below_drew1) | exact HB.out)))); (case aL => have := LMc12.out; omega); intro v214 w14 ho hb hg hat; rw [← Ny213.out] at ho; have n0_ := Aside0.mk (hb); have n1_ := Aside0.mk (ho); clear HB; clear HO_5; have HB := n0_; have HO215 := n1_; clear n0_ n1_; clear ho hb hg hat) | ((with_reducible refine gate_builtin (b := .append) (xs := #[.tmp 27, .tmp 29]) rfl ?_); at_builtin; refine Kd.R_append (Kd.int .i64) (w0 := w) w.heap.size rfl (.tmp 27) (.tmp 29) 26 3 (.int .i64 0) 8 rfl Try.underlying26 info3 rfl (by decide) (by omega) v214 y213 (rd l0 x12_1) [.int .i64 (rd l0 x12_1)] (fun _ => True) (fun _ => False) rfl rfl ?aP (fun _ hk => hk.elim) ?aF ?aO ?aB ?aS ?aL ?_; (case aP => exact rfl); (case aB => exact (by repeat (first | (with_reducible first | exact HB.out | apply below_alloc | apply pw_below_drewN | apply below_drew1) | exact HB.out))); (case aF => exact (fun _ _ => trivial)); (case aO => exact (by (with_reducible repeat (first | apply Kd.R_alloc | apply Kd.R_drewN | apply Kd.R_drew)); exact HO215.out)); (case aS => exact (below_size (by repeat (first | (with_reducible first | exact HB.out | apply below_alloc | apply pw_below_drewN | apply below_drew1) | exact HB.out)))); (case aL => have := LMc13.out; omega); intro v217 w15 ho hb hg hat; rw [← Ny216.out] at ho; have n0_ := Aside0.mk (hb); have n1_ := Aside0.mk (ho); clear HB; clear HO215; have HB := n0_; have HO218 := n1_; clear n0_ n1_; clear ho hb hg hat))
          go_roundg k1
          case measure => have := HK1.out; omega
          case rel => exact ⟨(y216), (true), (wrap64 (x12_1 + 1)), (by first | rfl | (simp; done) | (simp [*]; done)), (by first | rfl | (simp; done) | (simp [*]; done)), H', ⟨by have := HK1.out; omega⟩, ⟨by (with_reducible repeat (first | apply Kd.R_alloc | apply Kd.R_drewN | apply Kd.R_drew)); exact HO218.out⟩, ⟨by repeat (first | (with_reducible first | exact HB.out | apply below_alloc | apply pw_below_drewN | apply below_drew1) | exact HB.out)⟩⟩
         ·rw [if_neg c13] at H
          exact absurd H (by simp)
        ·rw [if_neg c12] at H
         exact absurd H (by simp)
       ·rw [if_neg c11] at H
        have c11b0 : decide (a1 < (rd l0 x12_1)) = false := decide_eq_false c11
        clear c11
        by_cases c16 : x5_1.length < 17592186044416
        ·rw [if_pos c16] at H
         have LMc16 := Aside0.mk c16
         clear c16
         obtain ⟨y219, hy219⟩ : ∃ y_ : List Int, y_ = (x5_1 ++ [rd l0 x12_1]) := ⟨_, rfl⟩
         replace H : (deadboltref08_With.l0 k1 a1 y219 false l0 (l0.length : Int) (wrap64 (x12_1 + 1))) = some r := by first | (rw [hy219]; with_reducible exact H) | (have H2_ := (Option.bind_some _ _).symm.trans H; rw [hy219]; with_reducible exact H2_) | (have H2_ := (Option.bind_some _ _).symm.trans H; with_reducible exact H2_) | with_reducible exact H | (rw [hy219]; exact H) | exact H
         have Ny219 := Aside0.mk hy219
         clear hy219
         have H' := Aside0.mk H
         clear H
         have p209 : 0 ≤ (x12_1 : Int) := of_decide_eq_true (by first | (with_reducible assumption) | assumption)
         have q209 : x12_1 < (l0.length : Int) := of_decide_eq_true (by first | (with_reducible assumption) | assumption)
         obtain ⟨ad209, e209, hx209_0⟩ := Kd.at_int HR0.out x12_1 p209 q209
         cases e209
         replace hx209_0 := (HB.out.cell (World.block_lt_of_cell? w _ hx209_0)).trans hx209_0
         replace p209 := eq_true p209
         replace q209 := eq_true q209
         go_wp2_with (first | ((with_reducible refine gate_builtin (b := .append) (xs := #[.tmp 27, .tmp 29]) rfl ?_); at_builtin; refine Kd.R_append (Kd.int .i64) (w0 := w) w.heap.size rfl (.tmp 27) (.tmp 29) 26 3 (.int .i64 0) 8 rfl Try.underlying26 info3 rfl (by decide) (by omega) u5 x5_1 (rd l0 x12_1) [.int .i64 (rd l0 x12_1)] (fun _ => True) (fun _ => False) rfl rfl ?aP (fun _ hk => hk.elim) ?aF ?aO ?aB ?aS ?aL ?_; (case aP => exact rfl); (case aB => exact (by repeat (first | (with_reducible first | exact HB.out | apply below_alloc | apply pw_below_drewN | apply below_drew1) | exact HB.out))); (case aF => exact (fun _ _ => trivial)); (case aO => exact (by (with_reducible repeat (first | apply Kd.R_alloc | apply Kd.R_drewN | apply Kd.R_drew)); exact HO_5.out)); (case aS => exact (below_size (by repeat (first | (with_reducible first | exact HB.out | apply below_alloc | apply pw_below_drewN | apply below_drew1) | exact HB.out)))); (case aL => have := LMc16.out; omega); intro v220 w17 ho hb hg hat; rw [← Ny219.out] at ho; have n0_ := Aside0.mk (hb); have n1_ := Aside0.mk (ho); clear HB; clear HO_5; have HB := n0_; have HO221 := n1_; clear n0_ n1_; clear ho hb hg hat))
         go_roundg k1
         case measure => have := HK1.out; omega
         case rel => exact ⟨(y219), (false), (wrap64 (x12_1 + 1)), (by first | rfl | (simp; done) | (simp [*]; done)), (by first | rfl | (simp; done) | (simp [*]; done)), H', ⟨by have := HK1.out; omega⟩, ⟨by (with_reducible repeat (first | apply Kd.R_alloc | apply Kd.R_drewN | apply Kd.R_drew)); exact HO221.out⟩, ⟨by repeat (first | (with_reducible first | exact HB.out | apply below_alloc | apply pw_below_drewN | apply below_drew1) | exact HB.out)⟩⟩
        ·rw [if_neg c16] at H
         exact absurd H (by simp)
     ·rw [if_neg c7] at H
      exact absurd H (by simp)
    ·rw [if_neg c6] at H
     exact absurd H (by simp)
   ·rw [if_neg c5] at H
    have c5b0 : decide (x12_1 < (l0.length : Int)) = false := decide_eq_false c5
    clear c5
    by_cases c18 : x6_1 = true
    ·subst c18
     have H1 : (some x5_1) = some r := by rw [if_pos rfl] at H; exact H
     clear H
     have H := H1
     clear H1
     obtain rfl := Option.some.inj H
     go_wp2
     go_ret
     exact ⟨_, by first | rfl | (simp [errW_none, errW_some] <;> rfl) | (simp [*, errW_none, errW_some] <;> rfl), by (with_reducible repeat (first | apply Kd.R_alloc | apply Kd.R_drewN | apply Kd.R_drew)); exact HO_5.out, by repeat (first | (with_reducible first | exact HB.out | apply below_alloc | apply pw_below_drewN | apply below_drew1) | exact HB.out)⟩
    ·replace c18 := Bool.eq_false_iff.mpr c18
     subst c18
     have H1 : (if x5_1.length < 17592186044416 then (some (x5_1 ++ [a1])) else (none)) = some r := by rw [if_neg (show ¬ (false = true) by decide)] at H; exact H
     clear H
     have H := H1
     clear H1
     by_cases c19 : x5_1.length < 17592186044416
     ·rw [if_pos c19] at H
      have LMc19 := Aside0.mk c19
      clear c19
      obtain ⟨y222, hy222⟩ : ∃ y_ : List Int, y_ = (x5_1 ++ [a1]) := ⟨_, rfl⟩
      replace H : (some y222) = some r := by first | (rw [hy222]; with_reducible exact H) | (have H2_ := (Option.bind_some _ _).symm.trans H; rw [hy222]; with_reducible exact H2_) | (have H2_ := (Option.bind_some _ _).symm.trans H; with_reducible exact H2_) | with_reducible exact H | (rw [hy222]; exact H) | exact H
      have Ny222 := Aside0.mk hy222
      clear hy222
      obtain rfl := Option.some.inj H
      go_wp2_with (first | ((with_reducible refine gate_builtin (b := .append) (xs := #[.tmp 34, .tmp 36]) rfl ?_); at_builtin; refine Kd.R_append (Kd.int .i64) (w0 := w) w.heap.size rfl (.tmp 34) (.tmp 36) 26 3 (.int .i64 0) 8 rfl Try.underlying26 info3 rfl (by decide) (by omega) u5 x5_1 a1 [.int .i64 a1] (fun _ => True) (fun _ => False) rfl rfl ?aP (fun _ hk => hk.elim) ?aF ?aO ?aB ?aS ?aL ?_; (case aP => exact rfl); (case aB => exact (by repeat (first | (with_reducible first | exact HB.out | apply below_alloc | apply pw_below_drewN | apply below_drew1) | exact HB.out))); (case aF => exact (fun _ _ => trivial)); (case aO => exact (by (with_reducible repeat (first | apply Kd.R_alloc | apply Kd.R_drewN | apply Kd.R_drew)); exact HO_5.out)); (case aS => exact (below_size (by repeat (first | (with_reducible first | exact HB.out | apply below_alloc | apply pw_below_drewN | apply below_drew1) | exact HB.out)))); (case aL => have := LMc19.out; omega); intro v223 w20 ho hb hg hat; rw [← Ny222.out] at ho; have n0_ := Aside0.mk (hb); have n1_ := Aside0.mk (ho); clear HB; clear HO_5; have HB := n0_; have HO224 := n1_; clear n0_ n1_; clear ho hb hg hat))
      go_ret
      exact ⟨_, by first | rfl | (simp [errW_none, errW_some] <;> rfl) | (simp [*, errW_none, errW_some] <;> rfl), by (with_reducible repeat (first | apply Kd.R_alloc | apply Kd.R_drewN | apply Kd.R_drew)); exact HO224.out, by repeat (first | (with_reducible first | exact HB.out | apply below_alloc | apply pw_below_drewN | apply below_drew1) | exact HB.out)⟩
     ·rw [if_neg c19] at H
      exact absurd H (by simp)

end Go.Proofs.Ytjdjmhagafmkaaa.PX

namespace Go.Proofs.Ytjdjmhagafmkaaa.PX
open Go.RowKit Go.Proofs.YtjdjmhagafmkaaaW.PrintWords Go.Proofs.YtjdjmhagafmkaaaW.PrintLast Go.Proofs.YtjdjmhagafmkaaaW.PrintMore
attribute [local go_sem] max2_int min2_int max_two min_two max_three min_three max_four min_four   -- for this text's walks alone
set_option linter.unusedVariables false
set_option linter.unusedSimpArgs false

/-! ### treap_New: function 63 -/
def treap_New.f  : Option (Int × (List (S87))) := some ((-1), ([] : List (S87)))
set_option maxHeartbeats 8000000 in
set_option maxRecDepth 100000 in
theorem treap_New.calls  (r1 : Int) (r2 : List (S87)) (w : World) (h : treap_New.f  = some (r1, r2)) :
  Calls Try.prog 63 #[] w fun e w' => ∃ v1_ : Value, e = .returned (.agg #[.int .i64 r1, v1_]) ∧ Kd.R k87 87 w' w.heap.size (fun _ => True) v1_ r2 ∧ Below w.heap.size w w' := by
 have hu50 := Try.underlying50
 have HB := Aside0.mk (Below.refl w.heap.size w)
 have H : (some ((-1), ([] : List (S87)))) = some (r1, r2) := h
 clear h
 simp only [Option.some.injEq, Prod.mk.injEq] at H
 obtain ⟨rfl, rfl⟩ := H
 go_enter Try.func63, Try.ntmps63
 go_wp2_with (first | ((with_reducible refine gate_dst (N := 0) rfl ?_); refine box_event ?hg (N := 0) ?hd (cs := #[.int .i64 0, .slice none 0 0]) (t := 50) ?hr ?_; (case hd => rfl); (case hg => rfl); (case hr => first | (go_simp; done) | (go_simp; rfl)); intro gb225 hg w1 hbox hb; have n0_ := Aside0.mk (below_step (by repeat (first | (with_reducible first | exact HB.out | apply below_alloc | apply pw_below_drewN | apply below_drew1) | exact HB.out)) hb); have n1_ := Aside0.mk (hbox); have n2_ := Aside0.mk ((by rw [hg]; exact (below_size (by repeat (first | (with_reducible first | exact HB.out | apply below_alloc | apply pw_below_drewN | apply below_drew1) | exact HB.out))) : w.heap.size ≤ gb225)); have n3_ := Aside0.mk ((by rw [hg]; exact (below_size (by repeat (first | (with_reducible first | exact HB.out | apply below_alloc | apply pw_below_drewN | apply below_drew1) | exact HB.out))) : w.heap.size ≤ gb225)); clear HB; have HB := n0_; have BK225 := n1_; have GW225 := n2_; have GE225 := n3_; clear n0_ n1_ n2_ n3_; clear hb hbox hg; have hcz2_0 : w1.cell? ⟨gb225, 0, none⟩ = some (.int .i64 0) := (blk_cell BK225.out 0).trans rfl; have hcz2_1 : w1.cell? ⟨gb225, 1, none⟩ = some (.slice none 0 0) := (blk_cell BK225.out 1).trans rfl; have hfz2_0 := blk_frozen BK225.out 0; have hfz2_1 := blk_frozen BK225.out 1))
 refine bodyPost_ret (results_cell_row rfl _ _ gb225 50 #[.int .i64 (-1), .slice none 0 0] (0, 0) _ rfl (by (with_reducible repeat (first | refine blk_drewN ?_ _ | refine blk_drew ?_ | refine blk_alloc ?_ _)); refine blk_put (cs := #[.int .i64 (-1), .slice none 0 0]) ?_ 1 _ rfl; (with_reducible repeat (first | refine blk_drewN ?_ _ | refine blk_drew ?_ | refine blk_alloc ?_ _)); refine blk_put (cs := #[.int .i64 0, .slice none 0 0]) ?_ 0 _ rfl; (with_reducible repeat (first | refine blk_drewN ?_ _ | refine blk_drew ?_ | refine blk_alloc ?_ _)); exact BK225.out) Try.underlying50 rfl (by kernel_rfl)) rfl ?_
 exact ⟨_, by first | rfl | (simp [errW_none, errW_some] <;> rfl) | (simp [*, errW_none, errW_some] <;> rfl), by first | exact Kd.R_nil _ _ _ _ _ | exact Kd.N_nil _ _ _ _ _ | exact Kd.V_nil _ _ _ _ _ | exact Kd.Q_nil _ _ _ _ _ | exact Kd.S_nil _ _ _ _ _, by repeat (first | (with_reducible first | exact HB.out | apply below_alloc | apply pw_below_drewN | apply below_drew1 | refine below_set ?_ GE225.out) | exact HB.out)⟩

end Go.Proofs.Ytjdjmhagafmkaaa.PX
