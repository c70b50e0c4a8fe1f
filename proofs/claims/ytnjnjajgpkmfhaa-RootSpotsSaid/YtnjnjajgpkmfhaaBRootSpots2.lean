/-
  Texts of this claim, one behind the other: TreapRep4, TreapRep5, TreapRep6, TreapRep7, TreapPut, CTreap4, Tr, PXx2, PXx5, CTree, PXx3, PXx4, PXx6.
-/
import Derived.Test.YtnjnjajgpkmfhaaBRootSpots1
import Derived.Deep.LoopGhost
import Derived.Deep.RegionLaw
import Derived.RangeFuncNested
import Derived.RangeFuncBound
import Derived.RangeFuncCalls
import Derived.RangeFuncLeaves
import Derived.RangeFuncBox
import Derived.Shelf.Abstract
import Derived.Shelf.RegionOpen
import Derived.OwnWalkIn
import Derived.TacticsInMore
import Derived.LoopNIn
import Derived.LoopIn
/-
  What the ways down, the parting and the joining make of the order of the keys and of the weights. No program.
-/
namespace Go.Proofs.Ytnjnjajgpkmfhaa
open Go.RowKit
namespace Treap
section
variable (go : Nat → Bool) (k : Nat → Int) (key : Int) (p : Nat → Int)
theorem up_node {i : Nat} {l r : T} (h : ((T.node i l r).ins.map k).Pairwise (· < ·)) : (l.ins.map k).Pairwise (· < ·) ∧ (r.ins.map k).Pairwise (· < ·) ∧ (∀ j ∈ l.ins, k j < k i) ∧ (∀ j ∈ r.ins, k i < k j) := by
  rw [T.ins, List.map_append, List.map_cons, List.pairwise_append, List.pairwise_cons] at h
  obtain ⟨h1, ⟨h2, h3⟩, h4⟩ := h
  exact ⟨h1, h3, fun j hj => h4 _ (List.mem_map.2 ⟨j, hj, rfl⟩) _ (by simp), fun j hj => h2 _ (List.mem_map.2 ⟨j, hj, rfl⟩)⟩
/-- The way down: what is to its left is less, what is to its right is not. -/
theorem path_spec : ∀ (t : T), (t.ins.map k).Pairwise (· < ·) → ∃ A B, t.ins = A ++ (subT go k key t).ins ++ B ∧ (∀ u, (replT go k key u t).ins = A ++ u.ins ++ B) ∧ (∀ i ∈ A, k i < key) ∧ (∀ i ∈ B, key ≤ k i) := by
  intro t
  induction t with
  | leaf => exact fun _ => ⟨[], [], by simp [subT, T.ins], fun u => by simp [replT], by simp, by simp⟩
  | node i l r ihl ihr =>
    intro hup
    obtain ⟨u1, u2, u3, u4⟩ := up_node k hup
    by_cases hg : go i = false
    · exact ⟨[], [], by simp [subT, hg], fun u => by simp [replT, hg], by simp, by simp⟩
    · by_cases hk : k i < key
      · obtain ⟨A, B, h1, h2, h3, h4⟩ := ihr u2
        refine ⟨l.ins ++ i :: A, B, ?_, fun u => ?_, fun j hj => ?_, h4⟩
        · rw [subT, if_neg hg, if_pos hk, T.ins, h1]
          simp
        · rw [replT, if_neg hg, if_pos hk, T.ins, h2]
          simp
        · rcases List.mem_append.1 hj with hj | hj
          · exact Int.lt_trans (u3 j hj) hk
          · rcases List.mem_cons.1 hj with rfl | hj
            · exact hk
            · exact h3 j hj
      · obtain ⟨A, B, h1, h2, h3, h4⟩ := ihl u1
        refine ⟨A, B ++ i :: r.ins, ?_, fun u => ?_, h3, fun j hj => ?_⟩
        · rw [subT, if_neg hg, if_neg hk, T.ins, h1]
          simp
        · rw [replT, if_neg hg, if_neg hk, T.ins, h2]
          simp
        · rcases List.mem_append.1 hj with hj | hj
          · exact h4 j hj
          · rcases List.mem_cons.1 hj with rfl | hj
            · omega
            · have := u4 j hj; omega
theorem repl_mem : ∀ (t u : T), ∀ j ∈ (replT go k key u t).ins, j ∈ t.ins ∨ j ∈ u.ins := by
  intro t
  induction t with
  | leaf => exact fun u j hj => .inr hj
  | node i l r ihl ihr =>
    intro u j hj
    unfold replT at hj
    split at hj
    · exact .inr hj
    · split at hj
      · simp only [T.ins, List.mem_append, List.mem_cons] at hj
        rcases hj with hj | rfl | hj
        · exact .inl (by simp [T.ins, hj])
        · exact .inl (by simp [T.ins])
        · exact (ihr u j hj).imp (fun h => by simp [T.ins, h]) id
      · simp only [T.ins, List.mem_append, List.mem_cons] at hj
        rcases hj with hj | rfl | hj
        · exact (ihl u j hj).imp (fun h => by simp [T.ins, h]) id
        · exact .inl (by simp [T.ins])
        · exact .inl (by simp [T.ins, hj])
theorem repl_heap : ∀ (t u : T), Heap p t → Heap p u → (∀ j ∈ u.ins, j ∈ (subT go k key t).ins ∨ ∀ i ∈ t.ins, go i = true → p j < p i) → Heap p (replT go k key u t) := by
  intro t
  induction t with
  | leaf => exact fun u _ hu _ => hu
  | node i l r ihl ihr =>
    intro u ht hu hju
    unfold replT
    by_cases hg : go i = false
    · rw [if_pos hg]
      exact hu
    · rw [if_neg hg]
      have hg' : go i = true := by cases h : go i with | true => rfl | false => exact absurd h hg
      by_cases hk : k i < key
      · rw [if_pos hk]
        rw [subT, if_neg hg, if_pos hk] at hju
        refine ⟨ht.1, fun j hj => ?_, ht.2.2.1, ihr u ht.2.2.2 hu (fun j hj => (hju j hj).imp id (fun h q hq => h q (by simp [T.ins, hq])))⟩
        rcases repl_mem go k key r u j hj with h | h
        · exact ht.2.1 j h
        · rcases hju j h with h | h
          · exact ht.2.1 j (sub_mem _ _ _ r j h)
          · exact h i (by simp [T.ins]) hg'
      · rw [if_neg hk]
        rw [subT, if_neg hg, if_neg hk] at hju
        refine ⟨fun j hj => ?_, ht.2.1, ihl u ht.2.2.1 hu (fun j hj => (hju j hj).imp id (fun h q hq => h q (by simp [T.ins, hq]))), ht.2.2.2⟩
        rcases repl_mem go k key l u j hj with h | h
        · exact ht.1 j h
        · rcases hju j h with h | h
          · exact ht.1 j (sub_mem _ _ _ l j h)
          · exact h i (by simp [T.ins]) hg'
theorem sub_heap : ∀ (t : T), Heap p t → Heap p (subT go k key t) := by
  intro t
  induction t with
  | leaf => exact fun h => h
  | node i l r ihl ihr =>
    intro h
    unfold subT
    split
    · exact h
    · split
      · exact ihr h.2.2.2
      · exact ihl h.2.2.1
theorem sub_up : ∀ (t : T), (t.ins.map k).Pairwise (· < ·) → ((subT go k key t).ins.map k).Pairwise (· < ·) := by
  intro t
  induction t with
  | leaf => exact fun h => h
  | node i l r ihl ihr =>
    intro h
    obtain ⟨u1, u2, _⟩ := up_node k h
    unfold subT
    split
    · exact h
    · split
      · exact ihr u2
      · exact ihl u1
theorem split_ins : ∀ (t : T), (t.ins.map k).Pairwise (· < ·) → t.ins = (splitT k key t).1.ins ++ (splitT k key t).2.ins ∧ (∀ i ∈ (splitT k key t).1.ins, k i < key) ∧ (∀ i ∈ (splitT k key t).2.ins, key ≤ k i) := by
  intro t
  induction t with
  | leaf => exact fun _ => ⟨rfl, by simp [splitT, T.ins], by simp [splitT, T.ins]⟩
  | node i l r ihl ihr =>
    intro h
    obtain ⟨u1, u2, u3, u4⟩ := up_node k h
    unfold splitT
    by_cases hk : k i < key
    · rw [if_pos hk]
      obtain ⟨h1, h2, h3⟩ := ihr u2
      refine ⟨?_, fun j hj => ?_, h3⟩
      · show l.ins ++ i :: r.ins = (l.ins ++ i :: (splitT k key r).1.ins) ++ (splitT k key r).2.ins
        conv => lhs; rw [h1]
        simp
      · simp only [T.ins, List.mem_append, List.mem_cons] at hj
        rcases hj with hj | rfl | hj
        · exact Int.lt_trans (u3 j hj) hk
        · exact hk
        · exact h2 j hj
    · rw [if_neg hk]
      obtain ⟨h1, h2, h3⟩ := ihl u1
      refine ⟨?_, h2, fun j hj => ?_⟩
      · show l.ins ++ i :: r.ins = (splitT k key l).1.ins ++ ((splitT k key l).2.ins ++ i :: r.ins)
        conv => lhs; rw [h1]
        simp
      · simp only [T.ins, List.mem_append, List.mem_cons] at hj
        rcases hj with hj | rfl | hj
        · exact h3 j hj
        · omega
        · have := u4 j hj; omega
theorem split_mem : ∀ (t : T), (∀ j ∈ (splitT k key t).1.ins, j ∈ t.ins) ∧ (∀ j ∈ (splitT k key t).2.ins, j ∈ t.ins) := by
  intro t
  induction t with
  | leaf => exact ⟨fun j hj => hj, fun j hj => hj⟩
  | node i l r ihl ihr =>
    unfold splitT
    split
    · refine ⟨fun j hj => ?_, fun j hj => by simp [T.ins, ihr.2 j hj]⟩
      simp only [T.ins, List.mem_append, List.mem_cons] at hj ⊢
      exact hj.imp id (fun h => h.imp id (fun h => ihr.1 j h))
    · refine ⟨fun j hj => by simp [T.ins, ihl.1 j hj], fun j hj => ?_⟩
      simp only [T.ins, List.mem_append, List.mem_cons] at hj ⊢
      exact hj.imp (fun h => ihl.2 j h) id
theorem split_heap : ∀ (t : T), Heap p t → Heap p (splitT k key t).1 ∧ Heap p (splitT k key t).2 := by
  intro t
  induction t with
  | leaf => exact fun _ => ⟨trivial, trivial⟩
  | node i l r ihl ihr =>
    intro h
    unfold splitT
    split
    · exact ⟨⟨h.1, fun j hj => h.2.1 j ((split_mem k key r).1 j hj), h.2.2.1, (ihr h.2.2.2).1⟩, (ihr h.2.2.2).2⟩
    · exact ⟨(ihl h.2.2.1).1, ⟨fun j hj => h.1 j ((split_mem k key l).2 j hj), h.2.1, (ihl h.2.2.1).2, h.2.2.2⟩⟩
theorem merge_heap : ∀ (f : Nat) (a b : T), a.ins.length + b.ins.length < f → Heap p a → Heap p b → (∀ i ∈ a.ins, ∀ j ∈ b.ins, p i ≠ p j) → Heap p (mergeT p f a b) := by
  intro f
  induction f with
  | zero => intro a b h; omega
  | succ f ih =>
    intro a b hf ha hb hne
    cases a with
    | leaf => exact hb
    | node i l r =>
      cases b with
      | leaf => exact ha
      | node j l' r' =>
        rw [len_node, len_node] at hf
        unfold mergeT
        by_cases hp : p j < p i
        · rw [if_pos hp]
          refine ⟨ha.1, fun q hq => ?_, ha.2.2.1, ih _ _ (by rw [len_node]; omega) ha.2.2.2 hb (fun x hx y hy => hne x (by simp [T.ins, hx]) y hy)⟩
          rw [merge_ins _ _ _ _ (by rw [len_node]; omega), List.mem_append] at hq
          rcases hq with hq | hq
          · exact ha.2.1 q hq
          · exact Int.lt_of_le_of_lt (heap_top hb q hq) hp
        · rw [if_neg hp]
          have hn := hne i (by simp [T.ins]) j (by simp [T.ins])
          refine ⟨fun q hq => ?_, hb.2.1, ih _ _ (by rw [len_node]; omega) ha hb.2.2.1 (fun x hx y hy => hne x hx y (by simp [T.ins, hy])), hb.2.2.2⟩
          rw [merge_ins _ _ _ _ (by rw [len_node]; omega), List.mem_append] at hq
          rcases hq with hq | hq
          · have := heap_top ha q hq; omega
          · exact hb.1 q hq
end
/-- Weights of keys are unlike. -/
theorem and_mask (x : Int) : bits .and .i64 x 4294967295 = x % 4294967296 := by
  show IntKind.i64.wrap ((BitVec.ofInt 64 x &&& BitVec.ofInt 64 (4294967295 : Int)).toNat : Int) = _
  rw [BitVec.toNat_and, show (BitVec.ofInt 64 (4294967295 : Int)).toNat = 2 ^ 32 - 1 from rfl, Nat.and_two_pow_sub_one_eq_mod, BitVec.toNat_ofInt, IntKind.wrap_i64]
  obtain ⟨y, hy⟩ : ∃ y : Nat, (x % ((2 ^ 64 : Nat) : Int)).toNat = y := ⟨_, rfl⟩
  rw [hy]
  omega
theorem priOf_eq {a : Int} (h : isKey a = true) : priOf a = a * 2654435761 % 4294967296 := by
  unfold priOf
  rw [if_pos h, and_mask]
  unfold wrap64
  omega
theorem odd_inv : BitVec.ofInt 32 2654435761 * BitVec.ofInt 32 244002641 = 1#32 := by decide
theorem low_inj {a b : Int} (h0 : 0 ≤ a) (h1 : a ≤ 4294967295) (h2 : 0 ≤ b) (h3 : b ≤ 4294967295) (e3 : (a % 4294967296).toNat = (b % 4294967296).toNat) : a = b := by omega
theorem mul_inj (M N : Int) (hm : BitVec.ofInt 32 M * BitVec.ofInt 32 N = 1#32) {a b : Int} (h0 : 0 ≤ a) (h1 : a ≤ 4294967295) (h2 : 0 ≤ b) (h3 : b ≤ 4294967295) (h : a * M % 4294967296 = b * M % 4294967296) : a = b := by
  have e : BitVec.ofInt 32 (a * M) = BitVec.ofInt 32 (b * M) := by
    apply BitVec.eq_of_toNat_eq
    rw [BitVec.toNat_ofInt, BitVec.toNat_ofInt]
    exact congrArg Int.toNat h
  rw [BitVec.ofInt_mul, BitVec.ofInt_mul] at e
  have e2 := congrArg (· * BitVec.ofInt 32 N) e
  simp only [BitVec.mul_assoc] at e2
  rw [hm, BitVec.mul_one, BitVec.mul_one] at e2
  have e3 := congrArg BitVec.toNat e2
  rw [BitVec.toNat_ofInt, BitVec.toNat_ofInt] at e3
  exact low_inj h0 h1 h2 h3 e3
theorem isKey_iff {a : Int} : isKey a = true ↔ 0 ≤ a ∧ a ≤ 4294967295 := by
  unfold isKey
  simp only [Bool.and_eq_true, decide_eq_true_eq]
theorem pri_inj {a b : Int} (ha : isKey a = true) (hb : isKey b = true) (h : priOf a = priOf b) : a = b := by
  rw [priOf_eq ha, priOf_eq hb] at h
  have ha := isKey_iff.1 ha
  have hb := isKey_iff.1 hb
  exact mul_inj _ _ odd_inv ha.1 ha.2 hb.1 hb.2 h
end Treap
end Go.Proofs.Ytnjnjajgpkmfhaa

/-
  A key more, a key less, told by the rows of keys. No program.
-/
namespace Go.Proofs.Ytnjnjajgpkmfhaa
open Go.RowKit
namespace Treap
theorem nd_app {ns : List Nd} {x : Nd} {j : Nat} (h : j < ns.length) : nd (ns ++ [x]) j = nd ns j := by
  unfold nd
  rw [List.getD_eq_getElem?_getD, List.getD_eq_getElem?_getD, List.getElem?_append_left h]
theorem nd_new {ns : List Nd} {x : Nd} : nd (ns ++ [x]) ns.length = x := by
  unfold nd
  rw [List.getD_eq_getElem?_getD, List.getElem?_concat_length]
  rfl
theorem Rep.grow {ns : List Nd} {root : Int} (x : Nd) : ∀ (t : T) (a : Int), Rep (ns, root) a t → Rep (ns ++ [x], root) a t := by
  intro t
  induction t with
  | leaf => exact fun a h => h
  | node i l r ihl ihr =>
    rintro a ⟨rfl, hi, h1, h2⟩
    have hi' : i < ns.length := hi
    have e1 : G (ns ++ [x], root) (.left i) = G (ns, root) (.left i) := by show (nd (ns ++ [x]) i).left = (nd ns i).left; rw [nd_app hi']
    have e2 : G (ns ++ [x], root) (.right i) = G (ns, root) (.right i) := by show (nd (ns ++ [x]) i).right = (nd ns i).right; rw [nd_app hi']
    refine ⟨rfl, by show i < (ns ++ [x]).length; simp; omega, ?_, ?_⟩
    · rw [e1]; exact ihl _ h1
    · rw [e2]; exact ihr _ h2
theorem heap_congr {p q : Nat → Int} : ∀ (t : T), (∀ j ∈ t.ins, p j = q j) → Heap p t → Heap q t := by
  intro t
  induction t with
  | leaf => exact fun _ _ => trivial
  | node i l r ihl ihr =>
    rintro h ⟨h1, h2, h3, h4⟩
    have hi := h i (by simp [T.ins])
    exact ⟨fun j hj => by rw [← hi, ← h j (by simp [T.ins, hj])]; exact h1 j hj, fun j hj => by rw [← hi, ← h j (by simp [T.ins, hj])]; exact h2 j hj, ihl (fun j hj => h j (by simp [T.ins, hj])) h3, ihr (fun j hj => h j (by simp [T.ins, hj])) h4⟩
/-- The way to a key: where nothing hangs, it is not there. -/
theorem sub_other (key : Int) (k : Nat → Int) : ∀ (t : T), (t.ins.map k).Pairwise (· < ·) → (key ∉ t.ins.map k ∧ subT (fun j => k j != key) k key t = .leaf) ∨ (∃ i l r, subT (fun j => k j != key) k key t = .node i l r ∧ k i = key ∧ key ∈ t.ins.map k) := by
  intro t
  induction t with
  | leaf => exact fun _ => .inl ⟨by simp [T.ins], rfl⟩
  | node i l r ihl ihr =>
    intro hup
    obtain ⟨u1, u2, u3, u4⟩ := up_node k hup
    unfold subT
    by_cases he : k i = key
    · rw [if_pos (by simp [he])]
      exact .inr ⟨i, l, r, rfl, he, by simp [T.ins, he]⟩
    · rw [if_neg (by simp [he])]
      by_cases hk : k i < key
      · rw [if_pos hk]
        rcases ihr u2 with ⟨h1, h2⟩ | ⟨i', l', r', h1, h2, h3⟩
        · refine .inl ⟨?_, h2⟩
          simp only [T.ins, List.map_append, List.map_cons, List.mem_append, List.mem_cons, not_or]
          refine ⟨fun h => ?_, fun e => he e.symm, h1⟩
          obtain ⟨j, hj, e⟩ := List.mem_map.1 h
          have := u3 j hj
          omega
        · exact .inr ⟨i', l', r', h1, h2, by simp only [T.ins, List.map_append, List.map_cons, List.mem_append, List.mem_cons]; exact .inr (.inr h3)⟩
      · rw [if_neg hk]
        rcases ihl u1 with ⟨h1, h2⟩ | ⟨i', l', r', h1, h2, h3⟩
        · refine .inl ⟨?_, h2⟩
          simp only [T.ins, List.map_append, List.map_cons, List.mem_append, List.mem_cons, not_or]
          refine ⟨h1, fun e => he e.symm, fun h => ?_⟩
          obtain ⟨j, hj, e⟩ := List.mem_map.1 h
          have := u4 j hj
          omega
        · exact .inr ⟨i', l', r', h1, h2, by simp only [T.ins, List.map_append, List.map_cons, List.mem_append, List.mem_cons]; exact .inl h3⟩
theorem no_root {j : Nat} : ¬ isOf .root j := fun h => by rcases h with h | h <;> cases h
theorem Good.may {s : List Nd × Int} {t : T} (h : Good s t) (h64 : s.1.length ≤ 64) {key : Int} (hk : isKey key = true) : ¬ mayB s.1 s.2 key = false := by
  unfold mayB
  rw [h.right h64, hk]
  simp
/-- A key that is there already; a tree that is full. -/
theorem put_twice {s : List Nd × Int} {t : T} (h : Good s t) (h64 : s.1.length ≤ 64) {key : Int} (hk : isKey key = true) (hin : key ∈ t.ins.map (K s)) : putF s.1 s.2 key = some (([], 0), 7) := by
  obtain ⟨m, h1, h2, _⟩ := seek_spec (goOther key) key s t (s.1.length + 1) .root h.rep h.nodup (by rw [h.len]; omega) trivial (fun _ _ => no_root)
  unfold putF
  rw [if_neg (h.may h64 hk), h1]
  simp only
  rcases sub_other key (K s) t h.up with ⟨h3, _⟩ | ⟨i, l, r, h3, _⟩
  · exact absurd hin h3
  · have e : (fun j => goOther key (nd s.1 j)) = fun j => K s j != key := rfl
    rw [e, h3] at h2
    have e2 : lget s.1 s.2 m = i := h2.1
    rw [if_pos (by rw [e2]; omega)]
theorem put_full {s : List Nd × Int} {t : T} (h : Good s t) (h64 : s.1.length = 64) {key : Int} (hk : isKey key = true) (hin : key ∉ t.ins.map (K s)) : putF s.1 s.2 key = some (([], 0), 5) := by
  obtain ⟨m, h1, h2, _⟩ := seek_spec (goOther key) key s t (s.1.length + 1) .root h.rep h.nodup (by rw [h.len]; omega) trivial (fun _ _ => no_root)
  unfold putF
  rw [if_neg (h.may (Nat.le_of_eq h64) hk), h1]
  simp only
  rcases sub_other key (K s) t h.up with ⟨_, h3⟩ | ⟨i, l, r, h3, _, h4⟩
  · have e : (fun j => goOther key (nd s.1 j)) = fun j => K s j != key := rfl
    rw [e, h3] at h2
    have e2 : lget s.1 s.2 m = -1 := h2
    rw [if_neg (by rw [e2]; simp), if_pos h64]
  · exact absurd h4 hin
/-- A key more. -/
theorem put_good {s : List Nd × Int} {t : T} (h : Good s t) (h64 : s.1.length < 64) {key : Int} (hk : isKey key = true) (hin : key ∉ t.ins.map (K s)) :
    ∃ s' t', putF s.1 s.2 key = some (s', 0) ∧ s'.1.length = s.1.length + 1 ∧ Good s' t' ∧ ∃ A B, t.ins.map (K s) = A ++ B ∧ t'.ins.map (K s') = A ++ key :: B ∧ (∀ x ∈ A, x < key) ∧ (∀ x ∈ B, key < x) := by
  obtain ⟨m0, h1, h2, _⟩ := seek_spec (goOther key) key s t (s.1.length + 1) .root h.rep h.nodup (by rw [h.len]; omega) trivial (fun _ _ => no_root)
  have hl0 : lget s.1 s.2 m0 = -1 := by
    rcases sub_other key (K s) t h.up with ⟨_, h3⟩ | ⟨i, l, r, h3, _, h4⟩
    · have e : (fun j => goOther key (nd s.1 j)) = fun j => K s j != key := rfl
      rw [e, h3] at h2
      exact h2
    · exact absurd h4 hin
  clear h2
  -- the row with the new node
  obtain ⟨s1, hs1⟩ : ∃ s1 : List Nd × Int, s1 = (s.1 ++ [⟨key, -1, -1⟩], s.2) := ⟨_, rfl⟩
  have hrep1 : Rep s1 (G s1 .root) t := by rw [hs1]; exact Rep.grow _ t _ h.rep
  have hlen1 : s1.1.length = s.1.length + 1 := by rw [hs1]; simp
  have hKold : ∀ j, j < s.1.length → K s1 j = K s j := fun j hj => by rw [hs1]; show (nd (s.1 ++ [_]) j).key = _; rw [nd_app hj]; rfl
  have hKnew : K s1 s.1.length = key := by rw [hs1]; show (nd (s.1 ++ [_]) s.1.length).key = _; rw [nd_new]
  have hlt : ∀ j ∈ t.ins, j < s.1.length := fun j hj => h.rep.lt t _ j hj
  have hkmap : t.ins.map (K s1) = t.ins.map (K s) := List.map_congr_left (fun j hj => hKold j (hlt j hj))
  have hup1 : (t.ins.map (K s1)).Pairwise (· < ·) := by rw [hkmap]; exact h.up
  have hheap1 : Heap (Pr s1) t := heap_congr t (fun j hj => by unfold Pr; rw [hKold j (hlt j hj)]) h.heap
  have hne : ∀ j ∈ t.ins, Pr s1 j ≠ priOf key := fun j hj e => hin (List.mem_map.2 ⟨j, hj, pri_inj (h.keys j hj) hk (by rw [← hKold j (hlt j hj)]; exact e)⟩)
  obtain ⟨m, g1, g2, g3, g4, g5, g6⟩ := seek_spec (goHeavy key) key s1 t (s.1.length + 2) .root hrep1 h.nodup (by rw [h.len]; omega) trivial (fun _ _ => no_root)
  obtain ⟨go, hgo⟩ : ∃ go : Nat → Bool, go = fun j => goHeavy key (nd s1.1 j) := ⟨_, rfl⟩
  rw [← hgo] at g1 g2 g5 g6
  have hgoj : ∀ j, go j = decide (priOf key < Pr s1 j) := fun j => by rw [hgo]; rfl
  obtain ⟨t0, ht0⟩ : ∃ t0, t0 = subT go (K s1) key t := ⟨_, rfl⟩
  rw [← ht0] at g2 g5 g6
  have ht0m : ∀ j ∈ t0.ins, j ∈ t.ins := by rw [ht0]; exact sub_mem _ _ _ t
  have ht0n : t0.ins.Nodup := by rw [ht0]; exact sub_nodup _ _ _ t h.nodup
  have ht0l : t0.ins.length ≤ t.ins.length := by rw [ht0]; exact subT_len _ _ _ t
  have hmn : ∀ j, isOf m j → j < s.1.length := fun j hj => by
    rcases g4 with rfl | ⟨q, hq, hmq⟩
    · exact absurd hj no_root
    · rw [isOf_inj hj hmq]; exact hlt q hq
  have hnt0 : s.1.length ∉ t0.ins := fun hh => Nat.lt_irrefl _ (hlt _ (ht0m _ hh))
  -- the new node is hung up
  have hs2len : (lset s1 m s.1.length).1.length = s.1.length + 1 := by rw [lset_len, hlen1]
  have hs2K : K (lset s1 m s.1.length) = K s1 := K_set _ _ _ g3
  have hrep2 : Rep (lset s1 m s.1.length) (G s1 m) t0 := Rep.frame (lset_len _ _ _) t0 _ g2 (fun j hj => ⟨G_other _ _ _ _ g3 (fun e => g5 j hj (.inl e.symm)), G_other _ _ _ _ g3 (fun e => g5 j hj (.inr e.symm))⟩)
  obtain ⟨s', p1, p2, p3, p4, p5, p6⟩ := split_spec key t0 (s.1.length + 2) (lset s1 m s.1.length) (G s1 m) (.left s.1.length) (.right s.1.length) hrep2 ht0n (by have := h.len; omega) (by rw [hs2len]; exact Nat.lt_succ_self _) (by rw [hs2len]; exact Nat.lt_succ_self _) (fun e => by cases e) (fun j hj => ⟨fun e => hnt0 (by rw [isOf_inj (i := s.1.length) (.inl rfl) e]; exact hj), fun e => hnt0 (by rw [isOf_inj (i := s.1.length) (.inr rfl) e]; exact hj)⟩)
  rw [hs2K] at p2 p3 p5
  have hlen' : s'.1.length = s.1.length + 1 := by rw [p4, hs2len]
  obtain ⟨u, hu⟩ : ∃ u, u = T.node s.1.length (splitT (K s1) key t0).1 (splitT (K s1) key t0).2 := ⟨_, rfl⟩
  have hGm : G s' m = s.1.length := by
    rw [p6 m (fun e => Nat.lt_irrefl _ (hmn s.1.length (.inl e))) (fun e => Nat.lt_irrefl _ (hmn s.1.length (.inr e))) (fun j hj => g5 j hj), G_same _ _ _ g3]
  have hrepu : Rep s' (G s' m) u := by rw [hu]; exact ⟨hGm, by rw [hlen']; exact Nat.lt_succ_self _, p2, p3⟩
  have hrep' := g6 s' u (by rw [hlen', hlen1]) (fun m' hm' hne hsub => by
    have hno : ∀ q, isOf m' q → q < s.1.length := fun q hq => by
      rcases hm' with rfl | ⟨j, hj, hjm⟩
      · exact absurd hq no_root
      · rw [isOf_inj hq hjm]; exact hlt j hj
    rw [p6 m' (fun e => Nat.lt_irrefl _ (hno s.1.length (.inl e))) (fun e => Nat.lt_irrefl _ (hno s.1.length (.inr e))) (fun j hj => hsub j hj), G_other _ _ _ _ g3 hne]) hrepu
  -- what order and weights are
  obtain ⟨A, B, q1, q2, q3, q4⟩ := path_spec go (K s1) key t hup1
  rw [← ht0] at q1
  obtain ⟨r1, r2, r3⟩ := split_ins (K s1) key t0 (by rw [ht0]; exact sub_up _ _ _ t hup1)
  have hins : (replT go (K s1) key u t).ins = (A ++ (splitT (K s1) key t0).1.ins) ++ s.1.length :: ((splitT (K s1) key t0).2.ins ++ B) := by
    rw [q2, hu]
    simp [T.ins]
  have htins : t.ins = (A ++ (splitT (K s1) key t0).1.ins) ++ ((splitT (K s1) key t0).2.ins ++ B) := by
    rw [q1, r1]
    simp
  have hA : ∀ i ∈ A ++ (splitT (K s1) key t0).1.ins, K s1 i < key := fun i hi => by
    rcases List.mem_append.1 hi with hi | hi
    · exact q3 i hi
    · exact r2 i hi
  have hB : ∀ i ∈ (splitT (K s1) key t0).2.ins ++ B, key < K s1 i := fun i hi => by
    have hle : key ≤ K s1 i := by
      rcases List.mem_append.1 hi with hi | hi
      · exact r3 i hi
      · exact q4 i hi
    have hmem : i ∈ t.ins := by rw [htins]; exact List.mem_append.2 (.inr hi)
    have : K s1 i ≠ key := fun e => hin (by rw [← hkmap]; exact List.mem_map.2 ⟨i, hmem, e⟩)
    omega
  have hheap' : Heap (Pr s1) (replT go (K s1) key u t) := by
    have hPn : Pr s1 s.1.length = priOf key := by unfold Pr; rw [hKnew]
    refine repl_heap go (K s1) key (Pr s1) t u hheap1 ?_ (fun j hj => ?_)
    · rw [hu]
      have hlow : ∀ j ∈ t0.ins, Pr s1 j < Pr s1 s.1.length := by
        have hh0 : Heap (Pr s1) t0 := by rw [ht0]; exact sub_heap _ _ _ _ t hheap1
        cases ht : t0 with
        | leaf => intro j hj; simp [T.ins] at hj
        | node i l r =>
          intro j hj
          have hgi : go i = false := by
            have key2 : ∀ (t : T) (i : Nat) (l r : T), subT go (K s1) key t = .node i l r → go i = false := by
              intro t
              induction t with
              | leaf => intro i l r e; cases e
              | node i0 l0 r0 ihl ihr =>
                intro i l r e
                unfold subT at e
                split at e
                · rename_i hg; injection e with e; rw [← e]; exact hg
                · split at e
                  · exact ihr i l r e
                  · exact ihl i l r e
            exact key2 t i l r (by rw [← ht0]; exact ht)
          rw [hgoj, decide_eq_false_iff_not] at hgi
          rw [ht] at hh0
          have hji := heap_top hh0 j hj
          have hin0 := hne i (ht0m i (by rw [ht]; simp [T.ins]))
          rw [hPn]
          omega
      obtain ⟨v1, v2⟩ := split_heap (K s1) key (Pr s1) t0 (by rw [ht0]; exact sub_heap _ _ _ _ t hheap1)
      exact ⟨fun j hj => hlow j ((split_mem (K s1) key t0).1 j hj), fun j hj => hlow j ((split_mem (K s1) key t0).2 j hj), v1, v2⟩
    · rw [hu] at hj
      simp only [T.ins, List.mem_append, List.mem_cons] at hj
      rcases hj with hj | rfl | hj
      · exact .inl (by rw [← ht0]; exact (split_mem (K s1) key t0).1 j hj)
      · right
        intro i _ hi
        rw [hgoj, decide_eq_true_eq] at hi
        rw [hPn]
        exact hi
      · exact .inl (by rw [← ht0]; exact (split_mem (K s1) key t0).2 j hj)
  refine ⟨s', replT go (K s1) key u t, ?_, hlen', ⟨?_, ?_, ?_, ?_, ?_⟩, (A ++ (splitT (K s1) key t0).1.ins).map (K s1), ((splitT (K s1) key t0).2.ins ++ B).map (K s1), ?_, ?_, ?_, ?_⟩
  · unfold putF
    rw [if_neg (h.may (Nat.le_of_lt h64) hk), h1]
    simp only
    rw [if_neg (by rw [hl0]; simp), if_neg (by omega)]
    obtain ⟨z1, hz1⟩ : ∃ z, some (m, z) = some (m, depT go (K s1) key t, (visT go (K s1) key t).map (nd s1.1)) := ⟨_, rfl⟩
    rw [← hz1] at g1
    rw [hs1] at g1
    dsimp only at g1
    rw [g1]
    simp only
    have p1' : splitF key (s.1.length + 2) (lset (s.1 ++ [⟨key, -1, -1⟩], s.2) m s.1.length) (lget (s.1 ++ [⟨key, -1, -1⟩]) s.2 m) (.left s.1.length) (.right s.1.length) = some s' := by rw [hs1] at p1; exact p1
    rw [p1']
  · exact hrep'
  · rw [hins, hlen']
    have := congrArg List.length htins
    rw [h.len] at this
    simp only [List.length_append, List.length_cons] at this ⊢
    omega
  · rw [p5, hins, List.map_append, List.map_cons, hKnew, List.pairwise_append, List.pairwise_cons]
    rw [htins, List.map_append, List.pairwise_append] at hup1
    refine ⟨hup1.1, ⟨fun x hx => ?_, hup1.2.1⟩, fun x hx y hy => ?_⟩
    · obtain ⟨i, hi, rfl⟩ := List.mem_map.1 hx
      exact hB i hi
    · obtain ⟨i, hi, rfl⟩ := List.mem_map.1 hx
      rcases List.mem_cons.1 hy with rfl | hy
      · exact hA i hi
      · exact Int.lt_trans (hA i hi) (by obtain ⟨j, hj, rfl⟩ := List.mem_map.1 hy; exact hB j hj)
  · intro j hj
    rw [p5]
    rw [hins] at hj
    have : j = s.1.length ∨ j ∈ t.ins := by
      rw [htins]
      simp only [List.mem_append, List.mem_cons] at hj ⊢
      rcases hj with hj | rfl | hj
      · exact .inr (.inl hj)
      · exact .inl rfl
      · exact .inr (.inr hj)
    rcases this with rfl | hj
    · rw [hKnew]; exact hk
    · rw [hKold j (hlt j hj)]; exact h.keys j hj
  · have e : Pr s' = Pr s1 := funext fun j => by unfold Pr; rw [p5]
    rw [e]
    exact hheap'
  · rw [← List.map_append, ← htins, hkmap]
  · rw [p5, hins, List.map_append, List.map_cons, hKnew]
  · intro x hx
    obtain ⟨i, hi, rfl⟩ := List.mem_map.1 hx
    exact hA i hi
  · intro x hx
    obtain ⟨i, hi, rfl⟩ := List.mem_map.1 hx
    exact hB i hi
end Treap
end Go.Proofs.Ytnjnjajgpkmfhaa

/-
  A key less, told by the rows of keys. No program.
-/
namespace Go.Proofs.Ytnjnjajgpkmfhaa
open Go.RowKit
namespace Treap
def shiftN (at_ j : Nat) : Nat := if at_ < j then j - 1 else j
def T.mapI (f : Nat → Nat) : T → T
  | .leaf => .leaf
  | .node i l r => .node (f i) (l.mapI f) (r.mapI f)
theorem mapI_ins (f : Nat → Nat) : ∀ t : T, (t.mapI f).ins = t.ins.map f := by
  intro t
  induction t with
  | leaf => rfl
  | node i l r ihl ihr => simp [T.mapI, T.ins, ihl, ihr]
theorem mapI_heap {p q : Nat → Int} (f : Nat → Nat) : ∀ t : T, (∀ j ∈ t.ins, q (f j) = p j) → Heap p t → Heap q (t.mapI f) := by
  intro t
  induction t with
  | leaf => exact fun _ _ => trivial
  | node i l r ihl ihr =>
    rintro h ⟨h1, h2, h3, h4⟩
    have hi := h i (by simp [T.ins])
    refine ⟨fun j hj => ?_, fun j hj => ?_, ihl (fun j hj => h j (by simp [T.ins, hj])) h3, ihr (fun j hj => h j (by simp [T.ins, hj])) h4⟩
    · rw [mapI_ins] at hj
      obtain ⟨q', hq, rfl⟩ := List.mem_map.1 hj
      rw [hi, h q' (by simp [T.ins, hq])]
      exact h1 q' hq
    · rw [mapI_ins] at hj
      obtain ⟨q', hq, rfl⟩ := List.mem_map.1 hj
      rw [hi, h q' (by simp [T.ins, hq])]
      exact h2 q' hq
theorem nd_without (s : List Nd × Int) (at_ j : Nat) (_hat : at_ < s.1.length) (hj : j < s.1.length) (hne : j ≠ at_) : nd (withoutL s at_).1 (shiftN at_ j) = ⟨(nd s.1 j).key, shiftI at_ (nd s.1 j).left, shiftI at_ (nd s.1 j).right⟩ := by
  have e : (s.1.eraseIdx at_)[shiftN at_ j]? = some (nd s.1 j) := by
    rw [List.getElem?_eraseIdx]
    unfold shiftN
    by_cases h : at_ < j
    · rw [if_pos h, if_neg (by omega), show j - 1 + 1 = j by omega]
      exact nd_at hj
    · rw [if_neg h, if_pos (by omega)]
      exact nd_at hj
  have e2 : (withoutL s at_).1[shiftN at_ j]? = some ⟨(nd s.1 j).key, shiftI at_ (nd s.1 j).left, shiftI at_ (nd s.1 j).right⟩ := by
    unfold withoutL
    rw [List.getElem?_map, e]
    rfl
  unfold nd at *
  rw [List.getD_eq_getElem?_getD, e2]
  rfl
theorem shift_nat (at_ i : Nat) (_h : i ≠ at_) : shiftI at_ (i : Int) = (shiftN at_ i : Int) := by
  unfold shiftI shiftN
  by_cases hi : at_ < i
  · rw [if_pos hi, if_pos (by omega)]
    omega
  · rw [if_neg hi, if_neg (by omega)]
theorem without_len (s : List Nd × Int) (at_ : Nat) (hat : at_ < s.1.length) : (withoutL s at_).1.length = s.1.length - 1 := by
  unfold withoutL
  rw [List.length_map, List.length_eraseIdx, if_pos hat]
theorem rep_without (s : List Nd × Int) (at_ : Nat) (hat : at_ < s.1.length) : ∀ (t : T) (a : Int), Rep s a t → at_ ∉ t.ins → Rep (withoutL s at_) (shiftI at_ a) (t.mapI (shiftN at_)) := by
  intro t
  induction t with
  | leaf =>
    intro a h _
    have h : a = -1 := h
    show shiftI at_ a = -1
    rw [h]
    unfold shiftI
    rw [if_neg (by omega)]
  | node i l r ihl ihr =>
    rintro a ⟨rfl, hi, h1, h2⟩ hn
    have hne : i ≠ at_ := fun e => hn (by simp [T.ins, e])
    have e := nd_without s at_ i hat hi hne
    refine ⟨shift_nat at_ i hne, ?_, ?_, ?_⟩
    · rw [without_len s at_ hat]
      unfold shiftN
      split <;> omega
    · show Rep _ (nd (withoutL s at_).1 (shiftN at_ i)).left _
      rw [e]
      exact ihl _ h1 (fun h => hn (by simp [T.ins, h]))
    · show Rep _ (nd (withoutL s at_).1 (shiftN at_ i)).right _
      rw [e]
      exact ihr _ h2 (fun h => hn (by simp [T.ins, h]))
theorem del_none {s : List Nd × Int} {t : T} (h : Good s t) (h64 : s.1.length ≤ 64) {key : Int} (hk : isKey key = true) (hin : key ∉ t.ins.map (K s)) : delF s.1 s.2 key = some (([], 0), 4) := by
  obtain ⟨m, h1, h2, _⟩ := seek_spec (goOther key) key s t (s.1.length + 1) .root h.rep h.nodup (by rw [h.len]; omega) trivial (fun _ _ => no_root)
  unfold delF
  rw [if_neg (h.may h64 hk), h1]
  simp only
  rcases sub_other key (K s) t h.up with ⟨_, h3⟩ | ⟨i, l, r, h3, _, h4⟩
  · have e : (fun j => goOther key (nd s.1 j)) = fun j => K s j != key := rfl
    rw [e, h3] at h2
    have e2 : lget s.1 s.2 m = -1 := h2
    rw [if_pos e2]
  · exact absurd h4 hin
/-- A key less. -/
theorem del_good {s : List Nd × Int} {t : T} (h : Good s t) (h64 : s.1.length ≤ 64) {key : Int} (hk : isKey key = true) (hin : key ∈ t.ins.map (K s)) :
    ∃ s' t', delF s.1 s.2 key = some (s', 0) ∧ s'.1.length = s.1.length - 1 ∧ Good s' t' ∧ ∃ A B, t.ins.map (K s) = A ++ key :: B ∧ t'.ins.map (K s') = A ++ B := by
  obtain ⟨m, h1, h2, h3, h4, h5, h6⟩ := seek_spec (goOther key) key s t (s.1.length + 1) .root h.rep h.nodup (by rw [h.len]; omega) trivial (fun _ _ => no_root)
  obtain ⟨go, hgo⟩ : ∃ go : Nat → Bool, go = fun j => goOther key (nd s.1 j) := ⟨_, rfl⟩
  have hgo2 : go = fun j => K s j != key := hgo
  rw [← hgo] at h1 h2 h5 h6
  rcases sub_other key (K s) t h.up with ⟨hn, _⟩ | ⟨i, l, r, hs, hki, _⟩
  · exact absurd hin hn
  rw [← hgo2] at hs
  rw [hs] at h2 h5 h6
  obtain ⟨g1, g2, g3, g4⟩ := h2
  have hlm : lget s.1 s.2 m = i := g1
  have hsub : ∀ j ∈ (T.node i l r).ins, j ∈ t.ins := fun j hj => sub_mem go (K s) key t j (by rw [hs]; exact hj)
  have hnd : (T.node i l r).ins.Nodup := by rw [← hs]; exact sub_nodup go (K s) key t h.nodup
  obtain ⟨n1, n2, n3, n4, n5⟩ := nodup_node hnd
  have hlen : (T.node i l r).ins.length ≤ t.ins.length := by rw [← hs]; exact subT_len go (K s) key t
  rw [len_node, h.len] at hlen
  have hheap0 : Heap (Pr s) (.node i l r) := by rw [← hs]; exact sub_heap go (K s) key (Pr s) t h.heap
  obtain ⟨s1, p1, p2, p3, p4, p5⟩ := merge_spec (2 * s.1.length + 2) l r s m (G s (.left i)) (G s (.right i)) g3 g4 n1 n2 n5 (by omega) h3 (fun j hj => h5 j (by simp only [T.ins, List.mem_append, List.mem_cons]; exact hj.imp id .inr))
  obtain ⟨u, hu⟩ : ∃ u, u = mergeT (Pr s) (2 * s.1.length + 2) l r := ⟨_, rfl⟩
  rw [← hu] at p2
  have hui : u.ins = l.ins ++ r.ins := by rw [hu]; exact merge_ins _ _ _ _ (by omega)
  have hrep1 := h6 s1 u p3 (fun m' _ hne hsub => p5 m' hne (fun j hj => hsub j (by simp only [T.ins, List.mem_append, List.mem_cons]; exact hj.imp id .inr))) p2
  obtain ⟨t1, ht1⟩ : ∃ t1, t1 = replT go (K s) key u t := ⟨_, rfl⟩
  rw [← ht1] at hrep1
  obtain ⟨A, B, q1, q2, _, _⟩ := path_spec go (K s) key t h.up
  rw [hs] at q1
  have q2 := q2 u
  rw [← ht1, hui] at q2
  have htins : t.ins = (A ++ l.ins) ++ i :: (r.ins ++ B) := by rw [q1]; simp [T.ins]
  have ht1ins : t1.ins = (A ++ l.ins) ++ (r.ins ++ B) := by rw [q2]; simp
  have hin1 : i ∉ t1.ins := by
    have hn := h.nodup
    rw [htins, List.nodup_append, List.nodup_cons] at hn
    rw [ht1ins, List.mem_append, not_or]
    exact ⟨fun hh => hn.2.2 i hh i (by simp) rfl, hn.2.1.1⟩
  have hsubt : ∀ j ∈ t1.ins, j ∈ t.ins := fun j hj => by
    rw [htins]
    rw [ht1ins] at hj
    rcases List.mem_append.1 hj with hj | hj
    · exact List.mem_append.2 (.inl hj)
    · exact List.mem_append.2 (.inr (List.mem_cons_of_mem _ hj))
  have hheap1 : Heap (Pr s) t1 := by
    rw [ht1]
    refine repl_heap go (K s) key (Pr s) t u h.heap ?_ (fun j hj => .inl ?_)
    · rw [hu]
      refine merge_heap _ _ _ _ (by omega) hheap0.2.2.1 hheap0.2.2.2 (fun x hx y hy e => ?_)
      have hx' := hsub x (by simp [T.ins, hx])
      have hy' := hsub y (by simp [T.ins, hy])
      have ek : K s x = K s y := pri_inj (h.keys x hx') (h.keys y hy') e
      have hup := sub_up go (K s) key t h.up
      rw [hs, T.ins, List.map_append, List.map_cons, List.pairwise_append] at hup
      have := hup.2.2 (K s x) (List.mem_map.2 ⟨x, hx, rfl⟩) (K s y) (List.mem_cons_of_mem _ (List.mem_map.2 ⟨y, hy, rfl⟩))
      omega
    · rw [hs]
      rw [hui] at hj
      simp only [T.ins, List.mem_append, List.mem_cons] at hj ⊢
      exact hj.imp id .inr
  have hat : i < s1.1.length := by rw [p3]; exact g2
  have hKw : ∀ j ∈ t1.ins, K (withoutL s1 i) (shiftN i j) = K s j := fun j hj => by
    have hne : j ≠ i := fun e => hin1 (by rw [← e]; exact hj)
    have hjl : j < s1.1.length := by rw [p3]; exact h.rep.lt t _ j (hsubt j hj)
    show (nd (withoutL s1 i).1 (shiftN i j)).key = _
    rw [nd_without s1 i j hat hjl hne, ← p4]
    rfl
  have hkeys : (t1.mapI (shiftN i)).ins.map (K (withoutL s1 i)) = t1.ins.map (K s) := by
    rw [mapI_ins, List.map_map]
    exact List.map_congr_left (fun j hj => hKw j hj)
  have hlen1 : t1.ins.length = s.1.length - 1 := by
    have := congrArg List.length htins
    rw [h.len] at this
    rw [ht1ins]
    simp only [List.length_append, List.length_cons] at this ⊢
    omega
  refine ⟨withoutL s1 i, t1.mapI (shiftN i), ?_, by rw [without_len s1 i hat, p3], ⟨rep_without s1 i hat t1 _ hrep1 hin1, ?_, ?_, ?_, ?_⟩, (A ++ l.ins).map (K s), (r.ins ++ B).map (K s), ?_, ?_⟩
  · unfold delF
    rw [if_neg (h.may h64 hk), h1]
    simp only
    rw [hlm, if_neg (by omega), if_neg (by omega), Int.toNat_natCast]
    have p1' : mergeF (2 * s.1.length + 2) (s.1, s.2) m (nd s.1 i).left (nd s.1 i).right = some s1 := p1
    rw [p1']
  · rw [mapI_ins, List.length_map, hlen1, without_len s1 i hat, p3]
  · rw [hkeys]
    have hup := h.up
    rw [htins] at hup
    rw [ht1ins]
    rw [List.map_append, List.map_cons, List.pairwise_append, List.pairwise_cons] at hup
    rw [List.map_append, List.pairwise_append]
    exact ⟨hup.1, hup.2.1.2, fun x hx y hy => hup.2.2 x hx y (List.mem_cons_of_mem _ hy)⟩
  · intro j hj
    rw [mapI_ins] at hj
    obtain ⟨q, hq, rfl⟩ := List.mem_map.1 hj
    rw [hKw q hq]
    exact h.keys q (hsubt q hq)
  · refine mapI_heap (p := Pr s) (shiftN i) t1 (fun j hj => ?_) hheap1
    unfold Pr
    rw [hKw j hj]
  · rw [htins, List.map_append, List.map_cons, hki]
  · rw [hkeys, ht1ins, List.map_append]
end Treap
end Go.Proofs.Ytnjnjajgpkmfhaa

/-
  How deep keys are, and which comes next, told by the rows of keys: the tree of rising keys is one alone. No program.
-/
namespace Go.Proofs.Ytnjnjajgpkmfhaa
open Go.RowKit
namespace Treap
inductive KT where
  | leaf : KT
  | node : Int → KT → KT → KT
def T.kt (k : Nat → Int) : T → KT
  | .leaf => .leaf
  | .node i l r => .node (k i) (l.kt k) (r.kt k)
namespace KT
def keys : KT → List Int
  | .leaf => []
  | .node k l r => l.keys ++ k :: r.keys
def Heap : KT → Prop
  | .leaf => True
  | .node k l r => (∀ x ∈ l.keys, priOf x < priOf k) ∧ (∀ x ∈ r.keys, priOf x < priOf k) ∧ l.Heap ∧ r.Heap
def dep (key : Int) : KT → Nat
  | .leaf => 0
  | .node k l r => if k = key then 0 else (if k < key then dep key r else dep key l) + 1
theorem app_inj {α : Type} {a : α} : ∀ (L L' R R' : List α), L ++ a :: R = L' ++ a :: R' → a ∉ L → a ∉ L' → L = L' ∧ R = R' := by
  intro L
  induction L with
  | nil =>
    intro L' R R' h _ h2
    cases L' with
    | nil => exact ⟨rfl, (List.cons.inj h).2⟩
    | cons x L' => exact absurd (List.mem_cons.2 (.inl (List.cons.inj h).1)) h2
  | cons x L ih =>
    intro L' R R' h h1 h2
    cases L' with
    | nil => exact absurd (List.mem_cons.2 (.inl (List.cons.inj h).1.symm)) h1
    | cons y L' =>
      obtain ⟨e1, e2⟩ := List.cons.inj h
      obtain ⟨e3, e4⟩ := ih L' R R' e2 (fun hh => h1 (List.mem_cons_of_mem _ hh)) (fun hh => h2 (List.mem_cons_of_mem _ hh))
      exact ⟨by rw [e1, e3], e4⟩
theorem root_max {k : Int} {l r : KT} (h : (KT.node k l r).Heap) : ∀ x ∈ (KT.node k l r).keys, x = k ∨ priOf x < priOf k := by
  intro x hx
  simp only [keys, List.mem_append, List.mem_cons] at hx
  rcases hx with hx | rfl | hx
  · exact .inr (h.1 x hx)
  · exact .inl rfl
  · exact .inr (h.2.1 x hx)
theorem root_notin {k : Int} {l r : KT} (h : (KT.node k l r).Heap) : k ∉ l.keys ∧ k ∉ r.keys := ⟨fun hh => Int.lt_irrefl _ (h.1 k hh), fun hh => Int.lt_irrefl _ (h.2.1 k hh)⟩
theorem root_eq {k k' : Int} {l r l' r' : KT} (h : (KT.node k l r).Heap) (h' : (KT.node k' l' r').Heap) (h1 : k ∈ (KT.node k' l' r').keys) (h2 : k' ∈ (KT.node k l r).keys) : k = k' := by
  rcases root_max h' k h1 with e | e
  · exact e
  · rcases root_max h k' h2 with e2 | e2
    · exact e2.symm
    · omega
theorem mem_root (k : Int) (l r : KT) : k ∈ (KT.node k l r).keys := by simp [keys]
theorem uniq : ∀ (a b : KT), a.Heap → b.Heap → a.keys = b.keys → a = b := by
  intro a
  induction a with
  | leaf =>
    intro b _ _ h
    cases b with
    | leaf => rfl
    | node k l r =>
      have := mem_root k l r
      rw [← h] at this
      simp [keys] at this
  | node k l r ihl ihr =>
    intro b ha hb h
    cases b with
    | leaf =>
      have := mem_root k l r
      rw [h] at this
      simp [keys] at this
    | node k' l' r' =>
      have e := root_eq ha hb (by rw [← h]; exact mem_root _ _ _) (by rw [h]; exact mem_root _ _ _)
      subst e
      obtain ⟨e1, e2⟩ := app_inj _ _ _ _ h (root_notin ha).1 (root_notin hb).1
      rw [ihl l' ha.2.2.1 hb.2.2.1 e1, ihr r' ha.2.2.2 hb.2.2.2 e2]
theorem dep_lt (key : Int) : ∀ (t : KT), t.keys.Pairwise (· < ·) → key ∈ t.keys → dep key t < t.keys.length := by
  intro t
  induction t with
  | leaf => intro _ h; simp [keys] at h
  | node k l r ihl ihr =>
    intro hup hin
    rw [keys, List.pairwise_append, List.pairwise_cons] at hup
    obtain ⟨u1, ⟨u2, u3⟩, u4⟩ := hup
    simp only [keys, List.mem_append, List.mem_cons] at hin
    unfold dep
    rw [keys, List.length_append, List.length_cons]
    by_cases he : k = key
    · rw [if_pos he]; omega
    · rw [if_neg he]
      by_cases hk : k < key
      · rw [if_pos hk]
        have hr : key ∈ r.keys := by
          rcases hin with h | h | h
          · have := u4 key h k (by simp); omega
          · exact absurd h.symm he
          · exact h
        have := ihr u3 hr
        omega
      · rw [if_neg hk]
        have hl : key ∈ l.keys := by
          rcases hin with h | h | h
          · exact h
          · exact absurd h.symm he
          · have := u2 key h; omega
        have := ihl u1 hl
        omega
/-- One key more: what is heavier is as deep as it was. -/
theorem more (key k : Int) (hp : priOf key < priOf k) : ∀ (t' t : KT) (A B : List Int), t.Heap → t'.Heap → t.keys = A ++ B → t'.keys = A ++ key :: B → (A ++ B).Pairwise (· < ·) → k ∈ A ++ B → dep k t' = dep k t := by
  intro t'
  induction t' with
  | leaf => intro t A B _ _ _ h; simp [keys] at h
  | node a l' r' ihl ihr =>
    intro t A B ht ht' h1 h2 hup hin
    have hk' : k ∈ (KT.node a l' r').keys := by
      rw [h2]
      simp only [List.mem_append, List.mem_cons] at hin ⊢
      exact hin.imp id .inr
    have hak : a ≠ key := fun e => by
      rcases root_max ht' k hk' with h | h
      · rw [h, e] at hp; omega
      · rw [e] at h; omega
    cases t with
    | leaf => rw [← h1] at hin; simp [keys] at hin
    | node a0 l r =>
      have ha' : a ∈ (KT.node a0 l r).keys := by
        have := mem_root a l' r'
        rw [h2] at this
        rw [h1]
        simp only [List.mem_append, List.mem_cons] at this ⊢
        rcases this with h | h | h
        · exact .inl h
        · exact absurd h hak
        · exact .inr h
      have ha0' : a0 ∈ (KT.node a l' r').keys := by
        have := mem_root a0 l r
        rw [h1] at this
        rw [h2]
        simp only [List.mem_append, List.mem_cons] at this ⊢
        exact this.imp id .inr
      have e := root_eq ht' ht ha' ha0'
      subst e
      have hup2 := hup
      rw [← h1, keys, List.pairwise_append, List.pairwise_cons] at hup2
      obtain ⟨u1, ⟨u2, u3⟩, u4⟩ := hup2
      have hin2 := hin
      rw [← h1] at hin2
      simp only [keys, List.mem_append, List.mem_cons] at hin2
      unfold dep
      by_cases he : a = k
      · rw [if_pos he, if_pos he]
      · rw [if_neg he, if_neg he]
        rw [keys] at h2
        rcases List.append_eq_append_iff.1 h2 with ⟨C, e1, e2⟩ | ⟨C, e1, e2⟩
        · -- A = l'.keys ++ C, a :: r'.keys = C ++ key :: B
          cases C with
          | nil => exact absurd (List.cons.inj e2).1 hak
          | cons c C =>
            obtain ⟨rfl, e3⟩ := List.cons.inj e2
            have hs : l.keys ++ a :: r.keys = l'.keys ++ a :: (C ++ B) := by
              have := h1
              rw [keys, e1] at this
              simpa using this
            obtain ⟨e4, e5⟩ := app_inj _ _ _ _ hs (root_notin ht).1 (root_notin ht').1
            have hl : l' = l := uniq _ _ ht'.2.2.1 ht.2.2.1 e4.symm
            by_cases hk : a < k
            · rw [if_pos hk, if_pos hk]
              have hkr : k ∈ r.keys := by
                rcases hin2 with h | h | h
                · have := u4 k h a (by simp); omega
                · exact absurd h.symm he
                · exact h
              rw [ihr r C B ht.2.2.2 ht'.2.2.2 e5 e3 (by rw [← e5]; exact u3) (by rw [← e5]; exact hkr)]
            · rw [if_neg hk, if_neg hk, hl]
        · -- l'.keys = A ++ C, key :: B = C ++ a :: r'.keys
          cases C with
          | nil => exact absurd (List.cons.inj e2).1.symm hak
          | cons c C =>
            obtain ⟨rfl, e3⟩ := List.cons.inj e2
            have hs : l.keys ++ a :: r.keys = (A ++ C) ++ a :: r'.keys := by
              have := h1
              rw [keys, e3] at this
              simpa using this
            have hac : a ∉ A ++ C := fun hh => (root_notin ht').1 (by
              rw [e1]
              simp only [List.mem_append, List.mem_cons] at hh ⊢
              exact hh.imp id .inr)
            obtain ⟨e4, e5⟩ := app_inj _ _ _ _ hs (root_notin ht).1 hac
            have hr : r' = r := uniq _ _ ht'.2.2.2 ht.2.2.2 e5.symm
            by_cases hk : a < k
            · rw [if_pos hk, if_pos hk, hr]
            · rw [if_neg hk, if_neg hk]
              have hkl : k ∈ l.keys := by
                rcases hin2 with h | h | h
                · exact h
                · exact absurd h.symm he
                · have := u2 k h; omega
              rw [ihl l A C ht.2.2.1 ht'.2.2.1 e4 e1 (by rw [← e4]; exact u1) (by rw [← e4]; exact hkl)]
end KT
theorem kt_keys (k : Nat → Int) : ∀ t : T, (t.kt k).keys = t.ins.map k := by
  intro t
  induction t with
  | leaf => rfl
  | node i l r ihl ihr => simp [T.kt, KT.keys, T.ins, ihl, ihr]
theorem kt_heap (s : List Nd × Int) : ∀ t : T, Heap (Pr s) t → (t.kt (K s)).Heap := by
  intro t
  induction t with
  | leaf => exact fun _ => trivial
  | node i l r ihl ihr =>
    rintro ⟨h1, h2, h3, h4⟩
    refine ⟨fun x hx => ?_, fun x hx => ?_, ihl h3, ihr h4⟩
    · rw [kt_keys] at hx
      obtain ⟨j, hj, rfl⟩ := List.mem_map.1 hx
      exact h1 j hj
    · rw [kt_keys] at hx
      obtain ⟨j, hj, rfl⟩ := List.mem_map.1 hx
      exact h2 j hj
theorem dep_kt (k : Nat → Int) (key : Int) : ∀ t : T, depT (fun j => k j != key) k key t = KT.dep key (t.kt k) := by
  intro t
  induction t with
  | leaf => rfl
  | node i l r ihl ihr =>
    unfold depT T.kt KT.dep
    by_cases he : k i = key
    · simp [he]
    · simp [he, ihl, ihr]
/-- Where a key is. -/
theorem find_good {s : List Nd × Int} {t : T} (h : Good s t) (h64 : s.1.length ≤ 64) {key : Int} (hk : isKey key = true) :
    findF s.1 s.2 key = some (if key ∈ t.ins.map (K s) then ((((KT.dep key (t.kt (K s)) : Nat) : Int), (0 : Int)) : Int × Int) else (0, 4)) := by
  obtain ⟨m, h1, h2, _⟩ := seek_spec (goOther key) key s t (s.1.length + 1) .root h.rep h.nodup (by rw [h.len]; omega) trivial (fun _ _ => no_root)
  unfold findF
  rw [if_neg (h.may h64 hk), h1]
  have e : (fun j => goOther key (nd s.1 j)) = fun j => K s j != key := rfl
  rw [e] at h2 ⊢
  simp only
  rcases sub_other key (K s) t h.up with ⟨h4, h3⟩ | ⟨i, l, r, h3, _, h4⟩
  · rw [h3] at h2
    have e2 : lget s.1 s.2 m = -1 := h2
    rw [if_pos e2, if_neg h4]
  · rw [h3] at h2
    have e2 : lget s.1 s.2 m = i := h2.1
    rw [if_neg (by rw [e2]; omega), if_pos h4, dep_kt]
theorem vis_next (k : Nat → Int) (key : Int) : ∀ (t : T) (best : Int), (t.ins.map k).Pairwise (· < ·) → (visT (fun j => k j != key) k key t).foldl (fun b j => if key ≤ k j then k j else b) best = ((t.ins.map k).find? (fun x => decide (key ≤ x))).getD best := by
  intro t
  induction t with
  | leaf => exact fun best _ => rfl
  | node i l r ihl ihr =>
    intro best hup
    obtain ⟨u1, u2, u3, u4⟩ := up_node k hup
    have hl : k i ≤ key → (l.ins.map k).find? (fun x => decide (key ≤ x)) = none := fun hle => by
      rw [List.find?_eq_none]
      intro x hx
      obtain ⟨j, hj, rfl⟩ := List.mem_map.1 hx
      have := u3 j hj
      simp
      omega
    unfold visT
    rw [List.foldl_cons, T.ins, List.map_append, List.map_cons, List.find?_append, List.find?_cons]
    by_cases he : k i = key
    · rw [if_pos (show (k i != key) = false by simp [he]), List.foldl_nil, if_pos (show key ≤ k i by omega), hl (by omega), decide_eq_true (show key ≤ k i by omega)]
      rfl
    · rw [if_neg (show ¬ (k i != key) = false by simp [he])]
      by_cases hk : k i < key
      · rw [if_pos hk, if_neg (show ¬ key ≤ k i by omega), ihr best u2, hl (by omega), decide_eq_false (show ¬ key ≤ k i by omega)]
        rfl
      · rw [if_neg hk, if_pos (show key ≤ k i by omega), ihl (k i) u1, decide_eq_true (show key ≤ k i by omega)]
        cases (l.ins.map k).find? (fun x => decide (key ≤ x)) with
        | none => rfl
        | some y => rfl
/-- Which key comes next. -/
theorem next_good {s : List Nd × Int} {t : T} (h : Good s t) (h64 : s.1.length ≤ 64) {key : Int} (hk : isKey key = true) :
    nextF s.1 s.2 key = some (match (t.ins.map (K s)).find? (fun x => decide (key ≤ x)) with | some x => (x, 0) | none => (0, 4)) := by
  obtain ⟨m, h1, h2, _⟩ := seek_spec (goOther key) key s t (s.1.length + 1) .root h.rep h.nodup (by rw [h.len]; omega) trivial (fun _ _ => no_root)
  unfold nextF
  rw [if_neg (h.may h64 hk), h1]
  have e : (fun j => goOther key (nd s.1 j)) = fun j => K s j != key := rfl
  rw [e] at h2 ⊢
  simp only
  have hv := vis_next (K s) key t (-1) h.up
  have hf : ((visT (fun j => K s j != key) (K s) key t).map (nd s.1)).foldl (stepN key) (-1) = (visT (fun j => K s j != key) (K s) key t).foldl (fun b j => if key ≤ K s j then K s j else b) (-1) := by
    rw [List.foldl_map]
    rfl
  rw [hf, hv]
  cases hfd : (t.ins.map (K s)).find? (fun x => decide (key ≤ x)) with
  | none => rfl
  | some x =>
    have hx := List.find?_some hfd
    have h0 := (isKey_iff.1 hk).1
    simp only [decide_eq_true_eq] at hx
    show (if x = -1 then _ else _) = _
    rw [if_neg (by omega)]
    rfl
theorem find_bad {ns : List Nd} {root key : Int} (h : mayB ns root key = false) : findF ns root key = some (0, 1) ∧ nextF ns root key = some (0, 1) ∧ putF ns root key = some (([], 0), 1) ∧ delF ns root key = some (([], 0), 1) :=
  ⟨by unfold findF; rw [if_pos h], by unfold nextF; rw [if_pos h], by unfold putF; rw [if_pos h], by unfold delF; rw [if_pos h]⟩
/-- Two trees of the same keys. -/
theorem same_kt {s s' : List Nd × Int} {t t' : T} (h : Good s t) (h' : Good s' t') (e : t.ins.map (K s) = t'.ins.map (K s')) : t.kt (K s) = t'.kt (K s') :=
  KT.uniq _ _ (kt_heap s t h.heap) (kt_heap s' t' h'.heap) (by rw [kt_keys, kt_keys, e])
end Treap
end Go.Proofs.Ytnjnjajgpkmfhaa

/-
  The contract of treap.Put.
-/
namespace Go.Proofs.Ytnjnjajgpkmfhaa
open Go.RowKit
namespace Treap
/-- What treap.Put and treap.Del leave. -/
def Handed (s : List Nd × Int) (er : Int) (w : World) (e : Ending) (w' : World) : Prop := ∃ (A' : Option Addr) (c' : Nat), e = .returned (.tuple #[.agg #[.int .i64 s.2, .slice A' s.1.length c'], .int .i64 er]) ∧ w'.ownsRow w.heap.size 87 3 (.slice A' s.1.length c') s.1.length (s.1.flatMap cells) ∧ Below w.heap.size w w'
theorem appended {w4 w5 : World} {B U n c4 c5 : Nat} {root key : Int} {ns : List Nd} {A4 A5 : Option Addr} (hU : Blk w4 U 70 #[.int .i64 root, .slice A4 n c4]) (hown : w4.ownsRow B 87 3 (.slice A4 n c4) n (ns.flatMap cells)) (hne : (Value.slice A4 n c4).ownBlock ≠ some U)
    (hg : (w4.alloc (.cells #[.int .i64 key, .int .i64 (-1), .int .i64 (-1)] 87)).drew.grownBy w5 (Value.slice A4 n c4).ownBlock) (h5 : w5.ownsRow B 87 3 (.slice A5 (n + 1) c5) (n + 1) (ns.flatMap cells ++ [.int .i64 key, .int .i64 (-1), .int .i64 (-1)]))
    (hb : (Value.slice A5 (n + 1) c5).ownBlock = (Value.slice A4 n c4).ownBlock ∨ (Value.slice A5 (n + 1) c5).ownBlock = some (w4.alloc (.cells #[.int .i64 key, .int .i64 (-1), .int .i64 (-1)] 87)).drew.heap.size) (hBU : B ≤ U) :
    ∃ ad, A5 = some ad ∧ TR (w5.setCell ⟨U, 1, none⟩ (.slice A5 (n + 1) c5)) B U ad (n + 1) c5 root (ns ++ [⟨key, -1, -1⟩]) := by
  have hl : ns.length = n := by have := hown.1; rw [flat_len cells 3 cells_len] at this; omega
  obtain ⟨ad, rfl⟩ : ∃ ad, A5 = some ad := by
    rcases h5.2 with ⟨h0, _⟩ | ⟨g, cap, cur, hv, _⟩
    · cases h0
    · injection hv with a; exact ⟨_, a⟩
  have e : (ns ++ [⟨key, -1, -1⟩] : List Nd).flatMap cells = ns.flatMap cells ++ [.int .i64 key, .int .i64 (-1), .int .i64 (-1)] := by rw [List.flatMap_append]; rfl
  rw [← e] at h5
  obtain ⟨h1, h2, h3⟩ := RowIs.of_own (by simp [hl]) h5
  have hUlt := hU.lt
  have hne5 : ad.block ≠ U := by
    have ho : (Value.slice (some ad) (n + 1) c5).ownBlock = some ad.block := by rw [h3]; rfl
    rw [ho] at hb
    rcases hb with hb | hb
    · rintro rfl
      exact hne hb.symm
    · have hs : (w4.alloc (.cells #[.int .i64 key, .int .i64 (-1), .int .i64 (-1)] 87)).drew.heap.size = w4.heap.size + 1 := by show (w4.alloc _).heap.size = _; simp
      rw [hs] at hb
      have := Option.some.inj hb
      omega
  have hU5 : Blk w5 U 70 #[.int .i64 root, .slice A4 n c4] := (hU.alloc _).drew.grown hg (fun e => hne e.symm)
  exact ⟨ad, rfl, hU5.set_ 1 _, h1.block (Below.heap_setCell w5 ⟨U, 1, none⟩ _ ad.block hne5), h3, hne5, hBU, h2⟩
theorem via_cont {α β γ : Type} {F C : α → β → γ → Prop} {G : Prop} (h1 : (∀ a b c, F a b c → C a b c) → G) (h2 : ∀ a b c, F a b c → C a b c) : G := h1 h2
theorem infoT : (Try.prog.info? 70).map (·.size) = some 2 := by kernel_rfl
theorem results_tree {fn : Func} {p u : Tmp} (h : fn.results = #[.cell p 70, .tmp u]) (tmps : Array Value) (w : World) (g : Nat) (a b : Value)
    (hp : tmps.getD p undef = .pointer (some ⟨g, 0, none⟩)) (hg : Blk w g 70 #[a, b]) :
    (results fn tmps).run Try.prog w = .ok (.tuple #[.agg #[a, b], tmps.getD u undef]) w := by
  have hp' : tmps[p]?.getD undef = .pointer (some ⟨g, 0, none⟩) := by simpa using hp
  simp [results, h, hp', asAddr, run_loadVar_row w g 70 70 #[a, b] (0, 0) _ hg Try.underlying70 rfl infoT]
set_option maxRecDepth 100000 in
set_option maxHeartbeats 4000000 in
theorem put_any (root key : Int) (ns : List Nd) (A : Option Addr) (n c : Nat) (hn : n ≤ 1000) (r : (List Nd × Int) × Int) (w : World) (hr : Reads w w.heap.size 3 A n (ns.flatMap cells)) (hf : putF ns root key = some r) :
    Calls Try.prog 67 #[.agg #[.int .i64 root, .slice A n c], .int .i64 key] w (Handed r.1 r.2 w) := by
  have hl : ns.length = n := by have := hr.1; rw [flat_len cells 3 cells_len] at this; omega
  obtain ⟨i0, hi, hz0, hz1, hz2⟩ := info_parts infoN3
  have hT := ((Blk.new w 70 #[.int .i64 root, .slice A n c]).alloc (.cells #[.int .i64 key] 3)).alloc (.cells #[.int .i64 0, .slice none 0 0] 70)
  have hK := (Blk.new (w.alloc (.cells #[.int .i64 root, .slice A n c] 70)) 3 #[.int .i64 key]).alloc (.cells #[.int .i64 0, .slice none 0 0] 70)
  have hRc := Blk.new ((w.alloc (.cells #[.int .i64 root, .slice A n c] 70)).alloc (.cells #[.int .i64 key] 3)) 70 #[.int .i64 0, .slice none 0 0]
  have hb0 := (((Below.refl w.heap.size w).alloc (Nat.le_refl _) (.cells #[.int .i64 root, .slice A n c] 70)).alloc (by simp) (.cells #[.int .i64 key] 3)).alloc (by simp; omega) (.cells #[.int .i64 0, .slice none 0 0] 70)
  rw [World.size_alloc] at hK
  rw [World.size_alloc, World.size_alloc] at hRc
  have HB0 := Lib.hid hb0
  have HT := Lib.hid hT
  have HKb := Lib.hid hK
  have HRc := Lib.hid hRc
  have HR := Lib.hid hr
  have HL := Lib.hid hl
  have HF := Lib.hid hf
  clear hT hb0 hr hl hf hK hRc
  go_enter Try.func67, Try.ntmps67
  go_wp2_with fail
  obtain ⟨w0, hw0⟩ : ∃ W, ((w.alloc (.cells #[.int .i64 root, .slice A n c] 70)).alloc (.cells #[.int .i64 key] 3)).alloc (.cells #[.int .i64 0, .slice none 0 0] 70) = W := ⟨_, rfl⟩
  rw [hw0] at HB0 HT HKb HRc ⊢
  clear hw0
  refine (may_any root key ns A n c hn w0 ((HR.out.below HB0.out).more HB0.out.size)).mono ?_
  rintro e w1 ⟨rfl, hb1⟩
  have HB1 := Lib.hid (bthen HB0.out hb1)
  have HT1 := Lib.hid (HT.out.below hb1 HT.out.lt)
  have HK1 := Lib.hid (HKb.out.below hb1 HKb.out.lt)
  have hRc1 := HRc.out.below hb1 HRc.out.lt
  have HRc1 := Lib.hid hRc1
  have f0 := fun i => hRc1.frozen i
  have r0 : w1.cell? ⟨w.heap.size + 1 + 1, 0, none⟩ = some (.int .i64 0) := by rw [hRc1.cell]; rfl
  have r1 : w1.cell? ⟨w.heap.size + 1 + 1, 1, none⟩ = some (.slice none 0 0) := by rw [hRc1.cell]; rfl
  clear hRc1
  cases hm : mayB ns root key with
  | false =>
    have hf := HF.out
    unfold putF at hf
    rw [if_pos hm] at hf
    obtain rfl := Option.some.inj hf
    clear hm hb1 hf
    go_wp2_with fail
    have hz := (HRc1.out.set_ 0 (.int .i64 0)).set_ 1 (.slice none 0 0)
    have hB2 := (HB1.out.setCell (p := ⟨w.heap.size + 1 + 1, 0, none⟩) (by show w.heap.size ≤ w.heap.size + 1 + 1; omega) (.int .i64 0)).setCell (p := ⟨w.heap.size + 1 + 1, 1, none⟩) (by show w.heap.size ≤ w.heap.size + 1 + 1; omega) (.slice none 0 0)
    refine bodyPost_ret (results_tree (p := 4) (u := 5) (by kernel_rfl) _ _ _ _ _ rfl hz) rfl ?_
    exact ⟨none, 0, rfl, World.ownsRow_nil _ _ _ _, hB2⟩
  | true =>
    have hf := HF.out
    unfold putF at hf
    rw [if_neg (by rw [hm]; simp)] at hf
    have h64 := right_few hm
    cases hs : seekF (goOther key) key ns root (ns.length + 1) .root with
    | none => rw [hs] at hf; cases hf
    | some q =>
      obtain ⟨l, d, xs⟩ := q
      rw [hs] at hf
      have HF2 := Lib.hid hf
      have HS := Lib.hid hs
      have HRW := Lib.hid ((HR.out.below HB1.out).more HB1.out.size)
      have k0 : w1.cell? ⟨w.heap.size + 1, 0, none⟩ = some (.int .i64 key) := by rw [HK1.out.cell]; rfl
      have hs1 : w.heap.size + 1 < w1.heap.size := HK1.out.lt
      have hT1l := HT1.out.lt
      clear hm hb1 hf hs
      go_wp2_with fail
      have hD0 := (Below.refl w1.heap.size w1).drew
      go_region_held3 (fun w' => Below w1.heap.size w1 w' ∧ w'.cell? ⟨w.heap.size + 1, 0, none⟩ = some (.int .i64 key)) (first | exact ⟨hD0, k0⟩ | exact ⟨by assumption, by assumption⟩)
        (first
          | (go_at_call 70; refine (other_any key _).mono ?_; rintro e w2 ⟨rfl, hw2⟩; have hKq := Blk.new w1.drew 3 #[.int .i64 key]; have hB2 := hD0.alloc (Nat.le_refl _) (.cells #[.int .i64 key] 3); have k2 := (hB2.cell (p := ⟨w.heap.size + 1, 0, none⟩) hs1).trans k0; rw [hw2] at hKq hB2 k2; clear hw2)
          | (go_at_call 69; refine (seek_any (onOther w1.heap.size key) () key root ns A n c w1.heap.size w.heap.size (ns.length + 1) l d xs (by have := HL.out; omega) w2 (HT1.out.below hB2 hT1l) (HRW.out.below hB2) hB2.size (fun h => Nat.ne_of_lt hT1l h) (fun ad hA h0 h => by
              obtain ⟨ad', hA', hb, _⟩ := HRW.out.2 h0
              rw [hA] at hA'
              obtain rfl := Option.some.inj hA'
              exact Nat.ne_of_lt hb h) hKq HS.out).mono ?_; rintro e w3 ⟨rfl, hlk, _, hkp⟩; have hB3 := hB2.trans (hkp.below_ hB2.size (fun k hk => Nat.le_of_eq (show w1.heap.size = k from hk.symm))); have k3 := (hB3.cell (p := ⟨w.heap.size + 1, 0, none⟩) hs1).trans k0; clear hkp))
      rename_i hHeld
      have hb3 := bthen HB1.out hB3
      have HB3 := Lib.hid hb3
      have HT3 := Lib.hid (HT1.out.below hB3 hT1l)
      have HK3 := Lib.hid (HK1.out.below hB3 hs1)
      have hRc3 := HRc1.out.below hB3 HRc1.out.lt
      have HRc3 := Lib.hid hRc3
      have cl := link_at HT3.out (HR.out.below hb3) hlk
      have cT0 : w3.cell? ⟨w.heap.size, 0, none⟩ = some (.int .i64 root) := by rw [HT3.out.cell]; rfl
      have cT1 : w3.cell? ⟨w.heap.size, 1, none⟩ = some (.slice A n c) := by rw [HT3.out.cell]; rfl
      have f3 := fun i => hRc3.frozen i
      have q0 : w3.cell? ⟨w.heap.size + 1 + 1, 0, none⟩ = some (.int .i64 0) := by rw [hRc3.cell]; rfl
      have q1 : w3.cell? ⟨w.heap.size + 1 + 1, 1, none⟩ = some (.slice none 0 0) := by rw [hRc3.cell]; rfl
      obtain ⟨p, hp⟩ : ∃ p, lkA w.heap.size A l = p := ⟨_, rfl⟩
      rw [hp] at cl ⊢
      clear hHeld hb3 hRc3 hp hB3 hB2 hKq k2 hD0 hlk f0 r0 r1 k0 hs1 hT1l
      by_cases h1 : lget ns root l = -1
      · have hf := HF2.out
        simp only [h1, ne_eq, not_true_eq_false, if_false] at hf
        rw [h1] at cl
        by_cases h6 : n = 64
        · rw [if_pos (by rw [HL.out]; exact h6)] at hf
          obtain rfl := Option.some.inj hf
          subst h6
          clear hf h1 HF HF2
          go_wp2_with fail
          have hz := (HRc3.out.set_ 0 (.int .i64 0)).set_ 1 (.slice none 0 0)
          have hB2 := (HB3.out.setCell (p := ⟨w.heap.size + 1 + 1, 0, none⟩) (by show w.heap.size ≤ w.heap.size + 1 + 1; omega) (.int .i64 0)).setCell (p := ⟨w.heap.size + 1 + 1, 1, none⟩) (by show w.heap.size ≤ w.heap.size + 1 + 1; omega) (.slice none 0 0)
          refine bodyPost_ret (results_tree (p := 4) (u := 5) (by kernel_rfl) _ _ _ _ _ rfl hz) rfl ?_
          exact ⟨none, 0, rfl, World.ownsRow_nil _ _ _ _, hB2⟩
        · rw [if_neg (by rw [HL.out]; exact h6)] at hf
          have d6 : ((n : Int) == 64) = false := beq_eq_false_iff_ne.2 (by omega)
          cases hs2 : seekF (goHeavy key) key (ns ++ [⟨key, -1, -1⟩]) root (ns.length + 2) .root with
          | none => rw [hs2] at hf; cases hf
          | some q2 =>
            obtain ⟨m, d2, xs2⟩ := q2
            rw [hs2] at hf
            have HS2 := Lib.hid hs2
            cases hsp : splitF key (ns.length + 2) (lset (ns ++ [⟨key, -1, -1⟩], root) m ns.length) (lget (ns ++ [⟨key, -1, -1⟩]) root m) (.left ns.length) (.right ns.length) with
            | none => simp only [hsp] at hf; cases hf
            | some s =>
              simp only [hsp] at hf
              obtain rfl := Option.some.inj hf
              have HSP := Lib.hid hsp
              clear hf h1 h6 hs2 hsp HF HF2
              go_wp2_with fail
              refine (own_any root ns A n c hn w3 ((HR.out.below HB3.out).more HB3.out.size)).mono ?_
              rintro e w4 ⟨U, A4, c4, rfl, hU0, hU, hown, hb4⟩
              have hne4 : (Value.slice A4 n c4).ownBlock ≠ some U := own_blk_ne hown hU (by decide)
              have HB4 := Lib.hid (bthen HB3.out hb4)
              have hK4 := HK3.out.below hb4 HK3.out.lt
              have HK4 := Lib.hid hK4
              have HRc4 := Lib.hid (HRc3.out.below hb4 HRc3.out.lt)
              have HU := Lib.hid hU
              have HOWN := Lib.hid hown
              have HNE4 := Lib.hid hne4
              have HNR : Hid (some (w.heap.size + 1 + 1) ≠ (Value.slice A4 n c4).ownBlock) := fun e => by have := (hown.lt _ e.symm).1; have := HRc3.out.lt; omega
              have HKU : Hid (w.heap.size + 1 ≠ U) := by unfold Hid; have := HK3.out.lt; omega
              have HRU : Hid (w.heap.size + 1 + 1 ≠ U) := by unfold Hid; have := HRc3.out.lt; omega
              have HNK : Hid (some (w.heap.size + 1) ≠ (Value.slice A4 n c4).ownBlock) := fun e => by have := (hown.lt _ e.symm).1; have := HK3.out.lt; omega
              have k4 : w4.cell? ⟨w.heap.size + 1, 0, none⟩ = some (.int .i64 key) := by rw [hK4.cell]; rfl
              have k4a : ∀ o, (w4.alloc o).cell? ⟨w.heap.size + 1, 0, none⟩ = some (.int .i64 key) := fun o => by rw [(hK4.alloc o).cell]; rfl
              have u4 : w4.cell? ⟨U, 1, none⟩ = some (.slice A4 n c4) := by rw [hU.cell]; rfl
              have u4a : ∀ o, (w4.alloc o).cell? ⟨U, 1, none⟩ = some (.slice A4 n c4) := fun o => by rw [(hU.alloc o).cell]; rfl
              have hc1 := Reads.of_blk (n := 1) (size := 3) (Blk.new w4 87 #[.int .i64 key, .int .i64 (-1), .int .i64 (-1)]) rfl
              have hc2 := World.ownsRow.alloc hown (.cells #[.int .i64 key, .int .i64 (-1), .int .i64 (-1)] 87)
              have g1 : Hid (∀ u ∈ [Value.int .i64 key, .int .i64 (-1), .int .i64 (-1)], u.oneCell' = true) := by intro u hu; simp at hu; rcases hu with rfl | rfl <;> rfl
              have g2 : Hid (n + 1 ≤ maxLen) := by unfold Hid; simp [maxLen]; omega
              have g3 : Hid ((n + 1) * 24 ≤ 140737488355328) := by unfold Hid; omega
              have g4 : Hid (w3.heap.size ≤ (w4.alloc (.cells #[.int .i64 key, .int .i64 (-1), .int .i64 (-1)] 87)).heap.size) := by unfold Hid; have := hb4.size; simp; omega
              have HSZ : Hid (w3.heap.size ≤ w4.heap.size) := hb4.size
              clear hU hown hne4 hb4 hK4 cl cT0 cT1 f3 q0 q1
              go_wp2_with fail
              apply via_cont (F := fun (w5 : World) (A5 : Option Addr) (c5 : Nat) => w5.ownsRow w3.heap.size 87 3 (.slice A5 (n + 1) c5) (n + 1) (ns.flatMap cells ++ [.int .i64 key, .int .i64 (-1), .int .i64 (-1)]) ∧ (w4.alloc (.cells #[.int .i64 key, .int .i64 (-1), .int .i64 (-1)] 87)).drew.grownBy w5 (Value.slice A4 n c4).ownBlock ∧ ((Value.slice A5 (n + 1) c5).ownBlock = (Value.slice A4 n c4).ownBlock ∨ (Value.slice A5 (n + 1) c5).ownBlock = some (w4.alloc (.cells #[.int .i64 key, .int .i64 (-1), .int .i64 (-1)] 87)).drew.heap.size))
              case h1 =>
                intro CONT
                go_region_law ((refine step_append_any _ (by rfl) _ _ 68 (by rfl) w3.heap.size 87 i0 (.agg #[.int .i64 0, .int .i64 0, .int .i64 0]) 3 24 Try.underlying68 hi hz0 hz1 hz2 rfl (by decide) (.slice A4 n c4) n (ns.flatMap cells) (by rfl) hc2 _ (some ⟨w4.heap.size, 0, none⟩) 1 1 [.int .i64 key, .int .i64 (-1), .int .i64 (-1)] (by rfl) hc1 g1.out g2.out g3.out g4.out ?_; intro v' w5 hown5 hgrow5 hblk5; obtain ⟨A5, c5, rfl, _, _, _⟩ := own_reads3 hown5; have hU5 := (HU.out.alloc (.cells #[.int .i64 key, .int .i64 (-1), .int .i64 (-1)] 87)).drew.grown hgrow5 (fun e => HNE4.out e.symm); have f5 := hU5.frozen 1; have u5 : w5.cell? ⟨U, 1, none⟩ = some (.slice A4 n c4) := by rw [hU5.cell]; rfl))
                all_goals exact CONT w5 A5 c5 ⟨hown5, hgrow5, hblk5⟩
              rintro w5 A5 c5 ⟨hown5, hgrow5, hblk5⟩
              have hap := appended (ns := ns) HU.out HOWN.out HNE4.out hgrow5 hown5 hblk5 hU0
              obtain ⟨ad, rfl, htr⟩ := hap
              have hK6 := ((HK4.out.alloc (.cells #[.int .i64 key, .int .i64 (-1), .int .i64 (-1)] 87)).drew.grown hgrow5 HNK.out).far (p := ⟨U, 1, none⟩) HKU.out (.slice (some ad) (n + 1) c5)
              have hRc6 := ((HRc4.out.alloc (.cells #[.int .i64 key, .int .i64 (-1), .int .i64 (-1)] 87)).drew.grown hgrow5 HNR.out).far (p := ⟨U, 1, none⟩) HRU.out (.slice (some ad) (n + 1) c5)
              have hb6 := (((HB4.out.alloc HB4.out.size (.cells #[.int .i64 key, .int .i64 (-1), .int .i64 (-1)] 87)).drew).grown hgrow5 (by have := HB4.out.size; show w.heap.size ≤ (w4.alloc _).heap.size; simp; omega) (fun g hg => Nat.le_trans HB3.out.size (HOWN.out.lt g hg).1)).setCell (p := ⟨U, 1, none⟩) (Nat.le_trans HB3.out.size hU0) (.slice (some ad) (n + 1) c5)
              obtain ⟨w6, hw6⟩ : ∃ W, w5.setCell ⟨U, 1, none⟩ (.slice (some ad) (n + 1) c5) = W := ⟨_, rfl⟩
              rw [hw6] at htr hK6 hRc6 hb6 ⊢
              have HTR := Lib.hid htr
              have HK6 := Lib.hid hK6
              have HRc6 := Lib.hid hRc6
              have HB6 := Lib.hid hb6
              have k6 : w6.cell? ⟨w.heap.size + 1, 0, none⟩ = some (.int .i64 key) := by rw [hK6.cell]; rfl
              have u6 : w6.cell? ⟨U, 1, none⟩ = some (.slice (some ad) (n + 1) c5) := by rw [htr.box.cell]; rfl
              have hwn : Value.int .i64 (wrap64 (((n + 1 : Nat) : Int) - 1)) = .int .i64 (n : Int) := by congr 1; unfold wrap64; omega
              clear htr hK6 hRc6 hb6 hw6 hown5 hgrow5 hblk5 k4 k4a u4 u4a hc1 hc2 g1 g2 g3 g4 
              go_wp2_with fail
              have hnk : ¬ (onPut (w.heap.size + 1) key).own U := fun h => HKU.out (show U = w.heap.size + 1 from h).symm
              have hnk2 : ¬ (onPut (w.heap.size + 1) key).own ad.block := fun h => by
                have h : ad.block = w.heap.size + 1 := h
                have := HTR.out.loA
                have := HK3.out.lt
                omega
              refine (seek_any (onPut (w.heap.size + 1) key) () key root (ns ++ [(⟨key, -1, -1⟩ : Nd)]) (some ad) (n + 1) c5 w6.heap.size U (ns.length + 2) m d2 xs2 (by have := HL.out; omega) w6 HTR.out.box HTR.out.reads (Nat.le_refl _) hnk (fun ad' hA _ => by
                obtain rfl := Option.some.inj hA
                exact hnk2) HK6.out HS2.out).mono ?_
              rintro e w7 ⟨rfl, hlm, hK7, hkp⟩
              have htr7 := HTR.out.kp hkp hnk hnk2
              have hRc7 := HRc6.out.kp hkp (fun h => by have h : w.heap.size + 1 + 1 = w.heap.size + 1 := h; omega)
              have hb7 := HB6.out.trans (hkp.below_ HB6.out.size (fun k hk => by have hk : k = w.heap.size + 1 := hk; omega))
              have hK7' : Blk w7 (w.heap.size + 1) 3 #[.int .i64 key] := hK7
              have cm := htr7.link hlm
              have fm := htr7.frozen m
              have HTR7 := Lib.hid htr7
              have HRc7 := Lib.hid hRc7
              have HB7 := Lib.hid hb7
              have HK7 := Lib.hid hK7'
              have HLM := Lib.hid hlm
              have u7 : w7.cell? ⟨U, 1, none⟩ = some (.slice (some ad) (n + 1) c5) := by rw [htr7.box.cell]; rfl
              obtain ⟨pm, hpm⟩ : ∃ p, lkA U (some ad) m = p := ⟨_, rfl⟩
              rw [hpm] at cm fm ⊢
              have HPM := Lib.hid hpm
              have hpne : ∀ k, k < w3.heap.size → k ≠ pm.block := fun k hk e => by
                have := HTR.out.lo m
                rw [hpm] at this
                omega
              have HPNE := Lib.hid hpne
              clear hnk hnk2 hkp htr7 hRc7 hb7 hK7 hK7' hpm hlm hpne k6 u6 hwn
              go_wp2_with fail
              have htr8 := HTR7.out.set HLM.out (n : Int)
              rw [HPM.out] at htr8
              have hK8 := HK7.out.far (p := pm) (HPNE.out _ HK3.out.lt) (.int .i64 n)
              have hRc8 := HRc7.out.far (p := pm) (HPNE.out _ HRc3.out.lt) (.int .i64 n)
              have hb8 := HB7.out.setCell (p := pm) (by have := HTR7.out.lo m; rw [HPM.out] at this; exact Nat.le_trans HB3.out.size this) (.int .i64 n)
              obtain ⟨w8, hw8⟩ : ∃ W, w7.setCell pm (.int .i64 n) = W := ⟨_, rfl⟩
              rw [hw8] at htr8 hK8 hRc8 hb8 ⊢
              have u8 : w8.cell? ⟨U, 1, none⟩ = some (.slice (some ad) (n + 1) c5) := by rw [htr8.box.cell]; rfl
              have HTR8 := Lib.hid htr8
              have HK8 := Lib.hid hK8
              have HRc8 := Lib.hid hRc8
              have HB8 := Lib.hid hb8
              clear htr8 hK8 hRc8 hb8 hw8 cm fm u7
              go_quiet (fail)
              obtain ⟨w9, hw9⟩ : ∃ W, w8.drewN nq = W := ⟨_, rfl⟩
              have htr9 := HTR8.out.drewN nq
              have hK9 := HK8.out.drewN nq
              have hRc9 := HRc8.out.drewN nq
              have hb9 := below_drewN HB8.out nq
              rw [hw9] at htr9 hK9 hRc9 hb9 ⊢
              have HTR9 := Lib.hid htr9
              have HK9 := Lib.hid hK9
              have HRc9 := Lib.hid hRc9
              have HB9 := Lib.hid hb9
              have hs9 : w9.heap.size = w8.heap.size := by rw [← hw9]; rfl
              have HKA : Hid (w.heap.size + 1 ≠ ad.block) := by unfold Hid; have := HTR9.out.loA; have := HK3.out.lt; omega
              have HRA : Hid (w.heap.size + 1 + 1 ≠ ad.block) := by unfold Hid; have := HTR9.out.loA; have := HRc3.out.lt; omega
              have HLN : Hid (ns.length = n) := HL.out
              clear htr9 hK9 hRc9 hb9 hw9 u8
              go_wp2_with fail
              go_loopg [12, 13, 14] (ns.length + 2) (fun k v12 v13 v14 wr => ∃ (s' : List Nd × Int) (rest : Int) (l' r' : Lk), v12 = .int .i64 rest ∧ v13 = .pointer (some (lkA U (some ad) l')) ∧ v14 = .pointer (some (lkA U (some ad) r')) ∧ splitF key k s' rest l' r' = some s ∧ lok (n + 1) l' ∧ lok (n + 1) r' ∧ TR wr w3.heap.size U ad (n + 1) c5 s'.2 s'.1 ∧ Kp (fun k => k = U ∨ k = ad.block) w9 wr)
              case atStart => exact ⟨_, _, .left ns.length, .right ns.length, rfl, by rw [HLN.out]; rfl, by rw [HLN.out]; rfl, HSP.out, by show ns.length < n + 1; have := HLN.out; omega, by show ns.length < n + 1; have := HLN.out; omega, by rw [HLN.out]; exact HTR9.out, Kp.refl _ _⟩
              case round =>
                obtain ⟨s', rest, l', r', rfl, rfl, rfl, hsp, hl', hr', htr, hkp⟩ := hrel
                obtain ⟨k, rfl⟩ : ∃ q, gk = q + 1 := ⟨gk - 1, by cases gk with | zero => cases hsp | succ g => rfl⟩
                unfold splitF at hsp
                have hKr := HK9.out.kp hkp (fun h => by rcases h with h | h; exact HKU.out h; exact HKA.out h)
                have hRcr := HRc9.out.kp hkp (fun h => by rcases h with h | h; exact HRU.out h; exact HRA.out h)
                have hbr := HB9.out.trans (hkp.below_ HB9.out.size (fun k hk => by
                  have := HB3.out.size
                  have := HTR9.out.loU
                  have := HTR9.out.loA
                  rcases hk with rfl | rfl <;> omega))
                have hlr := htr.len
                have HL' := Lib.hid hl'
                have HR' := Lib.hid hr'
                have HTRr := Lib.hid htr
                have HKP := Lib.hid hkp
                have HKr := Lib.hid hKr
                have HRcr := Lib.hid hRcr
                have HBr := Lib.hid hbr
                have kr : wr.cell? ⟨w.heap.size + 1, 0, none⟩ = some (.int .i64 key) := by rw [hKr.cell]; rfl
                have ur : wr.cell? ⟨U, 1, none⟩ = some (.slice (some ad) (n + 1) c5) := by rw [htr.box.cell]; rfl
                have cl' := htr.link hl'
                have fl' := htr.frozen l'
                have cr' := htr.link hr'
                have fr' := htr.frozen r'
                obtain ⟨pl, hpl⟩ : ∃ p, lkA U (some ad) l' = p := ⟨_, rfl⟩
                obtain ⟨pr, hpr⟩ : ∃ p, lkA U (some ad) r' = p := ⟨_, rfl⟩
                rw [hpl] at cl' fl' ⊢
                rw [hpr] at cr' fr' ⊢
                have HPL := Lib.hid hpl
                have HPR := Lib.hid hpr
                clear hl' hr' htr hkp hKr hRcr hbr hpl hpr
                by_cases h1 : rest = -1
                · rw [if_pos h1] at hsp
                  subst h1
                  obtain rfl := Option.some.inj hsp
                  have htr2 := HTRr.out.set HL'.out (-1)
                  rw [HPL.out] at htr2
                  have crq := htr2.link HR'.out
                  have frq := htr2.frozen r'
                  rw [HPR.out] at crq frq
                  have htr3 := htr2.set HR'.out (-1)
                  rw [HPR.out] at htr3
                  have hbl1 : w3.heap.size ≤ pl.block := by have := HTRr.out.lo l'; rwa [HPL.out] at this
                  have hbl2 : w3.heap.size ≤ pr.block := by have := HTRr.out.lo r'; rwa [HPR.out] at this
                  have hlt3 := HRc3.out.lt
                  have hRc2 := (HRcr.out.far (p := pl) (fun e => by omega) (.int .i64 (-1))).far (p := pr) (fun e => by omega) (.int .i64 (-1))
                  have hb2 := (HBr.out.setCell (p := pl) (Nat.le_trans HB3.out.size hbl1) (.int .i64 (-1))).setCell (p := pr) (Nat.le_trans HB3.out.size hbl2) (.int .i64 (-1))
                  have x0 : ((wr.setCell pl (.int .i64 (-1))).setCell pr (.int .i64 (-1))).cell? ⟨U, 0, none⟩ = some (.int .i64 (lset (lset s' l' (-1)) r' (-1)).2) := by rw [htr3.box.cell]; rfl
                  have x1 : ((wr.setCell pl (.int .i64 (-1))).setCell pr (.int .i64 (-1))).cell? ⟨U, 1, none⟩ = some (.slice (some ad) (n + 1) c5) := by rw [htr3.box.cell]; rfl
                  have y0 : ((wr.setCell pl (.int .i64 (-1))).setCell pr (.int .i64 (-1))).cell? ⟨w.heap.size + 1 + 1, 0, none⟩ = some (.int .i64 0) := by rw [hRc2.cell]; rfl
                  have y1 : ((wr.setCell pl (.int .i64 (-1))).setCell pr (.int .i64 (-1))).cell? ⟨w.heap.size + 1 + 1, 1, none⟩ = some (.slice none 0 0) := by rw [hRc2.cell]; rfl
                  have yf := fun i => hRc2.frozen i
                  have HTRz := Lib.hid htr3
                  have HRcz := Lib.hid hRc2
                  have HBz := Lib.hid hb2
                  have HLz : Hid ((lset (lset s' l' (-1)) r' (-1)).1.length = n + 1) := htr3.len
                  clear hsp htr2 htr3 hRc2 hb2 hbl1 hbl2 hlt3
                  go_wp2_with fail
                  have hz := (HRcz.out.set_ 0 (.int .i64 (lset (lset s' l' (-1)) r' (-1)).2)).set_ 1 (.slice (some ad) (n + 1) c5)
                  have hB2 := (HBz.out.setCell (p := ⟨w.heap.size + 1 + 1, 0, none⟩) (by show w.heap.size ≤ w.heap.size + 1 + 1; omega) (.int .i64 (lset (lset s' l' (-1)) r' (-1)).2)).setCell (p := ⟨w.heap.size + 1 + 1, 1, none⟩) (by show w.heap.size ≤ w.heap.size + 1 + 1; omega) (.slice (some ad) (n + 1) c5)
                  have ht1 := HTRz.out.keep (w' := ((wr.setCell pl (.int .i64 (-1))).setCell pr (.int .i64 (-1))).setCell ⟨w.heap.size + 1 + 1, 0, none⟩ (.int .i64 (lset (lset s' l' (-1)) r' (-1)).2)) (Below.heap_setCell _ ⟨w.heap.size + 1 + 1, 0, none⟩ _ U (fun e => HRU.out e.symm)) (Below.heap_setCell _ ⟨w.heap.size + 1 + 1, 0, none⟩ _ ad.block (fun e => HRA.out e.symm))
                  have ht2 := ht1.keep (w' := (((wr.setCell pl (.int .i64 (-1))).setCell pr (.int .i64 (-1))).setCell ⟨w.heap.size + 1 + 1, 0, none⟩ (.int .i64 (lset (lset s' l' (-1)) r' (-1)).2)).setCell ⟨w.heap.size + 1 + 1, 1, none⟩ (.slice (some ad) (n + 1) c5)) (Below.heap_setCell _ ⟨w.heap.size + 1 + 1, 1, none⟩ _ U (fun e => HRU.out e.symm)) (Below.heap_setCell _ ⟨w.heap.size + 1 + 1, 1, none⟩ _ ad.block (fun e => HRA.out e.symm))
                  refine bodyPost_ret (results_tree (p := 4) (u := 5) (by kernel_rfl) _ _ _ _ _ rfl hz) rfl ?_
                  refine ⟨some ad, c5, ?_, ?_, hB2⟩
                  · rw [HLz.out]; rfl
                  · rw [HLz.out]; exact own_base ht2.own HB3.out.size
                · rw [if_neg h1] at hsp
                  by_cases h2 : rest < 0 ∨ (s'.1.length : Int) ≤ rest
                  · rw [if_pos h2] at hsp; cases hsp
                  · rw [if_neg h2] at hsp
                    obtain ⟨i, rfl⟩ : ∃ i : Nat, rest = i := ⟨rest.toNat, by omega⟩
                    rw [Int.toNat_natCast] at hsp
                    have hin : i < n + 1 := by omega
                    have d1 : ((i : Int) != -1) = true := bne_iff_ne.2 h1
                    obtain ⟨ad', hA', hbl, n0, n1, n2⟩ := node_at HTRr.out.reads hin
                    obtain rfl := Option.some.inj hA'
                    have HLR := Lib.hid hlr
                    obtain ⟨kx, hkx⟩ : ∃ x, (nd s'.1 i).key = x := ⟨_, rfl⟩
                    rw [hkx] at n0 hsp
                    have e1 : (⟨(ad.add (i * 3)).block, (ad.add (i * 3)).off + 1, none⟩ : Addr) = lkA U (some ad) (.left i) := rfl
                    have e2 : (⟨(ad.add (i * 3)).block, (ad.add (i * 3)).off + 2, none⟩ : Addr) = lkA U (some ad) (.right i) := rfl
                    have E1 := Lib.hid e1
                    have E2 := Lib.hid e2
                    clear h1 h2 hA' hbl hkx hlr e1 e2 n1 n2
                    by_cases hk : kx < key
                    · rw [if_pos hk] at hsp
                      have dk : decide (kx < key) = true := decide_eq_true hk
                      have htr2 : ∀ q, TR ((wr.drewN q).setCell pl (.int .i64 i)) w3.heap.size U ad (n + 1) c5 (lset s' l' i).2 (lset s' l' i).1 := fun q => by
                        have := (HTRr.out.drewN q).set HL'.out (i : Int)
                        rwa [HPL.out] at this
                      have cR : ∀ q, ((wr.drewN q).setCell pl (.int .i64 i)).cell? ⟨(ad.add (i * 3)).block, (ad.add (i * 3)).off + 2, none⟩ = some (.int .i64 (nd (lset s' l' i).1 i).right) := fun q => by
                        rw [E2.out]
                        exact (htr2 q).link (l := .right i) hin
                      have HTR2 := Lib.hid htr2
                      have HSPk := Lib.hid hsp
                      clear hk htr2 hsp
                      go_wp2_with fail
                      go_quiet (fail)
                      obtain ⟨wq, hwq⟩ : ∃ W, wr.drewN nq = W := ⟨_, rfl⟩
                      have cR2 := cR nq
                      have htr3 := HTR2.out nq
                      have hkp3 := (HKP.out.more (below_drewN (Below.refl wr.heap.size wr) nq)).setCell (p := pl) (.inl (by
                        have := lkA_block (U := U) (ad := ad) l'
                        rw [HPL.out] at this
                        exact this)) (.int .i64 i)
                      have clq : (wr.drewN nq).cell? pl = some (.int .i64 (lget s'.1 s'.2 l')) := cl'
                      have flq : (wr.drewN nq).frozen? pl = false := fl'
                      rw [hwq] at cR2 htr3 hkp3 clq flq ⊢
                      have HTR3 := Lib.hid htr3
                      have HKP3 := Lib.hid hkp3
                      clear cR htr3 hkp3 hwq
                      go_wp2_with fail
                      go_roundg k
                      case measure => omega
                      case rel => exact ⟨_, _, .right i, r', rfl, by rw [← E2.out], by rw [← HPR.out], HSPk.out, hin, HR'.out, HTR3.out, HKP3.out⟩
                    · rw [if_neg hk] at hsp
                      have dk : decide (kx < key) = false := decide_eq_false hk
                      have htr2 : ∀ q, TR ((wr.drewN q).setCell pr (.int .i64 i)) w3.heap.size U ad (n + 1) c5 (lset s' r' i).2 (lset s' r' i).1 := fun q => by
                        have := (HTRr.out.drewN q).set HR'.out (i : Int)
                        rwa [HPR.out] at this
                      have cR : ∀ q, ((wr.drewN q).setCell pr (.int .i64 i)).cell? ⟨(ad.add (i * 3)).block, (ad.add (i * 3)).off + 1, none⟩ = some (.int .i64 (nd (lset s' r' i).1 i).left) := fun q => by
                        rw [E1.out]
                        exact (htr2 q).link (l := .left i) hin
                      have HTR2 := Lib.hid htr2
                      have HSPk := Lib.hid hsp
                      clear hk htr2 hsp
                      go_wp2_with fail
                      go_quiet (fail)
                      obtain ⟨wq, hwq⟩ : ∃ W, wr.drewN nq = W := ⟨_, rfl⟩
                      have cR2 := cR nq
                      have htr3 := HTR2.out nq
                      have hkp3 := (HKP.out.more (below_drewN (Below.refl wr.heap.size wr) nq)).setCell (p := pr) (.inl (by
                        have := lkA_block (U := U) (ad := ad) r'
                        rw [HPR.out] at this
                        exact this)) (.int .i64 i)
                      have clq : (wr.drewN nq).cell? pr = some (.int .i64 (lget s'.1 s'.2 r')) := cr'
                      have flq : (wr.drewN nq).frozen? pr = false := fr'
                      rw [hwq] at cR2 htr3 hkp3 clq flq ⊢
                      have HTR3 := Lib.hid htr3
                      have HKP3 := Lib.hid hkp3
                      clear cR htr3 hkp3 hwq
                      go_wp2_with fail
                      go_roundg k
                      case measure => omega
                      case rel => exact ⟨_, _, l', .left i, rfl, by rw [← HPL.out], by rw [← E1.out], HSPk.out, HL'.out, hin, HTR3.out, HKP3.out⟩
      · have hf := HF2.out
        simp only [ne_eq, h1, not_false_eq_true, if_true] at hf
        obtain rfl := Option.some.inj hf
        have d1 : (lget ns root l != -1) = true := bne_iff_ne.2 h1
        clear hf h1
        go_wp2_with fail
        have hz := (HRc3.out.set_ 0 (.int .i64 0)).set_ 1 (.slice none 0 0)
        have hB2 := (HB3.out.setCell (p := ⟨w.heap.size + 1 + 1, 0, none⟩) (by show w.heap.size ≤ w.heap.size + 1 + 1; omega) (.int .i64 0)).setCell (p := ⟨w.heap.size + 1 + 1, 1, none⟩) (by show w.heap.size ≤ w.heap.size + 1 + 1; omega) (.slice none 0 0)
        refine bodyPost_ret (results_tree (p := 4) (u := 5) (by kernel_rfl) _ _ _ _ _ rfl hz) rfl ?_
        exact ⟨none, 0, rfl, World.ownsRow_nil _ _ _ _, hB2⟩
end Treap
end Go.Proofs.Ytnjnjajgpkmfhaa

/-
  The contracts of treap's functions, in the form that the printed texts lean on.
-/
namespace Go.Proofs.Ytnjnjajgpkmfhaa.PX
open Go.RowKit Go.Proofs.YtnjnjajgpkmfhaaW.PrintWords Go.Proofs.YtnjnjajgpkmfhaaW.PrintLast Go.Proofs.YtnjnjajgpkmfhaaW.PrintMore

def toNd (x : S87) : Treap.Nd := ⟨x.f0, x.f1, x.f2⟩
def ofNd (x : Treap.Nd) : S87 := ⟨x.key, x.left, x.right⟩
theorem to_of (x : Treap.Nd) : toNd (ofNd x) = x := rfl
theorem of_to (x : S87) : ofNd (toNd x) = x := rfl
theorem flat_toNd (l : List S87) : (l.map toNd).flatMap Treap.cells = l.flatMap (fun x => Treap.cells (toNd x)) := by
  induction l with
  | nil => rfl
  | cons x l ih => simp [ih]
theorem map_to_of (l : List Treap.Nd) : (l.map ofNd).map toNd = l := by
  rw [List.map_map]
  induction l with
  | nil => rfl
  | cons x l ih => rw [List.map_cons, ih]; rfl
theorem map_of_to (l : List S87) : (l.map toNd).map ofNd = l := by
  rw [List.map_map]
  induction l with
  | nil => rfl
  | cons x l ih => rw [List.map_cons, ih]; rfl
theorem flat_ofNd (l : List Treap.Nd) : (l.map ofNd).flatMap (fun x => Treap.cells (toNd x)) = l.flatMap Treap.cells := by rw [← flat_toNd, map_to_of]
theorem reads_Nd {w : World} {A : Option Addr} {n : Nat} {l : List S87} (h : Kd.C k87 w A n l) : Reads w w.heap.size 3 A n ((l.map toNd).flatMap Treap.cells) := by
  rw [flat_toNd]
  exact reads_of_rows (R := k87.K w) (fun x => Treap.cells (toNd x)) (fun _ => rfl) (by decide) (fun _ _ h => k87_open h) h
theorem kd_Nd {w : World} {base : Nat} {v : Value} {l : List Treap.Nd} (h : w.ownsRow base 87 3 v l.length (l.flatMap Treap.cells)) : Kd.R k87 87 w base (fun _ => True) v (l.map ofNd) := by
  have h2 : w.ownsRow base 87 k87.sz v l.length ((l.map ofNd).flatMap (fun x => Treap.cells (toNd x))) := by rw [flat_ofNd]; exact h
  exact kd_own (d := k87) (fun x => Treap.cells (toNd x)) (fun _ => rfl) (fun _ _ => k87_mkM _ _ _ _) h2 (by simp)

theorem flat_ints (l : List Int) : l.flatMap (fun x => [Value.int .i64 x]) = l.map (Value.int .i64) := by
  induction l with
  | nil => rfl
  | cons x l ih => rw [List.flatMap_cons, ih]; rfl

def treap_Right.f (a0 : Int) (l1 : List S87) : Option Bool := if l1.length ≤ 1000 then some (Treap.rightB (l1.map toNd) a0) else none
theorem treap_Right.calls (a0 : Int) (A1 : Option Addr) (c1 : Nat) (l1 : List S87) (r : Bool) (w : World) (hr1 : Kd.C k87 w A1 l1.length l1) (_hc1 : l1.length ≤ c1) (h : treap_Right.f a0 l1 = some r) :
    Calls Try.prog 62 #[.agg #[.int .i64 a0, .slice A1 l1.length c1]] w fun e w' => e = .returned (.bool r) ∧ Below w.heap.size w w' := by
  unfold treap_Right.f at h
  split at h
  · rename_i hn
    obtain rfl := Option.some.inj h
    exact Treap.right_any a0 (l1.map toNd) A1 l1.length c1 hn w (reads_Nd hr1)
  · cases h

def treap_Find.f (a0 : Int) (l1 : List S87) (a2 : Int) : Option (Int × Int) := if l1.length ≤ 1000 then Treap.findF (l1.map toNd) a0 a2 else none
theorem treap_Find.calls (a0 : Int) (A1 : Option Addr) (c1 : Nat) (l1 : List S87) (a2 : Int) (r1 r2 : Int) (w : World) (hr1 : Kd.C k87 w A1 l1.length l1) (_hc1 : l1.length ≤ c1) (h : treap_Find.f a0 l1 a2 = some (r1, r2)) :
    Calls Try.prog 46 #[.agg #[.int .i64 a0, .slice A1 l1.length c1], .int .i64 a2] w fun e w' => e = .returned (.tuple #[.int .i64 r1, .int .i64 r2]) ∧ Below w.heap.size w w' := by
  unfold treap_Find.f at h
  split at h
  · rename_i hn
    exact Treap.find_any a0 a2 (l1.map toNd) A1 l1.length c1 hn (r1, r2) w (reads_Nd hr1) h
  · cases h

def treap_Keys.f (a0 : Int) (l1 : List S87) : Option (List Int × Int) := if l1.length ≤ 1000 then some (Treap.keysF (l1.map toNd) a0) else none
theorem treap_Keys.calls (a0 : Int) (A1 : Option Addr) (c1 : Nat) (l1 : List S87) (r1 : List Int) (r2 : Int) (w : World) (hr1 : Kd.C k87 w A1 l1.length l1) (_hc1 : l1.length ≤ c1) (h : treap_Keys.f a0 l1 = some (r1, r2)) :
    Calls Try.prog 43 #[.agg #[.int .i64 a0, .slice A1 l1.length c1]] w fun e w' => ∃ v1_ : Value, e = .returned (.tuple #[v1_, .int .i64 r2]) ∧ Kd.R (Kd.int .i64) 3 w' w.heap.size (fun _ => True) v1_ r1 ∧ Below w.heap.size w w' := by
  unfold treap_Keys.f at h
  split at h
  · rename_i hn
    have e2 : Treap.keysF (l1.map toNd) a0 = (r1, r2) := Option.some.inj h
    refine (Treap.keys_any a0 (l1.map toNd) A1 l1.length c1 hn w (reads_Nd hr1)).mono ?_
    rintro e w' ⟨v, rfl, hown, hb⟩
    rw [e2] at hown ⊢
    refine ⟨v, rfl, ?_, hb⟩
    have h2 : w'.ownsRow w.heap.size 3 (Kd.int .i64).sz v r1.length (r1.flatMap (fun x => [Value.int .i64 x])) := by
      rw [flat_ints]
      exact hown
    exact kd_own (d := Kd.int .i64) (fun x => [Value.int .i64 x]) (fun _ => rfl) (fun _ _ => rfl) h2 rfl
  · cases h

def treap_Put.f (a0 : Int) (l1 : List S87) (a2 : Int) : Option (Int × List S87 × Int) := if l1.length ≤ 1000 then (Treap.putF (l1.map toNd) a0 a2).map (fun r => (r.1.2, r.1.1.map ofNd, r.2)) else none
theorem treap_Put.calls (a0 : Int) (A1 : Option Addr) (c1 : Nat) (l1 : List S87) (a2 : Int) (r1 : Int) (r2 : List S87) (r3 : Int) (w : World) (hr1 : Kd.C k87 w A1 l1.length l1) (_hc1 : l1.length ≤ c1) (h : treap_Put.f a0 l1 a2 = some (r1, r2, r3)) :
    Calls Try.prog 67 #[.agg #[.int .i64 a0, .slice A1 l1.length c1], .int .i64 a2] w fun e w' => ∃ v2_ : Value, e = .returned (.tuple #[.agg #[.int .i64 r1, v2_], .int .i64 r3]) ∧ Kd.R k87 87 w' w.heap.size (fun _ => True) v2_ r2 ∧ Below w.heap.size w w' := by
  unfold treap_Put.f at h
  split at h
  · rename_i hn
    cases hp : Treap.putF (l1.map toNd) a0 a2 with
    | none => rw [hp] at h; cases h
    | some r =>
      rw [hp] at h
      have e : (r.1.2, r.1.1.map ofNd, r.2) = (r1, r2, r3) := Option.some.inj h
      obtain ⟨e1, e2⟩ := Prod.mk.inj e
      obtain ⟨e3, e4⟩ := Prod.mk.inj e2
      subst e1 e3 e4
      refine (Treap.put_any a0 a2 (l1.map toNd) A1 l1.length c1 hn r w (reads_Nd hr1) hp).mono ?_
      rintro e w' ⟨A', c', rfl, hown, hb⟩
      exact ⟨_, rfl, kd_Nd hown, hb⟩
  · cases h

end Go.Proofs.Ytnjnjajgpkmfhaa.PX

/-
  Trees made by one address after the other: the put is told always; of rising addresses the tree has just these.
-/
namespace Go.Proofs.Ytnjnjajgpkmfhaa.PX
open Go.RowKit Go.Proofs.YtnjnjajgpkmfhaaW.PrintWords Go.Proofs.YtnjnjajgpkmfhaaW.PrintLast Go.Proofs.YtnjnjajgpkmfhaaW.PrintMore
open Treap
/-- Whatever tree, whatever key: the put tells something. -/
theorem put_total (ns : List Nd) (root key : Int) : ∃ r, putF ns root key = some r ∧ r.1.1.length ≤ 64 := by
  cases hm : mayB ns root key with
  | false => exact ⟨_, (find_bad hm).2.2.1, by simp⟩
  | true =>
    have hm' : rightB ns root = true ∧ isKey key = true := by simpa [mayB] using hm
    obtain ⟨h64, t, hg⟩ := good_of hm'.1
    by_cases hin : key ∈ t.ins.map (K (ns, root))
    · exact ⟨_, put_twice hg h64 hm'.2 hin, by simp⟩
    · rcases Nat.lt_or_eq_of_le h64 with h | h
      · obtain ⟨s', t', h1, h2, _⟩ := put_good hg h hm'.2 hin
        exact ⟨_, h1, by simp only; have := h2; simp at this; omega⟩
      · exact ⟨_, put_full hg h hm'.2 hin, by simp⟩
/-- A tree with one address more, whatever comes of it. -/
def putT (st : List Nd × Int) (a : Int) : List Nd × Int := match putF st.1 st.2 a with | some r => r.1 | none => ([], 0)
theorem putT_some (st : List Nd × Int) (a : Int) : ∃ e, putF st.1 st.2 a = some (putT st a, e) ∧ (putT st a).1.length ≤ 64 := by
  obtain ⟨r, h1, h2⟩ := put_total st.1 st.2 a
  refine ⟨r.2, ?_, ?_⟩ <;> (unfold putT; rw [h1])
  exact h2
def treeOf (ks : List Int) : List Nd × Int := ks.foldl putT ([], -1)
theorem treeOf_more (ks : List Int) (a : Int) : treeOf (ks ++ [a]) = putT (treeOf ks) a := by simp [treeOf]
theorem treeOf_len (ks : List Int) : (treeOf ks).1.length ≤ 64 := by
  rcases List.eq_nil_or_concat ks with rfl | ⟨l, a, rfl⟩
  · simp [treeOf]
  · rw [List.concat_eq_append, treeOf_more]
    obtain ⟨_, _, h⟩ := putT_some (treeOf l) a
    exact h
/-- Of rising addresses: a tree that may be, of just these. -/
theorem treeOf_good (ks : List Int) (h64 : ks.length ≤ 64) (hk : ∀ a ∈ ks, isKey a = true) (hup : ks.Pairwise (· < ·)) : (treeOf ks).1.length = ks.length ∧ ∃ t : Treap.T, Treap.Good (treeOf ks) t ∧ t.ins.map (K (treeOf ks)) = ks := by
  obtain ⟨n, hn⟩ : ∃ n, ks.length = n := ⟨_, rfl⟩
  induction n generalizing ks with
  | zero =>
    obtain rfl : ks = [] := List.eq_nil_of_length_eq_zero hn
    exact ⟨rfl, .leaf, ⟨rfl, rfl, List.Pairwise.nil, by simp [T.ins], trivial⟩, rfl⟩
  | succ n ih =>
    rcases List.eq_nil_or_concat ks with rfl | ⟨l, a, rfl⟩
    · simp at hn
    · rw [List.concat_eq_append] at *
      have hl : l.length = n := by simp at hn; exact hn
      obtain ⟨h1, h2, h3⟩ := List.pairwise_append.1 hup
      obtain ⟨e1, t, hg, ht⟩ := ih l (by simp at h64; omega) (fun x hx => hk x (List.mem_append_left _ hx)) h1 hl
      have hin : a ∉ t.ins.map (K (treeOf l)) := by
        rw [ht]
        intro hx
        have := h3 a hx a (by simp)
        omega
      obtain ⟨s', t', p1, p2, p3, A, B, p4, p5, p6, p7⟩ := put_good hg (by rw [e1]; simp at h64; omega) (hk a (by simp)) hin
      have hput : putT (treeOf l) a = s' := by
        have h : putF (treeOf l).1 (treeOf l).2 a = some (s', 0) := p1
        unfold putT
        rw [h]
      rw [treeOf_more, hput]
      refine ⟨by rw [p2, e1]; simp, t', p3, ?_⟩
      have hAB : A ++ B = l := by rw [← p4]; exact ht
      have hB : B = [] := by
        cases B with
        | nil => rfl
        | cons b B =>
          have hb1 := p7 b (by simp)
          have hb2 := h3 b (by rw [← hAB]; simp) a (by simp)
          omega
      rw [p5, hB]
      rw [hB, List.append_nil] at hAB
      rw [hAB]
end Go.Proofs.Ytnjnjajgpkmfhaa.PX

namespace Go.Proofs.Ytnjnjajgpkmfhaa.PX
open Go.RowKit Go.Proofs.YtnjnjajgpkmfhaaW.PrintWords Go.Proofs.YtnjnjajgpkmfhaaW.PrintLast Go.Proofs.YtnjnjajgpkmfhaaW.PrintMore
attribute [local go_sem] max2_int min2_int max_two min_two max_three min_three max_four min_four   -- for this text's walks alone
set_option linter.unusedVariables false
set_option linter.unusedSimpArgs false

/-! ### root_isAddr: function 45 -/
def root_isAddr.f (a0 : Int) : Option (Bool) := if a0 ≥ 0 then (some (decide (a0 ≤ 4294967295))) else (some false)
set_option maxHeartbeats 8000000 in
set_option maxRecDepth 100000 in
theorem root_isAddr.calls (a0 : Int) (r : Bool) (w : World) (h : root_isAddr.f a0 = some r) :
    Calls Try.prog 45 #[.int .i64 a0] w fun e w' => e = .returned (.bool r) ∧ Drawn0 w w' := by
  have H : (if a0 ≥ 0 then (some (decide (a0 ≤ 4294967295))) else (some false)) = some r := h
  clear h
  by_cases c2 : a0 ≥ 0
  · rw [if_pos c2] at H
    have c2b0 : decide (0 ≤ a0) = true := decide_eq_true c2
    clear c2
    obtain rfl := Option.some.inj H
    go_enter Try.func45, Try.ntmps45
    go_wp2
    go_ret
    exact ⟨by first | rfl | (simp; done) | (simp [*]; done), by repeat (first | exact Drawn0.refl _ | apply Drawn0.step)⟩
  · rw [if_neg c2] at H
    have c2b0 : decide (0 ≤ a0) = false := decide_eq_false c2
    clear c2
    obtain rfl := Option.some.inj H
    go_enter Try.func45, Try.ntmps45
    go_wp2
    go_ret
    exact ⟨by first | rfl | (simp; done) | (simp [*]; done), by repeat (first | exact Drawn0.refl _ | apply Drawn0.step)⟩

end Go.Proofs.Ytnjnjajgpkmfhaa.PX

namespace Go.Proofs.Ytnjnjajgpkmfhaa.PX
open Go.RowKit Go.Proofs.YtnjnjajgpkmfhaaW.PrintWords Go.Proofs.YtnjnjajgpkmfhaaW.PrintLast Go.Proofs.YtnjnjajgpkmfhaaW.PrintMore
attribute [local go_sem] max2_int min2_int max_two min_two max_three min_three max_four min_four   -- for this text's walks alone
set_option linter.unusedVariables false
set_option linter.unusedSimpArgs false

/-! ### root_Root: function 14 -/
def root_Root.f (a0 : Int) : Option (Int × Int) := (root_isAddr.f a0).bind fun t120 => (if t120 = true then (some (Int.tmod (a0 / 8) 251, 0)) else (some (0, 1)))
set_option maxHeartbeats 8000000 in
set_option maxRecDepth 100000 in
theorem root_Root.calls (a0 : Int) (r1 : Int) (r2 : Int) (w : World) (h : root_Root.f a0 = some (r1, r2)) :
    Calls Try.prog 14 #[.int .i64 a0] w fun e w' => e = .returned (.tuple #[.int .i64 r1, .int .i64 r2]) ∧ Drawn0 w w' := by
  have H : ((root_isAddr.f a0).bind fun t120 => (if t120 = true then (some (Int.tmod (a0 / 8) 251, 0)) else (some (0, 1)))) = some (r1, r2) := h
  clear h
  replace H := Option.bind_eq_some_iff.mp H
  obtain ⟨t120, A20, H⟩ := H
  replace H : (if t120 = true then (some (Int.tmod (a0 / 8) 251, 0)) else (some (0, 1))) = some (r1, r2) := H
  have A2 := Aside0.mk A20
  clear A20
  by_cases c3 : t120 = true
  · subst c3
    have H1 : (some (Int.tmod (a0 / 8) 251, 0)) = some (r1, r2) := by rw [if_pos rfl] at H; exact H
    clear H
    have H := H1
    clear H1
    simp only [Option.some.injEq, Prod.mk.injEq] at H
    obtain ⟨rfl, rfl⟩ := H
    go_enter Try.func14, Try.ntmps14
    go_wp2_with (first | ((with_reducible refine gate_callee (f := 45) rfl ?_); refine goesL_ (some 5) rfl rfl Try.func45 (by kernel_rfl) rfl #[.int .i64 a0] rfl (by (try simp only [List.map_toArray, List.map_cons, List.map_nil]); first | done | rfl | (simp only [List.length_drop, List.length_take]; rfl)) ?_; (with_reducible refine (root_isAddr.calls a0 true _ A2.out).mono ?_); rintro e w' ⟨rfl, ⟨nd, rfl⟩⟩; refine ⟨_, rfl, ?_⟩))
    go_ret2
    exact ⟨by first | rfl | (simp; done) | (simp [*]; done), by repeat (first | exact Drawn0.refl _ | apply Drawn0.step)⟩
  · replace c3 := Bool.eq_false_iff.mpr c3
    subst c3
    have H1 : (some (0, 1)) = some (r1, r2) := by rw [if_neg (show ¬ (false = true) by decide)] at H; exact H
    clear H
    have H := H1
    clear H1
    simp only [Option.some.injEq, Prod.mk.injEq] at H
    obtain ⟨rfl, rfl⟩ := H
    go_enter Try.func14, Try.ntmps14
    go_wp2_with (first | ((with_reducible refine gate_callee (f := 45) rfl ?_); refine goesL_ (some 5) rfl rfl Try.func45 (by kernel_rfl) rfl #[.int .i64 a0] rfl (by (try simp only [List.map_toArray, List.map_cons, List.map_nil]); first | done | rfl | (simp only [List.length_drop, List.length_take]; rfl)) ?_; (with_reducible refine (root_isAddr.calls a0 false _ A2.out).mono ?_); rintro e w' ⟨rfl, ⟨nd, rfl⟩⟩; refine ⟨_, rfl, ?_⟩))
    go_ret2
    exact ⟨by first | rfl | (simp; done) | (simp [*]; done), by repeat (first | exact Drawn0.refl _ | apply Drawn0.step)⟩

end Go.Proofs.Ytnjnjajgpkmfhaa.PX

/-
  The contract of root.tree: a root's addresses, put into a tree one after the other (a range over a function).
-/
namespace Go.Proofs.Ytnjnjajgpkmfhaa.PX
open Go.RowKit Go.Proofs.YtnjnjajgpkmfhaaW.PrintWords Go.Proofs.YtnjnjajgpkmfhaaW.PrintLast Go.Proofs.YtnjnjajgpkmfhaaW.PrintMore
theorem results_tree_ {fn : Func} {p : Tmp} (h : fn.results = #[.cell p 70]) (tmps : Array Value) (w : World) (g : Nat) (a b : Value)
    (hp : tmps.getD p undef = .pointer (some ⟨g, 0, none⟩)) (hg : Blk w g 70 #[a, b]) : (results fn tmps).run Try.prog w = .ok (.agg #[a, b]) w :=
  results_cell_row h tmps w g 70 #[a, b] (0, 0) _ hp hg Try.underlying70 rfl (by kernel_rfl)
theorem new_any (w : World) : Calls Try.prog 65 #[] w fun e w' => e = .returned (.agg #[.int .i64 (-1), .slice none 0 0]) ∧ Below w.heap.size w w' := by
  go_enter Try.func65, Try.ntmps65
  go_wp2_with fail
  have hz := Blk.new w 70 #[.int .i64 (-1), .slice none 0 0]
  refine bodyPost_ret (results_tree_ (p := 0) (by kernel_rfl) _ _ _ _ _ rfl hz) rfl ?_
  exact ⟨rfl, (Below.refl _ _).alloc (Nat.le_refl _) _⟩
/-- An address's root: 0 of what is none. -/
def rootI (a : Int) : Int := if 0 ≤ a ∧ a ≤ 4294967295 then Int.tmod (a / 8) 251 else 0
theorem root_f (a : Int) : ∃ e, root_Root.f a = some (rootI a, e) := by
  unfold root_Root.f root_isAddr.f rootI
  by_cases h0 : 0 ≤ a
  · by_cases h1 : a ≤ 4294967295
    · exact ⟨0, by simp [h0, h1]⟩
    · exact ⟨1, by simp [h0, h1]⟩
  · exact ⟨1, by simp [h0]⟩
def under (r : Int) (R : List Rw) : List Rw := R.filter (fun x => decide (rootI x.s.f0 = r))
attribute [local go_sem] Oper.semAt_some
theorem below_grown {w w' : World} (h : Below w.heap.size w w') : w.grownBy w' none := ⟨h.os, h.tape, h.output, h.size, fun k hk _ => h.block k hk⟩
theorem under_in (F : Fence) (n : Nat) (hf : F.fn 66) (hro : F.round = none) (a : Option Addr) (len cap : Nat) (r : Int) (w : World) :
    CallsIn F n Try.prog 66 #[.slice a len cap, .int .i64 r] w fun e w' => e = .returned (.func (.func 81) #[] #[.pointer (some ⟨w.heap.size, 0, none⟩), .pointer (some ⟨w.heap.size + 1, 0, none⟩)]) ∧ w' = (w.alloc (.cells #[.slice a len cap] 22)).alloc (.cells #[.int .i64 r] 3) := by
  refine callsIn_of_wp Try.func66 rfl hf ?_ hro
  simp only [Try.ntmps66, List.size_toArray, List.length_cons, List.length_nil, Nat.reduceAdd, Nat.reduceSub, Array.replicate_succ, Array.replicate_zero, List.push_toArray, List.append_toArray, List.nil_append, List.cons_append]
  gi_wp2
  go_ret
  exact ⟨rfl, rfl⟩
/-- Nothing that was there at first has turned, nor the box of the root. -/
structure KpT (n₀ Br : Nat) (X Y : World) : Prop where
  b : Below n₀ X Y
  k : Y.heap[Br]? = X.heap[Br]?
theorem KpT.trans {n₀ Br : Nat} {X Y Z : World} (h : KpT n₀ Br X Y) (k : KpT n₀ Br Y Z) : KpT n₀ Br X Z := ⟨h.b.trans k.b, k.k.trans h.k⟩
theorem KpT.refl (n₀ Br : Nat) (X : World) : KpT n₀ Br X X := ⟨Below.refl _ _, rfl⟩
set_option maxRecDepth 100000 in
set_option maxHeartbeats 4000000 in
/-- The iterator over a root's spots, one by one. -/
theorem under1_in (l Bt Br n₀ len cap : Nat) (A : Option Addr) (R : List Rw) (r : Int) (hlen : len ≤ 1000) (J Jx : List Rw → World → Prop) (W : World)
    (hJ : AbidesFrom W.heap.size J)
    (hY : ∀ pre x W1, J pre W1 → pre.length < len → YieldAt Fence.wide 2 Try.prog l #[Rw.val x] W1 fun e W' =>
      (e = .returned (.bool true) ∧ J (pre ++ [x]) W' ∧ KpT n₀ Br W1 W') ∨ (e = .returned (.bool false) ∧ Jx (pre ++ [x]) W'))
    (hBt : W.cell? ⟨Bt, 0, none⟩ = some (.slice A len cap)) (hBr : Blk W Br 3 #[.int .i64 r]) (hr : Reads W n₀ 3 A len (R.flatMap Rw.cells)) (hn₀ : n₀ ≤ W.heap.size) (h0 : J [] W) :
    CallsIn Fence.wide 3 Try.prog 81 #[.func (.yield l) #[] #[], .pointer (some ⟨Bt, 0, none⟩), .pointer (some ⟨Br, 0, none⟩)] W fun e W' => (∃ v, e = .returned v) ∧
      ((∃ ys, ys = under r R ∧ J ys W') ∨ (∃ pre, pre <+: under r R ∧ Jx pre W')) := by
  have hl := raw_len hr
  refine callsIn_of_wp Try.func81 rfl trivial ?_ rfl
  simp only [Try.ntmps81, List.size_toArray, List.length_cons, List.length_nil, Nat.reduceAdd, Nat.reduceSub, Array.replicate_succ, Array.replicate_zero, List.push_toArray, List.append_toArray, List.nil_append, List.cons_append]
  gi_wp2
  gi_loopw [10] (fun i wr => ∃ k : Nat, k ≤ len ∧ i = .int .i64 k ∧ J (under r (R.take k)) wr ∧ KpT n₀ Br W wr)
    (fun i _ => len - (intOf i).toNat)
  case atStart => exact ⟨0, Nat.zero_le _, rfl, h0, KpT.refl _ _ _⟩
  case round =>
    obtain ⟨k, hk, rfl, hJs, hnx⟩ := hrel
    have hsz := hnx.b.size
    by_cases hlt : k < len
    · obtain ⟨ad, ⟨s, Av, cv⟩, rfl, hab, hx, q0, q1, q2⟩ := raw_at (hr.below hnx.b) hlt
      simp only [Rw.v] at q2
      have hbrb : Blk wr Br 3 #[.int .i64 r] := hnx.k.trans hBr
      have hbr := hbrb.at1
      have HBRB := Lib.hid hbrb
      have htk : R.take (k + 1) = R.take k ++ [⟨s, Av, cv⟩] := by rw [List.take_add_one, hx]; rfl
      have hpl : (under r (R.take k)).length < len := by
        have := List.length_filter_le (fun x : Rw => decide (rootI x.s.f0 = r)) (R.take k)
        rw [List.length_take] at this
        unfold under
        omega
      obtain ⟨er, her⟩ := root_f s.f0
      have HT := Lib.hid htk
      have HPL := Lib.hid hpl
      have HER := Lib.hid her
      have HX := Lib.hid hx
      clear htk hpl her hx
      have hbl := Blk.new wr 33 #[.int .i64 s.f0, .int .i64 s.f1, .slice Av s.f2.length cv]
      have hb0 := (Below.refl wr.heap.size wr).alloc (Nat.le_refl _) (.cells #[.int .i64 s.f0, .int .i64 s.f1, .slice Av s.f2.length cv] 33)
      have HBL := Lib.hid hbl
      have HB0 := Lib.hid hb0
      clear hbl hb0
      gi_wp2_with fail
      refine ⟨trivial, (callsIn_wide.2 (root_Root.calls s.f0 _ _ _ HER.out)).mono ?_⟩
      rintro e w1 ⟨rfl, hd⟩
      have hb1 := bthen HB0.out hd.below
      have hbl1 := HBL.out.below hd.below HBL.out.lt
      obtain ⟨c0, c1, c2⟩ := hbl1.at3
      have hJ1 := hJ _ _ _ none hJs (below_grown hb1) (fun r e => by cases e)
      have hn1 : KpT n₀ Br W w1 := hnx.trans ⟨hb1.mono (Nat.le_trans hn₀ hsz), hb1.block Br HBRB.out.lt⟩
      have hbr1 := (HBRB.out.below hb1 HBRB.out.lt).at1
      clear hd hb1 hbl1 q0 q1 q2 hbr hbrb
      by_cases hrt : rootI s.f0 = r
      · have d1 : (rootI s.f0 == r) = true := by simp [hrt]
        have hun : under r (R.take (k + 1)) = under r (R.take k) ++ [⟨s, Av, cv⟩] := by
          rw [HT.out, under, under, List.filter_append]
          simp [hrt]
        have HUN := Lib.hid hun
        clear hun hrt
        obtain ⟨fn, tmps, assign, body, hy, hR⟩ := hY _ ⟨s, Av, cv⟩ w1 hJ1 HPL.out
        simp only [Rw.val, Rw.v] at hy
        gi_wp2
        refine hR.mono ?_
        rintro e W3 (⟨rfl, hJ3, hk3⟩ | ⟨rfl, hJx3⟩)
        · gi_wp2
          go_roundw
          case rel => exact ⟨k + 1, by omega, by go_num, by rw [HUN.out]; exact hJ3, hn1.trans hk3⟩
          case measure => simp [intOf]; omega
        · gi_wp2
          refine bodyPost_ret (results_none rfl _ _ _) rfl ?_
          exact ⟨⟨_, rfl⟩, .inr ⟨_, by rw [← HUN.out]; exact (List.take_prefix _ _).filter _, hJx3⟩⟩
      · have d1 : (rootI s.f0 == r) = false := by simp [hrt]
        have hun : under r (R.take (k + 1)) = under r (R.take k) := by
          rw [HT.out, under, under, List.filter_append]
          simp [hrt]
        have HUN := Lib.hid hun
        clear hun hrt
        gi_wp2
        refine ⟨fun f hf => (by cases hf), ?_⟩
        gi_wp2
        go_roundw
        case rel => exact ⟨k + 1, by omega, by go_num, by rw [HUN.out]; exact hJ1, hn1⟩
        case measure => simp [intOf]; omega
    · obtain rfl : k = len := by omega
      gi_wp2
      go_end0
      exact ⟨⟨_, rfl⟩, .inl ⟨_, rfl, by rw [← hl, List.take_length] at hJs; exact hJs⟩⟩
theorem under_stops (Bt Br n₀ len cap : Nat) (A : Option Addr) (R : List Rw) (r : Int) (hlen : len ≤ 1000) (w : World) (hn₀ : n₀ ≤ w.heap.size)
    (hBt : Blk w Bt 22 #[.slice A len cap]) (hBr : Blk w Br 3 #[.int .i64 r]) (hr : Reads w n₀ 3 A len (R.flatMap Rw.cells)) :
    SeqStopsK Fence.wide 3 Try.prog 81 #[.pointer (some ⟨Bt, 0, none⟩), .pointer (some ⟨Br, 0, none⟩)] (fun x : Rw => #[Rw.val x]) (KpT n₀ Br) (fun ys => ys = under r R) (fun pre => pre <+: under r R) len w := fun l J Jx W hW hJ _ hY h0 =>
  under1_in l Bt Br n₀ len cap A R r hlen J Jx W hJ hY (hBt.below hW hBt.lt).at1 (hBr.below hW hBr.lt) (hr.below (hW.mono hn₀)) (Nat.le_trans hn₀ hW.size) h0
def adrs (R : List Rw) : List Int := R.map (·.s.f0)
def TreeI (n₀ Ob : Nat) (pre : List Rw) (W : World) : Prop := ∃ v, Blk W Ob 70 #[.int .i64 (treeOf (adrs pre)).2, v] ∧ W.ownsRow n₀ 87 3 v (treeOf (adrs pre)).1.length ((treeOf (adrs pre)).1.flatMap Treap.cells)
theorem treeI_own (n₀ Ob : Nat) : Own (TreeI n₀ Ob) := by
  rintro s X Y row ⟨v, hv, hr⟩ hg hrow
  refine ⟨v, hv.grown hg (fun e' => ?_), hr.kept hg ?_⟩
  · obtain ⟨o, ho, hc⟩ := hrow Ob e'.symm
    rw [show X.heap[Ob]? = _ from hv] at ho
    cases ho
    cases hc
  · rcases hr.2 with ⟨rfl, _⟩ | ⟨g, cap, cur, rfl, _, hgb, _⟩
    · exact .inl rfl
    · refine .inr fun e' => ?_
      obtain ⟨o, ho, hc⟩ := hrow g (by simpa [Value.ownBlock] using e'.symm)
      rw [hgb] at ho
      cases ho
      cases hc
theorem blk_own_ (B : Nat) (t : TypeId) (cs : Array Value) : Own (fun (_ : Unit) W => Blk W B t cs) := fun _ X Y row hs hg hrow => Blk.grown hs hg (fun e' => by
  obtain ⟨o, ho, hc⟩ := hrow B e'.symm
  rw [show X.heap[B]? = _ from hs] at ho
  cases ho
  cases hc)
theorem blk_own_l (B : Nat) (t : TypeId) (cs : Array Value) : Own (fun (_ : List Rw) W => Blk W B t cs) := fun _ X Y row hs hg hrow => blk_own_ B t cs () X Y row hs hg hrow
set_option maxRecDepth 100000 in
set_option maxHeartbeats 4000000 in
theorem tree_in (A : Option Addr) (len cap : Nat) (R : List Rw) (r : Int) (hlen : len ≤ 1000) (w : World) (hr : Reads w w.heap.size 3 A len (R.flatMap Rw.cells)) :
    CallsIn Fence.wide 4 Try.prog 44 #[.slice A len cap, .int .i64 r] w fun e W' => ∃ v, e = .returned (.agg #[.int .i64 (treeOf (adrs (under r R))).2, v]) ∧ W'.ownsRow w.heap.size 87 3 v (treeOf (adrs (under r R))).1.length ((treeOf (adrs (under r R))).1.flatMap Treap.cells) ∧ Below w.heap.size w W' := by
  obtain ⟨Tb, hTb⟩ : ∃ Tb, w.heap.size = Tb := ⟨_, rfl⟩
  have hz0 := Blk.new w 70 #[.int .i64 0, .slice none 0 0]
  have hw0 := (Below.refl w.heap.size w).alloc (Nat.le_refl _) (.cells #[.int .i64 0, .slice none 0 0] 70)
  have HZ0 := Lib.hid hz0
  have HW0 := Lib.hid hw0
  have HR := Lib.hid hr
  clear hz0 hw0 hr
  refine callsIn_of_wp_marks Try.func44 rfl trivial ?_ rfl
  simp only [Try.ntmps44, List.size_toArray, List.length_cons, List.length_nil, Nat.reduceAdd, Nat.reduceSub, Array.replicate_succ, Array.replicate_zero, List.push_toArray, List.append_toArray, List.nil_append, List.cons_append]
  gi_wp2_with fail
  refine ⟨trivial, (callsIn_wide.2 (new_any _)).mono ?_⟩
  rintro e w2 ⟨rfl, hb2⟩
  have HB2 := Lib.hid (bthen HW0.out hb2)
  have HZ2 := Lib.hid (HZ0.out.below hb2 HZ0.out.lt)
  obtain ⟨Ob, hOb⟩ : ∃ Ob, w2.heap.size = Ob := ⟨_, rfl⟩
  have HT2 := Lib.hid (Blk.new w2 70 #[.int .i64 (-1), .slice none 0 0])
  have HB3 := Lib.hid (HB2.out.alloc HB2.out.size (.cells #[.int .i64 (-1), .slice none 0 0] 70))
  have HZ3 := Lib.hid (HZ2.out.alloc (.cells #[.int .i64 (-1), .slice none 0 0] 70))
  rw [hOb] at HT2
  have hTO : Tb < Ob := by rw [← hTb, ← hOb]; exact HZ2.out.lt
  clear hb2
  gi_wp2_with fail
  obtain ⟨w3, hw3⟩ : ∃ w3, w2.alloc (.cells #[.int .i64 (-1), .slice none 0 0] 70) = w3 := ⟨_, rfl⟩
  rw [hw3] at HT2 HB3 HZ3 ⊢
  clear hw3 hOb
  refine ⟨trivial, (under_in Fence.wide 3 trivial rfl _ _ _ _ _).mono ?_⟩
  rintro e w' ⟨rfl, rfl⟩
  obtain ⟨Bt, hBt⟩ : ∃ Bt, w3.heap.size = Bt := ⟨_, rfl⟩
  have b1 := (Blk.new w3 22 #[.slice A len cap]).alloc (.cells #[.int .i64 r] 3)
  have b2 := Blk.new (w3.alloc (.cells #[.slice A len cap] 22)) 3 #[.int .i64 r]
  have hOlt := HT2.out.lt
  have hZlt := HZ3.out.lt
  have b3 := (HT2.out.alloc (.cells #[.slice A len cap] 22)).alloc (.cells #[.int .i64 r] 3)
  have b4 := (HZ3.out.alloc (.cells #[.slice A len cap] 22)).alloc (.cells #[.int .i64 r] 3)
  have b5 := (HB3.out.alloc HB3.out.size (.cells #[.slice A len cap] 22)).alloc (by have := HB3.out.size; simp; omega) (.cells #[.int .i64 r] 3)
  have b6 : ((w3.alloc (.cells #[.slice A len cap] 22)).alloc (.cells #[.int .i64 r] 3)).heap.size = Bt + 1 + 1 := by simp [hBt]
  rw [World.size_alloc, hBt] at b2
  rw [hBt] at b1 hOlt hZlt ⊢
  obtain ⟨w4, hw4⟩ : ∃ w4, (w3.alloc (.cells #[.slice A len cap] 22)).alloc (.cells #[.int .i64 r] 3) = w4 := ⟨_, rfl⟩
  rw [hw4] at b1 b2 b3 b4 b5 b6 ⊢
  clear hw4
  rw [hTb] at b4 hZlt
  gi_wp2
  refine wpIn_rangeFunc_ownH rfl (by omega) (gf := 81) (lb := #[.pointer (some ⟨Bt, 0, none⟩), .pointer (some ⟨Bt + 1, 0, none⟩)]) rfl trivial (enters_of Try.func81 (by kernel_rfl) rfl)
    (under_stops Bt (Bt + 1) w.heap.size len cap A R r hlen w4 b5.size b1 b2 (HR.out.below b5)) KpT.trans (fun W l o o' hl h1 h2 h3 => ⟨belowK_b b5.size W l o o' hl h1 h2 h3, World.putObj_heap_other (fun e => by omega)⟩) (Below.refl _ _) (fun _ => rfl)
    (fun pre W => ((TreeI w.heap.size Ob pre W ∧ Blk W Tb 70 #[.int .i64 0, .slice none 0 0]) ∧ Blk W (Bt + 1) 3 #[.int .i64 r]) ∧ Below w.heap.size w W)
    (fun _ _ _ => False)
    (OwnFrom.and (OwnFrom.and (OwnFrom.and (Own.from (treeI_own w.heap.size Ob) _) (Own.from (blk_own_l Tb 70 _) _)) (Own.from (blk_own_l (Bt + 1) 3 _) _)) (ownFrom_below (Nat.le_refl _) b5.size))
    (fun _ _ _ _ _ hs _ _ => hs)
    ⟨⟨⟨⟨_, b3, World.ownsRow_nil _ _ _ _⟩, b4⟩, b2⟩, b5⟩
    (fun x a' W => ∃ Bx, Blk W Bx 33 #[.int .i64 x.s.f0, .int .i64 x.s.f1, .slice x.A x.s.f2.length x.c] ∧ a' = { tmps := #[.slice A len cap, .int .i64 r, undef, undef, .pointer (some ⟨Tb, 0, none⟩), .pointer (some ⟨Ob, 0, none⟩), .pointer (some ⟨Bx, 0, none⟩), .agg #[.int .i64 (-1), .slice none 0 0], .slice A len cap, .int .i64 r, .func (.func 81) #[] #[.pointer (some ⟨Bt, 0, none⟩), .pointer (some ⟨Bt + 1, 0, none⟩)], .agg #[.int .i64 x.s.f0, .int .i64 x.s.f1, .slice x.A x.s.f2.length x.c], undef, undef, undef, undef, undef, undef, undef, undef], defers := [] })
    (fun x a' _ X Y row hs hg hr => by obtain ⟨Bx, h2, h3⟩ := hs; exact ⟨Bx, blk_own_ Bx 33 _ () X Y row h2 hg (fun r e => (hr r e).2), h3⟩)
    ?assign ?body ?done ?stop
  case assign =>
    rintro l pre x W K ⟨⟨⟨⟨v, hv, hrow⟩, hz⟩, hbr⟩, hB⟩ hK
    simp only [Rw.val, Rw.v]
    gi_wp2
    exact hK _ _ ((KeepsOthers.alloc _ _).from _) ⟨(Below.refl _ W).alloc hB.size _, Below.heap_alloc W _ _ hbr.lt⟩ ⟨⟨⟨⟨v, hv.alloc _, own_move hrow (fun k hk => Below.heap_alloc W _ _ (own_lt hrow k hk))⟩, hz.alloc _⟩, hbr.alloc _⟩, hB.alloc hB.size _⟩ ⟨W.heap.size, Blk.new W _ _, rfl⟩
  case body =>
    rintro l pre x a' W hl _ ⟨⟨⟨⟨v, hv, hrow⟩, hz⟩, hbr⟩, hB⟩ ⟨Bx, hbx, rfl⟩ hlt
    obtain ⟨A5, c5, rfl, hc5, _, hr5⟩ := own_reads3 hrow
    obtain ⟨er, hput, hlen2⟩ := putT_some (treeOf (adrs pre)) x.s.f0
    have h64 := treeOf_len (adrs pre)
    obtain ⟨o0, o1⟩ := hv.at2
    obtain ⟨x0, x1, x2⟩ := hbx.at3
    have HPUT := Lib.hid (Treap.put_any (treeOf (adrs pre)).2 x.s.f0 (treeOf (adrs pre)).1 A5 _ c5 (by omega) _ W hr5 hput)
    have HV := Lib.hid hv
    have HZ := Lib.hid hz
    have HBR := Lib.hid hbr
    have HBB := Lib.hid hB
    have hne1 : Tb ≠ Ob := by omega
    have hne2 : Bt + 1 ≠ Ob := by omega
    have e2 : treeOf (adrs (pre ++ [x])) = putT (treeOf (adrs pre)) x.s.f0 := by
      rw [adrs, List.map_append]
      exact treeOf_more _ _
    have HE2 := Lib.hid e2
    clear hput hr5 hv hz hbr hB hrow e2 hc5
    obtain ⟨st, hst⟩ : ∃ st, putT (treeOf (adrs pre)) x.s.f0 = st := ⟨_, rfl⟩
    rw [hst] at HPUT HE2 hlen2
    obtain ⟨s0, hs0⟩ : ∃ s0, treeOf (adrs pre) = s0 := ⟨_, rfl⟩
    rw [hs0] at HPUT h64 o0 o1 HV
    clear hst hs0
    gi_wp2_with fail
    refine ⟨trivial, (callsIn_wide.2 HPUT.out).mono ?_⟩
    rintro e w' ⟨A6, c6, rfl, hown, hb⟩
    have hv6 := HV.out.below hb HV.out.lt
    have f0 := hv6.frozen 0
    have f1 := hv6.frozen 1
    obtain ⟨o0', o1'⟩ := hv6.at2
    have HV6 := Lib.hid hv6
    have HOWN := Lib.hid hown
    have HB6 := Lib.hid hb
    clear hv6 hown hb o0 o1
    gi_wp2_with fail
    have hnb := own_blk_ne HOWN.out HV6.out (by decide)
    have hset : ∀ k, k ≠ Ob → ((w'.setCell ⟨Ob, 0, none⟩ (.int .i64 st.2)).setCell ⟨Ob, 1, none⟩ (.slice A6 st.1.length c6)).heap[k]? = w'.heap[k]? := fun k hk => (Below.heap_setCell _ ⟨Ob, 1, none⟩ _ k hk).trans (Below.heap_setCell _ ⟨Ob, 0, none⟩ _ k hk)
    have hOs : w.heap.size ≤ Ob := by omega
    have hB2 : ∀ {X : World}, Below w.heap.size X w' → Below w.heap.size X ((w'.setCell ⟨Ob, 0, none⟩ (.int .i64 st.2)).setCell ⟨Ob, 1, none⟩ (.slice A6 st.1.length c6)) := fun h => (h.setCell (p := ⟨Ob, 0, none⟩) hOs _).setCell (p := ⟨Ob, 1, none⟩) hOs _
    refine ⟨(((KeepsOthers.of_grownBy (below_grown HB6.out) (fun j o ej _ => by cases ej)).trans (KeepsOthers.setCell _ _ _)).trans (KeepsOthers.setCell _ _ _)).from _, ⟨hB2 (HB6.out.mono HBB.out.size), (hset _ hne2).trans (HB6.out.block _ HBR.out.lt)⟩, ⟨⟨⟨?_, (hset _ hne1).trans (HZ.out.below HB6.out HZ.out.lt)⟩, (hset _ hne2).trans (HBR.out.below HB6.out HBR.out.lt)⟩, hB2 (bthen HBB.out HB6.out)⟩⟩
    unfold TreeI
    rw [HE2.out]
    exact ⟨_, (HV6.out.set_ 0 _).set_ 1 _, own_move (own_weaken HOWN.out HBB.out.size) (fun k hk => hset k (fun e => hnb (by rw [← e]; exact hk)))⟩
  case done =>
    rintro D ys W hD rfl ⟨⟨⟨⟨v, hv, hrow⟩, hz⟩, hbr⟩, hB⟩ hK
    obtain ⟨A5, c5, rfl, hc5, _, hr5⟩ := own_reads3 hrow
    obtain ⟨o0, o1⟩ := hv.at2
    obtain ⟨z0, z1⟩ := hz.at2
    have f0 := hz.frozen 0
    have f1 := hz.frozen 1
    gi_wp2
    obtain ⟨v0, hv0⟩ : ∃ v0, Value.slice A5 (treeOf (adrs (under r R))).1.length c5 = v0 := ⟨_, rfl⟩
    have hnb := own_blk_ne hrow hz (by decide)
    have hK2 := ((KeepsOthers.setCell W ⟨Tb, 0, none⟩ (.int .i64 (treeOf (adrs (under r R))).2)).trans (KeepsOthers.setCell _ ⟨Tb, 1, none⟩ (.slice A5 (treeOf (adrs (under r R))).1.length c5))).same D _ hK rfl
    refine ⟨by simp, .inl ⟨_, _, rfl, run_takeDeferred hK2, ?_⟩⟩
    have hzz : Blk ((W.setCell ⟨Tb, 0, none⟩ (.int .i64 (treeOf (adrs (under r R))).2)).setCell ⟨Tb, 1, none⟩ (.slice A5 (treeOf (adrs (under r R))).1.length c5)) Tb 70 #[.int .i64 (treeOf (adrs (under r R))).2, .slice A5 (treeOf (adrs (under r R))).1.length c5] := (hz.set_ 0 _).set_ 1 _
    have hDT : Tb ≠ D := by have := hz.lt; omega
    refine ⟨_, results_tree_ (p := 4) (by kernel_rfl) _ _ _ _ _ rfl ((World.putObj_heap_other hDT).trans hzz), _, rfl, ?_, ?_⟩
    · refine own_move hrow (fun k hk => ?_)
      have hkD : k ≠ D := by
        rintro rfl
        obtain ⟨cells, hc⟩ := own_typed hrow k hk
        rw [hK] at hc
        cases hc
      have hkT : k ≠ Tb := fun e => hnb (by rw [← e]; exact hk)
      exact (World.putObj_heap_other hkD).trans ((Below.heap_setCell _ ⟨Tb, 1, none⟩ _ k hkT).trans (Below.heap_setCell _ ⟨Tb, 0, none⟩ _ k hkT))
    · have hT0 : w.heap.size ≤ Tb := Nat.le_of_eq hTb
      exact ((hB.setCell (p := ⟨Tb, 0, none⟩) hT0 _).setCell (p := ⟨Tb, 1, none⟩) hT0 _).trans (belowK_b (w := w) (Nat.le_refl _) _ D _ _ (by omega) hK2 rfl rfl)
  case stop =>
    rintro D c pre W _ _ h _
    exact h.elim
def root_tree.f (l0 : List S33) (a1 : Int) : Option (Int × List S87) := if l0.length ≤ 1000 then some ((treeOf ((l0.filter (fun s => decide (rootI s.f0 = a1))).map (·.f0))).2, (treeOf ((l0.filter (fun s => decide (rootI s.f0 = a1))).map (·.f0))).1.map ofNd) else none
theorem adrs_under (r : Int) (R : List Rw) : adrs (under r R) = ((spots R).filter (fun s => decide (rootI s.f0 = r))).map (·.f0) := by
  rw [adrs, under, spots, List.filter_map, List.map_map]
  rfl
theorem root_tree.calls (A0 : Option Addr) (c0 : Nat) (l0 : List S33) (a1 : Int) (r1 : Int) (r2 : List S87) (w : World) (hr0 : Kd.C k33 w A0 l0.length l0) (hc0 : l0.length ≤ c0) (h : root_tree.f l0 a1 = some (r1, r2)) :
    Calls Try.prog 44 #[.slice A0 l0.length c0, .int .i64 a1] w fun e w' => ∃ v1_ : Value, e = .returned (.agg #[.int .i64 r1, v1_]) ∧ Kd.R k87 87 w' w.heap.size (fun _ => True) v1_ r2 ∧ Below w.heap.size w w' := by
  unfold root_tree.f at h
  split at h
  case isFalse => cases h
  rename_i hn
  have hq := Option.some.inj h
  have e1 := congrArg (·.1) hq
  have e2 := congrArg (·.2) hq
  simp only at e1 e2
  subst e1 e2
  obtain ⟨R, hR, _, _, hr, _⟩ := raws_of_V (Kd.V_mk (e := 33) (base := 0) hc0 (Kd.C_F k33_heap hr0))
  have := (callsIn_wide (n := 4)).1 (tree_in A0 l0.length c0 R a1 hn w hr)
  rw [adrs_under, hR] at this
  refine this.mono ?_
  rintro e w' ⟨v, rfl, hown, hb⟩
  exact ⟨v, rfl, kd_Nd hown, hb⟩
end Go.Proofs.Ytnjnjajgpkmfhaa.PX

namespace Go.Proofs.Ytnjnjajgpkmfhaa.PX
open Go.RowKit Go.Proofs.YtnjnjajgpkmfhaaW.PrintWords Go.Proofs.YtnjnjajgpkmfhaaW.PrintLast Go.Proofs.YtnjnjajgpkmfhaaW.PrintMore
attribute [local go_sem] max2_int min2_int max_two min_two max_three min_three max_four min_four   -- for this text's walks alone
set_option linter.unusedVariables false
set_option linter.unusedSimpArgs false

/-! ### root_isSpot: function 40 -/
def root_isSpot.f (a0_0 : Int) (a0_1 : Int) (l0_2 : List Int) : Option (Bool) := (root_isAddr.f a0_0).bind fun t117 => (if t117 = true then (if a0_1 ≥ 0 then (if a0_1 ≤ 2147483647 then ((line_Right.f l0_2).bind fun t118 => (if t118 = true then (if a0_1 = 0 then (some true) else (some ((l0_2.length : Int) == 0))) else (some false))) else (some false)) else (some false)) else (some false))
set_option maxHeartbeats 8000000 in
set_option maxRecDepth 100000 in
theorem root_isSpot.calls (a0_0 : Int) (a0_1 : Int) (A0_2 : Option Addr) (c0_2 : Nat) (l0_2 : List Int) (r : Bool) (w : World) (hr0_2 : Kd.C (Kd.int .i64) w A0_2 l0_2.length l0_2) (hc0_2 : l0_2.length ≤ c0_2) (h : root_isSpot.f a0_0 a0_1 l0_2 = some r) :
    Calls Try.prog 40 #[.agg #[.int .i64 a0_0, .int .i64 a0_1, .slice A0_2 l0_2.length c0_2]] w fun e w' => e = .returned (.bool r) ∧ Below w.heap.size w w' := by
  have hu33 := Try.underlying33
  have HR0_2 := Aside0.mk hr0_2
  have HC0_2 := Aside0.mk hc0_2
  clear hr0_2 hc0_2
  have HB := Aside0.mk (Below.refl w.heap.size w)
  have H : ((root_isAddr.f a0_0).bind fun t117 => (if t117 = true then (if a0_1 ≥ 0 then (if a0_1 ≤ 2147483647 then ((line_Right.f l0_2).bind fun t118 => (if t118 = true then (if a0_1 = 0 then (some true) else (some ((l0_2.length : Int) == 0))) else (some false))) else (some false)) else (some false)) else (some false))) = some r := h
  clear h
  replace H := Option.bind_eq_some_iff.mp H
  obtain ⟨t117, A20, H⟩ := H
  replace H : (if t117 = true then (if a0_1 ≥ 0 then (if a0_1 ≤ 2147483647 then ((line_Right.f l0_2).bind fun t118 => (if t118 = true then (if a0_1 = 0 then (some true) else (some ((l0_2.length : Int) == 0))) else (some false))) else (some false)) else (some false)) else (some false)) = some r := H
  have A2 := Aside0.mk A20
  clear A20
  by_cases c3 : t117 = true
  · subst c3
    have H1 : (if a0_1 ≥ 0 then (if a0_1 ≤ 2147483647 then ((line_Right.f l0_2).bind fun t118 => (if t118 = true then (if a0_1 = 0 then (some true) else (some ((l0_2.length : Int) == 0))) else (some false))) else (some false)) else (some false)) = some r := by rw [if_pos rfl] at H; exact H
    clear H
    have H := H1
    clear H1
    by_cases c4 : a0_1 ≥ 0
    · rw [if_pos c4] at H
      have c4b0 : decide (0 ≤ a0_1) = true := decide_eq_true c4
      clear c4
      by_cases c5 : a0_1 ≤ 2147483647
      · rw [if_pos c5] at H
        have c5b0 : decide (a0_1 ≤ 2147483647) = true := decide_eq_true c5
        clear c5
        replace H := Option.bind_eq_some_iff.mp H
        obtain ⟨t118, A60, H⟩ := H
        replace H : (if t118 = true then (if a0_1 = 0 then (some true) else (some ((l0_2.length : Int) == 0))) else (some false)) = some r := H
        have A6 := Aside0.mk A60
        clear A60
        by_cases c7 : t118 = true
        · subst c7
          have H1 : (if a0_1 = 0 then (some true) else (some ((l0_2.length : Int) == 0))) = some r := by rw [if_pos rfl] at H; exact H
          clear H
          have H := H1
          clear H1
          by_cases c8 : a0_1 = 0
          · rw [if_pos c8] at H
            have c8b0 : (a0_1 == 0) = true := beq_iff_eq.mpr c8
            have c8b1 : (a0_1 != 0) = false := bne_eq_false_iff_eq.mpr c8
            clear c8
            obtain rfl := Option.some.inj H
            go_enter Try.func40, Try.ntmps40
            go_wp2_with (first | ((with_reducible refine gate_dst (N := 1) rfl ?_); (try (refine gate_guard (by rfl) ?_; dsimp only)); refine box_event ?hg (N := 1) ?hd (cs := #[.int .i64 a0_0, .int .i64 a0_1, .slice A0_2 l0_2.length c0_2]) (t := 33) ?hr ?_; (case hd => rfl); (case hg => rfl); (case hr => first | (go_simp; done) | (go_simp; rfl)); intro gb116 hg w9 hbox hb; have n0_ := Aside0.mk (below_step (by repeat (first | (with_reducible first | exact HB.out | apply below_alloc | apply pw_below_drewN | apply below_drew1) | exact HB.out)) hb); have n1_ := Aside0.mk (hbox); have n2_ := Aside0.mk ((by rw [hg]; exact (below_size (by repeat (first | (with_reducible first | exact HB.out | apply below_alloc | apply pw_below_drewN | apply below_drew1) | exact HB.out))) : w.heap.size ≤ gb116)); have n3_ := Aside0.mk ((by rw [hg]; exact (below_size (by repeat (first | (with_reducible first | exact HB.out | apply below_alloc | apply pw_below_drewN | apply below_drew1) | exact HB.out))) : w.heap.size ≤ gb116)); clear HB; have HB := n0_; have BK116 := n1_; have GW116 := n2_; have GE116 := n3_; clear n0_ n1_ n2_ n3_; clear hb hbox hg; have hcz10_0 : w9.cell? ⟨gb116, 0, none⟩ = some (.int .i64 a0_0) := (blk_cell BK116.out 0).trans rfl; have hcz10_1 : w9.cell? ⟨gb116, 1, none⟩ = some (.int .i64 a0_1) := (blk_cell BK116.out 1).trans rfl; have hcz10_2 : w9.cell? ⟨gb116, 2, none⟩ = some (.slice A0_2 l0_2.length c0_2) := (blk_cell BK116.out 2).trans rfl; have hfz10_0 := blk_frozen BK116.out 0; have hfz10_1 := blk_frozen BK116.out 1; have hfz10_2 := blk_frozen BK116.out 2) | ((with_reducible refine gate_callee (f := 45) rfl ?_); refine goesL_ (some 5) rfl rfl Try.func45 (by kernel_rfl) rfl #[.int .i64 a0_0] rfl (by (try simp only [List.map_toArray, List.map_cons, List.map_nil]); first | done | rfl | (simp only [List.length_drop, List.length_take]; rfl)) ?_; (with_reducible refine (root_isAddr.calls a0_0 true _ A2.out).mono ?_); rintro e w' ⟨rfl, ⟨nd, rfl⟩⟩; refine ⟨_, rfl, ?_⟩) | (go_at_call 61; (with_reducible refine (line_Right.calls _ _ l0_2 true _ ?side1 ?side2 A6.out).mono ?_); (case side1 => repeat (first | exact (Kd.C_below HR0_2.out (by repeat (first | (with_reducible first | exact HB.out | apply below_alloc | apply pw_below_drewN | apply below_drew1 | refine below_set ?_ GE116.out) | exact HB.out))) | (with_reducible refine Kd.C_alloc ?_ _) | (with_reducible refine Kd.C_drewN ?_ _) | (with_reducible refine Kd.C_drew ?_))); (case side2 => exact HC0_2.out); rintro e w11 ⟨rfl, hb⟩; have n0_ := Aside0.mk (blk_below (g := gb116) (o := .cells #[.int .i64 a0_0, .int .i64 a0_1, .slice A0_2 l0_2.length c0_2] 33 (0, 0)) (by (with_reducible repeat (first | refine blk_drewN ?_ _ | refine blk_drew ?_ | refine blk_alloc ?_ _)); exact BK116.out) hb); have n1_ := Aside0.mk (below_step (by repeat (first | (with_reducible first | exact HB.out | apply below_alloc | apply pw_below_drewN | apply below_drew1 | refine below_set ?_ GE116.out) | exact HB.out)) hb); clear BK116; clear HB; have BK116 := n0_; have HB := n1_; clear n0_ n1_; (try clear hb); (try clear hb2); (try clear hk); (try clear hi); have hcz12_0 : w11.cell? ⟨gb116, 0, none⟩ = some (.int .i64 a0_0) := (blk_cell BK116.out 0).trans rfl; have hcz12_1 : w11.cell? ⟨gb116, 1, none⟩ = some (.int .i64 a0_1) := (blk_cell BK116.out 1).trans rfl; have hcz12_2 : w11.cell? ⟨gb116, 2, none⟩ = some (.slice A0_2 l0_2.length c0_2) := (blk_cell BK116.out 2).trans rfl; have hfz12_0 := blk_frozen BK116.out 0; have hfz12_1 := blk_frozen BK116.out 1; have hfz12_2 := blk_frozen BK116.out 2))
            go_ret
            exact ⟨by first | rfl | (simp [errW_none, errW_some] <;> rfl) | (simp [*, errW_none, errW_some] <;> rfl), by repeat (first | (with_reducible first | exact HB.out | apply below_alloc | apply pw_below_drewN | apply below_drew1 | refine below_set ?_ GE116.out) | exact HB.out)⟩
          · rw [if_neg c8] at H
            have c8b0 : (a0_1 == 0) = false := beq_eq_false_iff_ne.mpr c8
            have c8b1 : (a0_1 != 0) = true := bne_iff_ne.mpr c8
            obtain rfl := Option.some.inj H
            go_enter Try.func40, Try.ntmps40
            go_wp2_with (first | ((with_reducible refine gate_dst (N := 1) rfl ?_); (try (refine gate_guard (by rfl) ?_; dsimp only)); refine box_event ?hg (N := 1) ?hd (cs := #[.int .i64 a0_0, .int .i64 a0_1, .slice A0_2 l0_2.length c0_2]) (t := 33) ?hr ?_; (case hd => rfl); (case hg => rfl); (case hr => first | (go_simp; done) | (go_simp; rfl)); intro gb116 hg w13 hbox hb; have n0_ := Aside0.mk (below_step (by repeat (first | (with_reducible first | exact HB.out | apply below_alloc | apply pw_below_drewN | apply below_drew1) | exact HB.out)) hb); have n1_ := Aside0.mk (hbox); have n2_ := Aside0.mk ((by rw [hg]; exact (below_size (by repeat (first | (with_reducible first | exact HB.out | apply below_alloc | apply pw_below_drewN | apply below_drew1) | exact HB.out))) : w.heap.size ≤ gb116)); have n3_ := Aside0.mk ((by rw [hg]; exact (below_size (by repeat (first | (with_reducible first | exact HB.out | apply below_alloc | apply pw_below_drewN | apply below_drew1) | exact HB.out))) : w.heap.size ≤ gb116)); clear HB; have HB := n0_; have BK116 := n1_; have GW116 := n2_; have GE116 := n3_; clear n0_ n1_ n2_ n3_; clear hb hbox hg; have hcz14_0 : w13.cell? ⟨gb116, 0, none⟩ = some (.int .i64 a0_0) := (blk_cell BK116.out 0).trans rfl; have hcz14_1 : w13.cell? ⟨gb116, 1, none⟩ = some (.int .i64 a0_1) := (blk_cell BK116.out 1).trans rfl; have hcz14_2 : w13.cell? ⟨gb116, 2, none⟩ = some (.slice A0_2 l0_2.length c0_2) := (blk_cell BK116.out 2).trans rfl; have hfz14_0 := blk_frozen BK116.out 0; have hfz14_1 := blk_frozen BK116.out 1; have hfz14_2 := blk_frozen BK116.out 2) | ((with_reducible refine gate_callee (f := 45) rfl ?_); refine goesL_ (some 5) rfl rfl Try.func45 (by kernel_rfl) rfl #[.int .i64 a0_0] rfl (by (try simp only [List.map_toArray, List.map_cons, List.map_nil]); first | done | rfl | (simp only [List.length_drop, List.length_take]; rfl)) ?_; (with_reducible refine (root_isAddr.calls a0_0 true _ A2.out).mono ?_); rintro e w' ⟨rfl, ⟨nd, rfl⟩⟩; refine ⟨_, rfl, ?_⟩) | (go_at_call 61; (with_reducible refine (line_Right.calls _ _ l0_2 true _ ?side1 ?side2 A6.out).mono ?_); (case side1 => repeat (first | exact (Kd.C_below HR0_2.out (by repeat (first | (with_reducible first | exact HB.out | apply below_alloc | apply pw_below_drewN | apply below_drew1 | refine below_set ?_ GE116.out) | exact HB.out))) | (with_reducible refine Kd.C_alloc ?_ _) | (with_reducible refine Kd.C_drewN ?_ _) | (with_reducible refine Kd.C_drew ?_))); (case side2 => exact HC0_2.out); rintro e w15 ⟨rfl, hb⟩; have n0_ := Aside0.mk (blk_below (g := gb116) (o := .cells #[.int .i64 a0_0, .int .i64 a0_1, .slice A0_2 l0_2.length c0_2] 33 (0, 0)) (by (with_reducible repeat (first | refine blk_drewN ?_ _ | refine blk_drew ?_ | refine blk_alloc ?_ _)); exact BK116.out) hb); have n1_ := Aside0.mk (below_step (by repeat (first | (with_reducible first | exact HB.out | apply below_alloc | apply pw_below_drewN | apply below_drew1 | refine below_set ?_ GE116.out) | exact HB.out)) hb); clear BK116; clear HB; have BK116 := n0_; have HB := n1_; clear n0_ n1_; (try clear hb); (try clear hb2); (try clear hk); (try clear hi); have hcz16_0 : w15.cell? ⟨gb116, 0, none⟩ = some (.int .i64 a0_0) := (blk_cell BK116.out 0).trans rfl; have hcz16_1 : w15.cell? ⟨gb116, 1, none⟩ = some (.int .i64 a0_1) := (blk_cell BK116.out 1).trans rfl; have hcz16_2 : w15.cell? ⟨gb116, 2, none⟩ = some (.slice A0_2 l0_2.length c0_2) := (blk_cell BK116.out 2).trans rfl; have hfz16_0 := blk_frozen BK116.out 0; have hfz16_1 := blk_frozen BK116.out 1; have hfz16_2 := blk_frozen BK116.out 2))
            go_ret
            exact ⟨by first | rfl | (simp [errW_none, errW_some] <;> rfl) | (simp [*, errW_none, errW_some] <;> rfl), by repeat (first | (with_reducible first | exact HB.out | apply below_alloc | apply pw_below_drewN | apply below_drew1 | refine below_set ?_ GE116.out) | exact HB.out)⟩
        · replace c7 := Bool.eq_false_iff.mpr c7
          subst c7
          have H1 : (some false) = some r := by rw [if_neg (show ¬ (false = true) by decide)] at H; exact H
          clear H
          have H := H1
          clear H1
          obtain rfl := Option.some.inj H
          go_enter Try.func40, Try.ntmps40
          go_wp2_with (first | ((with_reducible refine gate_dst (N := 1) rfl ?_); (try (refine gate_guard (by rfl) ?_; dsimp only)); refine box_event ?hg (N := 1) ?hd (cs := #[.int .i64 a0_0, .int .i64 a0_1, .slice A0_2 l0_2.length c0_2]) (t := 33) ?hr ?_; (case hd => rfl); (case hg => rfl); (case hr => first | (go_simp; done) | (go_simp; rfl)); intro gb116 hg w17 hbox hb; have n0_ := Aside0.mk (below_step (by repeat (first | (with_reducible first | exact HB.out | apply below_alloc | apply pw_below_drewN | apply below_drew1) | exact HB.out)) hb); have n1_ := Aside0.mk (hbox); have n2_ := Aside0.mk ((by rw [hg]; exact (below_size (by repeat (first | (with_reducible first | exact HB.out | apply below_alloc | apply pw_below_drewN | apply below_drew1) | exact HB.out))) : w.heap.size ≤ gb116)); have n3_ := Aside0.mk ((by rw [hg]; exact (below_size (by repeat (first | (with_reducible first | exact HB.out | apply below_alloc | apply pw_below_drewN | apply below_drew1) | exact HB.out))) : w.heap.size ≤ gb116)); clear HB; have HB := n0_; have BK116 := n1_; have GW116 := n2_; have GE116 := n3_; clear n0_ n1_ n2_ n3_; clear hb hbox hg; have hcz18_0 : w17.cell? ⟨gb116, 0, none⟩ = some (.int .i64 a0_0) := (blk_cell BK116.out 0).trans rfl; have hcz18_1 : w17.cell? ⟨gb116, 1, none⟩ = some (.int .i64 a0_1) := (blk_cell BK116.out 1).trans rfl; have hcz18_2 : w17.cell? ⟨gb116, 2, none⟩ = some (.slice A0_2 l0_2.length c0_2) := (blk_cell BK116.out 2).trans rfl; have hfz18_0 := blk_frozen BK116.out 0; have hfz18_1 := blk_frozen BK116.out 1; have hfz18_2 := blk_frozen BK116.out 2) | ((with_reducible refine gate_callee (f := 45) rfl ?_); refine goesL_ (some 5) rfl rfl Try.func45 (by kernel_rfl) rfl #[.int .i64 a0_0] rfl (by (try simp only [List.map_toArray, List.map_cons, List.map_nil]); first | done | rfl | (simp only [List.length_drop, List.length_take]; rfl)) ?_; (with_reducible refine (root_isAddr.calls a0_0 true _ A2.out).mono ?_); rintro e w' ⟨rfl, ⟨nd, rfl⟩⟩; refine ⟨_, rfl, ?_⟩) | (go_at_call 61; (with_reducible refine (line_Right.calls _ _ l0_2 false _ ?side1 ?side2 A6.out).mono ?_); (case side1 => repeat (first | exact (Kd.C_below HR0_2.out (by repeat (first | (with_reducible first | exact HB.out | apply below_alloc | apply pw_below_drewN | apply below_drew1 | refine below_set ?_ GE116.out) | exact HB.out))) | (with_reducible refine Kd.C_alloc ?_ _) | (with_reducible refine Kd.C_drewN ?_ _) | (with_reducible refine Kd.C_drew ?_))); (case side2 => exact HC0_2.out); rintro e w19 ⟨rfl, hb⟩; have n0_ := Aside0.mk (blk_below (g := gb116) (o := .cells #[.int .i64 a0_0, .int .i64 a0_1, .slice A0_2 l0_2.length c0_2] 33 (0, 0)) (by (with_reducible repeat (first | refine blk_drewN ?_ _ | refine blk_drew ?_ | refine blk_alloc ?_ _)); exact BK116.out) hb); have n1_ := Aside0.mk (below_step (by repeat (first | (with_reducible first | exact HB.out | apply below_alloc | apply pw_below_drewN | apply below_drew1 | refine below_set ?_ GE116.out) | exact HB.out)) hb); clear BK116; clear HB; have BK116 := n0_; have HB := n1_; clear n0_ n1_; (try clear hb); (try clear hb2); (try clear hk); (try clear hi)))
          go_ret
          exact ⟨by first | rfl | (simp [errW_none, errW_some] <;> rfl) | (simp [*, errW_none, errW_some] <;> rfl), by repeat (first | (with_reducible first | exact HB.out | apply below_alloc | apply pw_below_drewN | apply below_drew1 | refine below_set ?_ GE116.out) | exact HB.out)⟩
      · rw [if_neg c5] at H
        have c5b0 : decide (a0_1 ≤ 2147483647) = false := decide_eq_false c5
        clear c5
        obtain rfl := Option.some.inj H
        go_enter Try.func40, Try.ntmps40
        go_wp2_with (first | ((with_reducible refine gate_dst (N := 1) rfl ?_); (try (refine gate_guard (by rfl) ?_; dsimp only)); refine box_event ?hg (N := 1) ?hd (cs := #[.int .i64 a0_0, .int .i64 a0_1, .slice A0_2 l0_2.length c0_2]) (t := 33) ?hr ?_; (case hd => rfl); (case hg => rfl); (case hr => first | (go_simp; done) | (go_simp; rfl)); intro gb116 hg w20 hbox hb; have n0_ := Aside0.mk (below_step (by repeat (first | (with_reducible first | exact HB.out | apply below_alloc | apply pw_below_drewN | apply below_drew1) | exact HB.out)) hb); have n1_ := Aside0.mk (hbox); have n2_ := Aside0.mk ((by rw [hg]; exact (below_size (by repeat (first | (with_reducible first | exact HB.out | apply below_alloc | apply pw_below_drewN | apply below_drew1) | exact HB.out))) : w.heap.size ≤ gb116)); have n3_ := Aside0.mk ((by rw [hg]; exact (below_size (by repeat (first | (with_reducible first | exact HB.out | apply below_alloc | apply pw_below_drewN | apply below_drew1) | exact HB.out))) : w.heap.size ≤ gb116)); clear HB; have HB := n0_; have BK116 := n1_; have GW116 := n2_; have GE116 := n3_; clear n0_ n1_ n2_ n3_; clear hb hbox hg; have hcz21_0 : w20.cell? ⟨gb116, 0, none⟩ = some (.int .i64 a0_0) := (blk_cell BK116.out 0).trans rfl; have hcz21_1 : w20.cell? ⟨gb116, 1, none⟩ = some (.int .i64 a0_1) := (blk_cell BK116.out 1).trans rfl; have hcz21_2 : w20.cell? ⟨gb116, 2, none⟩ = some (.slice A0_2 l0_2.length c0_2) := (blk_cell BK116.out 2).trans rfl; have hfz21_0 := blk_frozen BK116.out 0; have hfz21_1 := blk_frozen BK116.out 1; have hfz21_2 := blk_frozen BK116.out 2) | ((with_reducible refine gate_callee (f := 45) rfl ?_); refine goesL_ (some 5) rfl rfl Try.func45 (by kernel_rfl) rfl #[.int .i64 a0_0] rfl (by (try simp only [List.map_toArray, List.map_cons, List.map_nil]); first | done | rfl | (simp only [List.length_drop, List.length_take]; rfl)) ?_; (with_reducible refine (root_isAddr.calls a0_0 true _ A2.out).mono ?_); rintro e w' ⟨rfl, ⟨nd, rfl⟩⟩; refine ⟨_, rfl, ?_⟩))
        go_ret
        exact ⟨by first | rfl | (simp [errW_none, errW_some] <;> rfl) | (simp [*, errW_none, errW_some] <;> rfl), by repeat (first | (with_reducible first | exact HB.out | apply below_alloc | apply pw_below_drewN | apply below_drew1 | refine below_set ?_ GE116.out) | exact HB.out)⟩
    · rw [if_neg c4] at H
      have c4b0 : decide (0 ≤ a0_1) = false := decide_eq_false c4
      clear c4
      obtain rfl := Option.some.inj H
      go_enter Try.func40, Try.ntmps40
      go_wp2_with (first | ((with_reducible refine gate_dst (N := 1) rfl ?_); (try (refine gate_guard (by rfl) ?_; dsimp only)); refine box_event ?hg (N := 1) ?hd (cs := #[.int .i64 a0_0, .int .i64 a0_1, .slice A0_2 l0_2.length c0_2]) (t := 33) ?hr ?_; (case hd => rfl); (case hg => rfl); (case hr => first | (go_simp; done) | (go_simp; rfl)); intro gb116 hg w22 hbox hb; have n0_ := Aside0.mk (below_step (by repeat (first | (with_reducible first | exact HB.out | apply below_alloc | apply pw_below_drewN | apply below_drew1) | exact HB.out)) hb); have n1_ := Aside0.mk (hbox); have n2_ := Aside0.mk ((by rw [hg]; exact (below_size (by repeat (first | (with_reducible first | exact HB.out | apply below_alloc | apply pw_below_drewN | apply below_drew1) | exact HB.out))) : w.heap.size ≤ gb116)); have n3_ := Aside0.mk ((by rw [hg]; exact (below_size (by repeat (first | (with_reducible first | exact HB.out | apply below_alloc | apply pw_below_drewN | apply below_drew1) | exact HB.out))) : w.heap.size ≤ gb116)); clear HB; have HB := n0_; have BK116 := n1_; have GW116 := n2_; have GE116 := n3_; clear n0_ n1_ n2_ n3_; clear hb hbox hg; have hcz23_0 : w22.cell? ⟨gb116, 0, none⟩ = some (.int .i64 a0_0) := (blk_cell BK116.out 0).trans rfl; have hcz23_1 : w22.cell? ⟨gb116, 1, none⟩ = some (.int .i64 a0_1) := (blk_cell BK116.out 1).trans rfl; have hcz23_2 : w22.cell? ⟨gb116, 2, none⟩ = some (.slice A0_2 l0_2.length c0_2) := (blk_cell BK116.out 2).trans rfl; have hfz23_0 := blk_frozen BK116.out 0; have hfz23_1 := blk_frozen BK116.out 1; have hfz23_2 := blk_frozen BK116.out 2) | ((with_reducible refine gate_callee (f := 45) rfl ?_); refine goesL_ (some 5) rfl rfl Try.func45 (by kernel_rfl) rfl #[.int .i64 a0_0] rfl (by (try simp only [List.map_toArray, List.map_cons, List.map_nil]); first | done | rfl | (simp only [List.length_drop, List.length_take]; rfl)) ?_; (with_reducible refine (root_isAddr.calls a0_0 true _ A2.out).mono ?_); rintro e w' ⟨rfl, ⟨nd, rfl⟩⟩; refine ⟨_, rfl, ?_⟩))
      go_ret
      exact ⟨by first | rfl | (simp [errW_none, errW_some] <;> rfl) | (simp [*, errW_none, errW_some] <;> rfl), by repeat (first | (with_reducible first | exact HB.out | apply below_alloc | apply pw_below_drewN | apply below_drew1 | refine below_set ?_ GE116.out) | exact HB.out)⟩
  · replace c3 := Bool.eq_false_iff.mpr c3
    subst c3
    have H1 : (some false) = some r := by rw [if_neg (show ¬ (false = true) by decide)] at H; exact H
    clear H
    have H := H1
    clear H1
    obtain rfl := Option.some.inj H
    go_enter Try.func40, Try.ntmps40
    go_wp2_with (first | ((with_reducible refine gate_dst (N := 1) rfl ?_); (try (refine gate_guard (by rfl) ?_; dsimp only)); refine box_event ?hg (N := 1) ?hd (cs := #[.int .i64 a0_0, .int .i64 a0_1, .slice A0_2 l0_2.length c0_2]) (t := 33) ?hr ?_; (case hd => rfl); (case hg => rfl); (case hr => first | (go_simp; done) | (go_simp; rfl)); intro gb116 hg w24 hbox hb; have n0_ := Aside0.mk (below_step (by repeat (first | (with_reducible first | exact HB.out | apply below_alloc | apply pw_below_drewN | apply below_drew1) | exact HB.out)) hb); have n1_ := Aside0.mk (hbox); have n2_ := Aside0.mk ((by rw [hg]; exact (below_size (by repeat (first | (with_reducible first | exact HB.out | apply below_alloc | apply pw_below_drewN | apply below_drew1) | exact HB.out))) : w.heap.size ≤ gb116)); have n3_ := Aside0.mk ((by rw [hg]; exact (below_size (by repeat (first | (with_reducible first | exact HB.out | apply below_alloc | apply pw_below_drewN | apply below_drew1) | exact HB.out))) : w.heap.size ≤ gb116)); clear HB; have HB := n0_; have BK116 := n1_; have GW116 := n2_; have GE116 := n3_; clear n0_ n1_ n2_ n3_; clear hb hbox hg; have hcz25_0 : w24.cell? ⟨gb116, 0, none⟩ = some (.int .i64 a0_0) := (blk_cell BK116.out 0).trans rfl; have hcz25_1 : w24.cell? ⟨gb116, 1, none⟩ = some (.int .i64 a0_1) := (blk_cell BK116.out 1).trans rfl; have hcz25_2 : w24.cell? ⟨gb116, 2, none⟩ = some (.slice A0_2 l0_2.length c0_2) := (blk_cell BK116.out 2).trans rfl; have hfz25_0 := blk_frozen BK116.out 0; have hfz25_1 := blk_frozen BK116.out 1; have hfz25_2 := blk_frozen BK116.out 2) | ((with_reducible refine gate_callee (f := 45) rfl ?_); refine goesL_ (some 5) rfl rfl Try.func45 (by kernel_rfl) rfl #[.int .i64 a0_0] rfl (by (try simp only [List.map_toArray, List.map_cons, List.map_nil]); first | done | rfl | (simp only [List.length_drop, List.length_take]; rfl)) ?_; (with_reducible refine (root_isAddr.calls a0_0 false _ A2.out).mono ?_); rintro e w' ⟨rfl, ⟨nd, rfl⟩⟩; refine ⟨_, rfl, ?_⟩))
    go_ret
    exact ⟨by first | rfl | (simp [errW_none, errW_some] <;> rfl) | (simp [*, errW_none, errW_some] <;> rfl), by repeat (first | (with_reducible first | exact HB.out | apply below_alloc | apply pw_below_drewN | apply below_drew1 | refine below_set ?_ GE116.out) | exact HB.out)⟩

end Go.Proofs.Ytnjnjajgpkmfhaa.PX

namespace Go.Proofs.Ytnjnjajgpkmfhaa.PX
open Go.RowKit Go.Proofs.YtnjnjajgpkmfhaaW.PrintWords Go.Proofs.YtnjnjajgpkmfhaaW.PrintLast Go.Proofs.YtnjnjajgpkmfhaaW.PrintMore
attribute [local go_sem] max2_int min2_int max_two min_two max_three min_three max_four min_four   -- for this text's walks alone
set_option linter.unusedVariables false
set_option linter.unusedSimpArgs false

/-! ### root_isEmpty: function 41 -/
def root_isEmpty.f (a0_0 : Int) (a0_1 : Int) (l0_2 : List Int) : Option (Bool) := if a0_1 = 0 then (some ((l0_2.length : Int) == 0)) else (some false)
set_option maxHeartbeats 8000000 in
set_option maxRecDepth 100000 in
theorem root_isEmpty.calls (a0_0 : Int) (a0_1 : Int) (A0_2 : Option Addr) (c0_2 : Nat) (l0_2 : List Int) (r : Bool) (w : World) (hr0_2 : Kd.C (Kd.int .i64) w A0_2 l0_2.length l0_2) (hc0_2 : l0_2.length ≤ c0_2) (h : root_isEmpty.f a0_0 a0_1 l0_2 = some r) :
    Calls Try.prog 41 #[.agg #[.int .i64 a0_0, .int .i64 a0_1, .slice A0_2 l0_2.length c0_2]] w fun e w' => e = .returned (.bool r) ∧ Below w.heap.size w w' := by
  have hu33 := Try.underlying33
  have HR0_2 := Aside0.mk hr0_2
  have HC0_2 := Aside0.mk hc0_2
  clear hr0_2 hc0_2
  have HB := Aside0.mk (Below.refl w.heap.size w)
  have H : (if a0_1 = 0 then (some ((l0_2.length : Int) == 0)) else (some false)) = some r := h
  clear h
  by_cases c2 : a0_1 = 0
  · rw [if_pos c2] at H
    have c2b0 : (a0_1 == 0) = true := beq_iff_eq.mpr c2
    have c2b1 : (a0_1 != 0) = false := bne_eq_false_iff_eq.mpr c2
    clear c2
    obtain rfl := Option.some.inj H
    go_enter Try.func41, Try.ntmps41
    go_wp2_with (first | ((with_reducible refine gate_dst (N := 1) rfl ?_); (try (refine gate_guard (by rfl) ?_; dsimp only)); refine box_event ?hg (N := 1) ?hd (cs := #[.int .i64 a0_0, .int .i64 a0_1, .slice A0_2 l0_2.length c0_2]) (t := 33) ?hr ?_; (case hd => rfl); (case hg => rfl); (case hr => first | (go_simp; done) | (go_simp; rfl)); intro gb119 hg w3 hbox hb; have n0_ := Aside0.mk (below_step (by repeat (first | (with_reducible first | exact HB.out | apply below_alloc | apply pw_below_drewN | apply below_drew1) | exact HB.out)) hb); have n1_ := Aside0.mk (hbox); have n2_ := Aside0.mk ((by rw [hg]; exact (below_size (by repeat (first | (with_reducible first | exact HB.out | apply below_alloc | apply pw_below_drewN | apply below_drew1) | exact HB.out))) : w.heap.size ≤ gb119)); have n3_ := Aside0.mk ((by rw [hg]; exact (below_size (by repeat (first | (with_reducible first | exact HB.out | apply below_alloc | apply pw_below_drewN | apply below_drew1) | exact HB.out))) : w.heap.size ≤ gb119)); clear HB; have HB := n0_; have BK119 := n1_; have GW119 := n2_; have GE119 := n3_; clear n0_ n1_ n2_ n3_; clear hb hbox hg; have hcz4_0 : w3.cell? ⟨gb119, 0, none⟩ = some (.int .i64 a0_0) := (blk_cell BK119.out 0).trans rfl; have hcz4_1 : w3.cell? ⟨gb119, 1, none⟩ = some (.int .i64 a0_1) := (blk_cell BK119.out 1).trans rfl; have hcz4_2 : w3.cell? ⟨gb119, 2, none⟩ = some (.slice A0_2 l0_2.length c0_2) := (blk_cell BK119.out 2).trans rfl; have hfz4_0 := blk_frozen BK119.out 0; have hfz4_1 := blk_frozen BK119.out 1; have hfz4_2 := blk_frozen BK119.out 2))
    go_ret
    exact ⟨by first | rfl | (simp [errW_none, errW_some] <;> rfl) | (simp [*, errW_none, errW_some] <;> rfl), by repeat (first | (with_reducible first | exact HB.out | apply below_alloc | apply pw_below_drewN | apply below_drew1 | refine below_set ?_ GE119.out) | exact HB.out)⟩
  · rw [if_neg c2] at H
    have c2b0 : (a0_1 == 0) = false := beq_eq_false_iff_ne.mpr c2
    have c2b1 : (a0_1 != 0) = true := bne_iff_ne.mpr c2
    obtain rfl := Option.some.inj H
    go_enter Try.func41, Try.ntmps41
    go_wp2_with (first | ((with_reducible refine gate_dst (N := 1) rfl ?_); (try (refine gate_guard (by rfl) ?_; dsimp only)); refine box_event ?hg (N := 1) ?hd (cs := #[.int .i64 a0_0, .int .i64 a0_1, .slice A0_2 l0_2.length c0_2]) (t := 33) ?hr ?_; (case hd => rfl); (case hg => rfl); (case hr => first | (go_simp; done) | (go_simp; rfl)); intro gb119 hg w5 hbox hb; have n0_ := Aside0.mk (below_step (by repeat (first | (with_reducible first | exact HB.out | apply below_alloc | apply pw_below_drewN | apply below_drew1) | exact HB.out)) hb); have n1_ := Aside0.mk (hbox); have n2_ := Aside0.mk ((by rw [hg]; exact (below_size (by repeat (first | (with_reducible first | exact HB.out | apply below_alloc | apply pw_below_drewN | apply below_drew1) | exact HB.out))) : w.heap.size ≤ gb119)); have n3_ := Aside0.mk ((by rw [hg]; exact (below_size (by repeat (first | (with_reducible first | exact HB.out | apply below_alloc | apply pw_below_drewN | apply below_drew1) | exact HB.out))) : w.heap.size ≤ gb119)); clear HB; have HB := n0_; have BK119 := n1_; have GW119 := n2_; have GE119 := n3_; clear n0_ n1_ n2_ n3_; clear hb hbox hg; have hcz6_0 : w5.cell? ⟨gb119, 0, none⟩ = some (.int .i64 a0_0) := (blk_cell BK119.out 0).trans rfl; have hcz6_1 : w5.cell? ⟨gb119, 1, none⟩ = some (.int .i64 a0_1) := (blk_cell BK119.out 1).trans rfl; have hcz6_2 : w5.cell? ⟨gb119, 2, none⟩ = some (.slice A0_2 l0_2.length c0_2) := (blk_cell BK119.out 2).trans rfl; have hfz6_0 := blk_frozen BK119.out 0; have hfz6_1 := blk_frozen BK119.out 1; have hfz6_2 := blk_frozen BK119.out 2))
    go_ret
    exact ⟨by first | rfl | (simp [errW_none, errW_some] <;> rfl) | (simp [*, errW_none, errW_some] <;> rfl), by repeat (first | (with_reducible first | exact HB.out | apply below_alloc | apply pw_below_drewN | apply below_drew1 | refine below_set ?_ GE119.out) | exact HB.out)⟩

end Go.Proofs.Ytnjnjajgpkmfhaa.PX

namespace Go.Proofs.Ytnjnjajgpkmfhaa.PX
open Go.RowKit Go.Proofs.YtnjnjajgpkmfhaaW.PrintWords Go.Proofs.YtnjnjajgpkmfhaaW.PrintLast Go.Proofs.YtnjnjajgpkmfhaaW.PrintMore
attribute [local go_sem] max2_int min2_int max_two min_two max_three min_three max_four min_four   -- for this text's walks alone
set_option linter.unusedVariables false
set_option linter.unusedSimpArgs false

/-! ### root_order: function 42 -/
def root_order.f (a0 : Int) (a1 : Int) : Option (Int) := (root_Root.f a0).bind fun bt121 => ((root_Root.f a1).bind fun bt123 => (if bt121.1 = bt123.1 then (some (wrap64 (a0 - a1))) else (some (wrap64 (bt121.1 - bt123.1)))))
set_option maxHeartbeats 8000000 in
set_option maxRecDepth 100000 in
theorem root_order.calls (a0 : Int) (a1 : Int) (r : Int) (w : World) (h : root_order.f a0 a1 = some r) :
    Calls Try.prog 42 #[.int .i64 a0, .int .i64 a1] w fun e w' => e = .returned (.int .i64 r) ∧ Drawn0 w w' := by
  have H : ((root_Root.f a0).bind fun bt121 => ((root_Root.f a1).bind fun bt123 => (if bt121.1 = bt123.1 then (some (wrap64 (a0 - a1))) else (some (wrap64 (bt121.1 - bt123.1)))))) = some r := h
  clear h
  replace H := Option.bind_eq_some_iff.mp H
  obtain ⟨⟨t121, t122⟩, A30, H⟩ := H
  replace H : ((root_Root.f a1).bind fun bt123 => (if t121 = bt123.1 then (some (wrap64 (a0 - a1))) else (some (wrap64 (t121 - bt123.1))))) = some r := H
  have A3 := Aside0.mk A30
  clear A30
  replace H := Option.bind_eq_some_iff.mp H
  obtain ⟨⟨t123, t124⟩, A40, H⟩ := H
  replace H : (if t121 = t123 then (some (wrap64 (a0 - a1))) else (some (wrap64 (t121 - t123)))) = some r := H
  have A4 := Aside0.mk A40
  clear A40
  by_cases c5 : t121 = t123
  · rw [if_pos c5] at H
    have c5b0 : (t121 == t123) = true := beq_iff_eq.mpr c5
    have c5b1 : (t121 != t123) = false := bne_eq_false_iff_eq.mpr c5
    clear c5
    obtain rfl := Option.some.inj H
    go_enter Try.func42, Try.ntmps42
    go_wp2_with (first | ((with_reducible refine gate_callee (f := 14) rfl ?_); refine goesL_ (some 11) rfl rfl Try.func14 (by kernel_rfl) rfl #[.int .i64 a0] rfl (by (try simp only [List.map_toArray, List.map_cons, List.map_nil]); first | done | rfl | (simp only [List.length_drop, List.length_take]; rfl)) ?_; (with_reducible refine (root_Root.calls a0 t121 t122 _ A3.out).mono ?_); rintro e w' ⟨rfl, ⟨nd, rfl⟩⟩; refine ⟨_, rfl, ?_⟩) | ((with_reducible refine gate_callee (f := 14) rfl ?_); refine goesL_ (some 16) rfl rfl Try.func14 (by kernel_rfl) rfl #[.int .i64 a1] rfl (by (try simp only [List.map_toArray, List.map_cons, List.map_nil]); first | done | rfl | (simp only [List.length_drop, List.length_take]; rfl)) ?_; (with_reducible refine (root_Root.calls a1 t123 t124 _ A4.out).mono ?_); rintro e w' ⟨rfl, ⟨nd, rfl⟩⟩; refine ⟨_, rfl, ?_⟩))
    go_ret
    exact ⟨by first | rfl | (simp; done) | (simp [*]; done), by repeat (first | exact Drawn0.refl _ | apply Drawn0.step)⟩
  · rw [if_neg c5] at H
    have c5b0 : (t121 == t123) = false := beq_eq_false_iff_ne.mpr c5
    have c5b1 : (t121 != t123) = true := bne_iff_ne.mpr c5
    obtain rfl := Option.some.inj H
    go_enter Try.func42, Try.ntmps42
    go_wp2_with (first | ((with_reducible refine gate_callee (f := 14) rfl ?_); refine goesL_ (some 11) rfl rfl Try.func14 (by kernel_rfl) rfl #[.int .i64 a0] rfl (by (try simp only [List.map_toArray, List.map_cons, List.map_nil]); first | done | rfl | (simp only [List.length_drop, List.length_take]; rfl)) ?_; (with_reducible refine (root_Root.calls a0 t121 t122 _ A3.out).mono ?_); rintro e w' ⟨rfl, ⟨nd, rfl⟩⟩; refine ⟨_, rfl, ?_⟩) | ((with_reducible refine gate_callee (f := 14) rfl ?_); refine goesL_ (some 16) rfl rfl Try.func14 (by kernel_rfl) rfl #[.int .i64 a1] rfl (by (try simp only [List.map_toArray, List.map_cons, List.map_nil]); first | done | rfl | (simp only [List.length_drop, List.length_take]; rfl)) ?_; (with_reducible refine (root_Root.calls a1 t123 t124 _ A4.out).mono ?_); rintro e w' ⟨rfl, ⟨nd, rfl⟩⟩; refine ⟨_, rfl, ?_⟩))
    go_ret
    exact ⟨by first | rfl | (simp; done) | (simp [*]; done), by repeat (first | exact Drawn0.refl _ | apply Drawn0.step)⟩

end Go.Proofs.Ytnjnjajgpkmfhaa.PX
