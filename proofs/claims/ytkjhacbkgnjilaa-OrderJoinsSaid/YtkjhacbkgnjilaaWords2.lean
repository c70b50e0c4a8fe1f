/-
  More words for memory: make and copy of slices of structs, a row that is set at a place.
-/
import Derived.Test.YtkjhacbkgnjilaaWords
import Derived.Laws.MakeOwn
import Derived.Laws.Entries
import Derived.Laws.CopyRow
namespace Go.Proofs.Ytkjhacbkgnjilaa
open Go.RowKit

theorem run_make_rowN {P : Program} (t e : TypeId) (i : TypeInfo) (z : Value) (ht : P.underlying t = some (.slice e)) (hi : P.info? e = some i) (hz : i.zero = some z)
    (kl kc : IntKind) (n c : Nat) (hnc : n ≤ c) (hbytes : i.bytes * c ≤ 281474976710656) (h63 : c ≤ 9223372036854775807) (w : World) :
    (Instr.makeSlice t (.int kl (n : Int)) (.int kc (c : Int))).run P w = .ok (.slice (some ⟨w.heap.size, 0, none⟩) n c) (w.alloc (.cells (madeCells z.cells (c * i.size)) e)) := by
  have hb : (i.bytes : Int) * (c : Int) ≤ 281474976710656 := by
    have h : ((i.bytes * c : Nat) : Int) ≤ 281474976710656 := by omega
    rwa [Int.natCast_mul] at h
  have hr := run_make (P := P) w t e i z ht hi hz kl kc n c (by omega) (by omega) hb (by omega)
  simp only [Int.toNat_natCast] at hr
  exact hr
theorem run_makeMap_hint {P : Program} (t k e : TypeId) (kd : IntKind) (n : Int) (ht : P.underlying t = some (.map k e)) (w : World) :
    (Instr.makeMap t (some (.int kd n))).run P w = .ok (.map (some w.heap.size)) (w.alloc (.map #[] 0)) := by
  simp [Instr.makeMap, run_underlying ht]; rfl

/-- copy between rows of elements of m cells. -/
theorem run_copy_rowM {P : Program} (w : World) (dT sT ty elem : TypeId) (m g o n dLen dCap : Nat) (a : Addr) (sLen sCap : Nat) (cur : Array Value) (t : TypeId) (cs : List Value)
    (hu : P.underlying dT = some (.slice elem)) (hs : (P.info? elem).map (·.size) = some m)
    (hg : w.heap[g]? = some (.cells cur t (0, 0))) (hn : n = Nat.min sLen dLen) (hcs : cs.length = n * m)
    (hsrc : ∀ j v, cs[j]? = some v → w.cell? (a.add j) = some v) (hfit : o + cs.length ≤ cur.size) (h1 : ∀ v ∈ cs, v.oneCell' = true) :
    (Builtin.copy_ #[dT, sT] ty #[.slice (some ⟨g, o, none⟩) dLen dCap, .slice (some a) sLen sCap]).run P w =
      .ok (goInt n) (w.setRow g (cur.toList.take o ++ cs ++ cur.toList.drop (o + cs.length)).toArray) := by
  have hl := run_loadCells_list (P := P) w a cs hsrc
  have hst := run_storeCells_at P g o t cs 0 cur w hg (by simpa using hfit) h1
  cases hq : P.info? elem with
  | none => simp [hq] at hs
  | some i =>
    have hi : i.size = m := by simpa [hq] using hs
    rw [hcs] at hl
    simp [Builtin.copy_, run_underlying hu, Builtin.lenOf, Builtin.firstCells, sizeOf, typeInfo, hq, hi, ← hn, hl, hst]

theorem setRow_alloc (w : World) (cur cs : Array Value) (t : TypeId) : (w.alloc (.cells cur t)).setRow w.heap.size cs = w.alloc (.cells cs t) := by
  unfold World.setRow World.alloc
  congr 1
  apply Array.ext
  · simp
  · intro k h1 h2
    simp only [Array.getElem_modify]
    split
    · rename_i hk
      subst hk
      simp
    · rename_i hk
      have h3 : k < w.heap.size := by simp at h1; omega
      simp [Array.getElem_push, h3]

/-- A whole row copied into one just made. -/
theorem run_copy_made {P : Program} (w : World) (dT sT ty elem : TypeId) (m n dCap : Nat) (a : Addr) (sCap : Nat) (cur : Array Value) (t : TypeId) (cs : List Value)
    (hu : P.underlying dT = some (.slice elem)) (hs : (P.info? elem).map (·.size) = some m) (hcs : cs.length = n * m) (hcur : cur.size = n * m)
    (hsrc : ∀ j v, cs[j]? = some v → (w.alloc (.cells cur t)).cell? (a.add j) = some v) (h1 : ∀ v ∈ cs, v.oneCell' = true) :
    (Builtin.copy_ #[dT, sT] ty #[.slice (some ⟨w.heap.size, 0, none⟩) n dCap, .slice (some a) n sCap]).run P (w.alloc (.cells cur t)) = .ok (goInt n) (w.alloc (.cells cs.toArray t)) := by
  rw [run_copy_rowM (w.alloc (.cells cur t)) dT sT ty elem m w.heap.size 0 n n dCap a n sCap cur t cs hu hs (heap_alloc_new w _) (by simp) hcs hsrc (by omega) h1]
  rw [setRow_alloc]
  congr 4
  simp
  omega

/-- A row of a block that is known whole. -/
theorem Reads.of_blk {w : World} {g : Nat} {t : TypeId} {cs : Array Value} {size n : Nat} (h : Blk w g t cs) (hl : cs.size = n * size) : Reads w w.heap.size size (some ⟨g, 0, none⟩) n cs.toList := by
  refine ⟨by simpa using hl, fun _ => ⟨_, rfl, h.lt, fun j u hu => ?_⟩⟩
  have e : (⟨g, 0, none⟩ : Addr).add j = ⟨g, j, none⟩ := by unfold Addr.add; by_cases hj : j = 0 <;> simp [hj]
  rw [e, h.cell j]
  simpa using hu

theorem flat_set2 {α β : Type} (c : α → List β) (hm : ∀ x, (c x).length = 2) : ∀ (l : List α) (k : Nat) (x : α) (u v : β), k < l.length → c x = [u, v] → ((l.flatMap c).set (k * 2) u).set (k * 2 + 1) v = (l.set k x).flatMap c
  | [], _, _, _, _, h, _ => by simp at h
  | y :: l, 0, x, u, v, _, hx => by
    have h2 := hm y
    match hy : c y, h2 with
    | [p, q], _ => simp [hy, hx]
  | y :: l, k + 1, x, u, v, h, hx => by
    have h2 := hm y
    match hy : c y, h2 with
    | [p, q], _ =>
      have ih := flat_set2 c hm l k x u v (by simpa using h) hx
      simp only [List.flatMap_cons, hy, List.set_cons_succ]
      rw [show (k + 1) * 2 = k * 2 + 1 + 1 by omega, show k * 2 + 1 + 1 + 1 = (k * 2 + 1) + 1 + 1 by omega]
      simp only [List.cons_append, List.nil_append, List.set_cons_succ]
      rw [ih]
end Go.Proofs.Ytkjhacbkgnjilaa
