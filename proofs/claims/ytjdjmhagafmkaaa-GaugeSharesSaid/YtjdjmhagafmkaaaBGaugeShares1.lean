/-
  Texts of this claim, one behind the other: Base, Words, Kd, OpenK, PXx0, JudgeLaw, Words2, Judge, BlkAt, Judge2, Cut, Judge3, JudgeFew, JudgeOf, JudgeDel, JudgeDelF, JudgeOfAll, JudgeLong, JudgeOrder, CJudge, GaugeFew, CFew, Until, CUntil, PXx2.
-/
import Derived.Test.YtjdjmhagafmkaaaProg
import Derived.WalkKit
import Derived.WalkSpells
import Derived.WalkLawsBesides
import Derived.Lib.Hide
import Derived.Laws.StructEq
import Derived.ChangeSame
import Derived.ProofKit
import Derived.OpenShut
import Derived.Maps.AppendAt
import Derived.Deep.AppendLies
import Derived.Deep.Draws
import Derived.Deep.Slices
import Derived.Deep.Fields
import Derived.Lib.SmallJoins
import Derived.Laws.OwnMore
import Derived.Laws.Rows
import Derived.RegionTactic
import Derived.OwnWalk
import Derived.Test.YtjdjmhagafmkaaaWMore
import Derived.Test.YtjdjmhagafmkaaaWFour
import Derived.Below
import Derived.Laws.BytesArg
import Derived.Laws.MakeOwn
import Derived.Deep.OwnRows
import Derived.Tactics
import Derived.Lib.ConvBytes
import Derived.Laws.Slices
import Derived.KernelRfl
import Derived.RowKit3
import Derived.Deep.LoopGhost
import Derived.Deep.QuietTactic
import Derived.BigQuiet
import Derived.WideLaws
import Derived.Deep.DeepCutAuto
import Derived.Deep.CutBlock
import Derived.Deep.RegionHeld3
import Derived.Lib.AppendStr
import Derived.ArgAppend
import Derived.Laws.IdiomCopy
import Derived.OrdersHeld
import Derived.Laws.BitsLemmas
import Derived.RowKit
import Derived.Test.YtjdjmhagafmkaaaWWords
import Derived.Test.YtjdjmhagafmkaaaWLast
import Derived.Test.YtjdjmhagafmkaaaWTab
import Derived.Test.YtjdjmhagafmkaaaWQPut
import Derived.Test.YtjdjmhagafmkaaaWApart
import Derived.Test.YtjdjmhagafmkaaaWArr
import Derived.Test.YtjdjmhagafmkaaaWZeros
import Derived.Test.YtjdjmhagafmkaaaWFoot
import Derived.Test.YtjdjmhagafmkaaaWKept
import Derived.Test.YtjdjmhagafmkaaaWShare
import Derived.Test.YtjdjmhagafmkaaaWN
import Derived.Test.YtjdjmhagafmkaaaWFootNe
import Derived.Test.YtjdjmhagafmkaaaWAt
import Derived.Test.YtjdjmhagafmkaaaWEqStruct
import Derived.Test.YtjdjmhagafmkaaaWRepsOne
import Derived.Test.YtjdjmhagafmkaaaWInv
import Derived.Test.YtjdjmhagafmkaaaWInvWords
import Derived.Test.YtjdjmhagafmkaaaWGuard
import Derived.Test.YtjdjmhagafmkaaaWNEv
import Derived.Laws.Entries
import Derived.Laws.CopyRow
import Derived.WalkSmall
/-
  Small lemmas that every text of this seat uses: steps of 'Below' in a row, numbers modulo 2^60, the row's last step over 'Below'.
-/
namespace Go.Proofs.Ytjdjmhagafmkaaa
open Go.RowKit Go.WideShapes Go.ChangeShapes

/-- Two steps, one behind the other. -/
theorem bthen {w a b : World} (h : Below w.heap.size w a) (k : Below a.heap.size a b) : Below w.heap.size w b := h.trans (k.mono h.size)
theorem bmore {n : Nat} {w a b : World} (h : Below n w a) (hn : n ≤ a.heap.size) (k : Below a.heap.size a b) : Below n w b := h.trans (k.mono hn)
/-- What lay in w reads in w' as it did. -/
theorem bcell {W w1 : World} (hb : Below W.heap.size W w1) : (∀ b o, b < W.heap.size → w1.cell? ⟨b, o, none⟩ = W.cell? ⟨b, o, none⟩) ∧ (∀ b o, b < W.heap.size → w1.frozen? ⟨b, o, none⟩ = W.frozen? ⟨b, o, none⟩) :=
  ⟨fun b o h => hb.cell (p := ⟨b, o, none⟩) h, fun b o h => hb.frozen (p := ⟨b, o, none⟩) h⟩

theorem ret_bool {a b : Bool} (h : a = b) : Ending.returned (.bool a) = .returned (.bool b) := by rw [h]
theorem ret_int {k : IntKind} {a b : Int} (h : a = b) : Ending.returned (.int k a) = .returned (.int k b) := by rw [h]

/-- A number modulo 2^60, by way of uint64. -/
theorem mod60 (a : Int) : ∃ A, wrap64 ((IntKind.u64.wrap a).tmod 1152921504606846976) = A ∧ 0 ≤ A ∧ A < 1152921504606846976 := by
  refine ⟨_, rfl, ?_⟩
  have h : IntKind.u64.wrap a = a % 18446744073709551616 := by simp [IntKind.wrap, IntKind.bits, IntKind.signed]
  rw [h, Int.tmod_eq_emod_of_nonneg (by omega)]
  unfold wrap64
  omega

/-- The bounds of an int that fits. -/
theorem wf_bd {a : Int} (h : (Lit.int .i64 a).wf = true) : -9223372036854775808 ≤ a ∧ a ≤ 9223372036854775807 := by
  have h' := bounds_i64 h
  omega

section
variable {H : Type} {enc : TypeId × Value → H} {P : Program}
theorem post_of_below {f : Func} {s : ChangeSpec} {apart fresh handsOn again : Bool} {W W' : World} {args : Array Value} {v : Value} {ds gs : List (DataW H)} {before pa pv : List MemPlace}
    (hW : DataW.Whole enc P f.params.toList s.vars apart W args.toList ds gs before)
    (hres : ∀ (b : Nat) (sp : Nat → Bool) (hd : Bool), DataW.TrodAll enc P W' b sp hd f.resultTypes.toList (v.resultList f.resultTypes.size) (s.fn H (ds ++ gs)).results [])
    (hargs : ∀ sp : Nat → Bool, (∀ p ∈ before, sp p.block = true) → DataW.TrodAll enc P W' 0 sp true f.params.toList args.toList (s.fn H (ds ++ gs)).args pa)
    (hvars : ∀ sp : Nat → Bool, (∀ p ∈ before, sp p.block = true) → DataW.TrodVars enc P W' sp s.vars (s.fn H (ds ++ gs)).vars pv)
    (hps : before = pa ++ pv) (hb : Below W.heap.size W W')
    (hok : ∀ (j : Nat) (t : TypeId) (r : Value), f.resultTypes[j]? = some t → (v.resultList f.resultTypes.size)[j]? = some r → Value.okWide P W' .any 0 t r) :
    s.post enc P f apart fresh handsOn again W args v W' := by
  have hlt : ∀ p ∈ before, p.block < W.heap.size := fun p hp => hW.lt p hp
  have hold : ∀ p ∈ before, (fun b => decide (b < W.heap.size)) p.block = true := fun p hp => by simpa using hlt p hp
  refine ⟨ds, gs, before, [], pa, pv, hW, hres _ _ _, hargs _ hold, hvars _ hold, World.keptBut_mono (fun p hp => ⟨hp, ?_⟩) (hb.frame (· ∈ before)), fun _ => ?_⟩
  · rw [hps, List.mem_append] at hp
    exact Or.inr hp
  · obtain ⟨_, _, _, _, _, hz, hn⟩ := hW
    refine ⟨hok, _, _, ([] ++ pa) ++ pv, ⟨[] ++ pa, pv, trodAll_append (hargs _ (fun _ _ => rfl)) (hres _ _ _), hvars _ (fun _ _ => rfl), rfl, ?_, ?_⟩, ?_⟩
    · intro b off hp
      have hin : MemPlace.cell b off ∈ before := by rw [hps]; simpa using hp
      rw [hb.frozen (hlt _ hin)]
      exact hz b off hin
    · intro ha
      have := hn ha
      rw [hps] at this
      simpa using this
    · intro p hp _
      rw [hps]
      simpa using hp
end
section
variable {H : Type} {enc : TypeId × Value → H} {P : Program}
/-- All arguments read as they did, where nothing that was there has turned. -/
theorem trodAll_stays (hl : laidOutB P = true) {W W' : World} {base : Nat} {sp' : Nat → Bool} : ∀ {ts : List TypeId} {vs : List Value} {ds : List (DataW H)} {ps : List MemPlace},
    ts.all (fun t => P.readableRec t && decide (t < P.types.size)) = true → DataW.TrodAll enc P W base (fun _ => true) true ts vs ds ps → (∀ p ∈ ps, W.sameAt W' p) → (∀ p ∈ ps, sp' p.block = true) → DataW.TrodAll enc P W' base sp' true ts vs ds ps
  | [], [], [], _, _, h, _, _ => h
  | t :: ts, v :: vs, d :: ds, ps, ht, ⟨p, q, h1, h2, hp⟩, hs, hm => by
    simp only [List.all_cons, Bool.and_eq_true, decide_eq_true_eq] at ht
    subst hp
    exact ⟨p, q, Go.WideElems.Trod_stays hl ht.1.1 ht.1.2 h1 (fun x hx => hs x (by simp [hx])) (fun x hx => hm x (by simp [hx])), trodAll_stays hl ht.2 h2 (fun x hx => hs x (by simp [hx])) (fun x hx => hm x (by simp [hx])), rfl⟩
  | [], [], _ :: _, _, _, h, _, _ => h.elim
  | [], _ :: _, _, _, _, h, _, _ => h.elim
  | _ :: _, [], _, _, _, h, _, _ => h.elim
  | _ :: _, _ :: _, [], _, _, h, _, _ => h.elim

/-- The last step of a law's row: it has returned true, and nothing that was there has turned. -/
theorem law_post {f : Func} {s : ChangeSpec} {bt : TypeId} {W W' : World} {args : Array Value} {ds : List (DataW H)} {before : List MemPlace}
    (hl : laidOutB P = true) (hts : f.params.toList.all (fun t => P.readableRec t && decide (t < P.types.size)) = true) (hrt : f.resultTypes = #[bt]) (hbt : P.underlying bt = some .bool) (hsv : s.vars = [])
    (hW : DataW.Whole enc P f.params.toList s.vars false W args.toList ds [] before) (hs : s.fn H (ds ++ []) = { results := [.lit (.bool true)], args := ds }) (hb : Below W.heap.size W W') :
    s.post enc P f false true false false W args (.bool true) W' := by
  have hlt : ∀ p ∈ before, p.block < W.heap.size := fun p hp => hW.lt p hp
  have hW' := hW
  obtain ⟨p, q, hA, hV, hpq, _, _⟩ := hW'
  rw [hsv] at hV
  obtain ⟨_, hq⟩ := trodVars_none hV
  subst hq
  rw [List.append_nil] at hpq
  subst hpq
  refine post_of_below (pa := before) (pv := []) hW ?_ ?_ ?_ (by simp) hb ?_
  · intro b sp hd
    rw [hs, hrt]
    exact trodAll_cons_mk (shut_bool hbt _) trodAll_mk0
  · intro sp hsp
    rw [hs]
    exact trodAll_stays hl hts hA (fun x hx => hb.same (hlt x hx)) (fun x hx => hsp x hx)
  · intro sp _
    rw [hs, hsv]
    rfl
  · exact ok_one hrt rfl (okWide_bool_mk hbt _)
end

end Go.Proofs.Ytjdjmhagafmkaaa

/-
  Words for memory: a slice that reads as a list, a block that is known whole, an append onto a row of the call's own; arguments opened to them.
-/
namespace Go.Proofs.Ytjdjmhagafmkaaa
open Go.RowKit

theorem block_of_add (a : Addr) (n : Nat) : (a.add n).block = a.block := by unfold Addr.add; split <;> rfl
theorem add_of_add (a : Addr) (i j : Nat) : (a.add i).add j = a.add (i + j) := by
  unfold Addr.add
  by_cases hi : i = 0 <;> by_cases hj : j = 0 <;> simp [hi, hj, Nat.add_assoc]

def Reads (w : World) (B size : Nat) (A : Option Addr) (n : Nat) (xs : List Value) : Prop :=
  xs.length = n * size ∧ (0 < n → ∃ ad, A = some ad ∧ ad.block < B ∧ ∀ j u, xs[j]? = some u → w.cell? (ad.add j) = some u)

section
variable {w w' : World} {B B' size n : Nat} {A : Option Addr} {xs : List Value}
theorem Reads.none_ : Reads w B size A 0 [] := ⟨by simp, fun h => absurd h (by omega)⟩
theorem Reads.at_ {k : Nat} (h : Reads w B 1 A n xs) (hk : k < n) : ∃ ad u, A = some ad ∧ ad.block < B ∧ xs[k]? = some u ∧ w.cell? (ad.add k) = some u := by
  obtain ⟨ad, e, hb, hc⟩ := h.2 (by omega)
  have hl : k < xs.length := by have := h.1; omega
  exact ⟨ad, xs[k], e, hb, List.getElem?_eq_getElem hl, hc k _ (List.getElem?_eq_getElem hl)⟩
theorem Reads.keep (h : Reads w B size A n xs) (hk : ∀ p : Addr, p.block < B → w'.cell? p = w.cell? p) : Reads w' B size A n xs :=
  ⟨h.1, fun hn => by
    obtain ⟨ad, e, hb, hc⟩ := h.2 hn
    exact ⟨ad, e, hb, fun j u hu => (hk _ (by rw [block_of_add]; exact hb)).trans (hc j u hu)⟩⟩
theorem Reads.more (h : Reads w B size A n xs) (hB : B ≤ B') : Reads w B' size A n xs :=
  ⟨h.1, fun hn => by
    obtain ⟨ad, e, hb, hc⟩ := h.2 hn
    exact ⟨ad, e, by omega, hc⟩⟩
theorem Reads.below (h : Reads w B size A n xs) (hb : Below B w w') : Reads w' B size A n xs := h.keep fun _ hp => hb.cell hp
theorem Reads.drew (h : Reads w B size A n xs) : Reads w.drew B size A n xs := h
theorem Reads.drewN (h : Reads w B size A n xs) (k : Nat) : Reads (w.drewN k) B size A n xs := h
theorem Reads.alloc (h : Reads w B size A n xs) (hB : B ≤ w.heap.size) (o : Obj) : Reads (w.alloc o) B size A n xs := h.keep fun p hp => World.cell?_alloc_lt w o p (by omega)
theorem Reads.setCell (h : Reads w B size A n xs) {p : Addr} (hB : B ≤ p.block) (u : Value) : Reads (w.setCell p u) B size A n xs :=
  h.keep fun q hq => World.cell?_setCell_other w p q u (fun e => by subst e; omega)
theorem Reads.grown (h : Reads w B size A n xs) {row : Option Nat} (hg : w.grownBy w' row) (hB : B ≤ w.heap.size) (hr : ∀ g, row = some g → B ≤ g) : Reads w' B size A n xs :=
  h.keep fun p hp => World.cell?_of_block (hg.block p.block (by omega) (fun e => by have := hr _ e.symm; omega))
theorem Reads.cut (h : Reads w B size A n xs) {k cap : Nat} (hk : k ≤ n) (hc : n ≤ cap) :
    Reads w B size (if cap = k then A else A.map (·.add (k * size))) (n - k) (xs.drop (k * size)) := by
  refine ⟨by rw [List.length_drop, h.1, Nat.sub_mul], fun hn => ?_⟩
  obtain ⟨ad, rfl, hb, hcell⟩ := h.2 (by omega)
  rw [if_neg (by omega)]
  refine ⟨ad.add (k * size), rfl, by rw [block_of_add]; exact hb, fun j u hu => ?_⟩
  rw [add_of_add]
  exact hcell _ u (by rw [← hu, List.getElem?_drop])
theorem Reads.of_own {base : Nat} {e : TypeId} {c : Nat} (h : w.ownsRow base e size (.slice A n c) n xs) : Reads w w.heap.size size A n xs := by
  refine ⟨h.1, fun hn => ?_⟩
  obtain ⟨g, cap, hv, _, hlt⟩ := h.form hn
  have hA : A = some ⟨g, 0, none⟩ := by injection hv
  subst hA
  exact ⟨_, rfl, hlt, h.cells (g := g) rfl⟩
end

def Blk (w : World) (g : Nat) (t : TypeId) (cs : Array Value) : Prop := w.heap[g]? = some (.cells cs t (0, 0))

section
variable {w w' : World} {g : Nat} {t : TypeId} {cs : Array Value}
theorem Blk.lt (h : Blk w g t cs) : g < w.heap.size := by
  rcases Nat.lt_or_ge g w.heap.size with hlt | hge
  · exact hlt
  · unfold Blk at h; rw [Array.getElem?_eq_none hge] at h; cases h
theorem Blk.cell (h : Blk w g t cs) (i : Nat) : w.cell? ⟨g, i, none⟩ = cs[i]? := cell_of_row w g i cs t (0, 0) h
theorem Blk.frozen (h : Blk w g t cs) (i : Nat) : w.frozen? ⟨g, i, none⟩ = false := by
  unfold Blk at h
  simp [World.frozen?, h]
theorem Blk.new (w : World) (t : TypeId) (cs : Array Value) : Blk (w.alloc (.cells cs t)) w.heap.size t cs := heap_alloc_new w _
theorem Blk.drew (h : Blk w g t cs) : Blk w.drew g t cs := h
theorem Blk.drewN (h : Blk w g t cs) (n : Nat) : Blk (w.drewN n) g t cs := h
theorem Blk.alloc (h : Blk w g t cs) (o : Obj) : Blk (w.alloc o) g t cs := (Below.heap_alloc w o g h.lt).trans h
theorem Blk.set_ (h : Blk w g t cs) (i : Nat) (u : Value) : Blk (w.setCell ⟨g, i, none⟩ u) g t (cs.setIfInBounds i u) := by
  unfold Blk at h ⊢
  simp [World.setCell, Array.getElem?_modify, h]
theorem Blk.far (h : Blk w g t cs) {p : Addr} (hp : g ≠ p.block) (u : Value) : Blk (w.setCell p u) g t cs := (Below.heap_setCell w p u g hp).trans h
theorem Blk.below {B : Nat} (h : Blk w g t cs) (hb : Below B w w') (hg : g < B) : Blk w' g t cs := (hb.block g hg).trans h
theorem Blk.grown {row : Option Nat} (h : Blk w g t cs) (hb : w.grownBy w' row) (hg : some g ≠ row) : Blk w' g t cs := (hb.block g h.lt hg).trans h
theorem Blk.ne_ {g' : Nat} {t' : TypeId} {cs' : Array Value} (h : Blk w g t cs) (h' : Blk w g' t' cs') (hne : t ≠ t') : g ≠ g' := by
  rintro rfl
  unfold Blk at h h'
  rw [h] at h'
  injection h' with h'
  injection h' with _ ht
  exact hne ht
theorem own_blk_ne {base : Nat} {e : TypeId} {size n : Nat} {v : Value} {xs : List Value} (h : w.ownsRow base e size v n xs) (hg : Blk w g t cs) (hne : e ≠ t) : v.ownBlock ≠ some g := by
  rcases h.2 with ⟨rfl, _⟩ | ⟨g', cap, cur, rfl, _, hh, _⟩
  · simp [Value.ownBlock]
  · intro he
    have : g' = g := by simpa [Value.ownBlock] using he
    subst this
    exact Blk.ne_ (t := e) hh hg hne rfl
end

section
variable {P : Program} (w : World)

theorem run_append_of_nil (base : Nat) (t ty e : TypeId) (i : TypeInfo) (size : Nat) (ht : P.underlying t = some (.slice e)) (hi : P.info? e = some i)
    (v : Value) (n : Nat) (xs : List Value) (hown : w.ownsRow base e size v n xs) (c : Nat) : (Builtin.append_ #[t, t] ty #[v, .slice none 0 c]).run P w = .ok v w := by
  rcases hown.2 with ⟨rfl, rfl⟩ | ⟨g, cap, cur, rfl, _, _, hnc, _⟩
  · simp [Builtin.append_, run_underlying ht, sizeOf, typeInfo, hi, Builtin.lenOf, Builtin.firstCells]
  · simp [Builtin.append_, run_underlying ht, sizeOf, typeInfo, hi, Builtin.lenOf, Builtin.firstCells, hnc, storeCells]

theorem run_append_any (base : Nat) (t ty e : TypeId) (i : TypeInfo) (z : Value) (size bytes : Nat) (ht : P.underlying t = some (.slice e)) (hi : P.info? e = some i) (hz : i.zero = some z)
    (hsize : i.size = size) (hby : i.bytes = bytes) (hzs : z.cells.size = size) (hsz : 0 < size)
    (v : Value) (n : Nat) (xs : List Value) (hown : w.ownsRow base e size v n xs)
    (B : Nat) (A : Option Addr) (m c : Nat) (news : List Value) (hr : Reads w B size A m news) (h1 : ∀ u ∈ news, u.oneCell' = true)
    (h63 : n + m ≤ maxLen) (hbytes : (n + m) * bytes ≤ 140737488355328) (hbase : base ≤ w.heap.size) :
    ∃ v' w', (Builtin.append_ #[t, t] ty #[v, .slice A m c]).run P w = .ok v' w' ∧ w'.ownsRow base e size v' (n + m) (xs ++ news) ∧ w.grownBy w' v.ownBlock ∧
      (v'.ownBlock = v.ownBlock ∨ v'.ownBlock = some w.heap.size) := by
  rcases A with _ | ad
  · have hm : m = 0 := by
      rcases Nat.eq_zero_or_pos m with h0 | h0
      · exact h0
      · obtain ⟨ad, h, _⟩ := hr.2 h0
        cases h
    subst hm
    have hn : news = [] := List.eq_nil_of_length_eq_zero (by simpa using hr.1)
    subst hn
    exact ⟨v, w, run_append_of_nil w base t ty e i size ht hi v n xs hown c, by simpa using hown, World.grownBy.refl w _, .inl rfl⟩
  · have hcells : ∀ j u, news[j]? = some u → w.cell? (ad.add j) = some u := by
      intro j u hu
      rcases Nat.eq_zero_or_pos m with h0 | h0
      · subst h0
        have hn : news = [] := List.eq_nil_of_length_eq_zero (by simpa using hr.1)
        subst hn
        simp at hu
      · obtain ⟨ad', h, _, hc⟩ := hr.2 h0
        injection h with h
        subst h
        exact hc j u hu
    obtain ⟨v', w', hrun, h2, h3, _, h5⟩ := run_append_own_at (P := P) w base t ty e i z size bytes ht hi hz hsize hby hzs hsz v n xs hown ad m c news hr.1 hcells h1 h63 hbytes hbase
    exact ⟨v', w', hrun, h2, h3, h5⟩

theorem wp_append_any {o : Oper} {a : Act} {K : Act → World → Prop} {Q : Exit → Act → World → Prop} (s x : Operand) (t : TypeId)
    (ho : o.op = .call { callee := .builtin .append, args := #[s, x], argTypes := #[t, t] })
    (base : Nat) (e : TypeId) (i : TypeInfo) (z : Value) (size bytes : Nat) (ht : P.underlying t = some (.slice e)) (hi : P.info? e = some i) (hz : i.zero = some z)
    (hsize : i.size = size) (hby : i.bytes = bytes) (hzs : z.cells.size = size) (hsz : 0 < size)
    (v : Value) (n : Nat) (xs : List Value) (hs : a.eval s = v) (hown : w.ownsRow base e size v n xs)
    (B : Nat) (A : Option Addr) (m c : Nat) (news : List Value) (hx : a.eval x = .slice A m c) (hr : Reads w B size A m news) (h1 : ∀ u ∈ news, u.oneCell' = true)
    (h63 : n + m ≤ maxLen) (hbytes : (n + m) * bytes ≤ 140737488355328) (hbase : base ≤ w.heap.size)
    (h : ∀ v' w', w'.ownsRow base e size v' (n + m) (xs ++ news) → w.grownBy w' v.ownBlock → (v'.ownBlock = v.ownBlock ∨ v'.ownBlock = some w.heap.size) → K (a.put o.dst v') w') : o.wp P a w K Q := by
  obtain ⟨v', w', hrun, h2, h3, h4⟩ := run_append_any (P := P) w base t o.type e i z size bytes ht hi hz hsize hby hzs hsz v n xs hown B A m c news hr h1 h63 hbytes hbase
  unfold Oper.wp execOp
  simp only [ho, resolve, invoke, builtin, Sem.run_bind, Sem.run_pure, Result.andThen_ok, List.map_toArray, List.map_cons, List.map_nil, hs, hx, hrun]
  exact h v' w' h2 h3 h4

theorem wpList_append_any {ops : Array Oper} {rest : List Oper} {o : Oper} {a : Act} {Q : Exit → Act → World → Prop} (hgd : o.guard = none) (s x : Operand) (t : TypeId)
    (ho : o.op = .call { callee := .builtin .append, args := #[s, x], argTypes := #[t, t] })
    (base : Nat) (e : TypeId) (i : TypeInfo) (z : Value) (size bytes : Nat) (ht : P.underlying t = some (.slice e)) (hi : P.info? e = some i) (hz : i.zero = some z)
    (hsize : i.size = size) (hby : i.bytes = bytes) (hzs : z.cells.size = size) (hsz : 0 < size)
    (v : Value) (n : Nat) (xs : List Value) (hs : a.eval s = v) (hown : w.ownsRow base e size v n xs)
    (B : Nat) (A : Option Addr) (m c : Nat) (news : List Value) (hx : a.eval x = .slice A m c) (hr : Reads w B size A m news) (h1 : ∀ u ∈ news, u.oneCell' = true)
    (h63 : n + m ≤ maxLen) (hbytes : (n + m) * bytes ≤ 140737488355328) (hbase : base ≤ w.heap.size)
    (h : ∀ v' w', w'.ownsRow base e size v' (n + m) (xs ++ news) → w.grownBy w' v.ownBlock → (v'.ownBlock = v.ownBlock ∨ v'.ownBlock = some w.heap.size) → wpList P ops Q rest (a.put o.dst v') w') : wpList P ops Q (o :: rest) a w :=
  wpList_plain hgd fun _ hK => wp_append_any w s x t ho base e i z size bytes ht hi hz hsize hby hzs hsz v n xs hs hown B A m c news hx hr h1 h63 hbytes hbase fun v' w' h2 h3 h4 => hK _ _ (h v' w' h2 h3 h4)

theorem step_append_any {ops : Array Oper} {o : Oper} {a : Act} {K : Act → World → Prop} {Q : Exit → Act → World → Prop} {E : Prop} (hgd : o.guard = none) (s x : Operand) (t : TypeId)
    (ho : o.op = .call { callee := .builtin .append, args := #[s, x], argTypes := #[t, t] })
    (base : Nat) (e : TypeId) (i : TypeInfo) (z : Value) (size bytes : Nat) (ht : P.underlying t = some (.slice e)) (hi : P.info? e = some i) (hz : i.zero = some z)
    (hsize : i.size = size) (hby : i.bytes = bytes) (hzs : z.cells.size = size) (hsz : 0 < size)
    (v : Value) (n : Nat) (xs : List Value) (hs : a.eval s = v) (hown : w.ownsRow base e size v n xs)
    (B : Nat) (A : Option Addr) (m c : Nat) (news : List Value) (hx : a.eval x = .slice A m c) (hr : Reads w B size A m news) (h1 : ∀ u ∈ news, u.oneCell' = true)
    (h63 : n + m ≤ maxLen) (hbytes : (n + m) * bytes ≤ 140737488355328) (hbase : base ≤ w.heap.size)
    (h : ∀ v' w', w'.ownsRow base e size v' (n + m) (xs ++ news) → w.grownBy w' v.ownBlock → (v'.ownBlock = v.ownBlock ∨ v'.ownBlock = some w.heap.size) → K (a.put o.dst v') w') :
    if Region.wanted o (yielded ops a.tmps) = true then Oper.wp P o a w K Q else E := by
  have hw : Region.wanted o (yielded ops a.tmps) = true := by simp [Region.wanted, hgd]
  rw [if_pos hw]
  exact wp_append_any w s x t ho base e i z size bytes ht hi hz hsize hby hzs hsz v n xs hs hown B A m c news hx hr h1 h63 hbytes hbase h
end

theorem lt_of_cell {w : World} {a : Addr} {v : Value} (h : w.cell? a = some v) : a.block < w.heap.size := by
  by_cases hn : a.block < w.heap.size
  · exact hn
  · have h0 : w.heap[a.block]? = none := Array.getElem?_eq_none (by omega)
    simp [World.cell?, h0] at h

/-- The k-th of some ints. -/
theorem Reads.int_at {w : World} {B n k : Nat} {A : Option Addr} {zs : List Int} (h : Reads w B 1 A n (zs.map (Value.int .i64))) (hk : k < n) :
    ∃ ad z, A = some ad ∧ ad.block < B ∧ zs[k]? = some z ∧ w.cell? (ad.add k) = some (.int .i64 z) := by
  obtain ⟨ad, u, hA, hb, hx, hc⟩ := h.at_ hk
  rw [List.getElem?_map] at hx
  cases hz : zs[k]? with
  | none => rw [hz] at hx; cases hx
  | some z =>
    rw [hz] at hx
    simp at hx
    exact ⟨ad, z, hA, hb, rfl, by rw [hx]; exact hc⟩
theorem Reads.int_len {w : World} {B n : Nat} {A : Option Addr} {zs : List Int} (h : Reads w B 1 A n (zs.map (Value.int .i64))) : zs.length = n := by
  have := h.1
  simpa using this

theorem Reads.take_ {w : World} {B size n k : Nat} {A : Option Addr} {xs : List Value} (h : Reads w B size A n xs) (hk : k ≤ n) : Reads w B size A k (xs.take (k * size)) := by
  have hm := Nat.mul_le_mul_right size hk
  refine ⟨by rw [List.length_take, h.1]; omega, fun h0 => ?_⟩
  obtain ⟨ad, hA, hb, hc⟩ := h.2 (by omega)
  refine ⟨ad, hA, hb, fun j u hu => hc j u ?_⟩
  obtain ⟨hj, rfl⟩ := List.getElem?_eq_some_iff.1 hu
  rw [List.length_take] at hj
  rw [List.getElem_take, List.getElem?_eq_getElem (by omega)]
theorem Reads.int_take {w : World} {B n k : Nat} {A : Option Addr} {zs : List Int} (h : Reads w B 1 A n (zs.map (Value.int .i64))) (hk : k ≤ n) : Reads w B 1 A k ((zs.take k).map (Value.int .i64)) := by
  have := h.take_ hk
  rwa [Nat.mul_one, ← List.map_take] at this

/-- The cells of structs, one behind the other. -/
theorem flat_at {α β : Type} (c : α → List β) (m : Nat) (hm : ∀ x, (c x).length = m) : ∀ (l : List α) (k j : Nat) (x : α), l[k]? = some x → j < m → (l.flatMap c)[k * m + j]? = (c x)[j]?
  | [], _, _, _, h, _ => by simp at h
  | y :: l, 0, j, x, h, hj => by
    simp at h
    subst h
    rw [List.flatMap_cons, Nat.zero_mul, Nat.zero_add, List.getElem?_append_left (by rw [hm]; exact hj)]
  | y :: l, k + 1, j, x, h, hj => by
    rw [List.getElem?_cons_succ] at h
    rw [List.flatMap_cons, List.getElem?_append_right (by rw [hm, Nat.add_mul]; omega), hm, show (k + 1) * m + j - m = k * m + j by rw [Nat.add_mul]; omega]
    exact flat_at c m hm l k j x h hj
theorem flat_len {α β : Type} (c : α → List β) (m : Nat) (hm : ∀ x, (c x).length = m) : ∀ (l : List α), (l.flatMap c).length = l.length * m
  | [] => by simp
  | y :: l => by rw [List.flatMap_cons, List.length_append, hm, flat_len c m hm l, List.length_cons, Nat.add_mul]; omega

section
open Go.ChangeShapes Go.WideShapes
variable {H : Type} {enc : TypeId × Value → H} {P : Program}
/-- An argument that is a slice of ints. -/
theorem open_row_int {t e : TypeId} {r : Reach} {b0 : Nat} {w : World} {v : Value} {d : DataW H} {ps : List MemPlace} (ht : P.underlying t = some (.slice e)) (he : P.underlying e = some (.int .i64)) (hC : P.cellsOf e = 1)
    (hv : Value.okWide P w r b0 t v) (h : DataW.Trod enc P w 0 (fun _ => true) true t v d ps) :
    ∃ (A : Option Addr) (n c : Nat) (zs : List Int), v = .slice A n c ∧ (∀ z ∈ zs, (Lit.int .i64 z).wf = true) ∧ Reads w w.heap.size 1 A n (zs.map (Value.int .i64)) ∧ n ≤ c ∧ c ≤ maxLen := by
  obtain ⟨A, n, c, rfl⟩ := okWide_slice ht hv
  obtain ⟨fuel, hf⟩ := h
  rcases open_ints ht he hC hf with ⟨hcs, _⟩ | ⟨a, len, cap, zs, hcs, _, hl, hm, hz, _, hcell, hwz⟩
  · simp [Value.cells] at hcs
    obtain ⟨rfl, rfl, rfl⟩ := hcs
    exact ⟨none, 0, 0, [], rfl, by simp, Reads.none_, Nat.le_refl _, by simp [maxLen]⟩
  · simp [Value.cells] at hcs
    obtain ⟨rfl, rfl, rfl⟩ := hcs
    simp at hz
    refine ⟨some a, n, c, zs.take n, rfl, fun z h => hwz z (List.mem_of_mem_take h), ⟨by simp; omega, fun hn => ⟨a, rfl, ?_, fun j u hu => ?_⟩⟩, hl, hm⟩
    · have h0 := hcell 0 (by omega)
      have := lt_of_cell h0
      rwa [block_of_add] at this
    · obtain ⟨hj, rfl⟩ := List.getElem?_eq_some_iff.1 hu
      simp at hj
      rw [hcell j (by omega)]
      simp [List.getD, List.getElem?_eq_getElem (show j < zs.length by omega)]
end

end Go.Proofs.Ytjdjmhagafmkaaa

/-
  Between the words of these texts (Reads, ownsRow) and the print's (Kd.C, Kd.R): a row of elements that are flat.
-/
namespace Go.Proofs.Ytjdjmhagafmkaaa
open Go.RowKit Go.Proofs.YtjdjmhagafmkaaaW.PrintWords

theorem flat_split {α β : Type} (c : α → List β) (m : Nat) (hm : ∀ x, (c x).length = m) (hs : 0 < m) {l : List α} {j : Nat} {u : β} (h : (l.flatMap c)[j]? = some u) : ∃ x, l[j / m]? = some x ∧ (c x)[j % m]? = some u := by
  have hl := flat_len c m hm l
  have hj : j < l.length * m := by rw [← hl]; exact (List.getElem?_eq_some_iff.1 h).1
  have hq : j / m < l.length := (Nat.div_lt_iff_lt_mul hs).2 hj
  refine ⟨l[j / m], List.getElem?_eq_getElem hq, ?_⟩
  have := flat_at c m hm l (j / m) (j % m) _ (List.getElem?_eq_getElem hq) (Nat.mod_lt _ hs)
  rw [← this, Nat.div_add_mod']
  exact h
theorem reads_of_rows {α : Type} {R : α → List Value → Prop} {size : Nat} {w : World} {A : Option Addr} {n : Nat} {ps : List α} (c : α → List Value) (hm : ∀ x, (c x).length = size) (hs : 0 < size) (hR : ∀ p cs, R p cs → cs = c p) (h : ReadsRow R size w A n ps) : Reads w w.heap.size size A n (ps.flatMap c) := by
  refine ⟨by rw [flat_len c size hm, h.1], fun hn => ?_⟩
  obtain ⟨ad, rfl, hc⟩ := h.2.2 hn
  have hcell : ∀ j u, (ps.flatMap c)[j]? = some u → w.cell? (ad.add j) = some u := fun j u hu => by
    obtain ⟨x, hx, hu2⟩ := flat_split c size hm hs hu
    obtain ⟨cs, _, hr, hcs⟩ := hc _ x hx
    rw [hR x cs hr] at hcs
    have := hcs _ u hu2
    rwa [Nat.div_add_mod'] at this
  refine ⟨ad, rfl, ?_, hcell⟩
  have h0 : 0 < (ps.flatMap c).length := by rw [flat_len c size hm, h.1]; exact Nat.mul_pos hn hs
  have := lt_of_cell (hcell 0 _ (List.getElem?_eq_getElem h0))
  rwa [block_of_add] at this
theorem rows_of_reads {α : Type} {R : α → List Value → Prop} {size : Nat} {w : World} {B : Nat} {A : Option Addr} {n : Nat} {ps : List α} (c : α → List Value) (hm : ∀ x, (c x).length = size) (hs : 0 < size) (hR : ∀ p, R p (c p)) (hn : n ≤ 9223372036854775807) (h : Reads w B size A n (ps.flatMap c)) : ReadsRow R size w A n ps := by
  have hl : ps.length = n := by
    have := h.1
    rw [flat_len c size hm] at this
    exact Nat.eq_of_mul_eq_mul_right hs this
  refine ⟨hl, hn, fun h0 => ?_⟩
  obtain ⟨ad, rfl, _, hc⟩ := h.2 h0
  refine ⟨ad, rfl, fun j p hj => ⟨c p, hm p, hR p, fun i u hu => hc _ u ?_⟩⟩
  have hi : i < size := by rw [← hm p]; exact (List.getElem?_eq_some_iff.1 hu).1
  rw [flat_at c size hm ps j i p hj hi]
  exact hu
/-- A row of the call's own, of flat elements, as the print tells it. -/
theorem kd_own {α : Type} {d : Kd α} {e : TypeId} {w : World} {base n : Nat} {v : Value} {xs : List α} (c : α → List Value) (hm : ∀ x, (c x).length = d.sz) (hR : ∀ ok x, d.M w base ok x (c x)) (h : w.ownsRow base e d.sz v n (xs.flatMap c)) (hn : n = xs.length) : Kd.R d e w base (fun _ => True) v xs := by
  subst hn
  refine ⟨fun _ _ => trivial, xs.flatMap c, h, flat_len c d.sz hm xs, fun j p hj => ?_⟩
  have e : ((xs.flatMap c).drop (j * d.sz)).take d.sz = c p := by
    apply List.ext_getElem?
    intro i
    rw [List.getElem?_take]
    split
    · rename_i hi
      rw [List.getElem?_drop]
      exact flat_at c d.sz hm xs j i p hj hi
    · rename_i hi
      rw [List.getElem?_eq_none (by rw [hm]; omega)]
  rw [e]
  exact hR _ p
/-- A row that the print tells as the call's own, in these texts' words. -/
theorem own_of_kd {α : Type} {d : Kd α} {e : TypeId} {w : World} {base : Nat} {ok : Nat → Prop} {v : Value} {xs : List α} (c : α → List Value) (hm : ∀ x, (c x).length = d.sz) (hR : ∀ ok x cs, d.M w base ok x cs → cs = c x) (h : Kd.R d e w base ok v xs) : w.ownsRow base e d.sz v xs.length (xs.flatMap c) := by
  obtain ⟨_, inner, ho, hl, hr⟩ := h
  have : inner = xs.flatMap c := by
    apply List.ext_getElem?
    intro j
    rcases Nat.eq_zero_or_pos d.sz with h0 | h0
    · have h1 : inner = [] := List.eq_nil_of_length_eq_zero (by rw [hl, h0, Nat.mul_zero])
      have h2 : xs.flatMap c = [] := List.eq_nil_of_length_eq_zero (by rw [flat_len c d.sz hm, h0, Nat.mul_zero])
      rw [h1, h2]
    · rcases Nat.lt_or_ge j inner.length with hj | hj
      · have hq : j / d.sz < xs.length := (Nat.div_lt_iff_lt_mul h0).2 (by rw [← hl]; exact hj)
        have := hR _ _ _ (hr (j / d.sz) _ (List.getElem?_eq_getElem hq))
        have h3 := flat_at c d.sz hm xs (j / d.sz) (j % d.sz) _ (List.getElem?_eq_getElem hq) (Nat.mod_lt _ h0)
        rw [Nat.div_add_mod', ← this, List.getElem?_take, if_pos (Nat.mod_lt _ h0), List.getElem?_drop, Nat.div_add_mod'] at h3
        exact h3.symm
      · rw [List.getElem?_eq_none hj, List.getElem?_eq_none (by rw [flat_len c d.sz hm, ← hl]; exact hj)]
  rw [← this]
  exact ho
/-- A row of ints. -/
theorem flat_ints (zs : List Int) : (zs.map (Value.int .i64)) = zs.flatMap (fun z => [Value.int .i64 z]) := by
  induction zs with
  | nil => rfl
  | cons z zs ih => simp [ih]
theorem kd_ints {e : TypeId} {w : World} {base n : Nat} {v : Value} {zs : List Int} (h : w.ownsRow base e 1 v n (zs.map (Value.int .i64))) (hn : n = zs.length) : Kd.R (Kd.int .i64) e w base (fun _ => True) v zs := by
  rw [flat_ints] at h
  exact kd_own (d := Kd.int .i64) (fun z => [Value.int .i64 z]) (fun _ => rfl) (fun _ _ => rfl) h hn
theorem ints_of_kd {e : TypeId} {w : World} {base : Nat} {ok : Nat → Prop} {v : Value} {zs : List Int} (h : Kd.R (Kd.int .i64) e w base ok v zs) : w.ownsRow base e 1 v zs.length (zs.map (Value.int .i64)) := by
  rw [flat_ints]
  exact own_of_kd (d := Kd.int .i64) (fun z => [Value.int .i64 z]) (fun _ => rfl) (fun _ _ _ h => h) h
theorem reads_ints {w : World} {A : Option Addr} {n : Nat} {zs : List Int} (h : Kd.C (Kd.int .i64) w A n zs) : Reads w w.heap.size 1 A n (zs.map (Value.int .i64)) := by
  rw [flat_ints]
  exact reads_of_rows (R := (Kd.int .i64).K w) (fun z => [Value.int .i64 z]) (fun _ => rfl) (by decide) (fun _ _ h => h) h
theorem ints_read {w : World} {B : Nat} {A : Option Addr} {n : Nat} {zs : List Int} (hn : n ≤ 9223372036854775807) (h : Reads w B 1 A n (zs.map (Value.int .i64))) : Kd.C (Kd.int .i64) w A n zs := by
  rw [flat_ints] at h
  exact rows_of_reads (R := (Kd.int .i64).K w) (fun z => [Value.int .i64 z]) (fun _ => rfl) (by decide) (fun _ => rfl) hn h
end Go.Proofs.Ytjdjmhagafmkaaa

/-
  Arguments opened to the print's kinds: what a value of a type reads as, type by type: ints, bools, slices, structs in structs.
-/
namespace Go.Proofs.Ytjdjmhagafmkaaa
open Go.RowKit Go.ChangeShapes Go.WideShapes Go.Deep Go.Proofs.YtjdjmhagafmkaaaW.PrintWords

/-- Values of a type read as elements of a kind; wf: what is known of each. -/
def Opens {H : Type} (enc : TypeId × Value → H) (P : Program) (w : World) (T : TypeId) {α : Type} (d : Kd α) (wf : α → Prop) : Prop :=
  ∀ (fuel : Nat) (cs : List Value) (x : DataW H × List MemPlace), DataW.trod enc P w 0 (fun _ => true) true fuel T cs = some x → ∃ a, d.K w a cs ∧ wf a
/-- Fields in line, from an offset on. -/
def OpensF {H : Type} (enc : TypeId × Value → H) (P : Program) (w : World) (fs : List Field) (off : Nat) {α : Type} (d : Kd α) (wf : α → Prop) : Prop :=
  ∀ (n : Nat) (cs : List Value), cs.length = off + d.sz → (∀ f ∈ fs, ∃ y, DataW.trod enc P w 0 (fun _ => true) true n f.type ((cs.drop f.offset).take (P.cellsOf f.type)) = some y) → ∃ a, d.K w a (cs.drop off) ∧ wf a
section
variable {H : Type} {enc : TypeId × Value → H} {P : Program} {w : World}
theorem Opens.int {T : TypeId} {k : IntKind} (ht : P.underlying T = some (.int k)) : Opens enc P w T (Kd.int k) (fun z => (Lit.int k z).wf = true) := by
  intro fuel cs x h
  obtain ⟨n, rfl, _, hw⟩ := DataW.trod_int ht h
  exact ⟨n, rfl, hw⟩
theorem Opens.bool {T : TypeId} (ht : P.underlying T = some .bool) : Opens enc P w T Kd.bool (fun _ => True) := by
  intro fuel cs x h
  obtain ⟨n, rfl, _⟩ := DataW.trod_bool ht h
  exact ⟨n, rfl, trivial⟩
theorem Opens.slice {T e : TypeId} {α : Type} {d : Kd α} {wf : α → Prop} (ht : P.underlying T = some (.slice e)) (hc : P.cellsOf e = d.sz) (hd : Opens enc P w e d wf) : Opens enc P w T (Kd.slice e d) (fun l => ∀ x ∈ l, wf x) := by
  intro fuel cs x h
  rcases open_slice ht h with ⟨rfl, _⟩ | ⟨a, len, cap, m, n, D, Pl, rfl, _, hl, hm, hmm, _, hi⟩
  · exact ⟨[], ⟨none, 0, rfl, Nat.le_refl _, Kd.C_nil _ _⟩, by simp⟩
  · simp at hmm
    have hel : ∀ i, i < len → ∃ x : α, (∃ c, c.length = d.sz ∧ d.K w x c ∧ ∀ j u, c[j]? = some u → w.cell? (a.add (i * d.sz + j)) = some u) ∧ wf x := fun i hil => by
      obtain ⟨cs', hcs, ht'⟩ := hi i (by omega)
      obtain ⟨y, hk, hw⟩ := hd _ _ _ ht'
      rw [hc] at hcs
      obtain ⟨_, hcl, hat⟩ := World.cells?_some hcs
      refine ⟨y, ⟨cs', hcl, hk, fun j u hu => ?_⟩, hw⟩
      have hj : j < d.sz := by rw [← hcl]; exact (List.getElem?_eq_some_iff.1 hu).1
      rw [← Go.Deep.add_add, hat j hj]
      exact hu
    obtain ⟨l, hll, hP⟩ := list_of' len hel
    refine ⟨l, ⟨some a, cap, by rw [hll], by omega, hll ▸ rfl, by unfold maxLen at hm; omega, fun _ => ⟨a, rfl, fun j p hj => (hP j p hj).1⟩⟩, fun x hx => ?_⟩
    obtain ⟨i, hi⟩ := List.getElem?_of_mem hx
    exact (hP i x hi).2
where
  list_of' {α : Type} {Q : Nat → α → Prop} : ∀ (n : Nat), (∀ i, i < n → ∃ x, Q i x) → ∃ l : List α, l.length = n ∧ ∀ i x, l[i]? = some x → Q i x
  | 0, _ => ⟨[], rfl, by simp⟩
  | n + 1, h => by
    obtain ⟨l, hl, hP⟩ := list_of' n (fun i hi => h i (by omega))
    obtain ⟨x, hx⟩ := h n (by omega)
    refine ⟨l ++ [x], by simp [hl], fun i y hy => ?_⟩
    rcases Nat.lt_or_ge i n with hi | hi
    · rw [List.getElem?_append_left (by omega)] at hy
      exact hP i y hy
    · rw [List.getElem?_append_right (by omega)] at hy
      have : i = n := by
        rcases Nat.lt_or_ge n i with h1 | h1
        · rw [List.getElem?_eq_none (by simp; omega)] at hy; cases hy
        · omega
      subst this
      simp [hl] at hy
      exact hy ▸ hx
theorem OpensF.one {f : Field} {off : Nat} {α : Type} {d : Kd α} {wf : α → Prop} (ho : f.offset = off) (hc : P.cellsOf f.type = d.sz) (hd : Opens enc P w f.type d wf) : OpensF enc P w [f] off d wf := by
  intro n cs hl h
  obtain ⟨y, hy⟩ := h f (by simp)
  rw [ho, hc] at hy
  obtain ⟨a, hk, hw⟩ := hd _ _ _ hy
  rw [List.take_of_length_le (by rw [List.length_drop]; omega)] at hk
  exact ⟨a, hk, hw⟩
theorem OpensF.cons {f : Field} {fs : List Field} {off off2 : Nat} {α β : Type} {d : Kd α} {d2 : Kd β} {wf : α → Prop} {wf2 : β → Prop} (ho : f.offset = off) (hc : P.cellsOf f.type = d.sz) (hd : Opens enc P w f.type d wf) (h2 : off + d.sz = off2) (hr : OpensF enc P w fs off2 d2 wf2) :
    OpensF enc P w (f :: fs) off (Kd.pair d d2) (fun x => wf x.1 ∧ wf2 x.2) := by
  intro n cs hl h
  have hl' : cs.length = off + (d.sz + d2.sz) := hl
  obtain ⟨y, hy⟩ := h f (by simp)
  rw [ho, hc] at hy
  obtain ⟨a, hk, hw⟩ := hd _ _ _ hy
  obtain ⟨b, hk2, hw2⟩ := hr n cs (by omega) (fun g hg => h g (by simp [hg]))
  refine ⟨(a, b), ⟨_, _, ?_, hk, hk2⟩, hw, hw2⟩
  rw [← h2, ← List.drop_drop, List.take_append_drop]
theorem Opens.struct {T : TypeId} {fs : Array Field} {α β : Type} {d : Kd α} {wf : α → Prop} {g : β → α} (ht : P.underlying T = some (.struct fs)) (hc : P.cellsOf T = d.sz) (inv : α → β) (hg : ∀ a, g (inv a) = a) (hd : OpensF enc P w fs.toList 0 d wf) : Opens enc P w T (Kd.iso d g) (fun x => wf (g x)) := by
  intro fuel cs x h
  obtain ⟨ys, n, _, _, hl, hyl, hf⟩ := DataW.trod_struct ht h
  obtain ⟨a, hk, hw⟩ := hd n cs (by omega) (fun f hm => by
    obtain ⟨i, hi⟩ := List.getElem?_of_mem hm
    have hi' : fs[i]? = some f := by simpa using hi
    have hlt : i < ys.length := by rw [hyl]; exact (Array.getElem?_eq_some_iff.1 hi').1
    exact ⟨_, (hf i f hi').trans (List.getElem?_eq_getElem hlt)⟩)
  refine ⟨inv a, ?_, ?_⟩
  · show d.K w (g (inv a)) cs
    rw [hg]
    simpa using hk
  · show wf (g (inv a))
    rw [hg]
    exact hw
/-- A slice that came in. -/
theorem open_C {T e : TypeId} {α : Type} {d : Kd α} {wf : α → Prop} {r : Reach} {b0 : Nat} {v : Value} {dt : DataW H} {ps : List MemPlace} (ht : P.underlying T = some (.slice e)) (hc : P.cellsOf e = d.sz) (hd : Opens enc P w e d wf) (hv : Value.okWide P w r b0 T v) (h : DataW.Trod enc P w 0 (fun _ => true) true T v dt ps) :
    ∃ (A : Option Addr) (c : Nat) (l : List α), v = .slice A l.length c ∧ l.length ≤ c ∧ Kd.C d w A l.length l ∧ ∀ x ∈ l, wf x := by
  obtain ⟨A, n, c, rfl⟩ := okWide_slice ht hv
  obtain ⟨fuel, hf⟩ := h
  obtain ⟨l, ⟨A', c', hcs, hlc, hC⟩, hw⟩ := Opens.slice ht hc hd fuel _ _ hf
  simp [Value.cells] at hcs
  obtain ⟨rfl, rfl, rfl⟩ := hcs
  exact ⟨A, c, l, rfl, hlc, hC, hw⟩
/-- A struct that came in. -/
theorem open_K {T : TypeId} {fs : Array Field} {α : Type} {d : Kd α} {wf : α → Prop} {r : Reach} {b0 : Nat} {v : Value} {dt : DataW H} {ps : List MemPlace} (ht : P.underlying T = some (.struct fs)) (hd : Opens enc P w T d wf) (hv : Value.okWide P w r b0 T v) (h : DataW.Trod enc P w 0 (fun _ => true) true T v dt ps) :
    ∃ (cs : List Value) (x : α), v = .agg cs.toArray ∧ d.K w x cs ∧ wf x := by
  obtain ⟨cs, rfl, _⟩ := okWide_struct ht hv
  obtain ⟨fuel, hf⟩ := h
  obtain ⟨a, hk, hw⟩ := hd fuel _ _ hf
  exact ⟨cs.toList, a, by simp, by simpa [Value.cells] using hk, hw⟩
end
end Go.Proofs.Ytjdjmhagafmkaaa

namespace Go.Proofs.Ytjdjmhagafmkaaa.PX
open Go.RowKit Go.Proofs.YtjdjmhagafmkaaaW.PrintWords Go.Proofs.YtjdjmhagafmkaaaW.PrintLast Go.Proofs.YtjdjmhagafmkaaaW.PrintMore
attribute [local go_sem] max2_int min2_int max_two min_two max_three min_three max_four min_four   -- for this text's walks alone
set_option linter.unusedVariables false
set_option linter.unusedSimpArgs false



def errW : Option Int → Value
  | none => .nilIface
  | some c => .iface 0 (.int .i64 c)
theorem errW_none : errW none = .nilIface := rfl
theorem errW_some (c : Int) : errW (some c) = .iface 0 (.int .i64 c) := rfl

theorem info3 : (Try.prog.info? 3).map (fun i => (i.zero, i.size, i.bytes)) = some (some (.int .i64 0), 1, 8) := by kernel_rfl
theorem info33 : (Try.prog.info? 33).map (fun i => (i.zero, i.size, i.bytes)) = some (some (.agg #[(.int .i64 0), (.int .i64 0), (.int .i64 0), (.int .i64 0), (.int .i64 0)]), 5, 40) := by kernel_rfl
theorem info87 : (Try.prog.info? 87).map (fun i => (i.zero, i.size, i.bytes)) = some (some (.agg #[(.int .i64 0), (.int .i64 0), (.int .i64 0)]), 3, 24) := by kernel_rfl
-- the values' own types
/-! #### struct type 31 -/
structure S31 where
  f0 : Int
  f1 : Int
  f2 : Int
def z31 : S31 := ⟨(0 : Int), (0 : Int), (0 : Int)⟩
def k31 : Kd S31 := Kd.iso (Kd.pair (Kd.int .i64) (Kd.pair (Kd.int .i64) (Kd.int .i64))) (fun x : S31 => (x.f0, x.f1, x.f2))
theorem k31_open {w : World} {x : S31} {cs : List Value} (h : k31.K w x cs) : cs = [.int .i64 x.f0, .int .i64 x.f1, .int .i64 x.f2] := by
  obtain ⟨_, _, rfl, rfl, ⟨_, _, rfl, rfl, rfl⟩⟩ := h
  exact rfl
theorem k31_openM {w : World} {base : Nat} {ok : Nat → Prop} {x : S31} {cs : List Value} (h : k31.M w base ok x cs) : cs = [.int .i64 x.f0, .int .i64 x.f1, .int .i64 x.f2] := by
  obtain ⟨_, _, rfl, rfl, ⟨_, _, rfl, rfl, rfl⟩⟩ := h
  exact rfl
theorem k31_mk (w : World) (x : S31)  : k31.K w x [.int .i64 x.f0, .int .i64 x.f1, .int .i64 x.f2] := ⟨[.int .i64 x.f0], [.int .i64 x.f1, .int .i64 x.f2], rfl, rfl, ⟨[.int .i64 x.f1], [.int .i64 x.f2], rfl, rfl, rfl⟩⟩
theorem k31_mkM (w : World) (base : Nat) (ok : Nat → Prop) (x : S31)  : k31.M w base ok x [.int .i64 x.f0, .int .i64 x.f1, .int .i64 x.f2] := ⟨[.int .i64 x.f0], [.int .i64 x.f1, .int .i64 x.f2], rfl, rfl, ⟨[.int .i64 x.f1], [.int .i64 x.f2], rfl, rfl, rfl⟩⟩
def rd_T31 (xs : List S31) (i : Int) : S31 := xs.getD i.toNat z31
theorem at_T31 {w : World} {A : Option Addr} {n : Nat} {xs : List S31} (h : Kd.C k31 w A n xs) (i : Int) (h0 : 0 ≤ i) (h1 : i < n) : ∃ ad , A = some ad ∧ w.cell? (ad.add (i.toNat * 3)) = some (.int .i64 (rd_T31 xs i).f0) ∧ w.cell? ⟨(ad.add (i.toNat * 3)).block, (ad.add (i.toNat * 3)).off + 1, none⟩ = some (.int .i64 (rd_T31 xs i).f1) ∧ w.cell? ⟨(ad.add (i.toNat * 3)).block, (ad.add (i.toNat * 3)).off + 2, none⟩ = some (.int .i64 (rd_T31 xs i).f2) := by
  obtain ⟨ad, c, e, _, hK, hc0⟩ := Kd.C_get h z31 i h0 h1
  have hc : ∀ j u, c[j]? = some u → w.cell? (ad.add (i.toNat * 3 + j)) = some u := hc0
  obtain rfl := k31_open hK
  exact ⟨ad, e, hc 0 _ rfl, by rw [← add_field _ _ 1 (by omega)]; exact hc 1 _ rfl, by rw [← add_field _ _ 2 (by omega)]; exact hc 2 _ rfl⟩

/-! #### struct type 33 -/
structure S33 where
  f0 : Int
  f1 : Int
  f2 : S31
def z33 : S33 := ⟨(0 : Int), (0 : Int), z31⟩
def k33 : Kd S33 := Kd.iso (Kd.pair (Kd.int .i64) (Kd.pair (Kd.int .i64) k31)) (fun x : S33 => (x.f0, x.f1, x.f2))
theorem k33_open {w : World} {x : S33} {cs : List Value} (h : k33.K w x cs) : cs = [.int .i64 x.f0, .int .i64 x.f1, .int .i64 x.f2.f0, .int .i64 x.f2.f1, .int .i64 x.f2.f2] := by
  obtain ⟨_, _, rfl, rfl, ⟨_, _, rfl, rfl, s2⟩⟩ := h
  obtain rfl := k31_open s2
  exact rfl
theorem k33_openM {w : World} {base : Nat} {ok : Nat → Prop} {x : S33} {cs : List Value} (h : k33.M w base ok x cs) : cs = [.int .i64 x.f0, .int .i64 x.f1, .int .i64 x.f2.f0, .int .i64 x.f2.f1, .int .i64 x.f2.f2] := by
  obtain ⟨_, _, rfl, rfl, ⟨_, _, rfl, rfl, s2⟩⟩ := h
  obtain rfl := k31_openM s2
  exact rfl
theorem k33_mk (w : World) (x : S33)  : k33.K w x [.int .i64 x.f0, .int .i64 x.f1, .int .i64 x.f2.f0, .int .i64 x.f2.f1, .int .i64 x.f2.f2] := ⟨[.int .i64 x.f0], [.int .i64 x.f1, .int .i64 x.f2.f0, .int .i64 x.f2.f1, .int .i64 x.f2.f2], rfl, rfl, ⟨[.int .i64 x.f1], [.int .i64 x.f2.f0, .int .i64 x.f2.f1, .int .i64 x.f2.f2], rfl, rfl, (k31_mk w x.f2 )⟩⟩
theorem k33_mkM (w : World) (base : Nat) (ok : Nat → Prop) (x : S33)  : k33.M w base ok x [.int .i64 x.f0, .int .i64 x.f1, .int .i64 x.f2.f0, .int .i64 x.f2.f1, .int .i64 x.f2.f2] := ⟨[.int .i64 x.f0], [.int .i64 x.f1, .int .i64 x.f2.f0, .int .i64 x.f2.f1, .int .i64 x.f2.f2], rfl, rfl, ⟨[.int .i64 x.f1], [.int .i64 x.f2.f0, .int .i64 x.f2.f1, .int .i64 x.f2.f2], rfl, rfl, (k31_mkM w base ok x.f2 )⟩⟩
def rd_T33 (xs : List S33) (i : Int) : S33 := xs.getD i.toNat z33
theorem at_T33 {w : World} {A : Option Addr} {n : Nat} {xs : List S33} (h : Kd.C k33 w A n xs) (i : Int) (h0 : 0 ≤ i) (h1 : i < n) : ∃ ad , A = some ad ∧ w.cell? (ad.add (i.toNat * 5)) = some (.int .i64 (rd_T33 xs i).f0) ∧ w.cell? ⟨(ad.add (i.toNat * 5)).block, (ad.add (i.toNat * 5)).off + 1, none⟩ = some (.int .i64 (rd_T33 xs i).f1) ∧ w.cell? ⟨(ad.add (i.toNat * 5)).block, (ad.add (i.toNat * 5)).off + 2, none⟩ = some (.int .i64 (rd_T33 xs i).f2.f0) ∧ w.cell? ⟨(ad.add (i.toNat * 5)).block, (ad.add (i.toNat * 5)).off + 3, none⟩ = some (.int .i64 (rd_T33 xs i).f2.f1) ∧ w.cell? ⟨(ad.add (i.toNat * 5)).block, (ad.add (i.toNat * 5)).off + 4, none⟩ = some (.int .i64 (rd_T33 xs i).f2.f2) := by
  obtain ⟨ad, c, e, _, hK, hc0⟩ := Kd.C_get h z33 i h0 h1
  have hc : ∀ j u, c[j]? = some u → w.cell? (ad.add (i.toNat * 5 + j)) = some u := hc0
  obtain rfl := k33_open hK
  exact ⟨ad, e, hc 0 _ rfl, by rw [← add_field _ _ 1 (by omega)]; exact hc 1 _ rfl, by rw [← add_field _ _ 2 (by omega)]; exact hc 2 _ rfl, by rw [← add_field _ _ 3 (by omega)]; exact hc 3 _ rfl, by rw [← add_field _ _ 4 (by omega)]; exact hc 4 _ rfl⟩

def rd_L3 (xs : List (List S33)) (i : Int) : (List S33) := xs.getD i.toNat ([] : List S33)
theorem at_L3 {w : World} {A : Option Addr} {n : Nat} {xs : List (List S33)} (h : Kd.C (Kd.slice 33 k33) w A n xs) (i : Int) (h0 : 0 ≤ i) (h1 : i < n) : ∃ ad A0 c0, A = some ad ∧ w.cell? (ad.add i.toNat) = some (.slice A0 (rd_L3 xs i).length c0) ∧ (rd_L3 xs i).length ≤ c0 ∧ k33.C w A0 (rd_L3 xs i).length (rd_L3 xs i) := by
  obtain ⟨ad, c, e, _, hK, hc0⟩ := Kd.C_get h ([] : List S33) i h0 h1
  have hc : ∀ j u, c[j]? = some u → w.cell? (ad.add (i.toNat * 1 + j)) = some u := hc0
  obtain ⟨A0, c0, rfl, l0, g0⟩ := hK
  exact ⟨ad, A0, c0, e, by have hq := hc 0 _ rfl; rwa [Nat.mul_one, Nat.add_zero] at hq, l0, g0⟩

def rd_L4 (xs : List (List Int)) (i : Int) : (List Int) := xs.getD i.toNat ([] : List Int)
theorem at_L4 {w : World} {A : Option Addr} {n : Nat} {xs : List (List Int)} (h : Kd.C (Kd.slice 3 (Kd.int .i64)) w A n xs) (i : Int) (h0 : 0 ≤ i) (h1 : i < n) : ∃ ad A0 c0, A = some ad ∧ w.cell? (ad.add i.toNat) = some (.slice A0 (rd_L4 xs i).length c0) ∧ (rd_L4 xs i).length ≤ c0 ∧ (Kd.int .i64).C w A0 (rd_L4 xs i).length (rd_L4 xs i) := by
  obtain ⟨ad, c, e, _, hK, hc0⟩ := Kd.C_get h ([] : List Int) i h0 h1
  have hc : ∀ j u, c[j]? = some u → w.cell? (ad.add (i.toNat * 1 + j)) = some u := hc0
  obtain ⟨A0, c0, rfl, l0, g0⟩ := hK
  exact ⟨ad, A0, c0, e, by have hq := hc 0 _ rfl; rwa [Nat.mul_one, Nat.add_zero] at hq, l0, g0⟩

/-! #### struct type 87 -/
structure S87 where
  f0 : Int
  f1 : Int
  f2 : Int
def z87 : S87 := ⟨(0 : Int), (0 : Int), (0 : Int)⟩
def k87 : Kd S87 := Kd.iso (Kd.pair (Kd.int .i64) (Kd.pair (Kd.int .i64) (Kd.int .i64))) (fun x : S87 => (x.f0, x.f1, x.f2))
theorem k87_open {w : World} {x : S87} {cs : List Value} (h : k87.K w x cs) : cs = [.int .i64 x.f0, .int .i64 x.f1, .int .i64 x.f2] := by
  obtain ⟨_, _, rfl, rfl, ⟨_, _, rfl, rfl, rfl⟩⟩ := h
  exact rfl
theorem k87_openM {w : World} {base : Nat} {ok : Nat → Prop} {x : S87} {cs : List Value} (h : k87.M w base ok x cs) : cs = [.int .i64 x.f0, .int .i64 x.f1, .int .i64 x.f2] := by
  obtain ⟨_, _, rfl, rfl, ⟨_, _, rfl, rfl, rfl⟩⟩ := h
  exact rfl
theorem k87_mk (w : World) (x : S87)  : k87.K w x [.int .i64 x.f0, .int .i64 x.f1, .int .i64 x.f2] := ⟨[.int .i64 x.f0], [.int .i64 x.f1, .int .i64 x.f2], rfl, rfl, ⟨[.int .i64 x.f1], [.int .i64 x.f2], rfl, rfl, rfl⟩⟩
theorem k87_mkM (w : World) (base : Nat) (ok : Nat → Prop) (x : S87)  : k87.M w base ok x [.int .i64 x.f0, .int .i64 x.f1, .int .i64 x.f2] := ⟨[.int .i64 x.f0], [.int .i64 x.f1, .int .i64 x.f2], rfl, rfl, ⟨[.int .i64 x.f1], [.int .i64 x.f2], rfl, rfl, rfl⟩⟩
def rd_T87 (xs : List S87) (i : Int) : S87 := xs.getD i.toNat z87
theorem at_T87 {w : World} {A : Option Addr} {n : Nat} {xs : List S87} (h : Kd.C k87 w A n xs) (i : Int) (h0 : 0 ≤ i) (h1 : i < n) : ∃ ad , A = some ad ∧ w.cell? (ad.add (i.toNat * 3)) = some (.int .i64 (rd_T87 xs i).f0) ∧ w.cell? ⟨(ad.add (i.toNat * 3)).block, (ad.add (i.toNat * 3)).off + 1, none⟩ = some (.int .i64 (rd_T87 xs i).f1) ∧ w.cell? ⟨(ad.add (i.toNat * 3)).block, (ad.add (i.toNat * 3)).off + 2, none⟩ = some (.int .i64 (rd_T87 xs i).f2) := by
  obtain ⟨ad, c, e, _, hK, hc0⟩ := Kd.C_get h z87 i h0 h1
  have hc : ∀ j u, c[j]? = some u → w.cell? (ad.add (i.toNat * 3 + j)) = some u := hc0
  obtain rfl := k87_open hK
  exact ⟨ad, e, hc 0 _ rfl, by rw [← add_field _ _ 1 (by omega)]; exact hc 1 _ rfl, by rw [← add_field _ _ 2 (by omega)]; exact hc 2 _ rfl⟩

def rd_L6 (xs : List (List S87)) (i : Int) : (List S87) := xs.getD i.toNat ([] : List S87)
theorem at_L6 {w : World} {A : Option Addr} {n : Nat} {xs : List (List S87)} (h : Kd.C (Kd.slice 87 k87) w A n xs) (i : Int) (h0 : 0 ≤ i) (h1 : i < n) : ∃ ad A0 c0, A = some ad ∧ w.cell? (ad.add i.toNat) = some (.slice A0 (rd_L6 xs i).length c0) ∧ (rd_L6 xs i).length ≤ c0 ∧ k87.C w A0 (rd_L6 xs i).length (rd_L6 xs i) := by
  obtain ⟨ad, c, e, _, hK, hc0⟩ := Kd.C_get h ([] : List S87) i h0 h1
  have hc : ∀ j u, c[j]? = some u → w.cell? (ad.add (i.toNat * 1 + j)) = some u := hc0
  obtain ⟨A0, c0, rfl, l0, g0⟩ := hK
  exact ⟨ad, A0, c0, e, by have hq := hc 0 _ rfl; rwa [Nat.mul_one, Nat.add_zero] at hq, l0, g0⟩

/-! #### struct type 50 -/
structure S50 where
  f0 : Int
  f1 : (List S87)
def z50 : S50 := ⟨(0 : Int), ([] : List S87)⟩
def k50 : Kd S50 := Kd.iso (Kd.pair (Kd.int .i64) (Kd.slice 87 k87)) (fun x : S50 => (x.f0, x.f1))
theorem k50_open {w : World} {x : S50} {cs : List Value} (h : k50.K w x cs) : ∃ A1 c1, cs = [.int .i64 x.f0, .slice A1 x.f1.length c1] ∧ x.f1.length ≤ c1 ∧ k87.C w A1 x.f1.length x.f1 := by
  obtain ⟨_, _, rfl, rfl, ⟨A1, c1, rfl, l1, g1⟩⟩ := h
  exact ⟨A1, c1, rfl, l1, g1⟩
theorem k50_openM {w : World} {base : Nat} {ok : Nat → Prop} {x : S50} {cs : List Value} (h : k50.M w base ok x cs) : ∃ v1, cs = [.int .i64 x.f0, v1] ∧ k87.R 87 w base ok v1 x.f1 := by
  obtain ⟨_, _, rfl, rfl, ⟨v1, rfl, g1⟩⟩ := h
  exact ⟨v1, rfl, g1⟩
theorem k50_mk (w : World) (x : S50) {A1 : Option Addr} {c1 : Nat} (l1 : x.f1.length ≤ c1) (g1 : k87.C w A1 x.f1.length x.f1) : k50.K w x [.int .i64 x.f0, .slice A1 x.f1.length c1] := ⟨[.int .i64 x.f0], [.slice A1 x.f1.length c1], rfl, rfl, ⟨A1, c1, rfl, l1, g1⟩⟩
theorem k50_mkM (w : World) (base : Nat) (ok : Nat → Prop) (x : S50) {v1 : Value} (g1 : k87.R 87 w base ok v1 x.f1) : k50.M w base ok x [.int .i64 x.f0, v1] := ⟨[.int .i64 x.f0], [v1], rfl, rfl, ⟨v1, rfl, g1⟩⟩
def rd_T50 (xs : List S50) (i : Int) : S50 := xs.getD i.toNat z50
theorem at_T50 {w : World} {A : Option Addr} {n : Nat} {xs : List S50} (h : Kd.C k50 w A n xs) (i : Int) (h0 : 0 ≤ i) (h1 : i < n) : ∃ ad A1 c1, A = some ad ∧ w.cell? (ad.add (i.toNat * 2)) = some (.int .i64 (rd_T50 xs i).f0) ∧ w.cell? ⟨(ad.add (i.toNat * 2)).block, (ad.add (i.toNat * 2)).off + 1, none⟩ = some (.slice A1 (rd_T50 xs i).f1.length c1) ∧ (rd_T50 xs i).f1.length ≤ c1 ∧ k87.C w A1 (rd_T50 xs i).f1.length (rd_T50 xs i).f1 := by
  obtain ⟨ad, c, e, _, hK, hc0⟩ := Kd.C_get h z50 i h0 h1
  have hc : ∀ j u, c[j]? = some u → w.cell? (ad.add (i.toNat * 2 + j)) = some u := hc0
  obtain ⟨A1, c1, rfl, l1, g1⟩ := k50_open hK
  exact ⟨ad, A1, c1, e, hc 0 _ rfl, by rw [← add_field _ _ 1 (by omega)]; exact hc 1 _ rfl, l1, g1⟩

end Go.Proofs.Ytjdjmhagafmkaaa.PX

/-
  What happened, as plain lists: the first that is wrong, who holds what, who got it, how long it was held: no program.
-/
namespace Go.Proofs.Ytjdjmhagafmkaaa
open Go.RowKit
namespace Judge
/-- Something that happened: at which entry, at what time, who, what, of which mutex. -/
structure H where
  at_ : Int
  now : Int
  who : Int
  kind : Int
  mutex : Int
def cells (h : H) : List Value := [.int .i64 h.at_, .int .i64 h.now, .int .i64 h.who, .int .i64 h.kind, .int .i64 h.mutex]
def inB (h : H) : Bool := decide (0 ≤ h.who) && decide (h.who < 8) && decide (0 ≤ h.mutex) && decide (h.mutex < 4)
def holder (b : List Int) (h : H) : Int := b.getD h.mutex.toNat 0
/-- May it come, and what is written down then? -/
def may (b : List Int) (h : H) : Bool × List Int :=
  if inB h = true then
    if h.kind = 0 ∨ h.kind = 1 then (holder b h == 0, b.set h.mutex.toNat (h.who + 1))
    else if h.kind = 3 then (!(holder b h == 0), b.set h.mutex.toNat 0)
    else if h.kind = 4 then (holder b h == 0, b)
    else (h.kind == 2, b)
  else (false, b)
def late (x h : H) : Bool := decide (h.at_ < x.at_) || decide (h.now < x.now) || (x.kind == 4)
def lateO (p : Option H) (h : H) : Bool := match p with | none => false | some x => late x h
/-- The book, and the first that is wrong (-1: none). -/
def read (b : List Int) (p : Option H) (i : Int) : List H → List Int × Int
  | [] => (b, -1)
  | h :: l => if lateO p h = true then (b, i) else if (may b h).1 = true then read (may b h).2 (some h) (i + 1) l else ((may b h).2, i)
def empty : List Int := [0, 0, 0, 0]
def wrong (l : List H) : Int := (read empty none 0 l).2
def book (l : List H) : List Int := (read empty none 0 l).1

theorem may_len (b : List Int) (h : H) : (may b h).2.length = b.length := by
  unfold may
  split
  · split
    · simp
    · split
      · simp
      · split <;> rfl
  · rfl
theorem read_len (l : List H) : ∀ (b : List Int) (p : Option H) (i : Int), (read b p i l).1.length = b.length := by
  induction l with
  | nil => exact fun _ _ _ => rfl
  | cons h l ih =>
    intro b p i
    unfold read
    split
    · rfl
    · split
      · rw [ih, may_len]
      · exact may_len b h
/-- Where it is wrong, it is at an index. -/
theorem read_at (l : List H) : ∀ (b : List Int) (p : Option H) (i : Int), 0 ≤ i → (read b p i l).2 = -1 ∨ (i ≤ (read b p i l).2 ∧ (read b p i l).2 < i + l.length) := by
  induction l with
  | nil => exact fun _ _ _ _ => .inl rfl
  | cons h l ih =>
    intro b p i hi
    unfold read
    split
    · exact .inr ⟨Int.le_refl _, by simp; omega⟩
    · split
      · rcases ih (may b h).2 (some h) (i + 1) (by omega) with h1 | ⟨h1, h2⟩
        · exact .inl h1
        · exact .inr ⟨by omega, by simp; omega⟩
      · exact .inr ⟨Int.le_refl _, by simp; omega⟩
def lastO (p : Option H) (l : List H) : Option H := match l.getLast? with | none => p | some x => some x
theorem lastO_cons (p : Option H) (h : H) (l : List H) : lastO p (h :: l) = lastO (some h) l := by
  cases l with
  | nil => rfl
  | cons y l =>
    unfold lastO
    rw [List.getLast?_cons_cons]
    cases hq : (y :: l).getLast? with
    | none => simp at hq
    | some x => rfl
/-- What is read of two rows, one behind the other. -/
theorem read_app (l m : List H) : ∀ (b : List Int) (p : Option H) (i : Int), 0 ≤ i →
    ((read b p i l).2 = -1 → read b p i (l ++ m) = read (read b p i l).1 (lastO p l) (i + l.length) m) ∧ ((read b p i l).2 ≠ -1 → read b p i (l ++ m) = read b p i l) := by
  induction l with
  | nil => exact fun b p i _ => ⟨fun _ => by simp [read, lastO], fun h => absurd rfl h⟩
  | cons h l ih =>
    intro b p i hi
    rw [List.cons_append]
    simp only [read]
    split
    · exact ⟨fun h => by simp only at h; omega, fun _ => rfl⟩
    · split
      · have := ih (may b h).2 (some h) (i + 1) (by omega)
        rw [lastO_cons, List.length_cons, show i + ((l.length + 1 : Nat) : Int) = i + 1 + l.length by omega]
        exact this
      · exact ⟨fun h => by simp only at h; omega, fun _ => rfl⟩
theorem wrong_range (l : List H) : wrong l = -1 ∨ (0 ≤ wrong l ∧ wrong l < l.length) := by
  have := read_at l empty none 0 (by omega)
  unfold wrong
  omega
theorem wrong_app {l m : List H} (h : wrong l ≠ -1) : wrong (l ++ m) = wrong l := by
  unfold wrong at h ⊢
  rw [(read_app l m empty none 0 (by omega)).2 h]
theorem wrong_more {l m : List H} (h : wrong l = -1) : wrong (l ++ m) = (read (book l) (lastO none l) l.length m).2 := by
  unfold wrong at h ⊢
  rw [(read_app l m empty none 0 (by omega)).1 h]
  simp [book]
theorem book_more {l m : List H} (h : wrong l = -1) : book (l ++ m) = (read (book l) (lastO none l) l.length m).1 := by
  unfold wrong at h
  unfold book
  rw [(read_app l m empty none 0 (by omega)).1 h]
  simp
/-- A part of a row. -/
theorem wrong_take (l : List H) (k : Nat) (hk : k ≤ l.length) : wrong (l.take k) = if 0 ≤ wrong l ∧ wrong l < k then wrong l else -1 := by
  have e : l.take k ++ l.drop k = l := List.take_append_drop k l
  have hr := wrong_range (l.take k)
  rw [List.length_take, Nat.min_eq_left hk] at hr
  rcases hr with h | h
  · have := wrong_more (m := l.drop k) h
    rw [e, List.length_take, Nat.min_eq_left hk] at this
    have h2 := read_at (l.drop k) (book (l.take k)) (lastO none (l.take k)) k (by omega)
    rw [← this] at h2
    rw [h, if_neg (by omega)]
  · have := wrong_app (l := l.take k) (m := l.drop k) (by omega)
    rw [e] at this
    rw [if_pos (by omega), this]
/-- One more that gets a mutex. -/
theorem wrong_snoc {l : List H} (h : wrong l = -1) (x : H) : wrong (l ++ [x]) = if lateO (lastO none l) x = true then (l.length : Int) else if (may (book l) x).1 = true then -1 else l.length := by
  rw [wrong_more h]
  unfold read
  split
  · rfl
  · split
    · rfl
    · rfl
theorem book_snoc {l : List H} (h : wrong l = -1) {x : H} (h1 : lateO (lastO none l) x = false) : book (l ++ [x]) = (may (book l) x).2 := by
  rw [book_more h]
  unfold read
  rw [h1]
  simp only [Bool.false_eq_true, if_false]
  split <;> rfl
/-! The document's answer. -/
def hstep (m : Int) (out : Int) (h : H) : Int := if h.mutex = m then (if h.kind = 3 then -1 else if h.kind ≤ 1 then h.who else out) else out
def refHolder (l : List H) (m : Int) : Int := l.foldl (hstep m) (-1)
def refLate (ahead : List H) (h : H) : Bool := lateO (lastO none ahead) h
def refBad (ahead : List H) (h : H) : Bool :=
  (!(decide (0 ≤ h.who) && decide (h.who ≤ 7) && decide (0 ≤ h.mutex) && decide (h.mutex ≤ 3) && decide (0 ≤ h.kind) && decide (h.kind ≤ 4))) || refLate ahead h ||
    (if h.kind = 3 then !decide (0 ≤ refHolder ahead h.mutex) else decide (0 ≤ refHolder ahead h.mutex) && !(h.kind == 2))
def refWrongFrom (pre : List H) : List H → Int
  | [] => -1
  | h :: l => if refBad pre h = true then (pre.length : Int) else refWrongFrom (pre ++ [h]) l
theorem refHolder_snoc (l : List H) (h : H) (m : Int) : refHolder (l ++ [h]) m = hstep m (refHolder l m) h := by simp [refHolder]
theorem lastO_snoc (l : List H) (h : H) : lastO none (l ++ [h]) = some h := by simp [lastO]
theorem getD_set (b : List Int) (i j : Nat) (v : Int) (hi : i < b.length) : (b.set i v).getD j 0 = if j = i then v else b.getD j 0 := by
  by_cases h : j = i
  · subst h; simp [hi]
  · simp [h, show i ≠ j from fun e => h e.symm]
def Fits (pre : List H) (b : List Int) : Prop := b.length = 4 ∧ ∀ m : Nat, m < 4 → b.getD m 0 = refHolder pre m + 1 ∧ -1 ≤ refHolder pre m
theorem fits_nil : Fits [] empty := ⟨rfl, fun m hm => by
  rcases (show m = 0 ∨ m = 1 ∨ m = 2 ∨ m = 3 by omega) with rfl | rfl | rfl | rfl <;> exact ⟨rfl, Int.le_refl _⟩⟩
/-- What may come, as the document says it, and the book behind it. -/
theorem may_fits {pre : List H} {b : List Int} (hf : Fits pre b) (h : H) (hl : refLate pre h = false) : (may b h).1 = !refBad pre h ∧ ((may b h).1 = true → Fits (pre ++ [h]) (may b h).2) := by
  obtain ⟨hb, hm⟩ := hf
  unfold may refBad
  rw [hl]
  by_cases hin : inB h = true
  · rw [if_pos hin]
    unfold inB at hin
    simp only [Bool.and_eq_true, decide_eq_true_eq] at hin
    obtain ⟨⟨⟨h0, h1⟩, h2⟩, h3⟩ := hin
    obtain ⟨m, hme⟩ : ∃ m : Nat, h.mutex = m := ⟨h.mutex.toNat, by omega⟩
    have hm4 : m < 4 := by omega
    obtain ⟨hmb, hm1⟩ := hm m hm4
    have hho : holder b h = refHolder pre m + 1 := by unfold holder; rw [hme, Int.toNat_natCast]; exact hmb
    rw [hho, hme, Int.toNat_natCast]
    have heq : (refHolder pre m + 1 == 0) = !decide (0 ≤ refHolder pre m) := by
      rw [Bool.eq_iff_iff]; simp; omega
    rw [heq]
    have hset : ∀ v : Int, -1 ≤ v - 1 → (∀ k : Nat, k < 4 → refHolder (pre ++ [h]) k = if k = m then v - 1 else refHolder pre k) → Fits (pre ++ [h]) (b.set m v) := fun v hv hk => by
      refine ⟨by simp [hb], fun k hk4 => ?_⟩
      rw [getD_set b m k v (by omega), hk k hk4]
      split
      · omega
      · exact hm k hk4
    have hkeep : (∀ k : Nat, k < 4 → refHolder (pre ++ [h]) k = refHolder pre k) → Fits (pre ++ [h]) b := fun hk => ⟨hb, fun k hk4 => by rw [hk k hk4]; exact hm k hk4⟩
    have hst : ∀ k : Nat, refHolder (pre ++ [h]) k = if k = m then (if h.kind = 3 then -1 else if h.kind ≤ 1 then h.who else refHolder pre k) else refHolder pre k := fun k => by
      rw [refHolder_snoc, hstep, hme]
      by_cases hk : k = m
      · subst hk; simp
      · rw [if_neg hk, if_neg (by omega)]
    by_cases k01 : h.kind = 0 ∨ h.kind = 1
    · rw [if_pos k01]
      refine ⟨?_, fun _ => hset _ (by omega) fun k _ => ?_⟩
      · simp only [Bool.or_false]
        rw [if_neg (by omega)]
        rcases k01 with k | k <;> simp [k, h0, show h.who ≤ 7 by omega, show (m : Int) ≤ 3 by omega]
      · rw [hst k, if_neg (show ¬ h.kind = 3 by omega), if_pos (show h.kind ≤ 1 by omega)]
        split <;> omega
    · rw [if_neg k01]
      by_cases k3 : h.kind = 3
      · rw [if_pos k3]
        refine ⟨?_, fun _ => hset _ (by omega) fun k _ => ?_⟩
        · simp [k3, h0, show h.who ≤ 7 by omega, show (m : Int) ≤ 3 by omega]
        · rw [hst k, if_pos k3]
          split <;> omega
      · rw [if_neg k3]
        by_cases k4 : h.kind = 4
        · rw [if_pos k4]
          refine ⟨?_, fun _ => hkeep fun k _ => ?_⟩
          · simp [k4, h0, show h.who ≤ 7 by omega, show (m : Int) ≤ 3 by omega]
          · rw [hst k, if_neg k3, if_neg (show ¬ h.kind ≤ 1 by omega)]
            split <;> rfl
        · rw [if_neg k4]
          refine ⟨?_, fun hk2 => hkeep fun k _ => ?_⟩
          · rw [if_neg k3]
            by_cases k2 : h.kind = 2
            · simp [k2, h0, show h.who ≤ 7 by omega, show (m : Int) ≤ 3 by omega]
            · have : (decide (0 ≤ h.kind) && decide (h.kind ≤ 4)) = false := by
                rw [Bool.and_eq_false_iff, decide_eq_false_iff_not, decide_eq_false_iff_not]; omega
              rw [Bool.and_assoc, this]
              simp [k2]
          · have k2 : h.kind = 2 := by simpa using hk2
            rw [hst k, if_neg k3, if_neg (show ¬ h.kind ≤ 1 by omega)]
            split <;> rfl
  · rw [if_neg hin]
    refine ⟨?_, fun h => by simp at h⟩
    have : (decide (0 ≤ h.who) && decide (h.who ≤ 7) && decide (0 ≤ h.mutex) && decide (h.mutex ≤ 3)) = false := by
      have h2 : inB h = false := by simpa using hin
      unfold inB at h2
      rw [← h2]
      congr 1
      · congr 2
        exact decide_eq_decide.2 ⟨fun _ => by omega, fun _ => by omega⟩
      · exact decide_eq_decide.2 ⟨fun _ => by omega, fun _ => by omega⟩
    rw [this]
    simp
theorem read_ref (l : List H) : ∀ (pre : List H) (b : List Int), Fits pre b → (read b (lastO none pre) pre.length l).2 = refWrongFrom pre l ∧ ((read b (lastO none pre) pre.length l).2 = -1 → Fits (pre ++ l) (read b (lastO none pre) pre.length l).1) := by
  induction l with
  | nil => exact fun pre b hf => ⟨rfl, fun _ => by rw [List.append_nil]; exact hf⟩
  | cons h l ih =>
    intro pre b hf
    unfold read refWrongFrom
    by_cases hl : lateO (lastO none pre) h = true
    · have hb : refBad pre h = true := by unfold refBad refLate; rw [hl]; simp
      rw [if_pos hl, if_pos hb]
      exact ⟨rfl, fun h => by simp only at h; omega⟩
    · have hl' : refLate pre h = false := by unfold refLate; simpa using hl
      rw [if_neg hl]
      obtain ⟨h1, h2⟩ := may_fits hf h hl'
      rw [h1] at h2 ⊢
      cases hb : refBad pre h with
      | true => exact ⟨rfl, fun h => by simp at h⟩
      | false =>
        rw [hb] at h2
        have := ih (pre ++ [h]) (may b h).2 (h2 rfl)
        rw [lastO_snoc, List.length_append, List.length_singleton, List.append_assoc, List.singleton_append] at this
        exact this
theorem wrong_ref (l : List H) : wrong l = refWrongFrom [] l := (read_ref l [] empty fits_nil).1
theorem book_ref {l : List H} (h : wrong l = -1) : Fits l (book l) := (read_ref l [] empty fits_nil).2 h
end Judge
end Go.Proofs.Ytjdjmhagafmkaaa

/-
  More words for memory: make and copy of slices of structs, a row that is set at a place.
-/
namespace Go.Proofs.Ytjdjmhagafmkaaa
open Go.RowKit

theorem run_make_rowN {P : Program} (t e : TypeId) (i : TypeInfo) (z : Value) (ht : P.underlying t = some (.slice e)) (hi : P.info? e = some i) (hz : i.zero = some z)
    (kl kc : IntKind) (n c : Nat) (hnc : n ≤ c) (hbytes : i.bytes * c ≤ 281474976710656) (h63 : c ≤ 9223372036854775807) (w : World) :
    (Instr.makeSlice t (.int kl (n : Int)) (.int kc (c : Int))).run P w = .ok (.slice (some ⟨w.heap.size, 0, none⟩) n c) (w.alloc (.cells (madeCells z.cells (c * i.size)) e)) := by
  have hb : (i.bytes : Int) * (c : Int) ≤ 281474976710656 := by
    have h : ((i.bytes * c : Nat) : Int) ≤ 281474976710656 := by omega
    rwa [Int.natCast_mul] at h
  have hr := run_make (P := P) w t e i z ht hi hz kl kc n c (by omega) (by omega) hb (by omega)
  simp only [Int.toNat_natCast] at hr
  exact hr
theorem run_makeMap_hint {P : Program} (t k e : TypeId) (kd : IntKind) (n : Int) (ht : P.underlying t = some (.map k e)) (w : World) :
    (Instr.makeMap t (some (.int kd n))).run P w = .ok (.map (some w.heap.size)) (w.alloc (.map #[] 0)) := by
  simp [Instr.makeMap, run_underlying ht]; rfl

/-- copy between rows of elements of m cells. -/
theorem run_copy_rowM {P : Program} (w : World) (dT sT ty elem : TypeId) (m g o n dLen dCap : Nat) (a : Addr) (sLen sCap : Nat) (cur : Array Value) (t : TypeId) (cs : List Value)
    (hu : P.underlying dT = some (.slice elem)) (hs : (P.info? elem).map (·.size) = some m)
    (hg : w.heap[g]? = some (.cells cur t (0, 0))) (hn : n = Nat.min sLen dLen) (hcs : cs.length = n * m)
    (hsrc : ∀ j v, cs[j]? = some v → w.cell? (a.add j) = some v) (hfit : o + cs.length ≤ cur.size) (h1 : ∀ v ∈ cs, v.oneCell' = true) :
    (Builtin.copy_ #[dT, sT] ty #[.slice (some ⟨g, o, none⟩) dLen dCap, .slice (some a) sLen sCap]).run P w =
      .ok (goInt n) (w.setRow g (cur.toList.take o ++ cs ++ cur.toList.drop (o + cs.length)).toArray) := by
  have hl := run_loadCells_list (P := P) w a cs hsrc
  have hst := run_storeCells_at P g o t cs 0 cur w hg (by simpa using hfit) h1
  cases hq : P.info? elem with
  | none => simp [hq] at hs
  | some i =>
    have hi : i.size = m := by simpa [hq] using hs
    rw [hcs] at hl
    simp [Builtin.copy_, run_underlying hu, Builtin.lenOf, Builtin.firstCells, sizeOf, typeInfo, hq, hi, ← hn, hl, hst]

theorem setRow_alloc (w : World) (cur cs : Array Value) (t : TypeId) : (w.alloc (.cells cur t)).setRow w.heap.size cs = w.alloc (.cells cs t) := by
  unfold World.setRow World.alloc
  congr 1
  apply Array.ext
  · simp
  · intro k h1 h2
    simp only [Array.getElem_modify]
    split
    · rename_i hk
      subst hk
      simp
    · rename_i hk
      have h3 : k < w.heap.size := by simp at h1; omega
      simp [Array.getElem_push, h3]

/-- A whole row copied into one just made. -/
theorem run_copy_made {P : Program} (w : World) (dT sT ty elem : TypeId) (m n dCap : Nat) (a : Addr) (sCap : Nat) (cur : Array Value) (t : TypeId) (cs : List Value)
    (hu : P.underlying dT = some (.slice elem)) (hs : (P.info? elem).map (·.size) = some m) (hcs : cs.length = n * m) (hcur : cur.size = n * m)
    (hsrc : ∀ j v, cs[j]? = some v → (w.alloc (.cells cur t)).cell? (a.add j) = some v) (h1 : ∀ v ∈ cs, v.oneCell' = true) :
    (Builtin.copy_ #[dT, sT] ty #[.slice (some ⟨w.heap.size, 0, none⟩) n dCap, .slice (some a) n sCap]).run P (w.alloc (.cells cur t)) = .ok (goInt n) (w.alloc (.cells cs.toArray t)) := by
  rw [run_copy_rowM (w.alloc (.cells cur t)) dT sT ty elem m w.heap.size 0 n n dCap a n sCap cur t cs hu hs (heap_alloc_new w _) (by simp) hcs hsrc (by omega) h1]
  rw [setRow_alloc]
  congr 4
  simp
  omega

/-- A row of a block that is known whole. -/
theorem Reads.of_blk {w : World} {g : Nat} {t : TypeId} {cs : Array Value} {size n : Nat} (h : Blk w g t cs) (hl : cs.size = n * size) : Reads w w.heap.size size (some ⟨g, 0, none⟩) n cs.toList := by
  refine ⟨by simpa using hl, fun _ => ⟨_, rfl, h.lt, fun j u hu => ?_⟩⟩
  have e : (⟨g, 0, none⟩ : Addr).add j = ⟨g, j, none⟩ := by unfold Addr.add; by_cases hj : j = 0 <;> simp [hj]
  rw [e, h.cell j]
  simpa using hu

theorem flat_set2 {α β : Type} (c : α → List β) (hm : ∀ x, (c x).length = 2) : ∀ (l : List α) (k : Nat) (x : α) (u v : β), k < l.length → c x = [u, v] → ((l.flatMap c).set (k * 2) u).set (k * 2 + 1) v = (l.set k x).flatMap c
  | [], _, _, _, _, h, _ => by simp at h
  | y :: l, 0, x, u, v, _, hx => by
    have h2 := hm y
    match hy : c y, h2 with
    | [p, q], _ => simp [hy, hx]
  | y :: l, k + 1, x, u, v, h, hx => by
    have h2 := hm y
    match hy : c y, h2 with
    | [p, q], _ =>
      have ih := flat_set2 c hm l k x u v (by simpa using h) hx
      simp only [List.flatMap_cons, hy, List.set_cons_succ]
      rw [show (k + 1) * 2 = k * 2 + 1 + 1 by omega, show k * 2 + 1 + 1 + 1 = (k * 2 + 1) + 1 + 1 by omega]
      simp only [List.cons_append, List.nil_append, List.set_cons_succ]
      rw [ih]
end Go.Proofs.Ytjdjmhagafmkaaa

/-
  The contracts of package judge: the book, and the first that is wrong. Printed by gen_judge.py.
-/
namespace Go.Proofs.Ytjdjmhagafmkaaa
open Go.RowKit
namespace Judge
def ints (b : List Int) : Array Value := (b.map (Value.int .i64)).toArray
def ev (h : H) : Value := .agg #[.int .i64 h.who, .int .i64 h.kind, .int .i64 h.mutex]
theorem ints_at (b : List Int) (i : Nat) (hi : i < b.length) : (ints b)[i]? = some (.int .i64 (b.getD i 0)) := by
  simp [ints, List.getElem?_eq_getElem hi]
theorem ints_set (b : List Int) (i : Nat) (v : Int) : (ints b).setIfInBounds i (.int .i64 v) = ints (b.set i v) := by
  simp [ints, List.map_set]
/-- What is told of an event, and the book behind it. -/
def May (g : Nat) (b : List Int) (h : H) (w : World) (e : Ending) (w' : World) : Prop := e = .returned (.bool (may b h).1) ∧ Blk w' g 69 (ints (may b h).2) ∧ Below g w w'
set_option maxRecDepth 100000 in
theorem may_out (g : Nat) (b : List Int) (at_ now who kind mutex : Int) (w : World) (hb : Blk w g 69 (ints b)) (h : inB ⟨at_, now, who, kind, mutex⟩ = false) :
    Calls Try.prog 80 #[.pointer (some ⟨g, 0, none⟩), .agg #[.int .i64 who, .int .i64 kind, .int .i64 mutex]] w (May g b ⟨at_, now, who, kind, mutex⟩ w) := by
  have hlt := hb.lt
  have HB := Lib.hid hb
  have hB0 := (Below.refl g w).alloc (Nat.le_of_lt hlt) (.cells #[.int .i64 who, .int .i64 kind, .int .i64 mutex] 31)
  have HB0 := Lib.hid hB0
  have HB1 := Lib.hid (hb.alloc (.cells #[.int .i64 who, .int .i64 kind, .int .i64 mutex] 31))
  clear hb hB0
  have hres : may b ⟨at_, now, who, kind, mutex⟩ = (false, b) := by unfold may; rw [h]; rfl
  have HRES := Lib.hid hres
  have hin : who < 0 ∨ 8 ≤ who ∨ mutex < 0 ∨ 4 ≤ mutex := by
    unfold inB at h
    simp only [Bool.and_eq_false_iff, decide_eq_false_iff_not] at h
    omega
  clear h hres
  by_cases h0 : who < 0
  · have d0 : decide (who < 0) = true := decide_eq_true h0
    go_enter Try.func80, Try.ntmps80
    go_wp2_with fail
    go_ret
    exact ⟨by rw [HRES.out]; rfl, by rw [HRES.out]; exact HB1.out, HB0.out⟩
  · have d0 : decide (who < 0) = false := decide_eq_false h0
    by_cases h1 : 8 ≤ who
    · have d1 : decide (8 ≤ who) = true := decide_eq_true h1
      go_enter Try.func80, Try.ntmps80
      go_wp2_with fail
      go_ret
      exact ⟨by rw [HRES.out]; rfl, by rw [HRES.out]; exact HB1.out, HB0.out⟩
    · have d1 : decide (8 ≤ who) = false := decide_eq_false h1
      by_cases h2 : mutex < 0
      · have d2 : decide (mutex < 0) = true := decide_eq_true h2
        go_enter Try.func80, Try.ntmps80
        go_wp2_with fail
        go_ret
        exact ⟨by rw [HRES.out]; rfl, by rw [HRES.out]; exact HB1.out, HB0.out⟩
      · have d2 : decide (mutex < 0) = false := decide_eq_false h2
        have d3 : decide (4 ≤ mutex) = true := decide_eq_true (by omega)
        go_enter Try.func80, Try.ntmps80
        go_wp2_with fail
        go_ret
        exact ⟨by rw [HRES.out]; rfl, by rw [HRES.out]; exact HB1.out, HB0.out⟩
set_option maxRecDepth 100000 in
theorem may_in (g : Nat) (b : List Int) (at_ now who kind mutex : Int) (w : World) (hb : Blk w g 69 (ints b)) (hl : b.length = 4) (h : inB ⟨at_, now, who, kind, mutex⟩ = true) :
    Calls Try.prog 80 #[.pointer (some ⟨g, 0, none⟩), .agg #[.int .i64 who, .int .i64 kind, .int .i64 mutex]] w (May g b ⟨at_, now, who, kind, mutex⟩ w) := by
  have hlt := hb.lt
  have HB := Lib.hid hb
  have hB0 := (Below.refl g w).alloc (Nat.le_of_lt hlt) (.cells #[.int .i64 who, .int .i64 kind, .int .i64 mutex] 31)
  have HB0 := Lib.hid hB0
  have HB1 := Lib.hid (hb.alloc (.cells #[.int .i64 who, .int .i64 kind, .int .i64 mutex] 31))
  clear hb hB0
  have hin : 0 ≤ who ∧ who < 8 ∧ 0 ≤ mutex ∧ mutex < 4 := by
    unfold inB at h
    simp only [Bool.and_eq_true, decide_eq_true_eq] at h
    omega
  obtain ⟨h0, h1, h2, h3⟩ := hin
  obtain ⟨m, rfl⟩ : ∃ m : Nat, mutex = m := ⟨mutex.toNat, by omega⟩
  have hm4 : m < 4 := by omega
  have HIN := Lib.hid h
  have HL := Lib.hid hl
  obtain ⟨x, hx⟩ : ∃ x, b.getD m 0 = x := ⟨_, rfl⟩
  have HHO : Hid (holder b ⟨at_, now, who, kind, m⟩ = x) := by unfold Hid holder; simpa using hx
  have ham : ((⟨g, 0, none⟩ : Addr).add m) = ⟨g, m, none⟩ := by unfold Addr.add; by_cases hj : m = 0 <;> simp [hj]
  have hc : (w.alloc (.cells #[.int .i64 who, .int .i64 kind, .int .i64 m] 31)).cell? ⟨g, m, none⟩ = some (.int .i64 x) := by rw [HB1.out.cell, ints_at b m (by omega), hx]
  have hz : (w.alloc (.cells #[.int .i64 who, .int .i64 kind, .int .i64 m] 31)).frozen? ⟨g, m, none⟩ = false := HB1.out.frozen m
  have hne : g ≠ w.heap.size := by omega
  have d0 : decide (who < 0) = false := decide_eq_false (by omega)
  have d1 : decide (8 ≤ who) = false := decide_eq_false (by omega)
  have d2 : decide ((m : Int) < 0) = false := decide_eq_false (by omega)
  have d3 : decide (4 ≤ (m : Int)) = false := decide_eq_false (by omega)
  clear h hl hx
  go_enter Try.func80, Try.ntmps80
  go_wp2_with fail
  go_quiet (fail)
  have hc1 : ((w.alloc (.cells #[.int .i64 who, .int .i64 kind, .int .i64 m] 31)).drewN nq).cell? ⟨g, m, none⟩ = some (.int .i64 x) := hc
  have hz1 : ((w.alloc (.cells #[.int .i64 who, .int .i64 kind, .int .i64 m] 31)).drewN nq).frozen? ⟨g, m, none⟩ = false := hz
  have hb1 : Blk ((w.alloc (.cells #[.int .i64 who, .int .i64 kind, .int .i64 m] 31)).drewN nq) g 69 (ints b) := HB1.out
  have hb0 : Below g w ((w.alloc (.cells #[.int .i64 who, .int .i64 kind, .int .i64 m] 31)).drewN nq) := HB0.out.trans (below_drewN (Below.refl _ _) nq)
  have he0 : ((w.alloc (.cells #[.int .i64 who, .int .i64 kind, .int .i64 m] 31)).drewN nq).cell? ⟨w.heap.size, 0, none⟩ = some (.int .i64 who) := by rw [((Blk.new w 31 #[.int .i64 who, .int .i64 kind, .int .i64 m]).drewN nq).cell]; rfl
  have he1 : ((w.alloc (.cells #[.int .i64 who, .int .i64 kind, .int .i64 m] 31)).drewN nq).cell? ⟨w.heap.size, 1, none⟩ = some (.int .i64 kind) := by rw [((Blk.new w 31 #[.int .i64 who, .int .i64 kind, .int .i64 m]).drewN nq).cell]; rfl
  obtain ⟨W, hW⟩ : ∃ W, (w.alloc (.cells #[.int .i64 who, .int .i64 kind, .int .i64 m] 31)).drewN nq = W := ⟨_, rfl⟩
  rw [hW] at hc1 hz1 hb1 hb0 he0 he1 ⊢
  have HC := Lib.hid hb1
  have HD := Lib.hid hb0
  clear hW hb1 hb0 hc hz HB HB0 HB1
  have hmay : may b ⟨at_, now, who, kind, m⟩ = if kind = 0 ∨ kind = 1 then (x == 0, b.set m (who + 1)) else if kind = 3 then (!(x == 0), b.set m 0) else if kind = 4 then (x == 0, b) else (kind == 2, b) := by
    unfold may; rw [if_pos HIN.out, HHO.out]; rfl
  have HMAY := Lib.hid hmay
  have hs1 : Hid (Blk (W.setCell ⟨g, m, none⟩ (.int .i64 (who + 1))) g 69 (ints (b.set m (who + 1)))) := by unfold Hid; rw [← ints_set]; exact HC.out.set_ m _
  have hs0 : Hid (Blk (W.setCell ⟨g, m, none⟩ (.int .i64 0)) g 69 (ints (b.set m 0))) := by unfold Hid; rw [← ints_set]; exact HC.out.set_ m _
  have hd1 : Hid (Below g w (W.setCell ⟨g, m, none⟩ (.int .i64 (who + 1)))) := HD.out.setCell (Nat.le_refl _) _
  have hd0 : Hid (Below g w (W.setCell ⟨g, m, none⟩ (.int .i64 0))) := HD.out.setCell (Nat.le_refl _) _
  clear hmay HIN HHO
  obtain ⟨z, hz0⟩ : ∃ z, (x == 0) = z := ⟨_, rfl⟩
  rw [hz0] at HMAY
  by_cases k0 : kind = 0
  · have e0 : (kind == 0) = true := by simp [k0]
    have HR : Hid (may b ⟨at_, now, who, kind, m⟩ = (z, b.set m (who + 1))) := by unfold Hid; rw [HMAY.out, if_pos (.inl k0)]
    clear k0
    go_wp2_with fail
    go_ret
    exact ⟨by rw [HR.out]; rfl, by rw [HR.out]; exact hs1.out, hd1.out⟩
  · have e0 : (kind == 0) = false := by simp [k0]
    by_cases k1 : kind = 1
    · have e1 : (kind == 1) = true := by simp [k1]
      have HR : Hid (may b ⟨at_, now, who, kind, m⟩ = (z, b.set m (who + 1))) := by unfold Hid; rw [HMAY.out, if_pos (.inr k1)]
      clear k0 k1
      go_wp2_with fail
      go_ret
      exact ⟨by rw [HR.out]; rfl, by rw [HR.out]; exact hs1.out, hd1.out⟩
    · have e1 : (kind == 1) = false := by simp [k1]
      by_cases k3 : kind = 3
      · have e3 : (kind == 3) = true := by simp [k3]
        have HR : Hid (may b ⟨at_, now, who, kind, m⟩ = (!z, b.set m 0)) := by unfold Hid; rw [HMAY.out, if_neg (by omega), if_pos k3]
        clear k0 k1 k3
        go_wp2_with fail
        go_ret
        exact ⟨by rw [HR.out]; rfl, by rw [HR.out]; exact hs0.out, hd0.out⟩
      · have e3 : (kind == 3) = false := by simp [k3]
        by_cases k4 : kind = 4
        · have e4 : (kind == 4) = true := by simp [k4]
          have HR : Hid (may b ⟨at_, now, who, kind, m⟩ = (z, b)) := by unfold Hid; rw [HMAY.out, if_neg (by omega), if_neg k3, if_pos k4]
          clear k0 k1 k3 k4
          go_wp2_with fail
          go_ret
          exact ⟨by rw [HR.out]; rfl, by rw [HR.out]; exact HC.out, HD.out⟩
        · have e4 : (kind == 4) = false := by simp [k4]
          have HR : Hid (may b ⟨at_, now, who, kind, m⟩ = (kind == 2, b)) := by unfold Hid; rw [HMAY.out, if_neg (by omega), if_neg k3, if_neg k4]
          clear k0 k1 k3 k4
          go_wp2_with fail
          go_ret
          exact ⟨by rw [HR.out]; rfl, by rw [HR.out]; exact HC.out, HD.out⟩
theorem may_any (g : Nat) (b : List Int) (h : H) (w : World) (hb : Blk w g 69 (ints b)) (hl : b.length = 4) :
    Calls Try.prog 80 #[.pointer (some ⟨g, 0, none⟩), ev h] w (May g b h w) := by
  obtain ⟨a, n, who, kind, mutex⟩ := h
  cases hin : inB ⟨a, n, who, kind, mutex⟩ with
  | true => exact may_in g b a n who kind mutex w hb hl hin
  | false => exact may_out g b a n who kind mutex w hb hin
end Judge
end Go.Proofs.Ytjdjmhagafmkaaa

/-
  A block's cells, all at once.
-/
namespace Go.Proofs.Ytjdjmhagafmkaaa
open Go.RowKit
section
variable {w : World} {g : Nat} {t : TypeId} {a b c d e : Value}
theorem Blk.at1 (h : Blk w g t #[a]) : w.cell? ⟨g, 0, none⟩ = some a := by rw [h.cell]; rfl
theorem Blk.at2 (h : Blk w g t #[a, b]) : w.cell? ⟨g, 0, none⟩ = some a ∧ w.cell? ⟨g, 1, none⟩ = some b := ⟨by rw [h.cell]; rfl, by rw [h.cell]; rfl⟩
theorem Blk.at3 (h : Blk w g t #[a, b, c]) : w.cell? ⟨g, 0, none⟩ = some a ∧ w.cell? ⟨g, 1, none⟩ = some b ∧ w.cell? ⟨g, 2, none⟩ = some c := ⟨by rw [h.cell]; rfl, by rw [h.cell]; rfl, by rw [h.cell]; rfl⟩
theorem Blk.at4 (h : Blk w g t #[a, b, c, d]) : w.cell? ⟨g, 0, none⟩ = some a ∧ w.cell? ⟨g, 1, none⟩ = some b ∧ w.cell? ⟨g, 2, none⟩ = some c ∧ w.cell? ⟨g, 3, none⟩ = some d := ⟨by rw [h.cell]; rfl, by rw [h.cell]; rfl, by rw [h.cell]; rfl, by rw [h.cell]; rfl⟩
theorem Blk.at5 (h : Blk w g t #[a, b, c, d, e]) : w.cell? ⟨g, 0, none⟩ = some a ∧ w.cell? ⟨g, 1, none⟩ = some b ∧ w.cell? ⟨g, 2, none⟩ = some c ∧ w.cell? ⟨g, 3, none⟩ = some d ∧ w.cell? ⟨g, 4, none⟩ = some e := ⟨by rw [h.cell]; rfl, by rw [h.cell]; rfl, by rw [h.cell]; rfl, by rw [h.cell]; rfl, by rw [h.cell]; rfl⟩
end
end Go.Proofs.Ytjdjmhagafmkaaa

/-
  The contract of judge.read.
-/
namespace Go.Proofs.Ytjdjmhagafmkaaa
open Go.RowKit
namespace Judge
theorem cells_len (h : H) : (cells h).length = 5 := rfl
theorem happened_at {w : World} {B n k : Nat} {A : Option Addr} {hs : List H} (hr : Reads w B 5 A n (hs.flatMap cells)) (hk : k < n) :
    ∃ ad h, A = some ad ∧ hs[k]? = some h ∧ ad.block < B ∧ w.cell? (ad.add (k * 5)) = some (.int .i64 h.at_) ∧ w.cell? ⟨(ad.add (k * 5)).block, (ad.add (k * 5)).off + 1, none⟩ = some (.int .i64 h.now) ∧
      w.cell? ⟨(ad.add (k * 5)).block, (ad.add (k * 5)).off + 2, none⟩ = some (.int .i64 h.who) ∧ w.cell? ⟨(ad.add (k * 5)).block, (ad.add (k * 5)).off + 3, none⟩ = some (.int .i64 h.kind) ∧ w.cell? ⟨(ad.add (k * 5)).block, (ad.add (k * 5)).off + 4, none⟩ = some (.int .i64 h.mutex) := by
  obtain ⟨ad, hA, hb, hc⟩ := hr.2 (by omega)
  have hl : hs.length = n := by have := hr.1; rw [flat_len cells 5 cells_len] at this; omega
  obtain ⟨h, hh⟩ : ∃ h, hs[k]? = some h := ⟨_, List.getElem?_eq_getElem (by omega)⟩
  have hat : ∀ j, j < 5 → ∀ v, (cells h)[j]? = some v → w.cell? ((ad.add (k * 5)).add j) = some v := fun j hj v hv => by
    rw [add_of_add]
    exact hc _ _ ((flat_at cells 5 cells_len hs k j h hh hj).trans hv)
  exact ⟨ad, h, hA, hh, hb, hat 0 (by omega) _ rfl, hat 1 (by omega) _ rfl, hat 2 (by omega) _ rfl, hat 3 (by omega) _ rfl, hat 4 (by omega) _ rfl⟩
theorem len4 (b : List Int) (h : b.length = 4) : ∃ b0 b1 b2 b3, b = [b0, b1, b2, b3] := by
  match b, h with
  | [b0, b1, b2, b3], _ => exact ⟨b0, b1, b2, b3, rfl⟩
set_option maxRecDepth 100000 in
set_option maxHeartbeats 4000000 in
theorem read_any (A : Option Addr) (n c : Nat) (hs : List H) (hn : n ≤ 1000) (hnc : n ≤ c) (w : World) (hr : Reads w w.heap.size 5 A n (hs.flatMap cells)) :
    Calls Try.prog 50 #[.slice A n c] w fun e w' => e = .returned (.tuple #[.agg (ints (book hs)), .int .i64 (wrong hs)]) ∧ Below w.heap.size w w' := by
  have hl : hs.length = n := by have := hr.1; rw [flat_len cells 5 cells_len] at this; omega
  have HL := Lib.hid hl
  have HR := Lib.hid hr
  clear hl hr
  go_enter Try.func50, Try.ntmps50
  go_wp2_with fail
  have hb0 : Below w.heap.size w ((w.alloc (.cells #[.int .i64 0, .int .i64 0, .int .i64 0, .int .i64 0] 69)).alloc (.cells #[.int .i64 0, .int .i64 0, .int .i64 0, .int .i64 0] 69)) := ((Below.refl _ _).alloc (Nat.le_refl _) _).alloc (by simp) _
  have hp := (Blk.new w 69 (ints empty)).alloc (.cells (ints empty) 69)
  have hq := Blk.new (w.alloc (.cells (ints empty) 69)) 69 (ints empty)
  rw [World.size_alloc] at hq
  obtain ⟨W, hW⟩ : ∃ W, (w.alloc (.cells #[.int .i64 0, .int .i64 0, .int .i64 0, .int .i64 0] 69)).alloc (.cells #[.int .i64 0, .int .i64 0, .int .i64 0, .int .i64 0] 69) = W := ⟨_, rfl⟩
  have hW' : (w.alloc (.cells (ints empty) 69)).alloc (.cells (ints empty) 69) = W := hW
  rw [hW] at hb0 ⊢
  rw [hW'] at hp hq
  have HB0 := Lib.hid hb0
  have HP := Lib.hid hp
  have HQ := Lib.hid hq
  clear hW hW' hb0 hp hq
  go_loopw [10] (fun i wr => ∃ (k : Nat) (b : List Int), k ≤ n ∧ i = .int .i64 k ∧ b.length = 4 ∧ read empty none 0 hs = read b (lastO none (hs.take k)) k (hs.drop k) ∧ Blk wr (w.heap.size + 1) 69 (ints b) ∧ Blk wr w.heap.size 69 (ints empty) ∧ Below w.heap.size w wr) (fun i _ => n - (intOf i).toNat)
  case atStart => exact ⟨0, empty, Nat.zero_le _, rfl, rfl, rfl, HQ.out, HP.out, HB0.out⟩
  case round =>
    obtain ⟨k, b, hk, rfl, hb4, hrd, hqr, hpr, hbr⟩ := hrel
    obtain ⟨b0, b1, b2, b3, rfl⟩ := len4 b hb4
    have hqr : Blk wr (w.heap.size + 1) 69 #[.int .i64 b0, .int .i64 b1, .int .i64 b2, .int .i64 b3] := hqr
    have hpr : Blk wr w.heap.size 69 #[.int .i64 0, .int .i64 0, .int .i64 0, .int .i64 0] := hpr
    have HRD := Lib.hid hrd
    have HQR := Lib.hid hqr
    have HPR := Lib.hid hpr
    have HBR := Lib.hid hbr
    have hlq := hqr.lt
    clear hrd hqr hpr hbr hb4
    by_cases hlt : k < n
    · obtain ⟨ad, h, rfl, hh, hbl, e0, e1, e2, e3, e4⟩ := happened_at (HR.out.below HBR.out) hlt
      have HH := Lib.hid hh
      clear hh
      have hdr : Hid (hs.drop k = h :: hs.drop (k + 1)) := by
        unfold Hid
        obtain ⟨h1, h2⟩ := List.getElem?_eq_some_iff.1 HH.out
        rw [List.drop_eq_getElem_cons h1, h2]
      have hln : Hid (lastO none (hs.take (k + 1)) = some h) := by
        unfold Hid
        rw [List.take_add_one, HH.out]
        exact lastO_snoc _ _
      by_cases hk0 : 0 < k
      · obtain ⟨ad', x, hA, hx, _, x0, x1, x2, x3, x4⟩ := happened_at (k := k - 1) (HR.out.below (HBR.out.alloc HBR.out.size (.cells #[.int .i64 h.at_, .int .i64 h.now, .int .i64 h.who, .int .i64 h.kind, .int .i64 h.mutex] 33))) (by omega)
        obtain rfl := Option.some.inj hA
        have HX := Lib.hid hx
        clear hx hA
        have hq2 := (HQR.out.alloc (.cells #[.int .i64 h.at_, .int .i64 h.now, .int .i64 h.who, .int .i64 h.kind, .int .i64 h.mutex] 33)).alloc (.cells #[.int .i64 x.at_, .int .i64 x.now, .int .i64 x.who, .int .i64 x.kind, .int .i64 x.mutex] 33)
        have hp2 := (HPR.out.alloc (.cells #[.int .i64 h.at_, .int .i64 h.now, .int .i64 h.who, .int .i64 h.kind, .int .i64 h.mutex] 33)).alloc (.cells #[.int .i64 x.at_, .int .i64 x.now, .int .i64 x.who, .int .i64 x.kind, .int .i64 x.mutex] 33)
        have hb2 := (HBR.out.alloc HBR.out.size (.cells #[.int .i64 h.at_, .int .i64 h.now, .int .i64 h.who, .int .i64 h.kind, .int .i64 h.mutex] 33)).alloc (by have := HBR.out.size; simp; omega) (.cells #[.int .i64 x.at_, .int .i64 x.now, .int .i64 x.who, .int .i64 x.kind, .int .i64 x.mutex] 33)
        obtain ⟨q0, q1, q2, q3⟩ := hq2.at4
        obtain ⟨p0, p1, p2, p3⟩ := hp2.at4
        have z0 := hp2.frozen 0
        have z1 := hp2.frozen 1
        have z2 := hp2.frozen 2
        have z3 := hp2.frozen 3
        have HP2 := Lib.hid hp2
        have HQ2 := Lib.hid hq2
        have HB2 := Lib.hid hb2
        have hlo : Hid (lastO none (hs.take k) = some x) := by
          unfold Hid lastO
          rw [List.getLast?_eq_getElem?, List.length_take, Nat.min_eq_left (by rw [HL.out]; omega), List.getElem?_take_of_lt (by omega), HX.out]
        clear hp2 hq2 hb2
        by_cases c1 : h.at_ < x.at_
        · have HBK : Hid (book hs = [b0, b1, b2, b3] ∧ wrong hs = k) := by
            unfold Hid book wrong
            rw [HRD.out, hdr.out, hlo.out]
            have : lateO (some x) h = true := by unfold lateO late; simp [c1]
            unfold read
            rw [if_pos this]
            exact ⟨rfl, rfl⟩
          go_wp2_with fail
          have hF0 := ((((HP2.out.set_ 0 (.int .i64 b0)).set_ 1 (.int .i64 b1)).set_ 2 (.int .i64 b2)).set_ 3 (.int .i64 b3))
          have hF : Blk _ _ _ #[.int .i64 b0, .int .i64 b1, .int .i64 b2, .int .i64 b3] := hF0
          have hB := (((HB2.out.setCell (p := ⟨w.heap.size, 0, none⟩) (Nat.le_refl _) (.int .i64 b0)).setCell (p := ⟨w.heap.size, 1, none⟩) (Nat.le_refl _) (.int .i64 b1)).setCell (p := ⟨w.heap.size, 2, none⟩) (Nat.le_refl _) (.int .i64 b2)).setCell (p := ⟨w.heap.size, 3, none⟩) (Nat.le_refl _) (.int .i64 b3)
          clear hF0
          revert hF hB
          generalize World.setCell _ _ _ = W3
          intro hF hB
          obtain ⟨g0, g1, g2, g3⟩ := hF.at4
          refine bodyPost_ret (v := .tuple #[.agg (ints [b0, b1, b2, b3]), .int .i64 k]) (by simp [results, Try.results50, go_sem, g0, g1, g2, g3, ints]) rfl ⟨?_, hB⟩
          rw [HBK.out.1, HBK.out.2]
        · have c1' : x.at_ ≤ h.at_ := by omega
          by_cases c2 : h.now < x.now
          · have HBK : Hid (book hs = [b0, b1, b2, b3] ∧ wrong hs = k) := by
              unfold Hid book wrong
              rw [HRD.out, hdr.out, hlo.out]
              have : lateO (some x) h = true := by unfold lateO late; simp [c2]
              unfold read
              rw [if_pos this]
              exact ⟨rfl, rfl⟩
            go_wp2_with fail
            have hF0 := ((((HP2.out.set_ 0 (.int .i64 b0)).set_ 1 (.int .i64 b1)).set_ 2 (.int .i64 b2)).set_ 3 (.int .i64 b3))
            have hF : Blk _ _ _ #[.int .i64 b0, .int .i64 b1, .int .i64 b2, .int .i64 b3] := hF0
            have hB := (((HB2.out.setCell (p := ⟨w.heap.size, 0, none⟩) (Nat.le_refl _) (.int .i64 b0)).setCell (p := ⟨w.heap.size, 1, none⟩) (Nat.le_refl _) (.int .i64 b1)).setCell (p := ⟨w.heap.size, 2, none⟩) (Nat.le_refl _) (.int .i64 b2)).setCell (p := ⟨w.heap.size, 3, none⟩) (Nat.le_refl _) (.int .i64 b3)
            clear hF0
            revert hF hB
            generalize World.setCell _ _ _ = W3
            intro hF hB
            obtain ⟨g0, g1, g2, g3⟩ := hF.at4
            refine bodyPost_ret (v := .tuple #[.agg (ints [b0, b1, b2, b3]), .int .i64 k]) (by simp [results, Try.results50, go_sem, g0, g1, g2, g3, ints]) rfl ⟨?_, hB⟩
            rw [HBK.out.1, HBK.out.2]
          · have c2' : x.now ≤ h.now := by omega
            by_cases c3 : x.kind = 4
            · have d3 : (x.kind == 4) = true := by simp [c3]
              have HBK : Hid (book hs = [b0, b1, b2, b3] ∧ wrong hs = k) := by
                unfold Hid book wrong
                rw [HRD.out, hdr.out, hlo.out]
                have : lateO (some x) h = true := by unfold lateO late; simp [c3]
                unfold read
                rw [if_pos this]
                exact ⟨rfl, rfl⟩
              clear c3
              go_wp2_with fail
              have hF0 := ((((HP2.out.set_ 0 (.int .i64 b0)).set_ 1 (.int .i64 b1)).set_ 2 (.int .i64 b2)).set_ 3 (.int .i64 b3))
              have hF : Blk _ _ _ #[.int .i64 b0, .int .i64 b1, .int .i64 b2, .int .i64 b3] := hF0
              have hB := (((HB2.out.setCell (p := ⟨w.heap.size, 0, none⟩) (Nat.le_refl _) (.int .i64 b0)).setCell (p := ⟨w.heap.size, 1, none⟩) (Nat.le_refl _) (.int .i64 b1)).setCell (p := ⟨w.heap.size, 2, none⟩) (Nat.le_refl _) (.int .i64 b2)).setCell (p := ⟨w.heap.size, 3, none⟩) (Nat.le_refl _) (.int .i64 b3)
              clear hF0
              revert hF hB
              generalize World.setCell _ _ _ = W3
              intro hF hB
              obtain ⟨g0, g1, g2, g3⟩ := hF.at4
              refine bodyPost_ret (v := .tuple #[.agg (ints [b0, b1, b2, b3]), .int .i64 k]) (by simp [results, Try.results50, go_sem, g0, g1, g2, g3, ints]) rfl ⟨?_, hB⟩
              rw [HBK.out.1, HBK.out.2]
            · have d3 : (x.kind == 4) = false := by simp [c3]
              have NL : lateO (some x) h = false := by unfold lateO late; simp [c1, c2, c3]
              have HNL := Lib.hid NL
              clear c3 NL
              go_wp2_with fail
              refine (may_any (w.heap.size + 1) [b0, b1, b2, b3] h _ HQ2.out rfl).mono ?_
              rintro e w4 hm4
              obtain ⟨rfl, hqm, hbm⟩ := hm4
              have HPM := Lib.hid (HP2.out.below hbm (by omega))
              have HBM := Lib.hid (HB2.out.trans (hbm.mono (by omega)))
              have hlen := (may_len [b0, b1, b2, b3] h)
              obtain ⟨m0, m1, m2, m3, hmb⟩ := len4 (may [b0, b1, b2, b3] h).2 hlen
              rw [hmb] at hqm
              have HMB := Lib.hid hmb
              have HQM := Lib.hid hqm
              obtain ⟨r0, r1, r2, r3⟩ := (show Blk w4 (w.heap.size + 1) 69 #[.int .i64 m0, .int .i64 m1, .int .i64 m2, .int .i64 m3] from hqm).at4
              obtain ⟨p0, p1, p2, p3⟩ := HPM.out.at4
              have z0 := HPM.out.frozen 0
              have z1 := HPM.out.frozen 1
              have z2 := HPM.out.frozen 2
              have z3 := HPM.out.frozen 3
              clear hbm hqm hlen hmb
              cases hmy : (may [b0, b1, b2, b3] h).1 with
              | false =>
                have HBK : Hid (book hs = [m0, m1, m2, m3] ∧ wrong hs = k) := by
                  unfold Hid book wrong
                  rw [HRD.out, hdr.out, hlo.out]
                  unfold read
                  rw [HNL.out, if_neg (by simp), hmy, HMB.out]
                  exact ⟨rfl, rfl⟩
                clear hmy
                go_wp2_with fail
                have hF0 := ((((HPM.out.set_ 0 (.int .i64 m0)).set_ 1 (.int .i64 m1)).set_ 2 (.int .i64 m2)).set_ 3 (.int .i64 m3))
                have hF : Blk _ _ _ #[.int .i64 m0, .int .i64 m1, .int .i64 m2, .int .i64 m3] := hF0
                have hB := (((HBM.out.setCell (p := ⟨w.heap.size, 0, none⟩) (Nat.le_refl _) (.int .i64 m0)).setCell (p := ⟨w.heap.size, 1, none⟩) (Nat.le_refl _) (.int .i64 m1)).setCell (p := ⟨w.heap.size, 2, none⟩) (Nat.le_refl _) (.int .i64 m2)).setCell (p := ⟨w.heap.size, 3, none⟩) (Nat.le_refl _) (.int .i64 m3)
                clear hF0
                revert hF hB
                generalize World.setCell _ _ _ = W3
                intro hF hB
                obtain ⟨g0, g1, g2, g3⟩ := hF.at4
                refine bodyPost_ret (v := .tuple #[.agg (ints [m0, m1, m2, m3]), .int .i64 k]) (by simp [results, Try.results50, go_sem, g0, g1, g2, g3, ints]) rfl ⟨?_, hB⟩
                rw [HBK.out.1, HBK.out.2]
              | true =>
                have HRD2 : Hid (read empty none 0 hs = read [m0, m1, m2, m3] (lastO none (hs.take (k + 1))) ((k + 1 : Nat) : Int) (hs.drop (k + 1))) := by
                  unfold Hid
                  rw [HRD.out, hdr.out, hlo.out, hln.out]
                  conv => lhs; unfold read
                  rw [HNL.out, if_neg (by simp), hmy, HMB.out]
                  rfl
                clear hmy p0 p1 p2 p3 r0 r1 r2 r3 z0 z1 z2 z3
                go_wp2_with fail
                exact ⟨⟨k + 1, [m0, m1, m2, m3], by omega, by go_num, rfl, HRD2.out, HQM.out, HPM.out, HBM.out⟩, by simp [intOf]; omega⟩
      · obtain rfl : k = 0 := by omega
        have hz : ad.add (0 * 5) = ad := by simp [Addr.add]
        rw [hz] at e0 e1 e2 e3 e4
        clear hz
        have hq2 := (HQR.out.alloc (.cells #[.int .i64 h.at_, .int .i64 h.now, .int .i64 h.who, .int .i64 h.kind, .int .i64 h.mutex] 33))
        have hp2 := (HPR.out.alloc (.cells #[.int .i64 h.at_, .int .i64 h.now, .int .i64 h.who, .int .i64 h.kind, .int .i64 h.mutex] 33))
        have hb2 := (HBR.out.alloc HBR.out.size (.cells #[.int .i64 h.at_, .int .i64 h.now, .int .i64 h.who, .int .i64 h.kind, .int .i64 h.mutex] 33))
        have HP2 := Lib.hid hp2
        have HQ2 := Lib.hid hq2
        have HB2 := Lib.hid hb2
        have hlo : Hid (lastO none (hs.take 0) = none) := rfl
        have HNL : Hid (lateO none h = false) := rfl
        clear hp2 hq2 hb2
        go_wp2_with fail
        refine (may_any (w.heap.size + 1) [b0, b1, b2, b3] h _ HQ2.out rfl).mono ?_
        rintro e w4 hm4
        obtain ⟨rfl, hqm, hbm⟩ := hm4
        have HPM := Lib.hid (HP2.out.below hbm (by omega))
        have HBM := Lib.hid (HB2.out.trans (hbm.mono (by omega)))
        have hlen := (may_len [b0, b1, b2, b3] h)
        obtain ⟨m0, m1, m2, m3, hmb⟩ := len4 (may [b0, b1, b2, b3] h).2 hlen
        rw [hmb] at hqm
        have HMB := Lib.hid hmb
        have HQM := Lib.hid hqm
        obtain ⟨r0, r1, r2, r3⟩ := (show Blk w4 (w.heap.size + 1) 69 #[.int .i64 m0, .int .i64 m1, .int .i64 m2, .int .i64 m3] from hqm).at4
        obtain ⟨p0, p1, p2, p3⟩ := HPM.out.at4
        have z0 := HPM.out.frozen 0
        have z1 := HPM.out.frozen 1
        have z2 := HPM.out.frozen 2
        have z3 := HPM.out.frozen 3
        clear hbm hqm hlen hmb
        cases hmy : (may [b0, b1, b2, b3] h).1 with
        | false =>
          have HBK : Hid (book hs = [m0, m1, m2, m3] ∧ wrong hs = 0) := by
            unfold Hid book wrong
            rw [HRD.out, hdr.out, hlo.out]
            unfold read
            rw [HNL.out, if_neg (by simp), hmy, HMB.out]
            exact ⟨rfl, rfl⟩
          clear hmy
          go_wp2_with fail
          have hF0 := ((((HPM.out.set_ 0 (.int .i64 m0)).set_ 1 (.int .i64 m1)).set_ 2 (.int .i64 m2)).set_ 3 (.int .i64 m3))
          have hF : Blk _ _ _ #[.int .i64 m0, .int .i64 m1, .int .i64 m2, .int .i64 m3] := hF0
          have hB := (((HBM.out.setCell (p := ⟨w.heap.size, 0, none⟩) (Nat.le_refl _) (.int .i64 m0)).setCell (p := ⟨w.heap.size, 1, none⟩) (Nat.le_refl _) (.int .i64 m1)).setCell (p := ⟨w.heap.size, 2, none⟩) (Nat.le_refl _) (.int .i64 m2)).setCell (p := ⟨w.heap.size, 3, none⟩) (Nat.le_refl _) (.int .i64 m3)
          clear hF0
          revert hF hB
          generalize World.setCell _ _ _ = W3
          intro hF hB
          obtain ⟨g0, g1, g2, g3⟩ := hF.at4
          refine bodyPost_ret (v := .tuple #[.agg (ints [m0, m1, m2, m3]), .int .i64 0]) (by simp [results, Try.results50, go_sem, g0, g1, g2, g3, ints]) rfl ⟨?_, hB⟩
          rw [HBK.out.1, HBK.out.2]
        | true =>
          have HRD2 : Hid (read empty none 0 hs = read [m0, m1, m2, m3] (lastO none (hs.take (0 + 1))) ((0 + 1 : Nat) : Int) (hs.drop (0 + 1))) := by
            unfold Hid
            rw [HRD.out, hdr.out, hlo.out, hln.out]
            conv => lhs; unfold read
            rw [HNL.out, if_neg (by simp), hmy, HMB.out]
            rfl
          clear hmy p0 p1 p2 p3 r0 r1 r2 r3 z0 z1 z2 z3
          go_wp2_with fail
          exact ⟨⟨0 + 1, [m0, m1, m2, m3], by omega, by go_num, rfl, HRD2.out, HQM.out, HPM.out, HBM.out⟩, by simp [intOf]; omega⟩
    · obtain rfl : k = n := by omega
      obtain ⟨q0, q1, q2, q3⟩ := HQR.out.at4
      obtain ⟨p0, p1, p2, p3⟩ := HPR.out.at4
      have z0 := HPR.out.frozen 0
      have z1 := HPR.out.frozen 1
      have z2 := HPR.out.frozen 2
      have z3 := HPR.out.frozen 3
      have HBK : Hid (book hs = [b0, b1, b2, b3] ∧ wrong hs = -1) := by
        unfold Hid book wrong
        rw [HRD.out, ← HL.out, List.drop_length]
        exact ⟨rfl, rfl⟩
      go_wp2_with fail
      have hF0 := ((((HPR.out.set_ 0 (.int .i64 b0)).set_ 1 (.int .i64 b1)).set_ 2 (.int .i64 b2)).set_ 3 (.int .i64 b3))
      have hF : Blk _ _ _ #[.int .i64 b0, .int .i64 b1, .int .i64 b2, .int .i64 b3] := hF0
      have hB := (((HBR.out.setCell (p := ⟨w.heap.size, 0, none⟩) (Nat.le_refl _) (.int .i64 b0)).setCell (p := ⟨w.heap.size, 1, none⟩) (Nat.le_refl _) (.int .i64 b1)).setCell (p := ⟨w.heap.size, 2, none⟩) (Nat.le_refl _) (.int .i64 b2)).setCell (p := ⟨w.heap.size, 3, none⟩) (Nat.le_refl _) (.int .i64 b3)
      clear hF0
      revert hF hB
      generalize World.setCell _ _ _ = W3
      intro hF hB
      obtain ⟨g0, g1, g2, g3⟩ := hF.at4
      refine bodyPost_ret (v := .tuple #[.agg (ints [b0, b1, b2, b3]), .int .i64 (-1)]) (by simp [results, Try.results50, go_sem, g0, g1, g2, g3, ints]) rfl ⟨?_, hB⟩
      rw [HBK.out.1, HBK.out.2]
end Judge
end Go.Proofs.Ytjdjmhagafmkaaa

/-
  A slice from an index on, under one name.
-/
namespace Go.Proofs.Ytjdjmhagafmkaaa
open Go.RowKit
def cutA (A : Option Addr) (c k size : Nat) : Option Addr := if c = k then A else A.map (·.add (k * size))
theorem Reads.cutA {w : World} {B size n k c : Nat} {A : Option Addr} {xs : List Value} (h : Reads w B size A n xs) (hk : k ≤ n) (hc : n ≤ c) : Reads w B size (cutA A c k size) (n - k) (xs.drop (k * size)) := h.cut hk hc
theorem Reads.int_drop {w : World} {B n k c : Nat} {A : Option Addr} {zs : List Int} (h : Reads w B 1 A n (zs.map (Value.int .i64))) (hk : k ≤ n) (hc : n ≤ c) : Reads w B 1 (Go.Proofs.Ytjdjmhagafmkaaa.cutA A c k 1) (n - k) ((zs.drop k).map (Value.int .i64)) := by
  have := h.cutA hk hc
  rwa [Nat.mul_one, ← List.map_drop] at this
theorem run_from_ints (A : Option Addr) (n c k : Nat) (hk : k ≤ n) (w : World) : (Instr.slice 26 (.slice A n c) (some (.int .i64 k)) none none).run Try.prog w = .ok (.slice (cutA A c k 1) (n - k) (c - k)) w := by
  have hi : (Try.prog.info? 3).map (fun i => (i.zero, i.size, i.bytes)) = some (some (.int .i64 0), 1, 8) := by kernel_rfl
  obtain ⟨i0, hi, hz0, hz1, hz2⟩ := info_parts hi
  have he : Try.prog.elem 26 = 3 := by kernel_rfl
  rw [run_slice_l w 26 A n c (by rw [he]; exact Try.underlying26) .i64 k (by omega) (by omega), he]
  simp [sizeOf, typeInfo, hi, hz1, sliced, cutA]

theorem own_reads3 {w : World} {B n size : Nat} {e : TypeId} {v : Value} {xs : List Value} (h : w.ownsRow B e size v n xs) : ∃ A c, v = .slice A n c ∧ n ≤ c ∧ c ≤ maxLen ∧ Reads w w.heap.size size A n xs := by
  have h' := h
  rcases h.2 with ⟨rfl, rfl⟩ | ⟨g, cap, cur, rfl, _, _, h1, h2, _⟩
  · exact ⟨none, 0, rfl, Nat.le_refl _, by simp [maxLen], Reads.of_own h'⟩
  · exact ⟨_, cap, rfl, h1, h2, Reads.of_own h'⟩
end Go.Proofs.Ytjdjmhagafmkaaa

/-
  The contracts of judge.Wrong and judge.Held.
-/
namespace Go.Proofs.Ytjdjmhagafmkaaa
open Go.RowKit
namespace Judge
theorem book_four (hs : List H) : ∃ b0 b1 b2 b3, book hs = [b0, b1, b2, b3] := len4 _ (read_len hs empty none 0)
theorem read_four (A : Option Addr) (n c : Nat) (hs : List H) (b0 b1 b2 b3 : Int) (hb : book hs = [b0, b1, b2, b3]) (hn : n ≤ 1000) (hnc : n ≤ c) (w : World) (hr : Reads w w.heap.size 5 A n (hs.flatMap cells)) :
    Calls Try.prog 50 #[.slice A n c] w fun e w' => e = .returned (.tuple #[.agg #[.int .i64 b0, .int .i64 b1, .int .i64 b2, .int .i64 b3], .int .i64 (wrong hs)]) ∧ Below w.heap.size w w' :=
  (read_any A n c hs hn hnc w hr).mono fun e w' ⟨he, hb'⟩ => ⟨by rw [he, hb]; rfl, hb'⟩
theorem wrong_any (A : Option Addr) (n c : Nat) (hs : List H) (hn : n ≤ 1000) (hnc : n ≤ c) (w : World) (hr : Reads w w.heap.size 5 A n (hs.flatMap cells)) :
    Calls Try.prog 14 #[.slice A n c] w fun e w' => e = .returned (.int .i64 (wrong hs)) ∧ Below w.heap.size w w' := by
  have HR := Lib.hid hr
  obtain ⟨b0, b1, b2, b3, hbk⟩ := book_four hs
  have HBK := Lib.hid hbk
  clear hr hbk
  go_enter Try.func14, Try.ntmps14
  go_wp2_with fail
  refine (read_four A n c hs b0 b1 b2 b3 HBK.out hn hnc _ HR.out).mono ?_
  rintro e w1 ⟨rfl, hb⟩
  have HB := Lib.hid (hb.alloc hb.size (.cells #[.int .i64 b0, .int .i64 b1, .int .i64 b2, .int .i64 b3] 69))
  clear hb
  go_wp2_with fail
  go_ret
  exact ⟨rfl, HB.out⟩
theorem bookIn (k : Nat) (a b c d : Int) (w : World) : (Op.equalIn (k + 2) 69 (.agg #[.int .i64 a, .int .i64 b, .int .i64 c, .int .i64 d]) (.agg #[.int .i64 0, .int .i64 0, .int .i64 0, .int .i64 0])).run Try.prog w = .ok (a == 0 && (b == 0 && (c == 0 && d == 0))) w := by
  rw [Op.equalIn]
  have hs := Try.sizeOf3
  have hu := Try.underlying3
  simp only [Sem.run_bind, run_underlying Try.underlying69, Result.andThen_ok]
  go_simp
  have ha := Try.isAgg3
  rw [show List.range' 0 4 = [0, 1, 2, 3] from rfl]
  simp only [List.forIn_cons, List.forIn_nil]
  by_cases h1 : a = 0
  · subst h1
    by_cases h2 : b = 0
    · subst h2
      by_cases h3 : c = 0
      · subst h3
        by_cases h4 : d = 0
        · subst h4
          simp [ha, run_equalIn_int _ _ _ _ _ _ _ hu]
        · simp [ha, run_equalIn_int _ _ _ _ _ _ _ hu, h4]
      · simp [ha, run_equalIn_int _ _ _ _ _ _ _ hu, h3]
    · simp [ha, run_equalIn_int _ _ _ _ _ _ _ hu, h2]
  · simp [ha, run_equalIn_int _ _ _ _ _ _ _ hu, h1]
theorem book_eql (a b c d : Int) (w : World) : (binOp .eql 69 (.agg #[.int .i64 a, .int .i64 b, .int .i64 c, .int .i64 d]) (.agg #[.int .i64 0, .int .i64 0, .int .i64 0, .int .i64 0])).run Try.prog w = .ok (.bool (a == 0 && (b == 0 && (c == 0 && d == 0)))) w := by
  rw [run_eql_struct, show (10000 : Nat) = 9998 + 2 from rfl, bookIn]
  rfl
theorem book_guard (x y : Operand) (a b c d : Int) (w : World) : (eqGuard .eql 69 x y (.agg #[.int .i64 a, .int .i64 b, .int .i64 c, .int .i64 d]) (.agg #[.int .i64 0, .int .i64 0, .int .i64 0, .int .i64 0])).run Try.prog w = .ok () w := by
  exact run_eqGuard_agg w _ _ _ _ _ _ (by kernel_rfl)
theorem own_lower {w : World} {b b' n size : Nat} {e : TypeId} {v : Value} {xs : List Value} (h : w.ownsRow b e size v n xs) (hb : b' ≤ b) : w.ownsRow b' e size v n xs := by
  obtain ⟨h1, h2 | ⟨g, cap, cur, hv, hg, r⟩⟩ := h
  · exact ⟨h1, .inl h2⟩
  · exact ⟨h1, .inr ⟨g, cap, cur, hv, by omega, r⟩⟩
theorem own_of_blk {w : World} {b g n cap size : Nat} {t : TypeId} {cs : Array Value} {xs : List Value} (h : Blk w g t cs) (hb : b ≤ g) (hnc : n ≤ cap) (hm : cap ≤ maxLen) (hs : cs.size = cap * size) (hx : cs.toList.take (n * size) = xs) : w.ownsRow b t size (.slice (some ⟨g, 0, none⟩) n cap) n xs :=
  ⟨by
    have := Nat.mul_le_mul_right size hnc
    rw [← hx, List.length_take, Array.length_toList, hs]; omega, .inr ⟨g, cap, cs, rfl, hb, h, hnc, hm, hs, hx⟩⟩
def Four (w : World) (e : Ending) (w' : World) : Prop := ∃ v : Value, e = .returned v ∧ w'.ownsRow w.heap.size 3 1 v 4 (([-1, -1, -1, -1] : List Int).map (Value.int .i64)) ∧ Below w.heap.size w w'
theorem blk_setRow {w : World} {g : Nat} {t : TypeId} {cs cur : Array Value} (h : Blk w g t cur) : Blk (w.setRow g cs) g t cs := by
  unfold Blk at h ⊢
  simp [World.setRow, Array.getElem?_modify, h]
theorem below_setRow {w a : World} {B g : Nat} (h : Below B w a) (hg : B ≤ g) (cs : Array Value) : Below B w (a.setRow g cs) := by
  refine h.trans ⟨rfl, rfl, rfl, ?_, ?_⟩
  · simp [World.setRow]
  · intro k hk
    simp [World.setRow, Array.getElem?_modify, show ¬ g = k by omega]
set_option maxRecDepth 100000 in
theorem copy_ints {w : World} {g o n : Nat} {a : Addr} {cur : List Int} {zs : List Int} (ty : TypeId) (hb : Blk w g 3 ((cur.map (Value.int .i64)).toArray)) (dLen dCap sLen sCap : Nat) (hn : n = Nat.min sLen dLen) (hz : zs.length = n)
    (hs : ∀ j v, (zs.map (Value.int .i64))[j]? = some v → w.cell? (a.add j) = some v) (hf : o + n ≤ cur.length) :
    (Builtin.copy_ #[26, 26] ty #[.slice (some ⟨g, o, none⟩) dLen dCap, .slice (some a) sLen sCap]).run Try.prog w = .ok (goInt n) (w.setRow g (((cur.take o ++ zs ++ cur.drop (o + n)).map (Value.int .i64)).toArray)) := by
  have h1 : (Try.prog.info? 3).map (·.size) = some 1 := by kernel_rfl
  have := run_copy_rowM w 26 26 ty 3 1 g o n dLen dCap a sLen sCap _ 3 (zs.map (Value.int .i64)) Try.underlying26 h1 hb hn (by simp [hz]) hs (by simp [hz]; omega) (by intro v hv; obtain ⟨z, _, rfl⟩ := List.mem_map.1 hv; rfl)
  rw [this]
  simp [hz, List.map_take, List.map_drop]
theorem mul_four (w : World) : Calls Try.prog 81 #[.int .u64 1, .int .u64 4] w fun e w' => e = .returned (.tuple #[.int .u64 0, .int .u64 4]) ∧ w = w' := by
  have b1 : bits .and .u64 1 4294967295 = 1 := by decide +kernel
  have b4 : bits .and .u64 4 4294967295 = 4 := by decide +kernel
  have b0 : bits .and .u64 0 4294967295 = 0 := by decide +kernel
  go_enter Try.func81, Try.ntmps81
  go_wp2
  go_ret2
  exact ⟨rfl, rfl⟩
set_option maxRecDepth 100000 in
theorem repeat_four (w : World) : Calls Try.prog 51 #[.slice (some ⟨w.heap.size, 0, none⟩) 1 1, .int .i64 4] (w.alloc (.cells #[.int .i64 (-1)] 3)) (Four w) := by
  have hmk : ∀ w' : World, (Instr.makeSlice 26 (.int .i64 4) (.int .i64 4)).run Try.prog w' = .ok (.slice (some ⟨w'.heap.size, 0, none⟩) 4 4) (w'.alloc (.cells #[.int .i64 0, .int .i64 0, .int .i64 0, .int .i64 0] 3)) := fun _ => by kernel_rfl
  have hq := Blk.new (w.alloc (.cells #[.int .i64 (-1)] 3)) 3 #[.int .i64 0, .int .i64 0, .int .i64 0, .int .i64 0]
  rw [World.size_alloc] at hq
  have hp := (Blk.new w 3 #[.int .i64 (-1)]).alloc (.cells #[.int .i64 0, .int .i64 0, .int .i64 0, .int .i64 0] 3)
  have hcp := fun ty : TypeId => copy_ints (n := 1) (o := 0) (a := ⟨w.heap.size, 0, none⟩) (cur := [0, 0, 0, 0]) (zs := [-1]) (g := w.heap.size + 1) ty hq 4 4 1 1 rfl rfl (fun j v hv => by
    obtain ⟨hj, rfl⟩ := List.getElem?_eq_some_iff.1 hv
    simp at hj
    subst hj
    simp [Addr.add, hp.cell]) (by decide)
  have hq2 := blk_setRow (cs := (([-1, 0, 0, 0] : List Int).map (Value.int .i64)).toArray) hq
  have hb2 := below_setRow (B := w.heap.size) (w := w) (g := w.heap.size + 1) (((Below.refl _ w).alloc (Nat.le_refl _) (.cells #[.int .i64 (-1)] 3)).alloc (by simp) (.cells #[.int .i64 0, .int .i64 0, .int .i64 0, .int .i64 0] 3)) (by omega) (([-1, 0, 0, 0] : List Int).map (Value.int .i64)).toArray
  have HQ2 := Lib.hid hq2
  have HB2 := Lib.hid hb2
  clear hq hp hq2 hb2
  go_enter Try.func51, Try.ntmps51
  go_wp2_with fail
  refine (mul_four _).mono ?_
  rintro e w9 ⟨rfl, rfl⟩
  go_wp2
  go_loopw [8] (fun ch wr => ∃ m : Nat, (m = 1 ∨ m = 2 ∨ m = 4) ∧ ch = .int .i64 m ∧ Blk wr (w.heap.size + 1) 3 (((List.replicate m (-1 : Int) ++ List.replicate (4 - m) 0).map (Value.int .i64)).toArray) ∧ Below w.heap.size w wr) (fun ch _ => 4 - (intOf ch).toNat)
  case atStart => exact ⟨1, .inl rfl, rfl, HQ2.out, HB2.out⟩
  case round =>
    obtain ⟨m, hm, rfl, hq, hb⟩ := hrel
    have HQ := Lib.hid hq
    have HB := Lib.hid hb
    clear hb
    have src : ∀ (k : Nat), k ≤ m → ∀ j v, ((List.replicate k (-1 : Int)).map (Value.int .i64))[j]? = some v → wr.drew.cell? ((⟨w.heap.size + 1, 0, none⟩ : Addr).add j) = some v := fun k hk j v hv => by
      obtain ⟨hj, rfl⟩ := List.getElem?_eq_some_iff.1 hv
      simp at hj
      have e : ((⟨w.heap.size + 1, 0, none⟩ : Addr).add j) = ⟨w.heap.size + 1, j, none⟩ := by unfold Addr.add; by_cases hj : j = 0 <;> simp [hj]
      rw [e, HQ.out.drew.cell]
      simp [List.getElem?_append, show j < m by omega]
    rcases hm with rfl | rfl | rfl
    · have hcp := fun ty : TypeId => copy_ints (w := wr.drew) (n := 1) (o := 1) (a := ⟨w.heap.size + 1, 0, none⟩) (cur := [-1, 0, 0, 0]) (zs := [-1]) (g := w.heap.size + 1) ty hq 3 3 1 4 rfl rfl (src 1 (by omega)) (by decide)
      clear hq
      go_wp2
      go_region
      go_roundw
      case rel =>
        refine ⟨_, _, _, _, _, _, _, _, _, _, _, _, _, _, ?_, rfl⟩
        exact ⟨2, .inr (.inl rfl), rfl, blk_setRow HQ.out.drew, below_setRow HB.out.drew (by omega) _⟩
      case measure => simp [intOf]
    · have hcp := fun ty : TypeId => copy_ints (w := wr.drew) (n := 2) (o := 2) (a := ⟨w.heap.size + 1, 0, none⟩) (cur := [-1, -1, 0, 0]) (zs := [-1, -1]) (g := w.heap.size + 1) ty hq 2 2 2 4 rfl rfl (src 2 (by omega)) (by decide)
      clear hq
      go_wp2
      go_region
      go_roundw
      case rel =>
        refine ⟨_, _, _, _, _, _, _, _, _, _, _, _, _, _, ?_, rfl⟩
        exact ⟨4, .inr (.inr rfl), rfl, blk_setRow HQ.out.drew, below_setRow HB.out.drew (by omega) _⟩
      case measure => simp [intOf]
    · clear src
      have hr := own_of_blk (n := 4) (cap := 4) (size := 1) HQ.out (Nat.le_succ w.heap.size) (Nat.le_refl 4) (by decide) rfl rfl
      clear hq
      go_wp2
      go_ret
      exact ⟨_, rfl, hr, HB.out⟩
/-- Who holds what, where none is wrong. -/
def HeldOf (hs : List H) (w : World) (e : Ending) (w' : World) : Prop := ∃ v : Value, e = .returned (.tuple #[v, .int .i64 0]) ∧ w'.ownsRow w.heap.size 3 1 v 4 (((book hs).map (· - 1)).map (Value.int .i64)) ∧ Below w.heap.size w w'
theorem held_no (A : Option Addr) (n c : Nat) (hs : List H) (h : wrong hs ≠ -1) (hn : n ≤ 1000) (hnc : n ≤ c) (w : World) (hr : Reads w w.heap.size 5 A n (hs.flatMap cells)) :
    Calls Try.prog 16 #[.slice A n c] w fun e w' => e = .returned (.tuple #[.slice none 0 0, .int .i64 1]) ∧ Below w.heap.size w w' := by
  have HR := Lib.hid hr
  obtain ⟨b0, b1, b2, b3, hbk⟩ := book_four hs
  have HBK := Lib.hid hbk
  have hw : 0 ≤ wrong hs := by have := wrong_range hs; omega
  have d0 : decide (0 ≤ wrong hs) = true := decide_eq_true hw
  clear hr hbk h
  go_enter Try.func16, Try.ntmps16
  go_wp2_with fail
  refine (read_four A n c hs b0 b1 b2 b3 HBK.out hn hnc _ HR.out).mono ?_
  rintro e w1 ⟨rfl, hb⟩
  have HB := Lib.hid (hb.alloc hb.size (.cells #[.int .i64 b0, .int .i64 b1, .int .i64 b2, .int .i64 b3] 69))
  clear hb
  go_wp2_with fail
  go_ret2
  exact ⟨rfl, HB.out⟩
theorem infoI : (Try.prog.info? 3).map (fun i => (i.zero, i.size, i.bytes)) = some (some (.int .i64 0), 1, 8) := by kernel_rfl
theorem book_bd (hs : List H) (h : wrong hs = -1) : ∀ i : Nat, i < 4 → 0 ≤ (book hs).getD i 0 := fun i hi => by
  obtain ⟨_, hf⟩ := book_ref h
  have := hf i hi
  omega
set_option maxRecDepth 100000 in
set_option maxHeartbeats 2000000 in
theorem held_yes (A : Option Addr) (n c : Nat) (hs : List H) (h : wrong hs = -1) (hup : ∀ i : Nat, i < 4 → (book hs).getD i 0 ≤ 8) (hn : n ≤ 1000) (hnc : n ≤ c) (w : World) (hr : Reads w w.heap.size 5 A n (hs.flatMap cells)) :
    Calls Try.prog 16 #[.slice A n c] w (HeldOf hs w) := by
  have HR := Lib.hid hr
  obtain ⟨b0, b1, b2, b3, hbk⟩ := book_four hs
  have hbd := book_bd hs h
  rw [hbk] at hbd hup
  have p0 : 0 ≤ b0 := hbd 0 (by omega)
  have p1 : 0 ≤ b1 := hbd 1 (by omega)
  have p2 : 0 ≤ b2 := hbd 2 (by omega)
  have p3 : 0 ≤ b3 := hbd 3 (by omega)
  have u0 : b0 ≤ 8 := hup 0 (by omega)
  have u1 : b1 ≤ 8 := hup 1 (by omega)
  have u2 : b2 ≤ 8 := hup 2 (by omega)
  have u3 : b3 ≤ 8 := hup 3 (by omega)
  obtain ⟨i0, hi, hz0, hz1, hz2⟩ := info_parts infoI
  have HBK := Lib.hid hbk
  have H1 := Lib.hid h
  have be := fun w => book_eql b0 b1 b2 b3 w
  have bg := fun x y w => book_guard x y b0 b1 b2 b3 w
  clear hr hbk h hbd hup
  go_enter Try.func16, Try.ntmps16
  go_wp2_with fail
  refine (read_four A n c hs b0 b1 b2 b3 HBK.out hn hnc _ HR.out).mono ?_
  rintro e w1 ⟨rfl, hb⟩
  rw [H1.out]
  have HB := Lib.hid (hb.alloc hb.size (.cells #[.int .i64 b0, .int .i64 b1, .int .i64 b2, .int .i64 b3] 69))
  clear hb
  cases he : (b0 == 0 && (b1 == 0 && (b2 == 0 && b3 == 0))) with
  | true =>
    rw [he] at be
    have HE := Lib.hid he
    clear he
    go_wp2_with fail
    obtain ⟨W, hW⟩ : ∃ W, w1.alloc (.cells #[.int .i64 b0, .int .i64 b1, .int .i64 b2, .int .i64 b3] 69) = W := ⟨_, rfl⟩
    rw [hW] at HB
    have hsz : w1.heap.size + 1 = W.heap.size := by rw [← hW]; simp
    rw [hW, hsz]
    clear hW hsz
    refine (repeat_four W).mono ?_
    rintro e w2 ⟨v2, rfl, hr2, hb2⟩
    have HR2 := Lib.hid (own_lower hr2 HB.out.size)
    have HB2 := Lib.hid (HB.out.trans (hb2.mono HB.out.size))
    clear hr2 hb2
    go_wp2_with fail
    go_ret2
    have hbe : book hs = [0, 0, 0, 0] := by
      have := HE.out
      simp only [Bool.and_eq_true, beq_iff_eq] at this
      rw [HBK.out, this.1, this.2.1, this.2.2.1, this.2.2.2]
    exact ⟨v2, rfl, by rw [hbe]; exact HR2.out, HB2.out⟩
  | false =>
    rw [he] at be
    clear he
    go_wp2_with fail
    have ix : ∀ (i : Nat), i < 4 → ∀ w, (Instr.index 69 (.agg #[.int .i64 b0, .int .i64 b1, .int .i64 b2, .int .i64 b3]) (.int .i64 i)).run Try.prog w = .ok (.int .i64 ([b0, b1, b2, b3].getD i 0)) w := fun i hi w => by
      rcases (show i = 0 ∨ i = 1 ∨ i = 2 ∨ i = 3 by omega) with rfl | rfl | rfl | rfl <;> kernel_rfl
    have HIX := Lib.hid ix
    obtain ⟨W, hW⟩ : ∃ W, w1.alloc (.cells #[.int .i64 b0, .int .i64 b1, .int .i64 b2, .int .i64 b3] 69) = W := ⟨_, rfl⟩
    rw [hW] at HB ⊢
    clear hW ix be bg
    go_loopw [6, 22] (fun v i wr => ∃ k : Nat, k ≤ 4 ∧ i = .int .i64 k ∧ wr.ownsRow W.heap.size 3 1 v k ((([b0, b1, b2, b3].take k).map (· - 1)).map (Value.int .i64)) ∧ Below W.heap.size W wr) (fun _ i _ => 4 - (intOf i).toNat)
    case atStart => exact ⟨0, Nat.zero_le _, rfl, World.ownsRow_nil _ _ _ _, Below.refl _ _⟩
    case round =>
      obtain ⟨k, hk, rfl, hown, hbw⟩ := hrel
      have HBW := Lib.hid hbw
      have HO := Lib.hid hown
      have hsz := hbw.size
      clear hbw hown
      by_cases hlt : k < 4
      · have ixk := HIX.out k hlt
        have hxb : 0 ≤ [b0, b1, b2, b3].getD k 0 ∧ [b0, b1, b2, b3].getD k 0 ≤ 8 := by
          rcases (show k = 0 ∨ k = 1 ∨ k = 2 ∨ k = 3 by omega) with rfl | rfl | rfl | rfl <;> simp <;> omega
        obtain ⟨x, hx⟩ : ∃ x, [b0, b1, b2, b3].getD k 0 = x := ⟨_, rfl⟩
        rw [hx] at ixk hxb
        have HX : Hid ([b0, b1, b2, b3][k]? = some x) := by unfold Hid; rw [← hx, List.getD_eq_getElem?_getD, List.getElem?_eq_getElem (by simpa using hlt)]; rfl
        obtain ⟨hx0, hx8⟩ := hxb
        clear hx
        go_wp2_with (first
          | (at_builtin; refine wpList_append_own _ rfl _ _ 26 rfl W.heap.size 3 i0 (.int .i64 0) 1 8 Try.underlying26 hi hz0 hz1 hz2 rfl (by decide) _ _ _ rfl (HO.out.alloc _) ⟨wr.heap.size, 0, none⟩ 1 1 [.int .i64 (x - 1)] rfl rfl ?c1 ?c2 ?c3 ?c4 ?c5 ?_)
          | go_in)
        case c1 =>
          intro j v hv
          obtain ⟨hj, rfl⟩ := List.getElem?_eq_some_iff.1 hv
          simp at hj
          subst hj
          simp [Addr.add, (Blk.new wr 3 #[.int .i64 (x - 1)]).cell]
        case c2 => intro u hu; simp at hu; subst hu; rfl
        case c3 => simp [maxLen]; omega
        case c4 => omega
        case c5 => simp; omega
        intro v' w' hown' hgrow _
        have hgb : ∀ g, u6.ownBlock = some g → W.heap.size ≤ g := fun g hg => (HO.out.lt g hg).1
        have hb2 := (HBW.out.alloc HBW.out.size (.cells #[.int .i64 (x - 1)] 3)).grown hgrow (by simp; omega) hgb
        have HO2 := Lib.hid hown'
        have HB2 := Lib.hid hb2
        clear hgrow hgb hown' hb2 ixk
        go_wp2
        go_roundw
        case rel =>
          refine ⟨k + 1, by omega, by go_num, ?_, HB2.out⟩
          rw [List.take_add_one, HX.out]
          simpa using HO2.out
        case measure => simp [intOf]; omega
      · obtain rfl : k = 4 := by omega
        go_wp2_with fail
        go_ret2
        exact ⟨_, rfl, by rw [HBK.out]; exact own_lower HO.out HB.out.size, HB.out.trans (HBW.out.mono HB.out.size)⟩
end Judge
end Go.Proofs.Ytjdjmhagafmkaaa

/-
  The contract of deadboltlaw18.few: at most 80, with times that are not far apart.
-/
namespace Go.Proofs.Ytjdjmhagafmkaaa
open Go.RowKit
namespace JudgeLaws
open Judge
theorem infoH : (Try.prog.info? 33).map (fun i => (i.zero, i.size, i.bytes)) = some (some (.agg #[.int .i64 0, .int .i64 0, .int .i64 0, .int .i64 0, .int .i64 0]), 5, 40) := by kernel_rfl
theorem new_cells (w : World) (t : TypeId) (cs : List Value) : ∀ j u, cs[j]? = some u → (w.alloc (.cells cs.toArray t)).cell? ((⟨w.heap.size, 0, none⟩ : Addr).add j) = some u := fun j u hu => by
  have e : ((⟨w.heap.size, 0, none⟩ : Addr).add j) = ⟨w.heap.size, j, none⟩ := by unfold Addr.add; by_cases hj : j = 0 <;> simp [hj]
  rw [e, (Blk.new w t cs.toArray).cell]
  simpa using hu
def nowOf (a : Int) : Int := wrap64 ((IntKind.u64.wrap a).tmod 1152921504606846976)
theorem nowOf_bd (a : Int) : 0 ≤ nowOf a ∧ nowOf a < 1152921504606846976 := by
  obtain ⟨A, h, h0, h1⟩ := mod60 a
  unfold nowOf
  rw [h]
  exact ⟨h0, h1⟩
def cut1 (h : H) : H := { h with now := nowOf h.now }
def fewOf (hs : List H) : List H := (hs.map cut1).take 80
theorem few_len (hs : List H) : (fewOf hs).length = min hs.length 80 := by simp [fewOf, Nat.min_comm]
def Few (hs : List H) (w : World) (e : Ending) (w' : World) : Prop := ∃ v : Value, e = .returned v ∧ w'.ownsRow w.heap.size 33 5 v (min hs.length 80) ((fewOf hs).flatMap cells) ∧ Below w.heap.size w w'
set_option maxRecDepth 100000 in
set_option maxHeartbeats 4000000 in
theorem few_any (A : Option Addr) (n c : Nat) (hs : List H) (hnc : n ≤ c) (w : World) (hr : Reads w w.heap.size 5 A n (hs.flatMap cells)) :
    Calls Try.prog 13 #[.slice A n c] w (Few hs w) := by
  have hl : hs.length = n := by have := hr.1; rw [flat_len cells 5 cells_len] at this; omega
  have HL := Lib.hid hl
  have HR := Lib.hid hr
  obtain ⟨N, hN⟩ : ∃ N, min n 80 = N := ⟨_, rfl⟩
  have hmn : ∀ (ts : Array TypeId) (t : TypeId) (w : World), (Builtin.min_ ts t #[.int .i64 n, .int .i64 80]).run Try.prog w = .ok (.int .i64 N) w := fun ts t w => by
    rw [run_min_int2]
    congr 2
    split <;> omega
  have hN80 : N ≤ 80 := by omega
  have hNn : N ≤ n := by omega
  have HN : Hid (min hs.length 80 = N) := by unfold Hid; rw [hl]; exact hN
  have hsl : ∀ W : World, (Instr.slice 22 (.slice A n c) none (some (.int .i64 N)) none).run Try.prog W = .ok (.slice A N c) W := fun W => by
    have hi : (Try.prog.info? 33).map (fun i => (i.zero, i.size, i.bytes)) = some (some (.agg #[.int .i64 0, .int .i64 0, .int .i64 0, .int .i64 0, .int .i64 0]), 5, 40) := by kernel_rfl
    obtain ⟨i0, hi, hz0, hz1, hz2⟩ := info_parts hi
    have he : Try.prog.elem 22 = 33 := by kernel_rfl
    have ha : (A.map fun x => x.add 0) = A := by cases A <;> simp [Addr.add]
    rw [run_slice_h W 22 A n c (by rw [he]; exact Try.underlying22) .i64 N (by omega) (by omega), he]
    simp [sizeOf, typeInfo, hi, hz1, sliced, Result.andThen, ha]
  obtain ⟨i0, hi, hz0, hz1, hz2⟩ := info_parts infoH
  clear hl hr hN
  go_enter Try.func13, Try.ntmps13
  go_wp2_with fail
  go_loopw [3, 12] (fun v i wr => ∃ k : Nat, k ≤ N ∧ i = .int .i64 k ∧ wr.ownsRow w.heap.size 33 5 v k (((hs.map cut1).take k).flatMap cells) ∧ Below w.heap.size w wr) (fun _ i _ => N - (intOf i).toNat)
  case atStart => exact ⟨0, Nat.zero_le _, rfl, World.ownsRow_nil _ _ _ _, Below.refl _ _⟩
  case round =>
    obtain ⟨k, hk, rfl, hown, hbw⟩ := hrel
    have HBW := Lib.hid hbw
    have HO := Lib.hid hown
    have hsz := hbw.size
    clear hbw hown
    by_cases hlt : k < N
    · obtain ⟨ad, h, rfl, hh, hbl, e0, e1, e2, e3, e4⟩ := happened_at (k := k) (HR.out.below HBW.out) (by omega)
      have HH := Lib.hid hh
      obtain ⟨y, hy⟩ : ∃ y, wrap64 ((IntKind.u64.wrap h.now).tmod 1152921504606846976) = y := ⟨_, rfl⟩
      have HY : Hid (nowOf h.now = y) := hy
      clear hh
      go_wp2_with (first
        | (at_builtin; refine wpList_append_own _ rfl _ _ 22 rfl w.heap.size 33 i0 (.agg #[.int .i64 0, .int .i64 0, .int .i64 0, .int .i64 0, .int .i64 0]) 5 40 Try.underlying22 hi hz0 hz1 hz2 rfl (by decide) _ _ _ rfl ((HO.out.alloc _).alloc _) ⟨wr.heap.size + 1, 0, none⟩ 1 1 [.int .i64 h.at_, .int .i64 y, .int .i64 h.who, .int .i64 h.kind, .int .i64 h.mutex] rfl rfl ?c1 ?c2 ?c3 ?c4 ?c5 ?_)
        | go_in)
      case c1 =>
        intro j u hu
        have := new_cells (wr.alloc (.cells #[.int .i64 h.at_, .int .i64 y, .int .i64 h.who, .int .i64 h.kind, .int .i64 h.mutex] 33)) 33 [.int .i64 h.at_, .int .i64 y, .int .i64 h.who, .int .i64 h.kind, .int .i64 h.mutex] j u hu
        rwa [World.size_alloc] at this
      case c2 =>
        intro u hu
        simp at hu
        rcases hu with rfl | rfl | rfl | rfl | rfl <;> rfl
      case c3 => simp [maxLen]; omega
      case c4 => omega
      case c5 => simp; omega
      intro v' w' hown' hgrow _
      have hgb : ∀ g, u3.ownBlock = some g → w.heap.size ≤ g := fun g hg => (HO.out.lt g hg).1
      have hb2 := ((HBW.out.alloc HBW.out.size (.cells #[.int .i64 h.at_, .int .i64 y, .int .i64 h.who, .int .i64 h.kind, .int .i64 h.mutex] 33)).alloc (by simp; omega) (.cells #[.int .i64 h.at_, .int .i64 y, .int .i64 h.who, .int .i64 h.kind, .int .i64 h.mutex] 33)).grown hgrow (by simp; omega) hgb
      have HO2 := Lib.hid hown'
      have HB2 := Lib.hid hb2
      clear hgrow hgb hown' hb2 hy
      go_wp2
      go_roundw
      case rel =>
        refine ⟨k + 1, by omega, by go_num, ?_, HB2.out⟩
        have e : ((hs.map cut1).take (k + 1)).flatMap cells = ((hs.map cut1).take k).flatMap cells ++ [.int .i64 h.at_, .int .i64 y, .int .i64 h.who, .int .i64 h.kind, .int .i64 h.mutex] := by
          rw [List.take_add_one, List.getElem?_map, HH.out, List.flatMap_append]
          congr 1
          simp [cells, cut1, HY.out]
        rw [e]
        exact HO2.out
      case measure => simp [intOf]; omega
    · obtain rfl : k = N := by omega
      go_wp2_with fail
      go_ret
      refine ⟨_, rfl, ?_, HBW.out⟩
      rw [HN.out]
      have e : fewOf hs = (hs.map cut1).take k := by
        unfold fewOf
        rw [← HN.out, Nat.min_comm, ← List.length_map (f := cut1), ← List.take_eq_take_min]
      rw [e]
      exact HO.out
end JudgeLaws
end Go.Proofs.Ytjdjmhagafmkaaa

/-
  The contracts of judge.of's callees: slices.Clone, slices.DeleteFunc.
-/
namespace Go.Proofs.Ytjdjmhagafmkaaa
open Go.RowKit
namespace Judge
open JudgeLaws (infoH)
theorem one_hs (hs : List H) : ∀ u ∈ hs.flatMap cells, u.oneCell' = true := by
  intro u hu
  obtain ⟨h, _, h2⟩ := List.mem_flatMap.1 hu
  simp [cells] at h2
  rcases h2 with rfl | rfl | rfl | rfl | rfl <;> rfl
theorem own_empty (w : World) (B : Nat) (e : TypeId) (size : Nat) (hB : B ≤ w.heap.size) : (w.alloc (.cells #[] e)).ownsRow B e size (.slice (some ⟨w.heap.size, 0, none⟩) 0 0) 0 [] :=
  ⟨by simp, .inr ⟨w.heap.size, 0, #[], rfl, hB, heap_alloc_new w _, Nat.le_refl _, by simp [maxLen], by simp, by simp⟩⟩
def Cloned (n : Nat) (hs : List H) (w : World) (e : Ending) (w' : World) : Prop := ∃ v, e = .returned v ∧ w'.ownsRow w.heap.size 33 5 v n (hs.flatMap cells) ∧ Below w.heap.size w w'
set_option maxRecDepth 100000 in
set_option maxHeartbeats 2000000 in
theorem clone_any (A : Option Addr) (n c : Nat) (hs : List H) (hn : n ≤ 1000) (w : World) (hr : Reads w w.heap.size 5 A n (hs.flatMap cells)) :
    Calls Try.prog 83 #[.slice A n c] w (Cloned n hs w) := by
  obtain ⟨i0, hi, hz0, hz1, hz2⟩ := info_parts infoH
  cases A with
  | none =>
    have h0 : n = 0 := by
      rcases Nat.eq_zero_or_pos n with h | h
      · exact h
      · obtain ⟨ad, h, _⟩ := hr.2 h; cases h
    subst h0
    have hnil : hs.flatMap cells = [] := List.eq_nil_of_length_eq_zero (by simpa using hr.1)
    have HNIL := Lib.hid hnil
    have hq := fun w : World => Lib.run_eql_slice_nil (P := Try.prog) w 22 33 none 0 c 0 0 Try.underlying22
    clear hnil hr
    go_enter Try.func83, Try.ntmps83
    go_wp2_with fail
    go_ret
    exact ⟨_, rfl, by rw [HNIL.out]; exact World.ownsRow_nil _ _ _ _, Below.refl _ _⟩
  | some ad =>
    have HR := Lib.hid hr
    have hq := fun w : World => Lib.run_eql_slice_nil (P := Try.prog) w 22 33 (some ad) n c 0 0 Try.underlying22
    clear hr
    have hE := own_empty w w.heap.size 33 5 (Nat.le_refl _)
    have hRe := HR.out.alloc (Nat.le_refl _) (.cells #[] 33)
    have hBe := (Below.refl w.heap.size w).alloc (Nat.le_refl _) (.cells #[] 33)
    go_enter Try.func83, Try.ntmps83
    go_wp2_with (first
      | (at_builtin; refine wpList_append_any _ rfl _ _ 22 rfl w.heap.size 33 i0 (.agg #[.int .i64 0, .int .i64 0, .int .i64 0, .int .i64 0, .int .i64 0]) 5 40 Try.underlying22 hi hz0 hz1 hz2 rfl (by decide) _ _ _ rfl hE w.heap.size (some ad) n c (hs.flatMap cells) rfl hRe (one_hs hs) ?c3 ?c4 ?c5 ?_)
      | go_in)
    case c3 => simp [maxLen]; omega
    case c4 => omega
    case c5 => simp
    intro v' w1 hown' hg1 _
    have hB1 := hBe.grown hg1 (by simp) (fun g hg => Nat.le_of_eq (Option.some.inj (show some w.heap.size = some g from hg)))
    have HO := Lib.hid hown'
    have HB1 := Lib.hid hB1
    clear hown' hg1 hB1 hE hRe hBe
    go_wp2_with fail
    go_ret
    exact ⟨v', rfl, by simpa using HO.out, HB1.out⟩
/-- Is it one that changes who holds a mutex? -/
def keepB (m : Int) (h : H) : Bool := h.mutex == m && (!(h.kind == 2) && !(h.kind == 4))
def hval (h : H) : Value := .agg #[.int .i64 h.at_, .int .i64 h.now, .int .i64 h.who, .int .i64 h.kind, .int .i64 h.mutex]
set_option maxRecDepth 100000 in
theorem of1_any (B : Nat) (m : Int) (h : H) (w : World) (hb : Blk w B 3 #[.int .i64 m]) :
    Calls Try.prog 84 #[hval h, .pointer (some ⟨B, 0, none⟩)] w fun e w' => e = .returned (.bool (!keepB m h)) ∧ Below w.heap.size w w' := by
  unfold hval
  have hc : ∀ cs : Array Value, (w.alloc (.cells cs 33)).cell? ⟨B, 0, none⟩ = some (.int .i64 m) := fun cs => by rw [(hb.alloc _).cell]; rfl
  have hb0 := (Below.refl w.heap.size w).alloc (Nat.le_refl _) (.cells #[.int .i64 h.at_, .int .i64 h.now, .int .i64 h.who, .int .i64 h.kind, .int .i64 h.mutex] 33)
  have HB0 := Lib.hid hb0
  have hlt := hb.lt
  have hne : w.heap.size ≠ B := by omega
  have hne' : B ≠ w.heap.size := by omega
  clear hb hb0
  obtain ⟨x, hx⟩ : ∃ x, (h.mutex == m) = x := ⟨_, rfl⟩
  obtain ⟨y, hy⟩ : ∃ y, (h.kind == 2) = y := ⟨_, rfl⟩
  obtain ⟨z, hz⟩ : ∃ z, (h.kind == 4) = z := ⟨_, rfl⟩
  have HK : Hid (keepB m h = (x && (!y && !z))) := by unfold Hid keepB; rw [hx, hy, hz]
  have hx' : (h.mutex != m) = !x := by rw [← hx]; rfl
  cases x with
  | false =>
    go_enter Try.func84, Try.ntmps84
    go_wp2_with fail
    go_ret
    exact ⟨ret_bool (by rw [HK.out]; rfl), HB0.out⟩
  | true =>
    cases y with
    | true =>
      go_enter Try.func84, Try.ntmps84
      go_wp2_with fail
      go_ret
      exact ⟨ret_bool (by rw [HK.out]; rfl), HB0.out⟩
    | false =>
      cases z
      all_goals
        go_enter Try.func84, Try.ntmps84
        go_wp2_with fail
        go_ret
        exact ⟨ret_bool (by rw [HK.out]; rfl), HB0.out⟩
/-- The first that is not kept. -/
def Idx (m : Int) (hs : List H) (w : World) (e : Ending) (w' : World) : Prop := ((e = .returned (.int .i64 (-1)) ∧ ∀ h ∈ hs, keepB m h = true) ∨ (∃ k : Nat, k < hs.length ∧ e = .returned (.int .i64 k) ∧ (∀ h ∈ hs.take k, keepB m h = true) ∧ ∃ h, hs[k]? = some h ∧ keepB m h = false)) ∧ Below w.heap.size w w'
set_option maxRecDepth 100000 in
theorem idx_any (A : Option Addr) (n c B : Nat) (m : Int) (hs : List H) (hn : n ≤ 1000) (w : World) (hr : Reads w w.heap.size 5 A n (hs.flatMap cells)) (hb : Blk w B 3 #[.int .i64 m]) :
    Calls Try.prog 94 #[.slice A n c, .func (.func 84) #[] #[.pointer (some ⟨B, 0, none⟩)]] w (Idx m hs w) := by
  have hl : hs.length = n := by have := hr.1; rw [flat_len cells 5 cells_len] at this; omega
  have HL := Lib.hid hl
  have HR := Lib.hid hr
  have HB := Lib.hid hb
  clear hl hr hb
  go_enter Try.func94, Try.ntmps94
  go_wp2_with fail
  go_loopw [8] (fun i wr => ∃ k : Nat, k ≤ n ∧ i = .int .i64 k ∧ (∀ h ∈ hs.take k, keepB m h = true) ∧ Below w.heap.size w wr) (fun i _ => n - (intOf i).toNat)
  case atStart => exact ⟨0, Nat.zero_le _, rfl, by simp, Below.refl _ _⟩
  case round =>
    obtain ⟨k, hk, rfl, hall, hbw⟩ := hrel
    have HALL := Lib.hid hall
    have HBW := Lib.hid hbw
    clear hall hbw
    by_cases hlt : k < n
    · obtain ⟨ad, h, rfl, hh, hbl, e0, e1, e2, e3, e4⟩ := happened_at (HR.out.below HBW.out) hlt
      have HH := Lib.hid hh
      clear hh
      go_wp2_with fail
      refine (of1_any B m h _ (HB.out.below HBW.out HB.out.lt)).mono ?_
      rintro e w2 ⟨rfl, hb2⟩
      have HB2 := Lib.hid (bthen HBW.out hb2)
      clear hb2
      cases hkp : keepB m h with
      | true =>
        have HK := Lib.hid hkp
        clear hkp e0 e1 e2 e3 e4
        go_wp2_with fail
        refine ⟨⟨k + 1, by omega, by go_num, fun y hy => ?_, HB2.out⟩, by simp [intOf]; omega⟩
        rw [List.take_add_one, HH.out] at hy
        simp at hy
        rcases hy with hy | rfl
        · exact HALL.out y hy
        · exact HK.out
      | false =>
        have HK := Lib.hid hkp
        clear hkp e0 e1 e2 e3 e4
        go_wp2_with fail
        go_ret
        exact ⟨.inr ⟨k, by rw [HL.out]; exact hlt, rfl, HALL.out, h, HH.out, HK.out⟩, HB2.out⟩
    · obtain rfl : k = n := by omega
      go_wp2_with fail
      go_ret
      refine ⟨.inl ⟨rfl, fun h hh => HALL.out h ?_⟩, HBW.out⟩
      rw [← HL.out, List.take_length]
      exact hh
end Judge
end Go.Proofs.Ytjdjmhagafmkaaa

/-
  The contract of slices.DeleteFunc over judge.of's function, in place in a row of the call's own.
-/
namespace Go.Proofs.Ytjdjmhagafmkaaa
open Go.RowKit
namespace Judge
/-- A row of the call's own that reads as a list. -/
def RowIs (w : World) (g n : Nat) (L : List H) : Prop := L.length = n ∧ ∃ cur cap, w.heap[g]? = some (.cells cur 33 (0, 0)) ∧ cur.size = cap * 5 ∧ n ≤ cap ∧ cap ≤ maxLen ∧ cur.toList.take (n * 5) = L.flatMap cells
theorem RowIs.lt {w : World} {g n : Nat} {L : List H} (h : RowIs w g n L) : g < w.heap.size := by
  obtain ⟨_, cur, cap, hh, _⟩ := h
  exact Blk.lt hh
theorem RowIs.below {w w' : World} {g n B : Nat} {L : List H} (h : RowIs w g n L) (hb : Below B w w') (hg : g < B) : RowIs w' g n L := by
  obtain ⟨hl, cur, cap, hh, h2⟩ := h
  exact ⟨hl, cur, cap, (hb.block g hg).trans hh, h2⟩
theorem RowIs.alloc {w : World} {g n : Nat} {L : List H} (h : RowIs w g n L) (o : Obj) : RowIs (w.alloc o) g n L := by
  obtain ⟨hl, cur, cap, hh, h2⟩ := h
  exact ⟨hl, cur, cap, Blk.alloc hh o, h2⟩
theorem RowIs.reads {w : World} {g n : Nat} {L : List H} (h : RowIs w g n L) : Reads w w.heap.size 5 (some ⟨g, 0, none⟩) n (L.flatMap cells) := by
  have hlt := h.lt
  obtain ⟨hl, cur, cap, hh, hs, hn, _, hx⟩ := h
  refine ⟨by rw [flat_len cells 5 cells_len, hl], fun _ => ⟨_, rfl, hlt, fun j u hu => ?_⟩⟩
  have e : ((⟨g, 0, none⟩ : Addr).add j) = ⟨g, j, none⟩ := by unfold Addr.add; by_cases hj : j = 0 <;> simp [hj]
  rw [e, Blk.cell hh]
  rw [← hx] at hu
  obtain ⟨hj, hv⟩ := List.getElem?_eq_some_iff.1 hu
  rw [List.getElem_take] at hv
  rw [List.length_take] at hj
  rw [← hv, Array.getElem?_eq_getElem (by simpa using (Nat.lt_of_lt_of_le hj (Nat.min_le_right _ _)))]
  rfl
theorem RowIs.of_own {w : World} {B n c : Nat} {g : Nat} {L : List H} (hl : L.length = n) (h : w.ownsRow B 33 5 (.slice (some ⟨g, 0, none⟩) n c) n (L.flatMap cells)) : RowIs w g n L ∧ B ≤ g := by
  rcases h.2 with ⟨h0, _⟩ | ⟨g', cap, cur, hv, hB, hh, h1, h2, h3, h4⟩
  · cases h0
  · have : g' = g := by injection hv with a; injection a with a; injection a with a; exact a.symm
    subst this
    exact ⟨⟨hl, cur, cap, hh, h3, h1, h2, h4⟩, hB⟩
theorem take_set_ge {α : Type} : ∀ (l : List α) (k i : Nat) (x : α), k ≤ i → (l.set i x).take k = l.take k := fun l k i x h => by
  rw [List.take_set_of_le h]
/-- A struct is stored at an index. -/
theorem RowIs.set_ {w : World} {g n i : Nat} {L : List H} (h : RowIs w g n L) (hi : i < n) (x : H) :
    RowIs (((((w.setCell ⟨g, i * 5, none⟩ (.int .i64 x.at_)).setCell ⟨g, i * 5 + 1, none⟩ (.int .i64 x.now)).setCell ⟨g, i * 5 + 2, none⟩ (.int .i64 x.who)).setCell ⟨g, i * 5 + 3, none⟩ (.int .i64 x.kind)).setCell ⟨g, i * 5 + 4, none⟩ (.int .i64 x.mutex)) g n (L.set i x) := by
  obtain ⟨hl, cur, cap, hh, hs, hn, hm, hx⟩ := h
  refine ⟨by simp [hl], _, cap, ((((Blk.set_ hh _ _).set_ _ _).set_ _ _).set_ _ _).set_ _ _, by simp [hs], hn, hm, ?_⟩
  simp only [Array.toList_setIfInBounds, List.take_set]
  rw [hx]
  have key : ∀ (l : List H) (i : Nat), i < l.length → (((((l.flatMap cells).set (i * 5) (.int .i64 x.at_)).set (i * 5 + 1) (.int .i64 x.now)).set (i * 5 + 2) (.int .i64 x.who)).set (i * 5 + 3) (.int .i64 x.kind)).set (i * 5 + 4) (.int .i64 x.mutex) = (l.set i x).flatMap cells := by
    intro l
    induction l with
    | nil => intro i h; simp at h
    | cons y l ih =>
      intro i h
      cases i with
      | zero => simp [cells]
      | succ i =>
        have := ih i (by simpa using h)
        rw [List.set_cons_succ, List.flatMap_cons, List.flatMap_cons, ← this]
        have hy : (cells y).length = 5 := rfl
        simp only [List.set_append, hy]
        rw [if_neg (by omega), show (i + 1) * 5 - 5 = i * 5 by omega]
        simp only [List.set_append, hy]
        rw [if_neg (by omega), show (i + 1) * 5 + 1 - 5 = i * 5 + 1 by omega]
        simp only [List.set_append, hy]
        rw [if_neg (by omega), show (i + 1) * 5 + 2 - 5 = i * 5 + 2 by omega]
        simp only [List.set_append, hy]
        rw [if_neg (by omega), show (i + 1) * 5 + 3 - 5 = i * 5 + 3 by omega]
        simp only [List.set_append, hy]
        rw [if_neg (by omega), show (i + 1) * 5 + 4 - 5 = i * 5 + 4 by omega]
  exact key L i (by omega)
end Judge
end Go.Proofs.Ytjdjmhagafmkaaa

/-
  The contract of slices.DeleteFunc over judge.of's function, in place in a row of the call's own.
-/
namespace Go.Proofs.Ytjdjmhagafmkaaa
open Go.RowKit
namespace Judge
open JudgeLaws (infoH)
/-- 'clear(s)' of a run of a row: what lies ahead of it stays. -/
theorem run_clear_row {P : Program} (w : World) (t e ty t' : TypeId) (z : Value) (hu : P.underlying t = some (.slice e)) (hv : ∀ w, (zeroValue e).run P w = .ok z w) (m g o n c : Nat) (hm : z.cells.size = m) (h1 : ∀ v ∈ z.cells, v.oneCell' = true)
    (cur : Array Value) (hg : w.heap[g]? = some (.cells cur t' (0, 0))) (hfit : o + n * m ≤ cur.size) :
    ∃ cur' : Array Value, (Builtin.clear_ #[t] ty #[.slice (some ⟨g, o, none⟩) n c]).run P w = .ok (.tuple #[]) (w.setRow g cur') ∧ cur'.size = cur.size ∧ cur'.toList.take o = cur.toList.take o := by
  rcases Nat.eq_zero_or_pos n with h0 | h0
  · subst h0
    refine ⟨cur, ?_, rfl, rfl⟩
    rw [setRow_self w g cur t' (0, 0) hg]
    simp [Builtin.clear_, run_underlying hu]
  · have hlen : (Builtin.zeroCells z.cells n).toList.length = n * m := by simp [Builtin.zeroCells, hm]
    have hone : ∀ v ∈ (Builtin.zeroCells z.cells n).toList, v.oneCell' = true := by
      intro v hv
      simp only [Builtin.zeroCells, Array.toList_map, List.mem_map] at hv
      obtain ⟨i, hi, rfl⟩ := hv
      have hi' : i < n * z.cells.size := by simpa using hi
      have hpos : 0 < z.cells.size := by
        rcases Nat.eq_zero_or_pos z.cells.size with h | h
        · rw [h] at hi'; omega
        · exact h
      have hlt := Nat.mod_lt i hpos
      rw [getElem!_pos z.cells (i % z.cells.size) hlt]
      exact h1 _ (by simp)
    have hst := run_storeCells_at P g o t' (Builtin.zeroCells z.cells n).toList 0 cur w hg (by rw [hlen]; simpa using hfit) hone
    refine ⟨(cur.toList.take o ++ (Builtin.zeroCells z.cells n).toList ++ cur.toList.drop (o + n * m)).toArray, ?_, ?_, ?_⟩
    · obtain ⟨k, rfl⟩ : ∃ k, n = k + 1 := ⟨n - 1, by omega⟩
      rw [hlen] at hst
      simp only [Nat.add_zero] at hst
      simp [Builtin.clear_, run_underlying hu, hv, hst]
    · simp [Builtin.zeroCells, hm]; omega
    · rw [List.append_assoc, List.take_append_of_le_length (by simp; omega), List.take_take, Nat.min_self]
/-- What DeleteFunc leaves. -/
def Del (g : Nat) (m : Int) (hs : List H) (w : World) (e : Ending) (w' : World) : Prop := ∃ c', e = .returned (.slice (some ⟨g, 0, none⟩) (hs.filter (keepB m)).length c') ∧ RowIs w' g (hs.filter (keepB m)).length (hs.filter (keepB m)) ∧ Below g w w'
theorem filter_all {m : Int} {hs : List H} (h : ∀ x ∈ hs, keepB m x = true) : hs.filter (keepB m) = hs := List.filter_eq_self.2 h
theorem RowIs.at_ {w : World} {g n i : Nat} {L : List H} (h : RowIs w g n L) (hi : i < n) : ∃ x, L[i]? = some x ∧ w.cell? ⟨g, i * 5, none⟩ = some (.int .i64 x.at_) ∧ w.cell? ⟨g, i * 5 + 1, none⟩ = some (.int .i64 x.now) ∧
    w.cell? ⟨g, i * 5 + 2, none⟩ = some (.int .i64 x.who) ∧ w.cell? ⟨g, i * 5 + 3, none⟩ = some (.int .i64 x.kind) ∧ w.cell? ⟨g, i * 5 + 4, none⟩ = some (.int .i64 x.mutex) := by
  obtain ⟨ad, x, had, hx, _, e0, e1, e2, e3, e4⟩ := happened_at h.reads hi
  obtain rfl : (⟨g, 0, none⟩ : Addr) = ad := Option.some.inj had
  have e : ((⟨g, 0, none⟩ : Addr).add (i * 5)) = ⟨g, i * 5, none⟩ := by unfold Addr.add; split <;> simp_all
  rw [e] at e0 e1 e2 e3 e4
  exact ⟨x, hx, e0, e1, e2, e3, e4⟩
theorem RowIs.fr {w : World} {g n : Nat} {L : List H} (h : RowIs w g n L) (i : Nat) : w.frozen? ⟨g, i, none⟩ = false := by
  obtain ⟨_, cur, cap, hh, _⟩ := h
  exact Blk.frozen hh i
set_option maxRecDepth 100000 in
set_option maxHeartbeats 2000000 in
theorem del_any (g n c B : Nat) (m : Int) (hs : List H) (hn : n ≤ 1000) (hc : n ≤ c) (w : World) (hr : RowIs w g n hs) (hb : Blk w B 3 #[.int .i64 m]) (hBg : B < g) :
    Calls Try.prog 82 #[.slice (some ⟨g, 0, none⟩) n c, .func (.func 84) #[] #[.pointer (some ⟨B, 0, none⟩)]] w (Del g m hs w) := by
  have hl : hs.length = n := hr.1
  have HL := Lib.hid hl
  have HR := Lib.hid hr
  have HB := Lib.hid hb
  clear hl hr hb
  go_enter Try.func82, Try.ntmps82
  go_wp2_with fail
  refine (idx_any (some ⟨g, 0, none⟩) n c B m hs hn _ HR.out.reads HB.out).mono ?_
  rintro e w1 ⟨h | ⟨k, hk, rfl, hall, h, hh, hkf⟩, hb1⟩
  · obtain ⟨rfl, hall⟩ := h
    have HALL := Lib.hid hall
    have HB1 := Lib.hid hb1
    clear hall hb1
    go_wp2_with fail
    go_ret
    refine ⟨c, by rw [filter_all HALL.out, HL.out]; rfl, ?_, HB1.out.mono (Nat.le_of_lt HR.out.lt)⟩
    rw [filter_all HALL.out, HL.out]
    exact HR.out.below HB1.out HR.out.lt
  · have HALL := Lib.hid hall
    have HB1 := Lib.hid hb1
    have HH := Lib.hid hh
    have HKF := Lib.hid hkf
    have hkn : k < n := by rw [← HL.out]; exact hk
    clear hall hb1 hh hkf
    go_wp2_with fail
    go_loopw [5, 6] (fun i j wr => ∃ (a b : Nat) (L : List H), i = .int .i64 a ∧ j = .int .i64 b ∧ a < b ∧ b ≤ n ∧ RowIs wr g n L ∧ L.take a = (hs.take b).filter (keepB m) ∧ L.drop b = hs.drop b ∧ Below g w wr) (fun _ j _ => n - (intOf j).toNat)
    case atStart =>
      refine ⟨k, k + 1, hs, rfl, by go_num, by omega, by omega, HR.out.below HB1.out HR.out.lt, ?_, rfl, HB1.out.mono (Nat.le_of_lt HR.out.lt)⟩
      rw [List.take_add_one, HH.out, List.filter_append, filter_all HALL.out]
      simp [HKF.out]
    case round =>
      obtain ⟨a, b, L, rfl, rfl, hab, hbn, hrw, htk, hdr, hbw⟩ := hrel
      have HRW := Lib.hid hrw
      have HTK := Lib.hid htk
      have HDR := Lib.hid hdr
      have HBW := Lib.hid hbw
      clear hrw htk hdr hbw
      by_cases hlt : b < n
      · obtain ⟨x, hx, e0, e1, e2, e3, e4⟩ := HRW.out.at_ hlt
        have HX := Lib.hid hx
        clear hx
        go_wp2_with fail
        have hgw : g ≤ wr.heap.size := Nat.le_of_lt HRW.out.lt
        have HA := Lib.hid ((HRW.out.alloc (.cells #[.int .i64 x.at_, .int .i64 x.now, .int .i64 x.who, .int .i64 x.kind, .int .i64 x.mutex] 33)))
        have HAB := Lib.hid (HBW.out.alloc hgw (.cells #[.int .i64 x.at_, .int .i64 x.now, .int .i64 x.who, .int .i64 x.kind, .int .i64 x.mutex] 33))
        have HAN := Lib.hid (Blk.new wr 33 #[.int .i64 x.at_, .int .i64 x.now, .int .i64 x.who, .int .i64 x.kind, .int .i64 x.mutex])
        obtain ⟨W, hW⟩ : ∃ W, wr.alloc (.cells #[.int .i64 x.at_, .int .i64 x.now, .int .i64 x.who, .int .i64 x.kind, .int .i64 x.mutex] 33) = W := ⟨_, rfl⟩
        rw [hW] at HA HAB HAN ⊢
        have hne : wr.heap.size ≠ g := by have := HRW.out.lt; omega
        clear hW e0 e1 e2 e3 e4 hgw
        refine (of1_any B m x _ ((HB.out.below (HAB.out) hBg))).mono ?_
        rintro e w2 ⟨rfl, hb2⟩
        have HR2 := Lib.hid (HA.out.below hb2 HA.out.lt)
        have HB2 := Lib.hid (HAB.out.trans (hb2.mono (Nat.le_of_lt HA.out.lt)))
        have HN2 := Lib.hid (HAN.out.below hb2 HAN.out.lt)
        clear hb2
        cases hkp : keepB m x with
        | true =>
          obtain ⟨y, _, f0, f1, f2, f3, f4⟩ := HR2.out.at_ (show a < n by omega)
          obtain ⟨q0, q1, q2, q3, q4⟩ := HN2.out.at5
          have z0 := HR2.out.fr
          have HK := Lib.hid hkp
          clear hkp
          go_wp2_with fail
          refine ⟨⟨_, _, _, _, _, _, _, _, _, _, _, _, _, _, _, _, _, _, _, _, _, _, _, ⟨a + 1, b + 1, L.set a x, by go_num, by go_num, by omega, by omega, HR2.out.set_ (show a < n by omega) x, ?_, ?_, ?_⟩, rfl⟩, by simp [intOf]; omega⟩
          · have hal : a < L.length := by rw [HR2.out.1]; omega
            have hbx : hs[b]? = some x := by
              have h1 := congrArg (fun l => l[0]?) HDR.out
              simp only [List.getElem?_drop, Nat.add_zero] at h1
              rw [← h1]; exact HX.out
            rw [List.take_add_one, List.take_add_one, List.filter_append, ← HTK.out, hbx, List.getElem?_set_self hal, List.take_set_of_le (Nat.le_refl a)]
            simp [HK.out]
          · rw [List.drop_set_of_lt (by omega), ← List.drop_drop, ← List.drop_drop, HDR.out]
          · exact ((((HB2.out.setCell (p := ⟨g, a * 5, none⟩) (Nat.le_refl _) _).setCell (p := ⟨g, a * 5 + 1, none⟩) (Nat.le_refl _) _).setCell (p := ⟨g, a * 5 + 2, none⟩) (Nat.le_refl _) _).setCell (p := ⟨g, a * 5 + 3, none⟩) (Nat.le_refl _) _).setCell (p := ⟨g, a * 5 + 4, none⟩) (Nat.le_refl _) _
        | false =>
          have HK := Lib.hid hkp
          clear hkp
          go_wp2_with fail
          refine ⟨⟨_, _, _, _, _, _, _, _, _, _, _, _, _, _, _, _, _, _, _, _, _, _, _, ⟨a, b + 1, L, rfl, by go_num, by omega, by omega, HR2.out, ?_, ?_, HB2.out⟩, rfl⟩, by simp [intOf]; omega⟩
          · have hbx : hs[b]? = some x := by
              have h1 := congrArg (fun l => l[0]?) HDR.out
              simp only [List.getElem?_drop, Nat.add_zero] at h1
              rw [← h1]; exact HX.out
            rw [List.take_add_one, List.filter_append, ← HTK.out, hbx]
            simp [HK.out]
          · rw [← List.drop_drop, ← List.drop_drop, HDR.out]
      · obtain rfl : b = n := by omega
        have han : a ≤ b := by omega
        have hac : a ≤ c := by omega
        obtain ⟨_, cur, cap, hh, hs5, hcap, hcm2, hflat⟩ := HRW.out
        have hq : ∀ ty, ∃ cur' : Array Value, (Builtin.clear_ #[22] ty #[.slice (some ⟨g, a * 5, none⟩) (b - a) (c - a)]).run Try.prog wr = .ok (.tuple #[]) (wr.setRow g cur') ∧ cur'.size = cur.size ∧ cur'.toList.take (a * 5) = cur.toList.take (a * 5) := fun ty =>
          run_clear_row wr 22 33 ty 33 (.agg #[.int .i64 0, .int .i64 0, .int .i64 0, .int .i64 0, .int .i64 0]) Try.underlying22 (fun w => by kernel_rfl) 5 g (a * 5) (b - a) (c - a) rfl (by simp [Value.cells, Value.oneCell']) cur hh (by rw [hs5, ← Nat.add_mul]; exact Nat.mul_le_mul_right 5 (by omega))
        obtain ⟨cur', hcl, hsz, htk⟩ := hq 0
        have HSZ := Lib.hid hsz
        have HT := Lib.hid htk
        have HF := Lib.hid hflat
        have HH2 := Lib.hid hh
        have HCAP := Lib.hid hcap
        have HCM := Lib.hid hcm2
        have HS5 := Lib.hid hs5
        clear hq hsz htk hflat hh hcap hcm2 hs5
        go_wp2_with fail
        go_ret
        have hF : hs.filter (keepB m) = L.take a := by rw [HTK.out, ← HL.out, List.take_length]
        have hlen : (L.take a).length = a := by rw [List.length_take, HRW.out.1]; omega
        refine ⟨c, by rw [hF, hlen]; rfl, ?_, below_setRow HBW.out (Nat.le_refl _) _⟩
        rw [hF, hlen]
        refine ⟨hlen, cur', cap, setRow_heap wr g cur cur' _ _ HH2.out, by rw [HSZ.out, HS5.out], Nat.le_trans han HCAP.out, HCM.out, ?_⟩
        have e : List.take (a * 5) cur.toList = List.take (a * 5) (L.flatMap cells) := by
          rw [← HF.out, List.take_take, Nat.min_eq_left (Nat.mul_le_mul_right 5 han)]
        rw [HT.out, e]
        conv => lhs; rw [← List.take_append_drop a L, List.flatMap_append]
        exact List.take_left' (by rw [flat_len cells 5 cells_len, hlen])
end Judge
end Go.Proofs.Ytjdjmhagafmkaaa

/-
  The contract of judge.of.
-/
namespace Go.Proofs.Ytjdjmhagafmkaaa
open Go.RowKit
namespace Judge
set_option maxRecDepth 100000 in
theorem del_nil (B : Nat) (m : Int) (w : World) (hb : Blk w B 3 #[.int .i64 m]) :
    Calls Try.prog 82 #[.slice none 0 0, .func (.func 84) #[] #[.pointer (some ⟨B, 0, none⟩)]] w fun e w' => e = .returned (.slice none 0 0) ∧ Below w.heap.size w w' := by
  have HB := Lib.hid hb
  clear hb
  go_enter Try.func82, Try.ntmps82
  go_wp2_with fail
  refine (idx_any none 0 0 B m [] (Nat.zero_le _) _ ⟨rfl, fun h => absurd h (by decide)⟩ HB.out).mono ?_
  rintro e w1 ⟨h | ⟨k, hk, _⟩, hb1⟩
  · obtain ⟨rfl, _⟩ := h
    have HB1 := Lib.hid hb1
    clear hb1
    go_wp2_with fail
    go_ret
    exact ⟨rfl, HB1.out⟩
  · exact absurd hk (by simp)
/-- What judge.of tells of a trace that is right and a mutex that is one. -/
def OfYes (m : Int) (hs : List H) (w : World) (e : Ending) (w' : World) : Prop := ∃ A c, e = .returned (.tuple #[.slice A (hs.filter (keepB m)).length c, .int .i64 0]) ∧ Reads w' w'.heap.size 5 A (hs.filter (keepB m)).length ((hs.filter (keepB m)).flatMap cells) ∧ Below w.heap.size w w'
set_option maxRecDepth 100000 in
set_option maxHeartbeats 2000000 in
theorem of_wrong (A : Option Addr) (n c : Nat) (hs : List H) (m : Int) (h : wrong hs ≠ -1) (hn : n ≤ 1000) (hnc : n ≤ c) (w : World) (hr : Reads w w.heap.size 5 A n (hs.flatMap cells)) :
    Calls Try.prog 52 #[.slice A n c, .int .i64 m] w fun e w' => e = .returned (.tuple #[.slice none 0 0, .int .i64 1]) ∧ Below w.heap.size w w' := by
  have hd : decide (0 ≤ wrong hs) = true := decide_eq_true (by rcases wrong_range hs with h' | h'; · exact absurd h' h
                                                               · exact h'.1)
  have hr1 : Reads (w.alloc (.cells #[.int .i64 m] 3)) (w.alloc (.cells #[.int .i64 m] 3)).heap.size 5 A n (hs.flatMap cells) := (hr.alloc (Nat.le_refl _) (.cells #[.int .i64 m] 3)).more (by simp)
  have HR := Lib.hid hr1
  have HB0 := Lib.hid ((Below.refl w.heap.size w).alloc (Nat.le_refl _) (.cells #[.int .i64 m] 3))
  clear hr h hr1
  go_enter Try.func52, Try.ntmps52
  go_wp2_with fail
  refine (wrong_any A n c hs hn hnc _ HR.out).mono ?_
  rintro e w1 ⟨rfl, hb1⟩
  have HB1 := Lib.hid (bthen HB0.out hb1)
  clear hb1
  go_wp2_with fail
  go_ret2
  exact ⟨rfl, HB1.out⟩
set_option maxRecDepth 100000 in
set_option maxHeartbeats 2000000 in
theorem of_none (A : Option Addr) (n c : Nat) (hs : List H) (m : Int) (h : wrong hs = -1) (hm : m < 0 ∨ 4 ≤ m) (hn : n ≤ 1000) (hnc : n ≤ c) (w : World) (hr : Reads w w.heap.size 5 A n (hs.flatMap cells)) :
    Calls Try.prog 52 #[.slice A n c, .int .i64 m] w fun e w' => e = .returned (.tuple #[.slice none 0 0, .int .i64 3]) ∧ Below w.heap.size w w' := by
  have hr1 : Reads (w.alloc (.cells #[.int .i64 m] 3)) (w.alloc (.cells #[.int .i64 m] 3)).heap.size 5 A n (hs.flatMap cells) := (hr.alloc (Nat.le_refl _) (.cells #[.int .i64 m] 3)).more (by simp)
  have HR := Lib.hid hr1
  have HB0 := Lib.hid ((Below.refl w.heap.size w).alloc (Nat.le_refl _) (.cells #[.int .i64 m] 3))
  have HX := Lib.hid (Blk.new w 3 #[.int .i64 m])
  clear hr hr1
  go_enter Try.func52, Try.ntmps52
  go_wp2_with fail
  refine (wrong_any A n c hs hn hnc _ HR.out).mono ?_
  rw [h]
  rintro e w1 ⟨rfl, hb1⟩
  have HB1 := Lib.hid (bthen HB0.out hb1)
  have c0 : w1.cell? ⟨w.heap.size, 0, none⟩ = some (.int .i64 m) := by rw [(HX.out.below hb1 HX.out.lt).cell]; rfl
  clear hb1 h
  by_cases h0 : m < 0
  · have d0 : decide (m < 0) = true := decide_eq_true h0
    go_wp2_with fail
    go_ret2
    exact ⟨rfl, HB1.out⟩
  · have d0 : decide (m < 0) = false := decide_eq_false h0
    have d4 : decide (4 ≤ m) = true := decide_eq_true (by omega)
    go_wp2_with fail
    go_ret2
    exact ⟨rfl, HB1.out⟩
set_option maxRecDepth 100000 in
set_option maxHeartbeats 2000000 in
theorem of_yes (A : Option Addr) (n c : Nat) (hs : List H) (m : Int) (h : wrong hs = -1) (h0 : 0 ≤ m) (h4 : m < 4) (hn : n ≤ 1000) (hnc : n ≤ c) (w : World) (hr : Reads w w.heap.size 5 A n (hs.flatMap cells)) :
    Calls Try.prog 52 #[.slice A n c, .int .i64 m] w (OfYes m hs w) := by
  have hl : hs.length = n := by have := hr.1; rw [flat_len cells 5 cells_len] at this; omega
  have hr1 : Reads (w.alloc (.cells #[.int .i64 m] 3)) (w.alloc (.cells #[.int .i64 m] 3)).heap.size 5 A n (hs.flatMap cells) := (hr.alloc (Nat.le_refl _) (.cells #[.int .i64 m] 3)).more (by simp)
  have HR := Lib.hid hr1
  have HL := Lib.hid hl
  have HR0 := Lib.hid hr
  have HB0 := Lib.hid ((Below.refl w.heap.size w).alloc (Nat.le_refl _) (.cells #[.int .i64 m] 3))
  have HX := Lib.hid (Blk.new w 3 #[.int .i64 m])
  clear hr hr1 hl
  go_enter Try.func52, Try.ntmps52
  go_wp2_with fail
  refine (wrong_any A n c hs hn hnc _ HR.out).mono ?_
  rw [h]
  rintro e w1 ⟨rfl, hb1⟩
  have HB1 := Lib.hid (bthen HB0.out hb1)
  have HX1 := Lib.hid (HX.out.below hb1 HX.out.lt)
  have HR1 := Lib.hid ((HR0.out.below HB1.out).more HB1.out.size)
  have c0 : w1.cell? ⟨w.heap.size, 0, none⟩ = some (.int .i64 m) := by rw [HX1.out.cell]; rfl
  clear hb1 h
  have d0 : decide (m < 0) = false := decide_eq_false (by omega)
  have d4 : decide (4 ≤ m) = false := decide_eq_false (by omega)
  go_wp2_with fail
  refine (clone_any A n c hs hn _ HR1.out).mono ?_
  rintro e w2 ⟨v, rfl, hown, hb2⟩
  have HB2 := Lib.hid (bthen HB1.out hb2)
  have HX2 := Lib.hid (HX1.out.below hb2 HX1.out.lt)
  have HO := Lib.hid hown
  have hlt := HX1.out.lt
  clear hb2 c0 d0 d4 hown
  rcases HO.out.2 with ⟨rfl, h00⟩ | ⟨g, cap, cur, rfl, hBg, hh, h1, h2, h3, h5⟩
  · subst h00
    have hs0 : hs = [] := List.eq_nil_of_length_eq_zero HL.out
    subst hs0
    go_wp2_with fail
    refine (del_nil w.heap.size m _ HX2.out).mono ?_
    rintro e w3 ⟨rfl, hb3⟩
    have HB3 := Lib.hid (bthen HB2.out hb3)
    clear hb3
    go_wp2_with fail
    go_ret2
    exact ⟨none, 0, rfl, ⟨rfl, fun h => absurd h (by simp)⟩, HB3.out⟩
  · have HRI := Lib.hid (show RowIs w2 g n hs from ⟨HL.out, cur, cap, hh, h3, h1, h2, h5⟩)
    clear hh h2 h3 h5
    go_wp2_with fail
    refine (del_any g n cap w.heap.size m hs hn h1 _ HRI.out HX2.out (by omega)).mono ?_
    rintro e w3 ⟨c', rfl, hrow, hb3⟩
    have HB3 := Lib.hid (HB2.out.trans (hb3.mono (show w.heap.size ≤ g by omega)))
    have HRW := Lib.hid hrow
    clear hb3 hrow
    go_wp2_with fail
    go_ret2
    exact ⟨_, c', rfl, HRW.out.reads, HB3.out⟩
end Judge
end Go.Proofs.Ytjdjmhagafmkaaa

/-
  The contracts of judge.Order and judge.Long.
-/
namespace Go.Proofs.Ytjdjmhagafmkaaa
open Go.RowKit
namespace Judge
/-- What a refused judge.of leaves. -/
def OfNo (k : Int) (w : World) (e : Ending) (w' : World) : Prop := e = .returned (.tuple #[.slice none 0 0, .int .i64 k]) ∧ Below w.heap.size w w'
set_option maxRecDepth 100000 in
set_option maxHeartbeats 2000000 in
theorem long_no (k : Int) (A : Option Addr) (n c : Nat) (m : Int) (w : World) (hof : Calls Try.prog 52 #[.slice A n c, .int .i64 m] w (OfNo k w)) :
    Calls Try.prog 18 #[.slice A n c, .int .i64 m] w fun e w' => e = .returned (.tuple #[.int .i64 0, .int .i64 k]) ∧ Below w.heap.size w w' := by
  have HF := Lib.hid hof
  clear hof
  go_enter Try.func18, Try.ntmps18
  go_wp2_with fail
  refine HF.out.mono ?_
  rintro e w1 ⟨rfl, hb1⟩
  have HB1 := Lib.hid hb1
  clear hb1
  go_wp2_with fail
  go_ret2
  exact ⟨rfl, HB1.out⟩
/-- One thing that happened, of those that judge.Long looks at. -/
def up (x d : Int) : Int := if x < d then d else x
def lstep (s : Int × Int) (h : H) : Int × Int := if h.kind = 3 then (up s.1 (wrap64 (h.now - s.2)), s.2) else (s.1, h.now)
/-- The longest that one held it, of those that changed who holds it, and the last of all. -/
def longOf (L : List H) (hl gl : H) : Int := if hl.kind = 3 then (L.foldl lstep (0, 0)).1 else up (L.foldl lstep (0, 0)).1 (wrap64 (gl.now - (L.foldl lstep (0, 0)).2))
theorem lstep_next {L : List H} {j : Nat} {h : H} {x y : Int} (hh : L[j]? = some h) (hx : ((L.take j).foldl lstep (0, 0)).1 = x) (hy : ((L.take j).foldl lstep (0, 0)).2 = y) : (L.take (j + 1)).foldl lstep (0, 0) = lstep (x, y) h := by
  rw [List.take_add_one, hh, List.foldl_append]
  simp [← hx, ← hy]
set_option maxRecDepth 100000 in
set_option maxHeartbeats 2000000 in
theorem long_yes (A : Option Addr) (n c : Nat) (m : Int) (hs : List H) (hn : n ≤ 1000) (w : World) (hr : Reads w w.heap.size 5 A n (hs.flatMap cells)) (hof : Calls Try.prog 52 #[.slice A n c, .int .i64 m] w (OfYes m hs w))
    (L : List H) (hL : hs.filter (keepB m) = L) (hl gl : H) (hla : L[L.length - 1]? = some hl) (hga : hs[n - 1]? = some gl) (hne : L ≠ []) :
    Calls Try.prog 18 #[.slice A n c, .int .i64 m] w fun e w' => e = .returned (.tuple #[.int .i64 (longOf L hl gl), .int .i64 0]) ∧ Below w.heap.size w w' := by
  have HF := Lib.hid hof
  have HLA := Lib.hid hla
  have HGA := Lib.hid hga
  have hn0 : 0 < n := by
    have h5 := hr.1
    rw [flat_len cells 5 cells_len] at h5
    have : hs ≠ [] := by rintro rfl; exact hne (by rw [← hL]; rfl)
    have := List.length_pos_iff.2 this
    omega
  have HN0 := Lib.hid hn0
  clear hla hga hn0
  have HLL := Lib.hid hL
  have HR := Lib.hid hr
  clear hof hL hr
  go_enter Try.func18, Try.ntmps18
  go_wp2_with fail
  refine HF.out.mono ?_
  unfold OfYes
  rw [HLL.out]
  rintro e w1 ⟨A1, c1, rfl, hr1, hb1⟩
  obtain ⟨k, hk⟩ : ∃ k, L.length = k := ⟨_, rfl⟩
  rw [hk] at hr1 ⊢
  have hkn : k ≤ 1000 := by
    have h5 := HR.out.1
    rw [flat_len cells 5 cells_len] at h5
    have h6 := List.length_filter_le (keepB m) hs
    rw [HLL.out, hk] at h6
    omega
  have hk0 : 0 < k := by rw [← hk]; exact List.length_pos_iff.2 hne
  have HB1 := Lib.hid hb1
  have HR1 := Lib.hid hr1
  have HK := Lib.hid hk
  clear hb1 hr1 hk hne
  go_wp2_with fail
  go_loopw [8, 9, 24] (fun x y i wr => ∃ j : Nat, j ≤ k ∧ i = .int .i64 j ∧ x = .int .i64 ((L.take j).foldl lstep (0, 0)).1 ∧ y = .int .i64 ((L.take j).foldl lstep (0, 0)).2 ∧ Below w1.heap.size w1 wr) (fun _ _ i _ => k - (intOf i).toNat)
  case atStart => exact ⟨0, Nat.zero_le _, rfl, rfl, rfl, Below.refl _ _⟩
  case round =>
    obtain ⟨j, hj, rfl, rfl, rfl, hb⟩ := hrel
    have HB := Lib.hid hb
    clear hb
    by_cases hlt : j < k
    · obtain ⟨ad, h, rfl, hh, hbl, e0, e1, e2, e3, e4⟩ := happened_at (HR1.out.below HB.out) hlt
      have HH := Lib.hid hh
      clear hh
      obtain ⟨x, hx⟩ : ∃ x, ((L.take j).foldl lstep (0, 0)).1 = x := ⟨_, rfl⟩
      obtain ⟨y, hy⟩ : ∃ y, ((L.take j).foldl lstep (0, 0)).2 = y := ⟨_, rfl⟩
      rw [hx, hy]
      have HX := Lib.hid hx
      have HY := Lib.hid hy
      clear hx hy
      by_cases h3 : h.kind = 3
      · have hn3 : (h.kind != 3) = false := by simp [h3]
        go_wp2_with fail
        refine ⟨⟨j + 1, by omega, by go_num, ?_, ?_, HB.out.alloc HB.out.size _⟩, by simp [intOf]; omega⟩
        · rw [lstep_next HH.out HX.out HY.out]; simp [lstep, up, h3]
        · rw [lstep_next HH.out HX.out HY.out]; simp [lstep, h3]
      · have hn3 : (h.kind != 3) = true := by simp [h3]
        go_wp2_with fail
        refine ⟨⟨j + 1, by omega, by go_num, ?_, ?_, HB.out.alloc HB.out.size _⟩, by simp [intOf]; omega⟩
        · rw [lstep_next HH.out HX.out HY.out]; simp [lstep, h3]
        · rw [lstep_next HH.out HX.out HY.out]; simp [lstep, h3]
    · obtain rfl : j = k := by omega
      obtain ⟨q, rfl⟩ : ∃ q, j = q + 1 := ⟨j - 1, by omega⟩
      obtain ⟨p, rfl⟩ : ∃ p, n = p + 1 := ⟨n - 1, by have := HN0.out; omega⟩
      obtain ⟨ad, h, rfl, hh, hbl, e0, e1, e2, e3, e4⟩ := happened_at (HR1.out.below HB.out) (show q < q + 1 by omega)
      obtain rfl : h = hl := by
        have := HLA.out
        rw [HK.out] at this
        exact Option.some.inj (hh.symm.trans this)
      obtain ⟨ad2, h2, rfl, hh2, hbl2, g0, g1, g2, g3, g4⟩ := happened_at (((HR.out.below HB1.out).more HB1.out.size).below HB.out) (show p < p + 1 by omega)
      obtain rfl : h2 = gl := Option.some.inj (hh2.symm.trans HGA.out)
      have hq1 : wrap64 ((q + 1 : Nat) - 1 : Int) = q := by rw [show (((q + 1 : Nat) : Int) - 1) = (q : Int) by omega]; unfold wrap64; omega
      have hp1 : wrap64 ((p + 1 : Nat) - 1 : Int) = p := by rw [show (((p + 1 : Nat) : Int) - 1) = (p : Int) by omega]; unfold wrap64; omega
      clear hh hh2
      obtain ⟨x, hx⟩ : ∃ x, ((L.take (q + 1)).foldl lstep (0, 0)).1 = x := ⟨_, rfl⟩
      obtain ⟨y, hy⟩ : ∃ y, ((L.take (q + 1)).foldl lstep (0, 0)).2 = y := ⟨_, rfl⟩
      rw [hx, hy]
      rw [← HK.out, List.take_length] at hx hy
      have HX := Lib.hid hx
      have HY := Lib.hid hy
      clear hx hy
      by_cases h3 : h.kind = 3
      · have hn3 : (h.kind != 3) = false := by simp [h3]
        go_wp2_with fail
        go_ret2
        exact ⟨by simp [longOf, h3, HX.out], (HB1.out.trans (HB.out.mono HB1.out.size))⟩
      · have hn3 : (h.kind != 3) = true := by simp [h3]
        by_cases hxd : x < wrap64 (h2.now - y)
        · go_wp2_with fail
          all_goals
            go_ret2
            refine ⟨?_, (HB1.out.trans (HB.out.mono HB1.out.size))⟩
            rw [longOf, if_neg h3, HX.out, HY.out, up, if_pos hxd]
            rfl
        · go_wp2_with fail
          all_goals
            go_ret2
            refine ⟨?_, (HB1.out.trans (HB.out.mono HB1.out.size))⟩
            rw [longOf, if_neg h3, HX.out, HY.out, up, if_neg (Int.not_lt.2 hxd)]
            rfl
end Judge
end Go.Proofs.Ytjdjmhagafmkaaa

/-
  The contract of judge.Order.
-/
namespace Go.Proofs.Ytjdjmhagafmkaaa
open Go.RowKit
namespace Judge
set_option maxRecDepth 100000 in
set_option maxHeartbeats 2000000 in
theorem order_no (k : Int) (A : Option Addr) (n c : Nat) (m : Int) (w : World) (hof : Calls Try.prog 52 #[.slice A n c, .int .i64 m] w (OfNo k w)) :
    Calls Try.prog 17 #[.slice A n c, .int .i64 m] w (OfNo k w) := by
  have HF := Lib.hid hof
  clear hof
  go_enter Try.func17, Try.ntmps17
  go_wp2_with fail
  refine HF.out.mono ?_
  rintro e w1 ⟨rfl, hb1⟩
  have HB1 := Lib.hid hb1
  clear hb1
  go_wp2_with fail
  go_loopw [8, 19] (fun v i wr => v = .slice none 0 0 ∧ i = .int .i64 0 ∧ wr = w1) (fun _ _ _ => 0)
  case atStart => exact ⟨rfl, rfl, rfl⟩
  case round =>
    obtain ⟨rfl, rfl, rfl⟩ := hrel
    go_wp2_with fail
    go_ret2
    exact ⟨rfl, HB1.out⟩
/-- Who got it, of those that change who holds it. -/
def ordOf (L : List H) : List Int := L.filterMap fun h => if h.kind = 3 then none else some h.who
theorem ordOf_next {L : List H} {j : Nat} {h : H} (hh : L[j]? = some h) : ordOf (L.take (j + 1)) = ordOf (L.take j) ++ (if h.kind = 3 then [] else [h.who]) := by
  rw [List.take_add_one, hh]
  unfold ordOf
  rw [List.filterMap_append]
  by_cases h3 : h.kind = 3 <;> simp [h3]
theorem ordOf_len (L : List H) (j : Nat) : (ordOf (L.take j)).length ≤ j := by
  unfold ordOf
  have := List.length_filterMap_le (fun h : H => if h.kind = 3 then none else some h.who) (L.take j)
  rw [List.length_take] at this
  omega
set_option maxRecDepth 100000 in
set_option maxHeartbeats 2000000 in
theorem order_yes (A : Option Addr) (n c : Nat) (m : Int) (hs : List H) (hn : n ≤ 1000) (w : World) (hr : Reads w w.heap.size 5 A n (hs.flatMap cells)) (hof : Calls Try.prog 52 #[.slice A n c, .int .i64 m] w (OfYes m hs w)) :
    Calls Try.prog 17 #[.slice A n c, .int .i64 m] w fun e w' => ∃ v : Value, e = .returned (.tuple #[v, .int .i64 0]) ∧ w'.ownsRow w.heap.size 3 1 v (ordOf (hs.filter (keepB m))).length ((ordOf (hs.filter (keepB m))).map (Value.int .i64)) ∧ Below w.heap.size w w' := by
  have HF := Lib.hid hof
  obtain ⟨L, hL⟩ : ∃ L, hs.filter (keepB m) = L := ⟨_, rfl⟩
  have HLL := Lib.hid hL
  have HR := Lib.hid hr
  obtain ⟨i0, hi, hz0, hz1, hz2⟩ := info_parts infoI
  rw [hL]
  clear hof hL hr
  go_enter Try.func17, Try.ntmps17
  go_wp2_with fail
  refine HF.out.mono ?_
  unfold OfYes
  rw [HLL.out]
  rintro e w1 ⟨A1, c1, rfl, hr1, hb1⟩
  obtain ⟨k, hk⟩ : ∃ k, L.length = k := ⟨_, rfl⟩
  rw [hk] at hr1 ⊢
  have hkn : k ≤ 1000 := by
    have h5 := HR.out.1
    rw [flat_len cells 5 cells_len] at h5
    have h6 := List.length_filter_le (keepB m) hs
    rw [HLL.out, hk] at h6
    omega
  have HB1 := Lib.hid hb1
  have HR1 := Lib.hid hr1
  have HK := Lib.hid hk
  clear hb1 hr1 hk
  go_wp2_with fail
  go_loopw [8, 19] (fun v i wr => ∃ j : Nat, j ≤ k ∧ i = .int .i64 j ∧ wr.ownsRow w1.heap.size 3 1 v (ordOf (L.take j)).length ((ordOf (L.take j)).map (Value.int .i64)) ∧ Below w1.heap.size w1 wr) (fun _ i _ => k - (intOf i).toNat)
  case atStart => exact ⟨0, Nat.zero_le _, rfl, World.ownsRow_nil _ _ _ _, Below.refl _ _⟩
  case round =>
    obtain ⟨j, hj, rfl, hown, hbw⟩ := hrel
    have HBW := Lib.hid hbw
    have HO := Lib.hid hown
    have hsz := hbw.size
    clear hbw hown
    by_cases hlt : j < k
    · obtain ⟨ad, h, rfl, hh, hbl, e0, e1, e2, e3, e4⟩ := happened_at (HR1.out.below HBW.out) hlt
      have HH := Lib.hid hh
      have HOL := Lib.hid (ordOf_len L j)
      clear hh
      by_cases h3 : h.kind = 3
      · have hn3 : (h.kind != 3) = false := by simp [h3]
        go_wp2_with fail
        refine ⟨⟨j + 1, by omega, by go_num, ?_, HBW.out.alloc HBW.out.size _⟩, by simp [intOf]; omega⟩
        have := ordOf_next HH.out
        rw [if_pos h3, List.append_nil] at this
        rw [this]
        exact HO.out.alloc _
      · have hn3 : (h.kind != 3) = true := by simp [h3]
        go_wp2_with (first
          | (at_builtin; refine wpList_append_own _ rfl _ _ 26 rfl w1.heap.size 3 i0 (.int .i64 0) 1 8 Try.underlying26 hi hz0 hz1 hz2 rfl (by decide) _ _ _ rfl ((HO.out.alloc _).alloc _) ⟨wr.heap.size + 1, 0, none⟩ 1 1 [.int .i64 h.who] rfl rfl ?c1 ?c2 ?c3 ?c4 ?c5 ?_)
          | go_in)
        case c1 =>
          intro q v hv
          obtain ⟨hq, rfl⟩ := List.getElem?_eq_some_iff.1 hv
          simp at hq
          subst hq
          simp [Addr.add]
        case c2 => intro u hu; simp at hu; subst hu; rfl
        case c3 => have := HOL.out; simp [maxLen]; omega
        case c4 => have := HOL.out; omega
        case c5 => simp; omega
        intro v' w' hown' hgrow _
        have hgb : ∀ g, u8.ownBlock = some g → w1.heap.size ≤ g := fun g hg => (HO.out.lt g hg).1
        have hb2 := ((HBW.out.alloc HBW.out.size (.cells #[.int .i64 h.at_, .int .i64 h.now, .int .i64 h.who, .int .i64 h.kind, .int .i64 h.mutex] 33)).alloc (by simp; omega) (.cells #[.int .i64 h.who] 3)).grown hgrow (by simp; omega) hgb
        have HO2 := Lib.hid hown'
        have HB2 := Lib.hid hb2
        clear hgrow hgb hown' hb2
        go_wp2
        go_roundw
        case rel =>
          refine ⟨j + 1, by omega, by go_num, ?_, HB2.out⟩
          have := ordOf_next HH.out
          rw [if_neg h3] at this
          rw [this]
          simpa using HO2.out
        case measure => simp [intOf]; omega
    · obtain rfl : j = k := by omega
      have hl := HO.out
      rw [← HK.out, List.take_length] at hl
      have HL := Lib.hid hl
      clear hl
      go_wp2_with fail
      go_ret2
      exact ⟨_, rfl, own_lower HL.out HB1.out.size, HB1.out.trans (HBW.out.mono HB1.out.size)⟩
set_option maxRecDepth 100000 in
theorem long_nil (A : Option Addr) (n c : Nat) (m : Int) (hs : List H) (w : World) (hof : Calls Try.prog 52 #[.slice A n c, .int .i64 m] w (OfYes m hs w)) (hL : hs.filter (keepB m) = []) :
    Calls Try.prog 18 #[.slice A n c, .int .i64 m] w fun e w' => e = .returned (.tuple #[.int .i64 0, .int .i64 0]) ∧ Below w.heap.size w w' := by
  have HF := Lib.hid hof
  have HLL := Lib.hid hL
  clear hof hL
  go_enter Try.func18, Try.ntmps18
  go_wp2_with fail
  refine HF.out.mono ?_
  unfold OfYes
  rw [HLL.out]
  rintro e w1 ⟨A1, c1, rfl, _, hb1⟩
  have HB1 := Lib.hid hb1
  clear hb1
  go_wp2_with fail
  go_ret2
  exact ⟨rfl, HB1.out⟩
end Judge
end Go.Proofs.Ytjdjmhagafmkaaa

/-
  The contracts of judge.Wrong, judge.Held, judge.Order and judge.Long, in the form that the printed texts lean on.
-/
namespace Go.Proofs.Ytjdjmhagafmkaaa.PX
open Go.RowKit Go.Proofs.YtjdjmhagafmkaaaW.PrintWords Go.Proofs.YtjdjmhagafmkaaaW.PrintLast Go.Proofs.YtjdjmhagafmkaaaW.PrintMore

def toH (x : S33) : Judge.H := ⟨x.f0, x.f1, x.f2.f0, x.f2.f1, x.f2.f2⟩
theorem flat_toH (l : List S33) : (l.map toH).flatMap Judge.cells = l.flatMap (fun x => Judge.cells (toH x)) := by
  induction l with
  | nil => rfl
  | cons x l ih => simp [ih]
theorem reads_H {w : World} {A : Option Addr} {n : Nat} {l : List S33} (h : Kd.C k33 w A n l) : Reads w w.heap.size 5 A n ((l.map toH).flatMap Judge.cells) := by
  rw [flat_toH]
  exact reads_of_rows (R := k33.K w) (fun x => Judge.cells (toH x)) (fun _ => rfl) (by decide) (fun _ _ h => k33_open h) h

def judge_Wrong.f (l0 : List S33) : Option Int := if l0.length ≤ 1000 then some (Judge.wrong (l0.map toH)) else none
theorem judge_Wrong.calls (A0 : Option Addr) (c0 : Nat) (l0 : List S33) (r : Int) (w : World) (hr0 : Kd.C k33 w A0 l0.length l0) (hc0 : l0.length ≤ c0) (h : judge_Wrong.f l0 = some r) :
    Calls Try.prog 14 #[.slice A0 l0.length c0] w fun e w' => e = .returned (.int .i64 r) ∧ Below w.heap.size w w' := by
  unfold judge_Wrong.f at h
  split at h
  · rename_i hn
    obtain rfl := Option.some.inj h
    exact Judge.wrong_any A0 l0.length c0 (l0.map toH) hn hc0 w (reads_H hr0)
  · cases h

theorem book_up (l : List Judge.H) : ∀ (b : List Int) (p : Option Judge.H) (i : Int), (∀ j : Nat, b.getD j 0 ≤ 8) → ∀ j : Nat, (Judge.read b p i l).1.getD j 0 ≤ 8 := by
  have hset : ∀ (b : List Int) (k : Nat) (v : Int), v ≤ 8 → (∀ j : Nat, b.getD j 0 ≤ 8) → ∀ j : Nat, (b.set k v).getD j 0 ≤ 8 := by
    intro b k v hv hb j
    rw [List.getD_eq_getElem?_getD, List.getElem?_set]
    split
    · split
      · exact hv
      · simp
    · rw [← List.getD_eq_getElem?_getD]; exact hb j
  have hm : ∀ (b : List Int) (h : Judge.H), (∀ j : Nat, b.getD j 0 ≤ 8) → ∀ j : Nat, (Judge.may b h).2.getD j 0 ≤ 8 := by
    intro b h hb
    unfold Judge.may
    split
    · rename_i hin
      unfold Judge.inB at hin
      simp only [Bool.and_eq_true, decide_eq_true_eq] at hin
      split
      · exact hset b _ _ (by omega) hb
      · split
        · exact hset b _ _ (by omega) hb
        · split <;> exact hb
    · exact hb
  induction l with
  | nil => exact fun b p i hb => hb
  | cons h l ih =>
    intro b p i hb
    unfold Judge.read
    split
    · exact hb
    · split
      · exact ih _ _ _ (hm b h hb)
      · exact hm b h hb

def judge_Held.f (l0 : List S33) : Option (List Int × Int) :=
  if l0.length ≤ 1000 then (if Judge.wrong (l0.map toH) = -1 then some ((Judge.book (l0.map toH)).map (· - 1), 0) else some ([], 1)) else none
theorem judge_Held.calls (A0 : Option Addr) (c0 : Nat) (l0 : List S33) (r1 : List Int) (r2 : Int) (w : World) (hr0 : Kd.C k33 w A0 l0.length l0) (hc0 : l0.length ≤ c0) (h : judge_Held.f l0 = some (r1, r2)) :
    Calls Try.prog 16 #[.slice A0 l0.length c0] w fun e w' => ∃ v0_ : Value, e = .returned (.tuple #[v0_, .int .i64 r2]) ∧ Kd.R (Kd.int .i64) 3 w' w.heap.size (fun _ => True) v0_ r1 ∧ Below w.heap.size w w' := by
  unfold judge_Held.f at h
  split at h
  · rename_i hn
    split at h
    · rename_i hw
      obtain ⟨rfl, rfl⟩ := Prod.mk.inj (Option.some.inj h)
      refine (Judge.held_yes A0 l0.length c0 (l0.map toH) hw (fun i hi => book_up _ _ _ _ (by intro j; unfold Judge.empty; rcases j with _ | _ | _ | _ | j <;> simp) i) hn hc0 w (reads_H hr0)).mono ?_
      rintro e w' ⟨v, rfl, ho, hb⟩
      exact ⟨v, rfl, kd_ints ho (by rw [List.length_map, Judge.book, Judge.read_len]; rfl), hb⟩
    · rename_i hw
      obtain ⟨rfl, rfl⟩ := Prod.mk.inj (Option.some.inj h)
      refine (Judge.held_no A0 l0.length c0 (l0.map toH) hw hn hc0 w (reads_H hr0)).mono ?_
      rintro e w' ⟨rfl, hb⟩
      exact ⟨_, rfl, Kd.R_nil _ _ _ _ _, hb⟩
  · cases h

def judge_Order.f (l0 : List S33) (a1 : Int) : Option (List Int × Int) :=
  if l0.length ≤ 1000 then (if Judge.wrong (l0.map toH) = -1 then (if 0 ≤ a1 ∧ a1 < 4 then some (Judge.ordOf ((l0.map toH).filter (Judge.keepB a1)), 0) else some ([], 3)) else some ([], 1)) else none
theorem judge_Order.calls (A0 : Option Addr) (c0 : Nat) (l0 : List S33) (a1 : Int) (r1 : List Int) (r2 : Int) (w : World) (hr0 : Kd.C k33 w A0 l0.length l0) (hc0 : l0.length ≤ c0) (h : judge_Order.f l0 a1 = some (r1, r2)) :
    Calls Try.prog 17 #[.slice A0 l0.length c0, .int .i64 a1] w fun e w' => ∃ v0_ : Value, e = .returned (.tuple #[v0_, .int .i64 r2]) ∧ Kd.R (Kd.int .i64) 3 w' w.heap.size (fun _ => True) v0_ r1 ∧ Below w.heap.size w w' := by
  unfold judge_Order.f at h
  split at h
  · rename_i hn
    split at h
    · rename_i hw
      split at h
      · rename_i ha
        obtain ⟨rfl, rfl⟩ := Prod.mk.inj (Option.some.inj h)
        refine (Judge.order_yes A0 l0.length c0 a1 (l0.map toH) hn w (reads_H hr0) (Judge.of_yes A0 l0.length c0 (l0.map toH) a1 hw ha.1 ha.2 hn hc0 w (reads_H hr0))).mono ?_
        rintro e w' ⟨v, rfl, ho, hb⟩
        exact ⟨v, rfl, kd_ints ho rfl, hb⟩
      · rename_i ha
        obtain ⟨rfl, rfl⟩ := Prod.mk.inj (Option.some.inj h)
        refine (Judge.order_no 3 A0 l0.length c0 a1 w (Judge.of_none A0 l0.length c0 (l0.map toH) a1 hw (by omega) hn hc0 w (reads_H hr0))).mono ?_
        rintro e w' ⟨rfl, hb⟩
        exact ⟨_, rfl, Kd.R_nil _ _ _ _ _, hb⟩
    · rename_i hw
      obtain ⟨rfl, rfl⟩ := Prod.mk.inj (Option.some.inj h)
      refine (Judge.order_no 1 A0 l0.length c0 a1 w (Judge.of_wrong A0 l0.length c0 (l0.map toH) a1 hw hn hc0 w (reads_H hr0))).mono ?_
      rintro e w' ⟨rfl, hb⟩
      exact ⟨_, rfl, Kd.R_nil _ _ _ _ _, hb⟩
  · cases h

/-- How long it was held: of those that change who holds it, and all. -/
def longAll (L hs : List Judge.H) : Int := match L.getLast?, hs.getLast? with
  | some hl, some gl => Judge.longOf L hl gl
  | _, _ => 0
def judge_Long.f (l0 : List S33) (a1 : Int) : Option (Int × Int) :=
  if l0.length ≤ 1000 then (if Judge.wrong (l0.map toH) = -1 then (if 0 ≤ a1 ∧ a1 < 4 then some (longAll ((l0.map toH).filter (Judge.keepB a1)) (l0.map toH), 0) else some (0, 3)) else some (0, 1)) else none
theorem judge_Long.calls (A0 : Option Addr) (c0 : Nat) (l0 : List S33) (a1 : Int) (r1 : Int) (r2 : Int) (w : World) (hr0 : Kd.C k33 w A0 l0.length l0) (hc0 : l0.length ≤ c0) (h : judge_Long.f l0 a1 = some (r1, r2)) :
    Calls Try.prog 18 #[.slice A0 l0.length c0, .int .i64 a1] w fun e w' => e = .returned (.tuple #[.int .i64 r1, .int .i64 r2]) ∧ Below w.heap.size w w' := by
  unfold judge_Long.f at h
  split at h
  · rename_i hn
    split at h
    · rename_i hw
      split at h
      · rename_i ha
        obtain ⟨rfl, rfl⟩ := Prod.mk.inj (Option.some.inj h)
        have hof := Judge.of_yes A0 l0.length c0 (l0.map toH) a1 hw ha.1 ha.2 hn hc0 w (reads_H hr0)
        unfold longAll
        split
        · rename_i hl gl h1 h2
          rw [List.getLast?_eq_getElem?] at h1 h2
          rw [List.length_map] at h2
          exact Judge.long_yes A0 l0.length c0 a1 (l0.map toH) hn w (reads_H hr0) hof _ rfl hl gl h1 h2 (by intro h0; rw [h0] at h1; simp at h1)
        · rename_i hx
          have h0 : (l0.map toH).filter (Judge.keepB a1) = [] := by
            apply List.getLast?_eq_none_iff.1
            cases h1 : ((l0.map toH).filter (Judge.keepB a1)).getLast? with
            | none => rfl
            | some hl =>
              cases h2 : (l0.map toH).getLast? with
              | none => rw [List.getLast?_eq_none_iff.1 h2] at h1; simp at h1
              | some gl => exact (hx hl gl h1 h2).elim
          exact Judge.long_nil A0 l0.length c0 a1 (l0.map toH) w hof h0
      · rename_i ha
        obtain ⟨rfl, rfl⟩ := Prod.mk.inj (Option.some.inj h)
        exact Judge.long_no 3 A0 l0.length c0 a1 w (Judge.of_none A0 l0.length c0 (l0.map toH) a1 hw (by omega) hn hc0 w (reads_H hr0))
    · rename_i hw
      obtain ⟨rfl, rfl⟩ := Prod.mk.inj (Option.some.inj h)
      exact Judge.long_no 1 A0 l0.length c0 a1 w (Judge.of_wrong A0 l0.length c0 (l0.map toH) a1 hw hn hc0 w (reads_H hr0))
  · cases h
end Go.Proofs.Ytjdjmhagafmkaaa.PX

/-
  The contract of deadboltlaw21.few: at most 80, with times that are not far apart.
-/
namespace Go.Proofs.Ytjdjmhagafmkaaa
open Go.RowKit
namespace GaugeLaws
open Judge
theorem infoH : (Try.prog.info? 33).map (fun i => (i.zero, i.size, i.bytes)) = some (some (.agg #[.int .i64 0, .int .i64 0, .int .i64 0, .int .i64 0, .int .i64 0]), 5, 40) := by kernel_rfl
theorem new_cells (w : World) (t : TypeId) (cs : List Value) : ∀ j u, cs[j]? = some u → (w.alloc (.cells cs.toArray t)).cell? ((⟨w.heap.size, 0, none⟩ : Addr).add j) = some u := fun j u hu => by
  have e : ((⟨w.heap.size, 0, none⟩ : Addr).add j) = ⟨w.heap.size, j, none⟩ := by unfold Addr.add; by_cases hj : j = 0 <;> simp [hj]
  rw [e, (Blk.new w t cs.toArray).cell]
  simpa using hu
def nowOf (a : Int) : Int := wrap64 ((IntKind.u64.wrap a).tmod 1152921504606846976)
theorem nowOf_bd (a : Int) : 0 ≤ nowOf a ∧ nowOf a < 1152921504606846976 := by
  obtain ⟨A, h, h0, h1⟩ := mod60 a
  unfold nowOf
  rw [h]
  exact ⟨h0, h1⟩
def cut1 (h : H) : H := { h with now := nowOf h.now }
def fewOf (hs : List H) : List H := (hs.map cut1).take 80
theorem few_len (hs : List H) : (fewOf hs).length = min hs.length 80 := by simp [fewOf, Nat.min_comm]
def Few (hs : List H) (w : World) (e : Ending) (w' : World) : Prop := ∃ v : Value, e = .returned v ∧ w'.ownsRow w.heap.size 33 5 v (min hs.length 80) ((fewOf hs).flatMap cells) ∧ Below w.heap.size w w'
set_option maxRecDepth 100000 in
set_option maxHeartbeats 4000000 in
theorem few_any (A : Option Addr) (n c : Nat) (hs : List H) (hnc : n ≤ c) (w : World) (hr : Reads w w.heap.size 5 A n (hs.flatMap cells)) :
    Calls Try.prog 24 #[.slice A n c] w (Few hs w) := by
  have hl : hs.length = n := by have := hr.1; rw [flat_len cells 5 cells_len] at this; omega
  have HL := Lib.hid hl
  have HR := Lib.hid hr
  obtain ⟨N, hN⟩ : ∃ N, min n 80 = N := ⟨_, rfl⟩
  have hmn : ∀ (ts : Array TypeId) (t : TypeId) (w : World), (Builtin.min_ ts t #[.int .i64 n, .int .i64 80]).run Try.prog w = .ok (.int .i64 N) w := fun ts t w => by
    rw [run_min_int2]
    congr 2
    split <;> omega
  have hN80 : N ≤ 80 := by omega
  have hNn : N ≤ n := by omega
  have HN : Hid (min hs.length 80 = N) := by unfold Hid; rw [hl]; exact hN
  have hsl : ∀ W : World, (Instr.slice 22 (.slice A n c) none (some (.int .i64 N)) none).run Try.prog W = .ok (.slice A N c) W := fun W => by
    have hi : (Try.prog.info? 33).map (fun i => (i.zero, i.size, i.bytes)) = some (some (.agg #[.int .i64 0, .int .i64 0, .int .i64 0, .int .i64 0, .int .i64 0]), 5, 40) := by kernel_rfl
    obtain ⟨i0, hi, hz0, hz1, hz2⟩ := info_parts hi
    have he : Try.prog.elem 22 = 33 := by kernel_rfl
    have ha : (A.map fun x => x.add 0) = A := by cases A <;> simp [Addr.add]
    rw [run_slice_h W 22 A n c (by rw [he]; exact Try.underlying22) .i64 N (by omega) (by omega), he]
    simp [sizeOf, typeInfo, hi, hz1, sliced, Result.andThen, ha]
  obtain ⟨i0, hi, hz0, hz1, hz2⟩ := info_parts infoH
  clear hl hr hN
  go_enter Try.func24, Try.ntmps24
  go_wp2_with fail
  go_loopw [3, 12] (fun v i wr => ∃ k : Nat, k ≤ N ∧ i = .int .i64 k ∧ wr.ownsRow w.heap.size 33 5 v k (((hs.map cut1).take k).flatMap cells) ∧ Below w.heap.size w wr) (fun _ i _ => N - (intOf i).toNat)
  case atStart => exact ⟨0, Nat.zero_le _, rfl, World.ownsRow_nil _ _ _ _, Below.refl _ _⟩
  case round =>
    obtain ⟨k, hk, rfl, hown, hbw⟩ := hrel
    have HBW := Lib.hid hbw
    have HO := Lib.hid hown
    have hsz := hbw.size
    clear hbw hown
    by_cases hlt : k < N
    · obtain ⟨ad, h, rfl, hh, hbl, e0, e1, e2, e3, e4⟩ := happened_at (k := k) (HR.out.below HBW.out) (by omega)
      have HH := Lib.hid hh
      obtain ⟨y, hy⟩ : ∃ y, wrap64 ((IntKind.u64.wrap h.now).tmod 1152921504606846976) = y := ⟨_, rfl⟩
      have HY : Hid (nowOf h.now = y) := hy
      clear hh
      go_wp2_with (first
        | (at_builtin; refine wpList_append_own _ rfl _ _ 22 rfl w.heap.size 33 i0 (.agg #[.int .i64 0, .int .i64 0, .int .i64 0, .int .i64 0, .int .i64 0]) 5 40 Try.underlying22 hi hz0 hz1 hz2 rfl (by decide) _ _ _ rfl ((HO.out.alloc _).alloc _) ⟨wr.heap.size + 1, 0, none⟩ 1 1 [.int .i64 h.at_, .int .i64 y, .int .i64 h.who, .int .i64 h.kind, .int .i64 h.mutex] rfl rfl ?c1 ?c2 ?c3 ?c4 ?c5 ?_)
        | go_in)
      case c1 =>
        intro j u hu
        have := new_cells (wr.alloc (.cells #[.int .i64 h.at_, .int .i64 y, .int .i64 h.who, .int .i64 h.kind, .int .i64 h.mutex] 33)) 33 [.int .i64 h.at_, .int .i64 y, .int .i64 h.who, .int .i64 h.kind, .int .i64 h.mutex] j u hu
        rwa [World.size_alloc] at this
      case c2 =>
        intro u hu
        simp at hu
        rcases hu with rfl | rfl | rfl | rfl | rfl <;> rfl
      case c3 => simp [maxLen]; omega
      case c4 => omega
      case c5 => simp; omega
      intro v' w' hown' hgrow _
      have hgb : ∀ g, u3.ownBlock = some g → w.heap.size ≤ g := fun g hg => (HO.out.lt g hg).1
      have hb2 := ((HBW.out.alloc HBW.out.size (.cells #[.int .i64 h.at_, .int .i64 y, .int .i64 h.who, .int .i64 h.kind, .int .i64 h.mutex] 33)).alloc (by simp; omega) (.cells #[.int .i64 h.at_, .int .i64 y, .int .i64 h.who, .int .i64 h.kind, .int .i64 h.mutex] 33)).grown hgrow (by simp; omega) hgb
      have HO2 := Lib.hid hown'
      have HB2 := Lib.hid hb2
      clear hgrow hgb hown' hb2 hy
      go_wp2
      go_roundw
      case rel =>
        refine ⟨k + 1, by omega, by go_num, ?_, HB2.out⟩
        have e : ((hs.map cut1).take (k + 1)).flatMap cells = ((hs.map cut1).take k).flatMap cells ++ [.int .i64 h.at_, .int .i64 y, .int .i64 h.who, .int .i64 h.kind, .int .i64 h.mutex] := by
          rw [List.take_add_one, List.getElem?_map, HH.out, List.flatMap_append]
          congr 1
          simp [cells, cut1, HY.out]
        rw [e]
        exact HO2.out
      case measure => simp [intOf]; omega
    · obtain rfl : k = N := by omega
      go_wp2_with fail
      go_ret
      refine ⟨_, rfl, ?_, HBW.out⟩
      rw [HN.out]
      have e : fewOf hs = (hs.map cut1).take k := by
        unfold fewOf
        rw [← HN.out, Nat.min_comm, ← List.length_map (f := cut1), ← List.take_eq_take_min]
      rw [e]
      exact HO.out
end GaugeLaws
end Go.Proofs.Ytjdjmhagafmkaaa

/-
  The contracts of the two 'few', in the form that the printed texts lean on.
-/
namespace Go.Proofs.Ytjdjmhagafmkaaa.PX
open Go.RowKit Go.Proofs.YtjdjmhagafmkaaaW.PrintWords Go.Proofs.YtjdjmhagafmkaaaW.PrintLast Go.Proofs.YtjdjmhagafmkaaaW.PrintMore

def cutS (x : S33) : S33 := ⟨x.f0, JudgeLaws.nowOf x.f1, x.f2⟩
def fewS (l : List S33) : List S33 := (l.map cutS).take 80
theorem fewS_H (l : List S33) : (fewS l).map toH = JudgeLaws.fewOf (l.map toH) := by
  unfold fewS JudgeLaws.fewOf
  rw [List.map_take, List.map_map, List.map_map]
  rfl
theorem fewS_len (l : List S33) : (fewS l).length = min l.length 80 := by simp [fewS, Nat.min_comm]
theorem kd_H {w : World} {base n : Nat} {v : Value} {l : List S33} (h : w.ownsRow base 33 5 v n ((l.map toH).flatMap Judge.cells)) (hn : n = l.length) : Kd.R k33 33 w base (fun _ => True) v l := by
  rw [flat_toH] at h
  exact kd_own (d := k33) (fun x => Judge.cells (toH x)) (fun _ => rfl) (fun ok x => k33_mkM w base ok x) h hn

def deadboltlaw18_few.f (l0 : List S33) : Option (List S33) := some (fewS l0)
theorem deadboltlaw18_few.calls (A0 : Option Addr) (c0 : Nat) (l0 : List S33) (r : List S33) (w : World) (hr0 : Kd.C k33 w A0 l0.length l0) (hc0 : l0.length ≤ c0) (h : deadboltlaw18_few.f l0 = some r) :
    Calls Try.prog 13 #[.slice A0 l0.length c0] w fun e w' => ∃ v0_ : Value, e = .returned v0_ ∧ Kd.R k33 33 w' w.heap.size (fun _ => True) v0_ r ∧ Below w.heap.size w w' := by
  obtain rfl := Option.some.inj h
  refine (JudgeLaws.few_any A0 l0.length c0 (l0.map toH) hc0 w (reads_H hr0)).mono ?_
  rintro e w' ⟨v, rfl, ho, hb⟩
  refine ⟨v, rfl, kd_H (n := min (l0.map toH).length 80) (l := fewS l0) ?_ (by rw [fewS_len, List.length_map]), hb⟩
  rw [fewS_H]
  exact ho

def deadboltlaw21_few.f (l0 : List S33) : Option (List S33) := some (fewS l0)
theorem deadboltlaw21_few.calls (A0 : Option Addr) (c0 : Nat) (l0 : List S33) (r : List S33) (w : World) (hr0 : Kd.C k33 w A0 l0.length l0) (hc0 : l0.length ≤ c0) (h : deadboltlaw21_few.f l0 = some r) :
    Calls Try.prog 24 #[.slice A0 l0.length c0] w fun e w' => ∃ v0_ : Value, e = .returned v0_ ∧ Kd.R k33 33 w' w.heap.size (fun _ => True) v0_ r ∧ Below w.heap.size w w' := by
  obtain rfl := Option.some.inj h
  refine (GaugeLaws.few_any A0 l0.length c0 (l0.map toH) hc0 w (reads_H hr0)).mono ?_
  rintro e w' ⟨v, rfl, ho, hb⟩
  refine ⟨v, rfl, kd_H (n := min (l0.map toH).length 80) (l := fewS l0) ?_ (by rw [fewS_len, List.length_map]), hb⟩
  rw [fewS_H]
  exact ho
end Go.Proofs.Ytjdjmhagafmkaaa.PX

/-
  The contract of deadboltref18.until.
-/
namespace Go.Proofs.Ytjdjmhagafmkaaa
open Go.RowKit
namespace Judge
/-- When it was given back first, or the last time of all. -/
def untilOf (m last : Int) : List H → Int
  | [] => last
  | h :: l => if h.mutex = m ∧ h.kind = 3 then h.now else untilOf m last l
theorem run_from_H (A : Option Addr) (n c k : Nat) (hk : k ≤ n) (w : World) : (Instr.slice 22 (.slice A n c) (some (.int .i64 k)) none none).run Try.prog w = .ok (.slice (cutA A c k 5) (n - k) (c - k)) w := by
  have hi : (Try.prog.info? 33).map (fun i => (i.zero, i.size, i.bytes)) = some (some (.agg #[.int .i64 0, .int .i64 0, .int .i64 0, .int .i64 0, .int .i64 0]), 5, 40) := by kernel_rfl
  obtain ⟨i0, hi, hz0, hz1, hz2⟩ := info_parts hi
  have he : Try.prog.elem 22 = 33 := by kernel_rfl
  rw [run_slice_l w 22 A n c (by rw [he]; exact Try.underlying22) .i64 k (by omega) (by omega), he]
  simp [sizeOf, typeInfo, hi, hz1, sliced, cutA]
theorem flat_drop (hs : List H) (k : Nat) : (hs.flatMap cells).drop (k * 5) = (hs.drop k).flatMap cells := by
  induction k generalizing hs with
  | zero => simp
  | succ k ih =>
    cases hs with
    | nil => simp
    | cons h hs =>
      rw [List.flatMap_cons, List.drop_succ_cons, ← ih hs, show (k + 1) * 5 = 5 + k * 5 by omega, ← List.drop_drop]
      rfl
set_option maxRecDepth 100000 in
set_option maxHeartbeats 4000000 in
theorem until_any (A : Option Addr) (n c i : Nat) (hs : List H) (x gl : H) (hx : hs[i]? = some x) (hg : hs[n - 1]? = some gl) (hn : n ≤ 1000) (hnc : n ≤ c) (w : World) (hr : Reads w w.heap.size 5 A n (hs.flatMap cells)) :
    Calls Try.prog 55 #[.slice A n c, .int .i64 i] w fun e w' => e = .returned (.int .i64 (untilOf x.mutex gl.now (hs.drop (i + 1)))) ∧ Below w.heap.size w w' := by
  have hl : hs.length = n := by have := hr.1; rw [flat_len cells 5 cells_len] at this; omega
  have hin : i < n := by rw [← hl]; exact (List.getElem?_eq_some_iff.1 hx).1
  have hsl := fun w => run_from_H A n c (i + 1) hin w
  simp only [Int.natCast_add, Int.cast_ofNat_Int] at hsl
  obtain ⟨N, hN⟩ : ∃ N, n - (i + 1) = N := ⟨_, rfl⟩
  have hr2 : Reads w w.heap.size 5 (cutA A c (i + 1) 5) N ((hs.drop (i + 1)).flatMap cells) := by
    rw [← flat_drop, ← hN]
    exact hr.cutA hin hnc
  rw [hN] at hsl
  have hN1 : N ≤ 1000 := by omega
  obtain ⟨C, hC⟩ : ∃ C, cutA A c (i + 1) 5 = C := ⟨_, rfl⟩
  rw [hC] at hsl hr2
  have HL := Lib.hid hl
  have HR := Lib.hid hr
  have HR2 := Lib.hid hr2
  have HX := Lib.hid hx
  have HG := Lib.hid hg
  have HN := Lib.hid hN
  clear hl hr hr2 hx hg hC hN
  go_enter Try.func55, Try.ntmps55
  go_wp2_with fail
  clear hsl
  go_loopw [12] (fun v wr => ∃ j : Nat, j ≤ N ∧ v = .int .i64 j ∧ untilOf x.mutex gl.now (hs.drop (i + 1)) = untilOf x.mutex gl.now ((hs.drop (i + 1)).drop j) ∧ Below w.heap.size w wr) (fun v _ => N - (intOf v).toNat)
  case atStart => exact ⟨0, Nat.zero_le _, rfl, rfl, Below.refl _ _⟩
  case round =>
    obtain ⟨j, hj, rfl, hu, hb⟩ := hrel
    have HB := Lib.hid hb
    have HU := Lib.hid hu
    clear hb hu
    by_cases hlt : j < N
    · obtain ⟨ad, h, rfl, hh, hbl, e0, e1, e2, e3, e4⟩ := happened_at (HR2.out.below HB.out) hlt
      have hb2 := HB.out.alloc HB.out.size (.cells #[.int .i64 h.at_, .int .i64 h.now, .int .i64 h.who, .int .i64 h.kind, .int .i64 h.mutex] 33)
      obtain ⟨ad', x', hA, hx', _, _, _, _, _, x4⟩ := happened_at (k := i) (HR.out.below hb2) (by omega)
      obtain rfl : x' = x := Option.some.inj (hx'.symm.trans HX.out)
      subst hA
      have HB2 := Lib.hid hb2
      have hdr : Hid ((hs.drop (i + 1)).drop j = h :: (hs.drop (i + 1)).drop (j + 1)) := by
        unfold Hid
        obtain ⟨h1, h2⟩ := List.getElem?_eq_some_iff.1 hh
        rw [List.drop_eq_getElem_cons h1, h2]
      clear hh hx' hb2
      by_cases hm : h.mutex = x'.mutex
      · have d1 : (h.mutex == x'.mutex) = true := by simp [hm]
        by_cases h3 : h.kind = 3
        · have d3 : (h.kind == 3) = true := by simp [h3]
          have HE : Hid (untilOf x'.mutex gl.now (hs.drop (i + 1)) = h.now) := by
            unfold Hid
            rw [HU.out, hdr.out, untilOf, if_pos ⟨hm, h3⟩]
          clear hm h3
          go_wp2_with fail
          go_quiet (fail)
          go_wp2_with fail
          go_ret
          exact ⟨by rw [HE.out]; rfl, below_drewN HB2.out _⟩
        · have d3 : (h.kind == 3) = false := by simp [h3]
          have HE : Hid (untilOf x'.mutex gl.now (hs.drop (i + 1)) = untilOf x'.mutex gl.now ((hs.drop (i + 1)).drop (j + 1))) := by
            unfold Hid
            rw [HU.out, hdr.out, untilOf, if_neg (fun hq => h3 hq.2)]
          clear hm h3
          go_wp2_with fail
          go_quiet (fail)
          go_wp2_with fail
          go_roundw
          case rel => exact ⟨j + 1, by omega, by go_num, HE.out, below_drewN HB2.out _⟩
          case measure => simp [intOf]; omega
      · have d1 : (h.mutex == x'.mutex) = false := by simp [hm]
        have HE : Hid (untilOf x'.mutex gl.now (hs.drop (i + 1)) = untilOf x'.mutex gl.now ((hs.drop (i + 1)).drop (j + 1))) := by
          unfold Hid
          rw [HU.out, hdr.out, untilOf, if_neg (fun hq => hm hq.1)]
        clear hm
        go_wp2_with fail
        go_quiet (fail)
        go_wp2_with fail
        go_roundw
        case rel => exact ⟨j + 1, by omega, by go_num, HE.out, below_drewN HB2.out _⟩
        case measure => simp [intOf]; omega
    · obtain rfl : j = N := by omega
      obtain ⟨p, rfl⟩ : ∃ p, n = p + 1 := ⟨n - 1, by omega⟩
      obtain ⟨ad2, h2, rfl, hh2, _, g0, g1, g2, g3, g4⟩ := happened_at (HR.out.below HB.out) (show p < p + 1 by omega)
      obtain rfl : h2 = gl := Option.some.inj (hh2.symm.trans HG.out)
      have hp1 : wrap64 ((p + 1 : Nat) - 1 : Int) = p := by rw [show (((p + 1 : Nat) : Int) - 1) = (p : Int) by omega]; unfold wrap64; omega
      have HE : Hid (untilOf x.mutex h2.now (hs.drop (i + 1)) = h2.now) := by
        unfold Hid
        rw [HU.out, List.drop_eq_nil_of_le (by rw [List.length_drop, HL.out]; have := HN.out; omega)]
        rfl
      clear hh2
      go_wp2_with fail
      go_ret
      exact ⟨by rw [HE.out]; rfl, HB.out⟩
end Judge
end Go.Proofs.Ytjdjmhagafmkaaa

/-
  The contract of deadboltref18.until, in the form that the printed texts lean on.
-/
namespace Go.Proofs.Ytjdjmhagafmkaaa.PX
open Go.RowKit Go.Proofs.YtjdjmhagafmkaaaW.PrintWords Go.Proofs.YtjdjmhagafmkaaaW.PrintLast Go.Proofs.YtjdjmhagafmkaaaW.PrintMore

def deadboltref18_until.f (l0 : List S33) (a1 : Int) : Option Int :=
  if l0.length ≤ 1000 ∧ 0 ≤ a1 then (match (l0.map toH)[a1.toNat]?, (l0.map toH).getLast? with
    | some x, some g => some (Judge.untilOf x.mutex g.now ((l0.map toH).drop (a1.toNat + 1)))
    | _, _ => none) else none
theorem deadboltref18_until.calls (A0 : Option Addr) (c0 : Nat) (l0 : List S33) (a1 : Int) (r : Int) (w : World) (hr0 : Kd.C k33 w A0 l0.length l0) (hc0 : l0.length ≤ c0) (h : deadboltref18_until.f l0 a1 = some r) :
    Calls Try.prog 55 #[.slice A0 l0.length c0, .int .i64 a1] w fun e w' => e = .returned (.int .i64 r) ∧ Below w.heap.size w w' := by
  unfold deadboltref18_until.f at h
  split at h
  · rename_i hn
    split at h
    · rename_i x g hx hg
      obtain rfl := Option.some.inj h
      rw [List.getLast?_eq_getElem?, List.length_map] at hg
      have := Judge.until_any A0 l0.length c0 a1.toNat (l0.map toH) x g hx hg hn.1 hc0 w (reads_H hr0)
      rwa [Int.toNat_of_nonneg hn.2] at this
    · cases h
  · cases h
end Go.Proofs.Ytjdjmhagafmkaaa.PX

namespace Go.Proofs.Ytjdjmhagafmkaaa.PX
open Go.RowKit Go.Proofs.YtjdjmhagafmkaaaW.PrintWords Go.Proofs.YtjdjmhagafmkaaaW.PrintLast Go.Proofs.YtjdjmhagafmkaaaW.PrintMore
attribute [local go_sem] max2_int min2_int max_two min_two max_three min_three max_four min_four   -- for this text's walks alone
set_option linter.unusedVariables false
set_option linter.unusedSimpArgs false

/-! ### deadboltref18_Holder: function 54 -/
def deadboltref18_Holder.l0 : Nat → Int → Int → List (S33) → Int → Int → Option (Int)
  | 0, _, _, _, _, _ => none
  | k + 1, x1, x5, x8, x9, x10 => if x10 < x9 then (if 0 ≤ x10 then (if x10 < (x8.length : Int) then (if ((rd_T33 x8 x10).f2.f2) = x1 then (if ((rd_T33 x8 x10).f2.f1) ≤ 1 then (if ((rd_T33 x8 x10).f2.f1) = 3 then (deadboltref18_Holder.l0 k x1 (-1) x8 x9 (wrap64 (x10 + 1))) else (deadboltref18_Holder.l0 k x1 ((rd_T33 x8 x10).f2.f0) x8 x9 (wrap64 (x10 + 1)))) else (if ((rd_T33 x8 x10).f2.f1) = 3 then (deadboltref18_Holder.l0 k x1 (-1) x8 x9 (wrap64 (x10 + 1))) else (deadboltref18_Holder.l0 k x1 x5 x8 x9 (wrap64 (x10 + 1))))) else (deadboltref18_Holder.l0 k x1 x5 x8 x9 (wrap64 (x10 + 1)))) else (none)) else (none)) else (some x5)
def deadboltref18_Holder.f (k : Nat) (l0 : List (S33)) (a1 : Int) : Option (Int) := deadboltref18_Holder.l0 k a1 (-1) l0 (l0.length : Int) 0
theorem deadboltref18_Holder.mono_l : ∀ k, (∀ y0 y1 y2 y3 y4, LeO (deadboltref18_Holder.l0 k y0 y1 y2 y3 y4) (deadboltref18_Holder.l0 (k + 1) y0 y1 y2 y3 y4))
  | 0 => fun _ _ _ _ _ r h => by simp [deadboltref18_Holder.l0] at h
  | k + 1 => by
    have ih0 := deadboltref18_Holder.mono_l k
    · intro y0 y1 y2 y3 y4
      unfold deadboltref18_Holder.l0
      repeat' first
      | (with_reducible exact ih0 _ _ _ _ _)
      | (with_reducible exact LeO.refl _)
      | (with_reducible exact LeO.none _)
      | (with_reducible refine LeO.ite ?_ ?_)
      | (with_reducible refine LeO.bind ?_ (fun _ => ?_))
      | exact ih0 _ _ _ _ _
      | exact LeO.none _
      | refine LeO.ite ?_ ?_
      | refine LeO.bind ?_ (fun _ => ?_)
theorem deadboltref18_Holder.mono : ∀ a0 a1 k, LeO (deadboltref18_Holder.f k a0 a1) (deadboltref18_Holder.f (k + 1) a0 a1) := by
  intro a0 a1 k
  have ih0 := deadboltref18_Holder.mono_l k
  unfold deadboltref18_Holder.f
  repeat' first
      | (with_reducible exact ih0 _ _ _ _ _)
      | (with_reducible exact LeO.refl _)
      | (with_reducible exact LeO.none _)
      | (with_reducible refine LeO.ite ?_ ?_)
      | (with_reducible refine LeO.bind ?_ (fun _ => ?_))
      | exact ih0 _ _ _ _ _
      | exact LeO.none _
      | refine LeO.ite ?_ ?_
      | refine LeO.bind ?_ (fun _ => ?_)
set_option maxHeartbeats 8000000 in
set_option maxRecDepth 100000 in
theorem deadboltref18_Holder.calls (k : Nat) (A0 : Option Addr) (c0 : Nat) (l0 : List (S33)) (a1 : Int) (r : Int) (w : World) (hr0 : Kd.C k33 w A0 l0.length l0) (hc0 : l0.length ≤ c0) (h : deadboltref18_Holder.f k l0 a1 = some r) :
    Calls Try.prog 54 #[.slice A0 l0.length c0, .int .i64 a1] w fun e w' => e = .returned (.int .i64 r) ∧ Below w.heap.size w w' := by
  have hu33 := Try.underlying33
  have HR0 := Aside0.mk hr0
  have HC0 := Aside0.mk hc0
  clear hr0 hc0
  have HB := Aside0.mk (Below.refl w.heap.size w)
  have H : (deadboltref18_Holder.l0 k a1 (-1) l0 (l0.length : Int) 0) = some r := h
  clear h
  have H' := Aside0.mk H
  clear H
  go_enter Try.func54, Try.ntmps54
  go_wp2
  go_loopg [5, 10] k (fun kq v5 v10 w' => ∃ (x5_1 : Int) (x10_1 : Int), v5 = .int .i64 x5_1 ∧ v10 = .int .i64 x10_1 ∧ Aside0 (deadboltref18_Holder.l0 kq a1 x5_1 l0 (l0.length : Int) x10_1 = some r) ∧ Aside0 (kq ≤ k) ∧ Aside0 (Below w.heap.size w w'))
  case atStart => exact ⟨((-1)), (0), (by first | rfl | (simp; done) | (simp [*]; done)), (by first | rfl | (simp; done) | (simp [*]; done)), H', ⟨Nat.le_refl _⟩, ⟨by repeat (first | (with_reducible first | exact HB.out | apply below_alloc | apply pw_below_drewN | apply below_drew1) | exact HB.out)⟩⟩
  case round =>
    clear H'
    try clear p2
    obtain ⟨x5_1, x10_1, rfl, rfl, HA, HK1, HB⟩ := hrel
    cases gk with
    | zero => exact absurd HA.out (by simp [deadboltref18_Holder.l0])
    | succ k1 =>
      have H := HA.out
      clear HA
      simp only [deadboltref18_Holder.l0] at H
      by_cases c3 : x10_1 < (l0.length : Int)
      · rw [if_pos c3] at H
        have c3b0 : decide (x10_1 < (l0.length : Int)) = true := decide_eq_true c3
        clear c3
        by_cases c4 : 0 ≤ x10_1
        · rw [if_pos c4] at H
          have c4b0 : decide (0 ≤ x10_1) = true := decide_eq_true c4
          clear c4
          by_cases c5 : x10_1 < (l0.length : Int)
          · rw [if_pos c5] at H
            have c5b0 : decide (x10_1 < (l0.length : Int)) = true := decide_eq_true c5
            clear c5
            by_cases c6 : ((rd_T33 l0 x10_1).f2.f2) = a1
            · rw [if_pos c6] at H
              have c6b0 : (((rd_T33 l0 x10_1).f2.f2) == a1) = true := beq_iff_eq.mpr c6
              have c6b1 : (((rd_T33 l0 x10_1).f2.f2) != a1) = false := bne_eq_false_iff_eq.mpr c6
              clear c6
              by_cases c7 : ((rd_T33 l0 x10_1).f2.f1) ≤ 1
              · rw [if_pos c7] at H
                have c7b0 : decide (((rd_T33 l0 x10_1).f2.f1) ≤ 1) = true := decide_eq_true c7
                clear c7
                by_cases c8 : ((rd_T33 l0 x10_1).f2.f1) = 3
                · rw [if_pos c8] at H
                  have c8b0 : (((rd_T33 l0 x10_1).f2.f1) == 3) = true := beq_iff_eq.mpr c8
                  have c8b1 : (((rd_T33 l0 x10_1).f2.f1) != 3) = false := bne_eq_false_iff_eq.mpr c8
                  clear c8
                  have H' := Aside0.mk H
                  clear H
                  have p111 : 0 ≤ (x10_1 : Int) := of_decide_eq_true (by first | (with_reducible assumption) | assumption)
                  have q111 : x10_1 < (l0.length : Int) := of_decide_eq_true (by first | (with_reducible assumption) | assumption)
                  obtain ⟨ad111, e111, hx111_0, hx111_1, hx111_2, hx111_3, hx111_4⟩ := at_T33 HR0.out x10_1 p111 q111
                  cases e111
                  replace hx111_0 := (HB.out.cell (World.block_lt_of_cell? w _ hx111_0)).trans hx111_0
                  replace hx111_1 := (HB.out.cell (World.block_lt_of_cell? w _ hx111_1)).trans hx111_1
                  replace hx111_2 := (HB.out.cell (World.block_lt_of_cell? w _ hx111_2)).trans hx111_2
                  replace hx111_3 := (HB.out.cell (World.block_lt_of_cell? w _ hx111_3)).trans hx111_3
                  replace hx111_4 := (HB.out.cell (World.block_lt_of_cell? w _ hx111_4)).trans hx111_4
                  replace p111 := eq_true p111
                  replace q111 := eq_true q111
                  go_wp2_with (first | ((with_reducible refine gate_dst (N := 7) rfl ?_); refine box_event ?hg (N := 7) ?hd (cs := #[.int .i64 0, .int .i64 0, .int .i64 0, .int .i64 0, .int .i64 0]) (t := 33) ?hr ?_; (case hd => rfl); (case hg => rfl); (case hr => first | (go_simp; done) | (go_simp; rfl)); intro gb112 hg w9 hbox hb; have n0_ := Aside0.mk (below_step (by repeat (first | (with_reducible first | exact HB.out | apply below_alloc | apply pw_below_drewN | apply below_drew1) | exact HB.out)) hb); have n1_ := Aside0.mk (hbox); have n2_ := Aside0.mk ((by rw [hg]; exact (below_size (by repeat (first | (with_reducible first | exact HB.out | apply below_alloc | apply pw_below_drewN | apply below_drew1) | exact HB.out))) : w.heap.size ≤ gb112)); have n3_ := Aside0.mk ((by rw [hg]; exact (below_size (by repeat (first | (with_reducible first | exact HB.out | apply below_alloc | apply pw_below_drewN | apply below_drew1) | exact HB.out))) : w.heap.size ≤ gb112)); clear HB; have HB := n0_; have BK112 := n1_; have GW112 := n2_; have GE112 := n3_; clear n0_ n1_ n2_ n3_; clear hb hbox hg; have hcz10_0 : w9.cell? ⟨gb112, 0, none⟩ = some (.int .i64 0) := (blk_cell BK112.out 0).trans rfl; have hcz10_1 : w9.cell? ⟨gb112, 1, none⟩ = some (.int .i64 0) := (blk_cell BK112.out 1).trans rfl; have hcz10_2 : w9.cell? ⟨gb112, 2, none⟩ = some (.int .i64 0) := (blk_cell BK112.out 2).trans rfl; have hcz10_3 : w9.cell? ⟨gb112, 3, none⟩ = some (.int .i64 0) := (blk_cell BK112.out 3).trans rfl; have hcz10_4 : w9.cell? ⟨gb112, 4, none⟩ = some (.int .i64 0) := (blk_cell BK112.out 4).trans rfl; have hfz10_0 := blk_frozen BK112.out 0; have hfz10_1 := blk_frozen BK112.out 1; have hfz10_2 := blk_frozen BK112.out 2; have hfz10_3 := blk_frozen BK112.out 3; have hfz10_4 := blk_frozen BK112.out 4))
                  go_roundg k1
                  case measure => have := HK1.out; omega
                  case rel => exact ⟨((-1)), (wrap64 (x10_1 + 1)), (by first | rfl | (simp; done) | (simp [*]; done)), (by first | rfl | (simp; done) | (simp [*]; done)), H', ⟨by have := HK1.out; omega⟩, ⟨by repeat (first | (with_reducible first | exact HB.out | apply below_alloc | apply pw_below_drewN | apply below_drew1 | refine below_set ?_ GE112.out) | exact HB.out)⟩⟩
                · rw [if_neg c8] at H
                  have c8b0 : (((rd_T33 l0 x10_1).f2.f1) == 3) = false := beq_eq_false_iff_ne.mpr c8
                  have c8b1 : (((rd_T33 l0 x10_1).f2.f1) != 3) = true := bne_iff_ne.mpr c8
                  have H' := Aside0.mk H
                  clear H
                  have p111 : 0 ≤ (x10_1 : Int) := of_decide_eq_true (by first | (with_reducible assumption) | assumption)
                  have q111 : x10_1 < (l0.length : Int) := of_decide_eq_true (by first | (with_reducible assumption) | assumption)
                  obtain ⟨ad111, e111, hx111_0, hx111_1, hx111_2, hx111_3, hx111_4⟩ := at_T33 HR0.out x10_1 p111 q111
                  cases e111
                  replace hx111_0 := (HB.out.cell (World.block_lt_of_cell? w _ hx111_0)).trans hx111_0
                  replace hx111_1 := (HB.out.cell (World.block_lt_of_cell? w _ hx111_1)).trans hx111_1
                  replace hx111_2 := (HB.out.cell (World.block_lt_of_cell? w _ hx111_2)).trans hx111_2
                  replace hx111_3 := (HB.out.cell (World.block_lt_of_cell? w _ hx111_3)).trans hx111_3
                  replace hx111_4 := (HB.out.cell (World.block_lt_of_cell? w _ hx111_4)).trans hx111_4
                  replace p111 := eq_true p111
                  replace q111 := eq_true q111
                  go_wp2_with (first | ((with_reducible refine gate_dst (N := 7) rfl ?_); refine box_event ?hg (N := 7) ?hd (cs := #[.int .i64 0, .int .i64 0, .int .i64 0, .int .i64 0, .int .i64 0]) (t := 33) ?hr ?_; (case hd => rfl); (case hg => rfl); (case hr => first | (go_simp; done) | (go_simp; rfl)); intro gb112 hg w11 hbox hb; have n0_ := Aside0.mk (below_step (by repeat (first | (with_reducible first | exact HB.out | apply below_alloc | apply pw_below_drewN | apply below_drew1) | exact HB.out)) hb); have n1_ := Aside0.mk (hbox); have n2_ := Aside0.mk ((by rw [hg]; exact (below_size (by repeat (first | (with_reducible first | exact HB.out | apply below_alloc | apply pw_below_drewN | apply below_drew1) | exact HB.out))) : w.heap.size ≤ gb112)); have n3_ := Aside0.mk ((by rw [hg]; exact (below_size (by repeat (first | (with_reducible first | exact HB.out | apply below_alloc | apply pw_below_drewN | apply below_drew1) | exact HB.out))) : w.heap.size ≤ gb112)); clear HB; have HB := n0_; have BK112 := n1_; have GW112 := n2_; have GE112 := n3_; clear n0_ n1_ n2_ n3_; clear hb hbox hg; have hcz12_0 : w11.cell? ⟨gb112, 0, none⟩ = some (.int .i64 0) := (blk_cell BK112.out 0).trans rfl; have hcz12_1 : w11.cell? ⟨gb112, 1, none⟩ = some (.int .i64 0) := (blk_cell BK112.out 1).trans rfl; have hcz12_2 : w11.cell? ⟨gb112, 2, none⟩ = some (.int .i64 0) := (blk_cell BK112.out 2).trans rfl; have hcz12_3 : w11.cell? ⟨gb112, 3, none⟩ = some (.int .i64 0) := (blk_cell BK112.out 3).trans rfl; have hcz12_4 : w11.cell? ⟨gb112, 4, none⟩ = some (.int .i64 0) := (blk_cell BK112.out 4).trans rfl; have hfz12_0 := blk_frozen BK112.out 0; have hfz12_1 := blk_frozen BK112.out 1; have hfz12_2 := blk_frozen BK112.out 2; have hfz12_3 := blk_frozen BK112.out 3; have hfz12_4 := blk_frozen BK112.out 4))
                  go_roundg k1
                  case measure => have := HK1.out; omega
                  case rel => exact ⟨((rd_T33 l0 x10_1).f2.f0), (wrap64 (x10_1 + 1)), (by first | rfl | (simp; done) | (simp [*]; done)), (by first | rfl | (simp; done) | (simp [*]; done)), H', ⟨by have := HK1.out; omega⟩, ⟨by repeat (first | (with_reducible first | exact HB.out | apply below_alloc | apply pw_below_drewN | apply below_drew1 | refine below_set ?_ GE112.out) | exact HB.out)⟩⟩
              · rw [if_neg c7] at H
                have c7b0 : decide (((rd_T33 l0 x10_1).f2.f1) ≤ 1) = false := decide_eq_false c7
                clear c7
                by_cases c13 : ((rd_T33 l0 x10_1).f2.f1) = 3
                · rw [if_pos c13] at H
                  have c13b0 : (((rd_T33 l0 x10_1).f2.f1) == 3) = true := beq_iff_eq.mpr c13
                  have c13b1 : (((rd_T33 l0 x10_1).f2.f1) != 3) = false := bne_eq_false_iff_eq.mpr c13
                  clear c13
                  have H' := Aside0.mk H
                  clear H
                  have p111 : 0 ≤ (x10_1 : Int) := of_decide_eq_true (by first | (with_reducible assumption) | assumption)
                  have q111 : x10_1 < (l0.length : Int) := of_decide_eq_true (by first | (with_reducible assumption) | assumption)
                  obtain ⟨ad111, e111, hx111_0, hx111_1, hx111_2, hx111_3, hx111_4⟩ := at_T33 HR0.out x10_1 p111 q111
                  cases e111
                  replace hx111_0 := (HB.out.cell (World.block_lt_of_cell? w _ hx111_0)).trans hx111_0
                  replace hx111_1 := (HB.out.cell (World.block_lt_of_cell? w _ hx111_1)).trans hx111_1
                  replace hx111_2 := (HB.out.cell (World.block_lt_of_cell? w _ hx111_2)).trans hx111_2
                  replace hx111_3 := (HB.out.cell (World.block_lt_of_cell? w _ hx111_3)).trans hx111_3
                  replace hx111_4 := (HB.out.cell (World.block_lt_of_cell? w _ hx111_4)).trans hx111_4
                  replace p111 := eq_true p111
                  replace q111 := eq_true q111
                  go_wp2_with (first | ((with_reducible refine gate_dst (N := 7) rfl ?_); refine box_event ?hg (N := 7) ?hd (cs := #[.int .i64 0, .int .i64 0, .int .i64 0, .int .i64 0, .int .i64 0]) (t := 33) ?hr ?_; (case hd => rfl); (case hg => rfl); (case hr => first | (go_simp; done) | (go_simp; rfl)); intro gb112 hg w14 hbox hb; have n0_ := Aside0.mk (below_step (by repeat (first | (with_reducible first | exact HB.out | apply below_alloc | apply pw_below_drewN | apply below_drew1) | exact HB.out)) hb); have n1_ := Aside0.mk (hbox); have n2_ := Aside0.mk ((by rw [hg]; exact (below_size (by repeat (first | (with_reducible first | exact HB.out | apply below_alloc | apply pw_below_drewN | apply below_drew1) | exact HB.out))) : w.heap.size ≤ gb112)); have n3_ := Aside0.mk ((by rw [hg]; exact (below_size (by repeat (first | (with_reducible first | exact HB.out | apply below_alloc | apply pw_below_drewN | apply below_drew1) | exact HB.out))) : w.heap.size ≤ gb112)); clear HB; have HB := n0_; have BK112 := n1_; have GW112 := n2_; have GE112 := n3_; clear n0_ n1_ n2_ n3_; clear hb hbox hg; have hcz15_0 : w14.cell? ⟨gb112, 0, none⟩ = some (.int .i64 0) := (blk_cell BK112.out 0).trans rfl; have hcz15_1 : w14.cell? ⟨gb112, 1, none⟩ = some (.int .i64 0) := (blk_cell BK112.out 1).trans rfl; have hcz15_2 : w14.cell? ⟨gb112, 2, none⟩ = some (.int .i64 0) := (blk_cell BK112.out 2).trans rfl; have hcz15_3 : w14.cell? ⟨gb112, 3, none⟩ = some (.int .i64 0) := (blk_cell BK112.out 3).trans rfl; have hcz15_4 : w14.cell? ⟨gb112, 4, none⟩ = some (.int .i64 0) := (blk_cell BK112.out 4).trans rfl; have hfz15_0 := blk_frozen BK112.out 0; have hfz15_1 := blk_frozen BK112.out 1; have hfz15_2 := blk_frozen BK112.out 2; have hfz15_3 := blk_frozen BK112.out 3; have hfz15_4 := blk_frozen BK112.out 4))
                  go_roundg k1
                  case measure => have := HK1.out; omega
                  case rel => exact ⟨((-1)), (wrap64 (x10_1 + 1)), (by first | rfl | (simp; done) | (simp [*]; done)), (by first | rfl | (simp; done) | (simp [*]; done)), H', ⟨by have := HK1.out; omega⟩, ⟨by repeat (first | (with_reducible first | exact HB.out | apply below_alloc | apply pw_below_drewN | apply below_drew1 | refine below_set ?_ GE112.out) | exact HB.out)⟩⟩
                · rw [if_neg c13] at H
                  have c13b0 : (((rd_T33 l0 x10_1).f2.f1) == 3) = false := beq_eq_false_iff_ne.mpr c13
                  have c13b1 : (((rd_T33 l0 x10_1).f2.f1) != 3) = true := bne_iff_ne.mpr c13
                  have H' := Aside0.mk H
                  clear H
                  have p111 : 0 ≤ (x10_1 : Int) := of_decide_eq_true (by first | (with_reducible assumption) | assumption)
                  have q111 : x10_1 < (l0.length : Int) := of_decide_eq_true (by first | (with_reducible assumption) | assumption)
                  obtain ⟨ad111, e111, hx111_0, hx111_1, hx111_2, hx111_3, hx111_4⟩ := at_T33 HR0.out x10_1 p111 q111
                  cases e111
                  replace hx111_0 := (HB.out.cell (World.block_lt_of_cell? w _ hx111_0)).trans hx111_0
                  replace hx111_1 := (HB.out.cell (World.block_lt_of_cell? w _ hx111_1)).trans hx111_1
                  replace hx111_2 := (HB.out.cell (World.block_lt_of_cell? w _ hx111_2)).trans hx111_2
                  replace hx111_3 := (HB.out.cell (World.block_lt_of_cell? w _ hx111_3)).trans hx111_3
                  replace hx111_4 := (HB.out.cell (World.block_lt_of_cell? w _ hx111_4)).trans hx111_4
                  replace p111 := eq_true p111
                  replace q111 := eq_true q111
                  go_wp2_with (first | ((with_reducible refine gate_dst (N := 7) rfl ?_); refine box_event ?hg (N := 7) ?hd (cs := #[.int .i64 0, .int .i64 0, .int .i64 0, .int .i64 0, .int .i64 0]) (t := 33) ?hr ?_; (case hd => rfl); (case hg => rfl); (case hr => first | (go_simp; done) | (go_simp; rfl)); intro gb112 hg w16 hbox hb; have n0_ := Aside0.mk (below_step (by repeat (first | (with_reducible first | exact HB.out | apply below_alloc | apply pw_below_drewN | apply below_drew1) | exact HB.out)) hb); have n1_ := Aside0.mk (hbox); have n2_ := Aside0.mk ((by rw [hg]; exact (below_size (by repeat (first | (with_reducible first | exact HB.out | apply below_alloc | apply pw_below_drewN | apply below_drew1) | exact HB.out))) : w.heap.size ≤ gb112)); have n3_ := Aside0.mk ((by rw [hg]; exact (below_size (by repeat (first | (with_reducible first | exact HB.out | apply below_alloc | apply pw_below_drewN | apply below_drew1) | exact HB.out))) : w.heap.size ≤ gb112)); clear HB; have HB := n0_; have BK112 := n1_; have GW112 := n2_; have GE112 := n3_; clear n0_ n1_ n2_ n3_; clear hb hbox hg; have hcz17_0 : w16.cell? ⟨gb112, 0, none⟩ = some (.int .i64 0) := (blk_cell BK112.out 0).trans rfl; have hcz17_1 : w16.cell? ⟨gb112, 1, none⟩ = some (.int .i64 0) := (blk_cell BK112.out 1).trans rfl; have hcz17_2 : w16.cell? ⟨gb112, 2, none⟩ = some (.int .i64 0) := (blk_cell BK112.out 2).trans rfl; have hcz17_3 : w16.cell? ⟨gb112, 3, none⟩ = some (.int .i64 0) := (blk_cell BK112.out 3).trans rfl; have hcz17_4 : w16.cell? ⟨gb112, 4, none⟩ = some (.int .i64 0) := (blk_cell BK112.out 4).trans rfl; have hfz17_0 := blk_frozen BK112.out 0; have hfz17_1 := blk_frozen BK112.out 1; have hfz17_2 := blk_frozen BK112.out 2; have hfz17_3 := blk_frozen BK112.out 3; have hfz17_4 := blk_frozen BK112.out 4))
                  go_roundg k1
                  case measure => have := HK1.out; omega
                  case rel => exact ⟨(x5_1), (wrap64 (x10_1 + 1)), (by first | rfl | (simp; done) | (simp [*]; done)), (by first | rfl | (simp; done) | (simp [*]; done)), H', ⟨by have := HK1.out; omega⟩, ⟨by repeat (first | (with_reducible first | exact HB.out | apply below_alloc | apply pw_below_drewN | apply below_drew1 | refine below_set ?_ GE112.out) | exact HB.out)⟩⟩
            · rw [if_neg c6] at H
              have c6b0 : (((rd_T33 l0 x10_1).f2.f2) == a1) = false := beq_eq_false_iff_ne.mpr c6
              have c6b1 : (((rd_T33 l0 x10_1).f2.f2) != a1) = true := bne_iff_ne.mpr c6
              have H' := Aside0.mk H
              clear H
              have p111 : 0 ≤ (x10_1 : Int) := of_decide_eq_true (by first | (with_reducible assumption) | assumption)
              have q111 : x10_1 < (l0.length : Int) := of_decide_eq_true (by first | (with_reducible assumption) | assumption)
              obtain ⟨ad111, e111, hx111_0, hx111_1, hx111_2, hx111_3, hx111_4⟩ := at_T33 HR0.out x10_1 p111 q111
              cases e111
              replace hx111_0 := (HB.out.cell (World.block_lt_of_cell? w _ hx111_0)).trans hx111_0
              replace hx111_1 := (HB.out.cell (World.block_lt_of_cell? w _ hx111_1)).trans hx111_1
              replace hx111_2 := (HB.out.cell (World.block_lt_of_cell? w _ hx111_2)).trans hx111_2
              replace hx111_3 := (HB.out.cell (World.block_lt_of_cell? w _ hx111_3)).trans hx111_3
              replace hx111_4 := (HB.out.cell (World.block_lt_of_cell? w _ hx111_4)).trans hx111_4
              replace p111 := eq_true p111
              replace q111 := eq_true q111
              go_wp2_with (first | ((with_reducible refine gate_dst (N := 7) rfl ?_); refine box_event ?hg (N := 7) ?hd (cs := #[.int .i64 0, .int .i64 0, .int .i64 0, .int .i64 0, .int .i64 0]) (t := 33) ?hr ?_; (case hd => rfl); (case hg => rfl); (case hr => first | (go_simp; done) | (go_simp; rfl)); intro gb112 hg w18 hbox hb; have n0_ := Aside0.mk (below_step (by repeat (first | (with_reducible first | exact HB.out | apply below_alloc | apply pw_below_drewN | apply below_drew1) | exact HB.out)) hb); have n1_ := Aside0.mk (hbox); have n2_ := Aside0.mk ((by rw [hg]; exact (below_size (by repeat (first | (with_reducible first | exact HB.out | apply below_alloc | apply pw_below_drewN | apply below_drew1) | exact HB.out))) : w.heap.size ≤ gb112)); have n3_ := Aside0.mk ((by rw [hg]; exact (below_size (by repeat (first | (with_reducible first | exact HB.out | apply below_alloc | apply pw_below_drewN | apply below_drew1) | exact HB.out))) : w.heap.size ≤ gb112)); clear HB; have HB := n0_; have BK112 := n1_; have GW112 := n2_; have GE112 := n3_; clear n0_ n1_ n2_ n3_; clear hb hbox hg; have hcz19_0 : w18.cell? ⟨gb112, 0, none⟩ = some (.int .i64 0) := (blk_cell BK112.out 0).trans rfl; have hcz19_1 : w18.cell? ⟨gb112, 1, none⟩ = some (.int .i64 0) := (blk_cell BK112.out 1).trans rfl; have hcz19_2 : w18.cell? ⟨gb112, 2, none⟩ = some (.int .i64 0) := (blk_cell BK112.out 2).trans rfl; have hcz19_3 : w18.cell? ⟨gb112, 3, none⟩ = some (.int .i64 0) := (blk_cell BK112.out 3).trans rfl; have hcz19_4 : w18.cell? ⟨gb112, 4, none⟩ = some (.int .i64 0) := (blk_cell BK112.out 4).trans rfl; have hfz19_0 := blk_frozen BK112.out 0; have hfz19_1 := blk_frozen BK112.out 1; have hfz19_2 := blk_frozen BK112.out 2; have hfz19_3 := blk_frozen BK112.out 3; have hfz19_4 := blk_frozen BK112.out 4))
              go_roundg k1
              case measure => have := HK1.out; omega
              case rel => exact ⟨(x5_1), (wrap64 (x10_1 + 1)), (by first | rfl | (simp; done) | (simp [*]; done)), (by first | rfl | (simp; done) | (simp [*]; done)), H', ⟨by have := HK1.out; omega⟩, ⟨by repeat (first | (with_reducible first | exact HB.out | apply below_alloc | apply pw_below_drewN | apply below_drew1 | refine below_set ?_ GE112.out) | exact HB.out)⟩⟩
          · rw [if_neg c5] at H
            exact absurd H (by simp)
        · rw [if_neg c4] at H
          exact absurd H (by simp)
      · rw [if_neg c3] at H
        have c3b0 : decide (x10_1 < (l0.length : Int)) = false := decide_eq_false c3
        clear c3
        obtain rfl := Option.some.inj H
        go_wp2
        go_ret
        exact ⟨by first | rfl | (simp [errW_none, errW_some] <;> rfl) | (simp [*, errW_none, errW_some] <;> rfl), by repeat (first | (with_reducible first | exact HB.out | apply below_alloc | apply pw_below_drewN | apply below_drew1) | exact HB.out)⟩

end Go.Proofs.Ytjdjmhagafmkaaa.PX
