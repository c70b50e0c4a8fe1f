/-
  Texts of this claim, one behind the other: Base, Words, Kd, OpenK, PXx0, Words2, Cut, CLine, BlkAt, CRoot, Raw, Side, Over, OwnWords, SpRow, Ins, TreapLaw, TreapWalk, TreapPri, TreapSeeR, TreapOn, TreapSeek, TreapHeavy, TreapOk, TreapFind, TreapOwn, TreapLink, TreapDelLaw, TreapRep, TreapRep2, TreapKeys, TreapRep3, TreapRep4, TreapRep5, TreapRep6, TreapRep7. All are cut down to the theorems that the claim leans on; those named W.. and PXx.. were written by the kit's print.
-/
import Derived.Test.YtnjnjajgpkmfhaaBSemaGrants1
import Derived.Test.YtnjnjajgpkmfhaaProg
import Derived.WalkKit
import Derived.WalkSpells
import Derived.WalkLawsBesides
import Derived.Lib.Hide
import Derived.Laws.StructEq
import Derived.ChangeSame
import Derived.ProofKit
import Derived.OpenShut
import Derived.Maps.AppendAt
import Derived.Deep.AppendLies
import Derived.Deep.Draws
import Derived.Deep.Slices
import Derived.Deep.Fields
import Derived.Lib.SmallJoins
import Derived.Laws.OwnMore
import Derived.Laws.Rows
import Derived.RegionTactic
import Derived.OwnWalk
import Derived.Below
import Derived.Laws.BytesArg
import Derived.Laws.MakeOwn
import Derived.Deep.OwnRows
import Derived.Tactics
import Derived.Lib.ConvBytes
import Derived.Laws.Slices
import Derived.KernelRfl
import Derived.RowKit3
import Derived.Deep.LoopGhost
import Derived.Deep.QuietTactic
import Derived.BigQuiet
import Derived.WideLaws
import Derived.Deep.DeepCutAuto
import Derived.Deep.CutBlock
import Derived.Deep.RegionHeld3
import Derived.Lib.AppendStr
import Derived.ArgAppend
import Derived.Laws.IdiomCopy
import Derived.OrdersHeld
import Derived.Laws.BitsLemmas
import Derived.RowKit
import Derived.Laws.Entries
import Derived.Laws.CopyRow
import Derived.WalkMore
import Derived.Deep.MidRow
import Derived.Deep.Upon
import Derived.Shelf.RegionOpenPlain
import Derived.Lib.AppendZeros
import Derived.Lib.Overlaps
import Derived.Laws.Externs
import Derived.ScopeJumps
import Derived.WalkSmall
/-
 Small lemmas that every text of this seat uses: steps of 'Below' in a row, numbers modulo 2^60, the row's last step over 'Below'.
-/
namespace Go.Proofs.Ytnjnjajgpkmfhaa
open Go.RowKit Go.WideShapes Go.ChangeShapes

/-- Two steps, one behind the other. -/
theorem bthen {w a b : World} (h : Below w.heap.size w a) (k : Below a.heap.size a b) : Below w.heap.size w b := h.trans (k.mono h.size)
theorem ret_bool {a b : Bool} (h : a = b) : Ending.returned (.bool a) = .returned (.bool b) := by rw [h]
theorem ret_int {k : IntKind} {a b : Int} (h : a = b) : Ending.returned (.int k a) = .returned (.int k b) := by rw [h]

section
variable {H : Type} {enc : TypeId × Value → H} {P : Program}
theorem post_of_below {f : Func} {s : ChangeSpec} {apart fresh handsOn again : Bool} {W W' : World} {args : Array Value} {v : Value} {ds gs : List (DataW H)} {before pa pv : List MemPlace}
  (hW : DataW.Whole enc P f.params.toList s.vars apart W args.toList ds gs before)
  (hres : ∀ (b : Nat) (sp : Nat → Bool) (hd : Bool), DataW.TrodAll enc P W' b sp hd f.resultTypes.toList (v.resultList f.resultTypes.size) (s.fn H (ds ++ gs)).results [])
  (hargs : ∀ sp : Nat → Bool, (∀ p ∈ before, sp p.block = true) → DataW.TrodAll enc P W' 0 sp true f.params.toList args.toList (s.fn H (ds ++ gs)).args pa)
  (hvars : ∀ sp : Nat → Bool, (∀ p ∈ before, sp p.block = true) → DataW.TrodVars enc P W' sp s.vars (s.fn H (ds ++ gs)).vars pv)
  (hps : before = pa ++ pv) (hb : Below W.heap.size W W')
  (hok : ∀ (j : Nat) (t : TypeId) (r : Value), f.resultTypes[j]? = some t → (v.resultList f.resultTypes.size)[j]? = some r → Value.okWide P W' .any 0 t r) :
  s.post enc P f apart fresh handsOn again W args v W' := by
 have hlt : ∀ p ∈ before, p.block < W.heap.size := fun p hp => hW.lt p hp
 have hold : ∀ p ∈ before, (fun b => decide (b < W.heap.size)) p.block = true := fun p hp => by simpa using hlt p hp
 refine ⟨ds, gs, before, [], pa, pv, hW, hres _ _ _, hargs _ hold, hvars _ hold, World.keptBut_mono (fun p hp => ⟨hp, ?_⟩) (hb.frame (· ∈ before)), fun _ => ?_⟩
 ·rw [hps, List.mem_append] at hp
  exact Or.inr hp
 ·obtain ⟨_, _, _, _, _, hz, hn⟩ := hW
  refine ⟨hok, _, _, ([] ++ pa) ++ pv, ⟨[] ++ pa, pv, trodAll_append (hargs _ (fun _ _ => rfl)) (hres _ _ _), hvars _ (fun _ _ => rfl), rfl, ?_, ?_⟩, ?_⟩
  ·intro b off hp
   have hin : MemPlace.cell b off ∈ before := by rw [hps]; simpa using hp
   rw [hb.frozen (hlt _ hin)]
   exact hz b off hin
  ·intro ha
   have := hn ha
   rw [hps] at this
   simpa using this
  ·intro p hp _
   rw [hps]
   simpa using hp
end
section
variable {H : Type} {enc : TypeId × Value → H} {P : Program}
/-- All arguments read as they did, where nothing that was there has turned. -/
theorem trodAll_stays (hl : laidOutB P = true) {W W' : World} {base : Nat} {sp' : Nat → Bool} : ∀ {ts : List TypeId} {vs : List Value} {ds : List (DataW H)} {ps : List MemPlace},
  ts.all (fun t => P.readableRec t && decide (t < P.types.size)) = true → DataW.TrodAll enc P W base (fun _ => true) true ts vs ds ps → (∀ p ∈ ps, W.sameAt W' p) → (∀ p ∈ ps, sp' p.block = true) → DataW.TrodAll enc P W' base sp' true ts vs ds ps
 | [], [], [], _, _, h, _, _ => h
 | t :: ts, v :: vs, d :: ds, ps, ht, ⟨p, q, h1, h2, hp⟩, hs, hm => by
  simp only [List.all_cons, Bool.and_eq_true, decide_eq_true_eq] at ht
  subst hp
  exact ⟨p, q, Go.WideElems.Trod_stays hl ht.1.1 ht.1.2 h1 (fun x hx => hs x (by simp [hx])) (fun x hx => hm x (by simp [hx])), trodAll_stays hl ht.2 h2 (fun x hx => hs x (by simp [hx])) (fun x hx => hm x (by simp [hx])), rfl⟩
 | [], [], _ :: _, _, _, h, _, _ => h.elim
 | [], _ :: _, _, _, _, h, _, _ => h.elim
 | _ :: _, [], _, _, _, h, _, _ => h.elim
 | _ :: _, _ :: _, [], _, _, h, _, _ => h.elim

/-- The last step of a law's row: it has returned true, and nothing that was there has turned. -/
theorem law_post {f : Func} {s : ChangeSpec} {bt : TypeId} {W W' : World} {args : Array Value} {ds : List (DataW H)} {before : List MemPlace}
  (hl : laidOutB P = true) (hts : f.params.toList.all (fun t => P.readableRec t && decide (t < P.types.size)) = true) (hrt : f.resultTypes = #[bt]) (hbt : P.underlying bt = some .bool) (hsv : s.vars = [])
  (hW : DataW.Whole enc P f.params.toList s.vars false W args.toList ds [] before) (hs : s.fn H (ds ++ []) = { results := [.lit (.bool true)], args := ds }) (hb : Below W.heap.size W W') :
  s.post enc P f false true false false W args (.bool true) W' := by
 have hlt : ∀ p ∈ before, p.block < W.heap.size := fun p hp => hW.lt p hp
 have hW' := hW
 obtain ⟨p, q, hA, hV, hpq, _, _⟩ := hW'
 rw [hsv] at hV
 obtain ⟨_, hq⟩ := trodVars_none hV
 subst hq
 rw [List.append_nil] at hpq
 subst hpq
 refine post_of_below (pa := before) (pv := []) hW ?_ ?_ ?_ (by simp) hb ?_
 ·intro b sp hd
  rw [hs, hrt]
  exact trodAll_cons_mk (shut_bool hbt _) trodAll_mk0
 ·intro sp hsp
  rw [hs]
  exact trodAll_stays hl hts hA (fun x hx => hb.same (hlt x hx)) (fun x hx => hsp x hx)
 ·intro sp _
  rw [hs, hsv]
  rfl
 ·exact ok_one hrt rfl (okWide_bool_mk hbt _)
end

end Go.Proofs.Ytnjnjajgpkmfhaa

/-
 Words for memory: a slice that reads as a list, a block that is known whole, an append onto a row of the call's own; arguments opened to them.
-/
namespace Go.Proofs.Ytnjnjajgpkmfhaa
open Go.RowKit

theorem block_of_add (a : Addr) (n : Nat) : (a.add n).block = a.block := by unfold Addr.add; split <;> rfl
theorem add_of_add (a : Addr) (i j : Nat) : (a.add i).add j = a.add (i + j) := by
 unfold Addr.add
 by_cases hi : i = 0 <;> by_cases hj : j = 0 <;> simp [hi, hj, Nat.add_assoc]

def Reads (w : World) (B size : Nat) (A : Option Addr) (n : Nat) (xs : List Value) : Prop :=
 xs.length = n * size ∧ (0 < n → ∃ ad, A = some ad ∧ ad.block < B ∧ ∀ j u, xs[j]? = some u → w.cell? (ad.add j) = some u)

section
variable {w w' : World} {B B' size n : Nat} {A : Option Addr} {xs : List Value}
theorem Reads.at_ {k : Nat} (h : Reads w B 1 A n xs) (hk : k < n) : ∃ ad u, A = some ad ∧ ad.block < B ∧ xs[k]? = some u ∧ w.cell? (ad.add k) = some u := by
 obtain ⟨ad, e, hb, hc⟩ := h.2 (by omega)
 have hl : k < xs.length := by have := h.1; omega
 exact ⟨ad, xs[k], e, hb, List.getElem?_eq_getElem hl, hc k _ (List.getElem?_eq_getElem hl)⟩
theorem Reads.keep (h : Reads w B size A n xs) (hk : ∀ p : Addr, p.block < B → w'.cell? p = w.cell? p) : Reads w' B size A n xs :=
 ⟨h.1, fun hn => by
  obtain ⟨ad, e, hb, hc⟩ := h.2 hn
  exact ⟨ad, e, hb, fun j u hu => (hk _ (by rw [block_of_add]; exact hb)).trans (hc j u hu)⟩⟩
theorem Reads.more (h : Reads w B size A n xs) (hB : B ≤ B') : Reads w B' size A n xs :=
 ⟨h.1, fun hn => by
  obtain ⟨ad, e, hb, hc⟩ := h.2 hn
  exact ⟨ad, e, by omega, hc⟩⟩
theorem Reads.below (h : Reads w B size A n xs) (hb : Below B w w') : Reads w' B size A n xs := h.keep fun _ hp => hb.cell hp
theorem Reads.alloc (h : Reads w B size A n xs) (hB : B ≤ w.heap.size) (o : Obj) : Reads (w.alloc o) B size A n xs := h.keep fun p hp => World.cell?_alloc_lt w o p (by omega)
theorem Reads.setCell (h : Reads w B size A n xs) {p : Addr} (hB : B ≤ p.block) (u : Value) : Reads (w.setCell p u) B size A n xs :=
 h.keep fun q hq => World.cell?_setCell_other w p q u (fun e => by subst e; omega)
theorem Reads.cut (h : Reads w B size A n xs) {k cap : Nat} (hk : k ≤ n) (hc : n ≤ cap) :
  Reads w B size (if cap = k then A else A.map (·.add (k * size))) (n - k) (xs.drop (k * size)) := by
 refine ⟨by rw [List.length_drop, h.1, Nat.sub_mul], fun hn => ?_⟩
 obtain ⟨ad, rfl, hb, hcell⟩ := h.2 (by omega)
 rw [if_neg (by omega)]
 refine ⟨ad.add (k * size), rfl, by rw [block_of_add]; exact hb, fun j u hu => ?_⟩
 rw [add_of_add]
 exact hcell _ u (by rw [← hu, List.getElem?_drop])
theorem Reads.of_own {base : Nat} {e : TypeId} {c : Nat} (h : w.ownsRow base e size (.slice A n c) n xs) : Reads w w.heap.size size A n xs := by
 refine ⟨h.1, fun hn => ?_⟩
 obtain ⟨g, cap, hv, _, hlt⟩ := h.form hn
 have hA : A = some ⟨g, 0, none⟩ := by injection hv
 subst hA
 exact ⟨_, rfl, hlt, h.cells (g := g) rfl⟩
end

def Blk (w : World) (g : Nat) (t : TypeId) (cs : Array Value) : Prop := w.heap[g]? = some (.cells cs t (0, 0))

section
variable {w w' : World} {g : Nat} {t : TypeId} {cs : Array Value}
theorem Blk.lt (h : Blk w g t cs) : g < w.heap.size := by
 rcases Nat.lt_or_ge g w.heap.size with hlt | hge
 ·exact hlt
 ·unfold Blk at h; rw [Array.getElem?_eq_none hge] at h; cases h
theorem Blk.cell (h : Blk w g t cs) (i : Nat) : w.cell? ⟨g, i, none⟩ = cs[i]? := cell_of_row w g i cs t (0, 0) h
theorem Blk.frozen (h : Blk w g t cs) (i : Nat) : w.frozen? ⟨g, i, none⟩ = false := by
 unfold Blk at h
 simp [World.frozen?, h]
theorem Blk.new (w : World) (t : TypeId) (cs : Array Value) : Blk (w.alloc (.cells cs t)) w.heap.size t cs := heap_alloc_new w _
theorem Blk.drew (h : Blk w g t cs) : Blk w.drew g t cs := h
theorem Blk.drewN (h : Blk w g t cs) (n : Nat) : Blk (w.drewN n) g t cs := h
theorem Blk.alloc (h : Blk w g t cs) (o : Obj) : Blk (w.alloc o) g t cs := (Below.heap_alloc w o g h.lt).trans h
theorem Blk.set_ (h : Blk w g t cs) (i : Nat) (u : Value) : Blk (w.setCell ⟨g, i, none⟩ u) g t (cs.setIfInBounds i u) := by
 unfold Blk at h ⊢
 simp [World.setCell, Array.getElem?_modify, h]
theorem Blk.far (h : Blk w g t cs) {p : Addr} (hp : g ≠ p.block) (u : Value) : Blk (w.setCell p u) g t cs := (Below.heap_setCell w p u g hp).trans h
theorem Blk.below {B : Nat} (h : Blk w g t cs) (hb : Below B w w') (hg : g < B) : Blk w' g t cs := (hb.block g hg).trans h
theorem Blk.grown {row : Option Nat} (h : Blk w g t cs) (hb : w.grownBy w' row) (hg : some g ≠ row) : Blk w' g t cs := (hb.block g h.lt hg).trans h
theorem Blk.ne_ {g' : Nat} {t' : TypeId} {cs' : Array Value} (h : Blk w g t cs) (h' : Blk w g' t' cs') (hne : t ≠ t') : g ≠ g' := by
 rintro rfl
 unfold Blk at h h'
 rw [h] at h'
 injection h' with h'
 injection h' with _ ht
 exact hne ht
theorem own_blk_ne {base : Nat} {e : TypeId} {size n : Nat} {v : Value} {xs : List Value} (h : w.ownsRow base e size v n xs) (hg : Blk w g t cs) (hne : e ≠ t) : v.ownBlock ≠ some g := by
 rcases h.2 with ⟨rfl, _⟩ | ⟨g', cap, cur, rfl, _, hh, _⟩
 ·simp [Value.ownBlock]
 ·intro he
  have : g' = g := by simpa [Value.ownBlock] using he
  subst this
  exact Blk.ne_ (t := e) hh hg hne rfl
end

section
variable {P : Program} (w : World)

theorem run_append_of_nil (base : Nat) (t ty e : TypeId) (i : TypeInfo) (size : Nat) (ht : P.underlying t = some (.slice e)) (hi : P.info? e = some i)
  (v : Value) (n : Nat) (xs : List Value) (hown : w.ownsRow base e size v n xs) (c : Nat) : (Builtin.append_ #[t, t] ty #[v, .slice none 0 c]).run P w = .ok v w := by
 rcases hown.2 with ⟨rfl, rfl⟩ | ⟨g, cap, cur, rfl, _, _, hnc, _⟩
 ·simp [Builtin.append_, run_underlying ht, sizeOf, typeInfo, hi, Builtin.lenOf, Builtin.firstCells]
 ·simp [Builtin.append_, run_underlying ht, sizeOf, typeInfo, hi, Builtin.lenOf, Builtin.firstCells, hnc, storeCells]

theorem run_append_any (base : Nat) (t ty e : TypeId) (i : TypeInfo) (z : Value) (size bytes : Nat) (ht : P.underlying t = some (.slice e)) (hi : P.info? e = some i) (hz : i.zero = some z)
  (hsize : i.size = size) (hby : i.bytes = bytes) (hzs : z.cells.size = size) (hsz : 0 < size)
  (v : Value) (n : Nat) (xs : List Value) (hown : w.ownsRow base e size v n xs)
  (B : Nat) (A : Option Addr) (m c : Nat) (news : List Value) (hr : Reads w B size A m news) (h1 : ∀ u ∈ news, u.oneCell' = true)
  (h63 : n + m ≤ maxLen) (hbytes : (n + m) * bytes ≤ 140737488355328) (hbase : base ≤ w.heap.size) :
  ∃ v' w', (Builtin.append_ #[t, t] ty #[v, .slice A m c]).run P w = .ok v' w' ∧ w'.ownsRow base e size v' (n + m) (xs ++ news) ∧ w.grownBy w' v.ownBlock ∧
   (v'.ownBlock = v.ownBlock ∨ v'.ownBlock = some w.heap.size) := by
 rcases A with _ | ad
 ·have hm : m = 0 := by
   rcases Nat.eq_zero_or_pos m with h0 | h0
   ·exact h0
   ·obtain ⟨ad, h, _⟩ := hr.2 h0
    cases h
  subst hm
  have hn : news = [] := List.eq_nil_of_length_eq_zero (by simpa using hr.1)
  subst hn
  exact ⟨v, w, run_append_of_nil w base t ty e i size ht hi v n xs hown c, by simpa using hown, World.grownBy.refl w _, .inl rfl⟩
 ·have hcells : ∀ j u, news[j]? = some u → w.cell? (ad.add j) = some u := by
   intro j u hu
   rcases Nat.eq_zero_or_pos m with h0 | h0
   ·subst h0
    have hn : news = [] := List.eq_nil_of_length_eq_zero (by simpa using hr.1)
    subst hn
    simp at hu
   ·obtain ⟨ad', h, _, hc⟩ := hr.2 h0
    injection h with h
    subst h
    exact hc j u hu
  obtain ⟨v', w', hrun, h2, h3, _, h5⟩ := run_append_own_at (P := P) w base t ty e i z size bytes ht hi hz hsize hby hzs hsz v n xs hown ad m c news hr.1 hcells h1 h63 hbytes hbase
  exact ⟨v', w', hrun, h2, h3, h5⟩

theorem wp_append_any {o : Oper} {a : Act} {K : Act → World → Prop} {Q : Exit → Act → World → Prop} (s x : Operand) (t : TypeId)
  (ho : o.op = .call { callee := .builtin .append, args := #[s, x], argTypes := #[t, t] })
  (base : Nat) (e : TypeId) (i : TypeInfo) (z : Value) (size bytes : Nat) (ht : P.underlying t = some (.slice e)) (hi : P.info? e = some i) (hz : i.zero = some z)
  (hsize : i.size = size) (hby : i.bytes = bytes) (hzs : z.cells.size = size) (hsz : 0 < size)
  (v : Value) (n : Nat) (xs : List Value) (hs : a.eval s = v) (hown : w.ownsRow base e size v n xs)
  (B : Nat) (A : Option Addr) (m c : Nat) (news : List Value) (hx : a.eval x = .slice A m c) (hr : Reads w B size A m news) (h1 : ∀ u ∈ news, u.oneCell' = true)
  (h63 : n + m ≤ maxLen) (hbytes : (n + m) * bytes ≤ 140737488355328) (hbase : base ≤ w.heap.size)
  (h : ∀ v' w', w'.ownsRow base e size v' (n + m) (xs ++ news) → w.grownBy w' v.ownBlock → (v'.ownBlock = v.ownBlock ∨ v'.ownBlock = some w.heap.size) → K (a.put o.dst v') w') : o.wp P a w K Q := by
 obtain ⟨v', w', hrun, h2, h3, h4⟩ := run_append_any (P := P) w base t o.type e i z size bytes ht hi hz hsize hby hzs hsz v n xs hown B A m c news hr h1 h63 hbytes hbase
 unfold Oper.wp execOp
 simp only [ho, resolve, invoke, builtin, Sem.run_bind, Sem.run_pure, Result.andThen_ok, List.map_toArray, List.map_cons, List.map_nil, hs, hx, hrun]
 exact h v' w' h2 h3 h4

theorem wpList_append_any {ops : Array Oper} {rest : List Oper} {o : Oper} {a : Act} {Q : Exit → Act → World → Prop} (hgd : o.guard = none) (s x : Operand) (t : TypeId)
  (ho : o.op = .call { callee := .builtin .append, args := #[s, x], argTypes := #[t, t] })
  (base : Nat) (e : TypeId) (i : TypeInfo) (z : Value) (size bytes : Nat) (ht : P.underlying t = some (.slice e)) (hi : P.info? e = some i) (hz : i.zero = some z)
  (hsize : i.size = size) (hby : i.bytes = bytes) (hzs : z.cells.size = size) (hsz : 0 < size)
  (v : Value) (n : Nat) (xs : List Value) (hs : a.eval s = v) (hown : w.ownsRow base e size v n xs)
  (B : Nat) (A : Option Addr) (m c : Nat) (news : List Value) (hx : a.eval x = .slice A m c) (hr : Reads w B size A m news) (h1 : ∀ u ∈ news, u.oneCell' = true)
  (h63 : n + m ≤ maxLen) (hbytes : (n + m) * bytes ≤ 140737488355328) (hbase : base ≤ w.heap.size)
  (h : ∀ v' w', w'.ownsRow base e size v' (n + m) (xs ++ news) → w.grownBy w' v.ownBlock → (v'.ownBlock = v.ownBlock ∨ v'.ownBlock = some w.heap.size) → wpList P ops Q rest (a.put o.dst v') w') : wpList P ops Q (o :: rest) a w :=
 wpList_plain hgd fun _ hK => wp_append_any w s x t ho base e i z size bytes ht hi hz hsize hby hzs hsz v n xs hs hown B A m c news hx hr h1 h63 hbytes hbase fun v' w' h2 h3 h4 => hK _ _ (h v' w' h2 h3 h4)

theorem step_append_any {ops : Array Oper} {o : Oper} {a : Act} {K : Act → World → Prop} {Q : Exit → Act → World → Prop} {E : Prop} (hgd : o.guard = none) (s x : Operand) (t : TypeId)
  (ho : o.op = .call { callee := .builtin .append, args := #[s, x], argTypes := #[t, t] })
  (base : Nat) (e : TypeId) (i : TypeInfo) (z : Value) (size bytes : Nat) (ht : P.underlying t = some (.slice e)) (hi : P.info? e = some i) (hz : i.zero = some z)
  (hsize : i.size = size) (hby : i.bytes = bytes) (hzs : z.cells.size = size) (hsz : 0 < size)
  (v : Value) (n : Nat) (xs : List Value) (hs : a.eval s = v) (hown : w.ownsRow base e size v n xs)
  (B : Nat) (A : Option Addr) (m c : Nat) (news : List Value) (hx : a.eval x = .slice A m c) (hr : Reads w B size A m news) (h1 : ∀ u ∈ news, u.oneCell' = true)
  (h63 : n + m ≤ maxLen) (hbytes : (n + m) * bytes ≤ 140737488355328) (hbase : base ≤ w.heap.size)
  (h : ∀ v' w', w'.ownsRow base e size v' (n + m) (xs ++ news) → w.grownBy w' v.ownBlock → (v'.ownBlock = v.ownBlock ∨ v'.ownBlock = some w.heap.size) → K (a.put o.dst v') w') :
  if Region.wanted o (yielded ops a.tmps) = true then Oper.wp P o a w K Q else E := by
 have hw : Region.wanted o (yielded ops a.tmps) = true := by simp [Region.wanted, hgd]
 rw [if_pos hw]
 exact wp_append_any w s x t ho base e i z size bytes ht hi hz hsize hby hzs hsz v n xs hs hown B A m c news hx hr h1 h63 hbytes hbase h
end

theorem lt_of_cell {w : World} {a : Addr} {v : Value} (h : w.cell? a = some v) : a.block < w.heap.size := by
 by_cases hn : a.block < w.heap.size
 ·exact hn
 ·have h0 : w.heap[a.block]? = none := Array.getElem?_eq_none (by omega)
  simp [World.cell?, h0] at h

/-- The k-th of some ints. -/
theorem Reads.int_at {w : World} {B n k : Nat} {A : Option Addr} {zs : List Int} (h : Reads w B 1 A n (zs.map (Value.int .i64))) (hk : k < n) :
  ∃ ad z, A = some ad ∧ ad.block < B ∧ zs[k]? = some z ∧ w.cell? (ad.add k) = some (.int .i64 z) := by
 obtain ⟨ad, u, hA, hb, hx, hc⟩ := h.at_ hk
 rw [List.getElem?_map] at hx
 cases hz : zs[k]? with
 | none => rw [hz] at hx; cases hx
 | some z =>
  rw [hz] at hx
  simp at hx
  exact ⟨ad, z, hA, hb, rfl, by rw [hx]; exact hc⟩
theorem Reads.int_len {w : World} {B n : Nat} {A : Option Addr} {zs : List Int} (h : Reads w B 1 A n (zs.map (Value.int .i64))) : zs.length = n := by
 have := h.1
 simpa using this

/-- The cells of structs, one behind the other. -/
theorem flat_at {α β : Type} (c : α → List β) (m : Nat) (hm : ∀ x, (c x).length = m) : ∀ (l : List α) (k j : Nat) (x : α), l[k]? = some x → j < m → (l.flatMap c)[k * m + j]? = (c x)[j]?
 | [], _, _, _, h, _ => by simp at h
 | y :: l, 0, j, x, h, hj => by
  simp at h
  subst h
  rw [List.flatMap_cons, Nat.zero_mul, Nat.zero_add, List.getElem?_append_left (by rw [hm]; exact hj)]
 | y :: l, k + 1, j, x, h, hj => by
  rw [List.getElem?_cons_succ] at h
  rw [List.flatMap_cons, List.getElem?_append_right (by rw [hm, Nat.add_mul]; omega), hm, show (k + 1) * m + j - m = k * m + j by rw [Nat.add_mul]; omega]
  exact flat_at c m hm l k j x h hj
theorem flat_len {α β : Type} (c : α → List β) (m : Nat) (hm : ∀ x, (c x).length = m) : ∀ (l : List α), (l.flatMap c).length = l.length * m
 | [] => by simp
 | y :: l => by rw [List.flatMap_cons, List.length_append, hm, flat_len c m hm l, List.length_cons, Nat.add_mul]; omega

section
open Go.ChangeShapes Go.WideShapes
variable {H : Type} {enc : TypeId × Value → H} {P : Program}
end

end Go.Proofs.Ytnjnjajgpkmfhaa

/-
 Between the words of these texts (Reads, ownsRow) and the print's (Kd.C, Kd.R): a row of elements that are flat.
-/
namespace Go.Proofs.Ytnjnjajgpkmfhaa
open Go.RowKit Go.Proofs.YtnjnjajgpkmfhaaW.PrintWords

theorem flat_split {α β : Type} (c : α → List β) (m : Nat) (hm : ∀ x, (c x).length = m) (hs : 0 < m) {l : List α} {j : Nat} {u : β} (h : (l.flatMap c)[j]? = some u) : ∃ x, l[j / m]? = some x ∧ (c x)[j % m]? = some u := by
 have hl := flat_len c m hm l
 have hj : j < l.length * m := by rw [← hl]; exact (List.getElem?_eq_some_iff.1 h).1
 have hq : j / m < l.length := (Nat.div_lt_iff_lt_mul hs).2 hj
 refine ⟨l[j / m], List.getElem?_eq_getElem hq, ?_⟩
 have := flat_at c m hm l (j / m) (j % m) _ (List.getElem?_eq_getElem hq) (Nat.mod_lt _ hs)
 rw [← this, Nat.div_add_mod']
 exact h
theorem reads_of_rows {α : Type} {R : α → List Value → Prop} {size : Nat} {w : World} {A : Option Addr} {n : Nat} {ps : List α} (c : α → List Value) (hm : ∀ x, (c x).length = size) (hs : 0 < size) (hR : ∀ p cs, R p cs → cs = c p) (h : ReadsRow R size w A n ps) : Reads w w.heap.size size A n (ps.flatMap c) := by
 refine ⟨by rw [flat_len c size hm, h.1], fun hn => ?_⟩
 obtain ⟨ad, rfl, hc⟩ := h.2.2 hn
 have hcell : ∀ j u, (ps.flatMap c)[j]? = some u → w.cell? (ad.add j) = some u := fun j u hu => by
  obtain ⟨x, hx, hu2⟩ := flat_split c size hm hs hu
  obtain ⟨cs, _, hr, hcs⟩ := hc _ x hx
  rw [hR x cs hr] at hcs
  have := hcs _ u hu2
  rwa [Nat.div_add_mod'] at this
 refine ⟨ad, rfl, ?_, hcell⟩
 have h0 : 0 < (ps.flatMap c).length := by rw [flat_len c size hm, h.1]; exact Nat.mul_pos hn hs
 have := lt_of_cell (hcell 0 _ (List.getElem?_eq_getElem h0))
 rwa [block_of_add] at this
/-- A row of the call's own, of flat elements, as the print tells it. -/
theorem kd_own {α : Type} {d : Kd α} {e : TypeId} {w : World} {base n : Nat} {v : Value} {xs : List α} (c : α → List Value) (hm : ∀ x, (c x).length = d.sz) (hR : ∀ ok x, d.M w base ok x (c x)) (h : w.ownsRow base e d.sz v n (xs.flatMap c)) (hn : n = xs.length) : Kd.R d e w base (fun _ => True) v xs := by
 subst hn
 refine ⟨fun _ _ => trivial, xs.flatMap c, h, flat_len c d.sz hm xs, fun j p hj => ?_⟩
 have e : ((xs.flatMap c).drop (j * d.sz)).take d.sz = c p := by
  apply List.ext_getElem?
  intro i
  rw [List.getElem?_take]
  split
  ·rename_i hi
   rw [List.getElem?_drop]
   exact flat_at c d.sz hm xs j i p hj hi
  ·rename_i hi
   rw [List.getElem?_eq_none (by rw [hm]; omega)]
 rw [e]
 exact hR _ p
/-- A row of ints. -/
theorem flat_ints (zs : List Int) : (zs.map (Value.int .i64)) = zs.flatMap (fun z => [Value.int .i64 z]) := by
 induction zs with
 | nil => rfl
 | cons z zs ih => simp [ih]
theorem reads_ints {w : World} {A : Option Addr} {n : Nat} {zs : List Int} (h : Kd.C (Kd.int .i64) w A n zs) : Reads w w.heap.size 1 A n (zs.map (Value.int .i64)) := by
 rw [flat_ints]
 exact reads_of_rows (R := (Kd.int .i64).K w) (fun z => [Value.int .i64 z]) (fun _ => rfl) (by decide) (fun _ _ h => h) h
end Go.Proofs.Ytnjnjajgpkmfhaa

/-
 Arguments opened to the print's kinds: what a value of a type reads as, type by type: ints, bools, slices, structs in structs.
-/
namespace Go.Proofs.Ytnjnjajgpkmfhaa
open Go.RowKit Go.ChangeShapes Go.WideShapes Go.Deep Go.Proofs.YtnjnjajgpkmfhaaW.PrintWords

/-- Values of a type read as elements of a kind; wf: what is known of each. -/
def Opens {H : Type} (enc : TypeId × Value → H) (P : Program) (w : World) (T : TypeId) {α : Type} (d : Kd α) (wf : α → Prop) : Prop :=
 ∀ (fuel : Nat) (cs : List Value) (x : DataW H × List MemPlace), DataW.trod enc P w 0 (fun _ => true) true fuel T cs = some x → ∃ a, d.K w a cs ∧ wf a
/-- Fields in line, from an offset on. -/
def OpensF {H : Type} (enc : TypeId × Value → H) (P : Program) (w : World) (fs : List Field) (off : Nat) {α : Type} (d : Kd α) (wf : α → Prop) : Prop :=
 ∀ (n : Nat) (cs : List Value), cs.length = off + d.sz → (∀ f ∈ fs, ∃ y, DataW.trod enc P w 0 (fun _ => true) true n f.type ((cs.drop f.offset).take (P.cellsOf f.type)) = some y) → ∃ a, d.K w a (cs.drop off) ∧ wf a
section
variable {H : Type} {enc : TypeId × Value → H} {P : Program} {w : World}
theorem Opens.int {T : TypeId} {k : IntKind} (ht : P.underlying T = some (.int k)) : Opens enc P w T (Kd.int k) (fun z => (Lit.int k z).wf = true) := by
 intro fuel cs x h
 obtain ⟨n, rfl, _, hw⟩ := DataW.trod_int ht h
 exact ⟨n, rfl, hw⟩
theorem Opens.bool {T : TypeId} (ht : P.underlying T = some .bool) : Opens enc P w T Kd.bool (fun _ => True) := by
 intro fuel cs x h
 obtain ⟨n, rfl, _⟩ := DataW.trod_bool ht h
 exact ⟨n, rfl, trivial⟩
theorem Opens.slice {T e : TypeId} {α : Type} {d : Kd α} {wf : α → Prop} (ht : P.underlying T = some (.slice e)) (hc : P.cellsOf e = d.sz) (hd : Opens enc P w e d wf) : Opens enc P w T (Kd.slice e d) (fun l => ∀ x ∈ l, wf x) := by
 intro fuel cs x h
 rcases open_slice ht h with ⟨rfl, _⟩ | ⟨a, len, cap, m, n, D, Pl, rfl, _, hl, hm, hmm, _, hi⟩
 ·exact ⟨[], ⟨none, 0, rfl, Nat.le_refl _, Kd.C_nil _ _⟩, by simp⟩
 ·simp at hmm
  have hel : ∀ i, i < len → ∃ x : α, (∃ c, c.length = d.sz ∧ d.K w x c ∧ ∀ j u, c[j]? = some u → w.cell? (a.add (i * d.sz + j)) = some u) ∧ wf x := fun i hil => by
   obtain ⟨cs', hcs, ht'⟩ := hi i (by omega)
   obtain ⟨y, hk, hw⟩ := hd _ _ _ ht'
   rw [hc] at hcs
   obtain ⟨_, hcl, hat⟩ := World.cells?_some hcs
   refine ⟨y, ⟨cs', hcl, hk, fun j u hu => ?_⟩, hw⟩
   have hj : j < d.sz := by rw [← hcl]; exact (List.getElem?_eq_some_iff.1 hu).1
   rw [← Go.Deep.add_add, hat j hj]
   exact hu
  obtain ⟨l, hll, hP⟩ := list_of' len hel
  refine ⟨l, ⟨some a, cap, by rw [hll], by omega, hll ▸ rfl, by unfold maxLen at hm; omega, fun _ => ⟨a, rfl, fun j p hj => (hP j p hj).1⟩⟩, fun x hx => ?_⟩
  obtain ⟨i, hi⟩ := List.getElem?_of_mem hx
  exact (hP i x hi).2
where
 list_of' {α : Type} {Q : Nat → α → Prop} : ∀ (n : Nat), (∀ i, i < n → ∃ x, Q i x) → ∃ l : List α, l.length = n ∧ ∀ i x, l[i]? = some x → Q i x
 | 0, _ => ⟨[], rfl, by simp⟩
 | n + 1, h => by
  obtain ⟨l, hl, hP⟩ := list_of' n (fun i hi => h i (by omega))
  obtain ⟨x, hx⟩ := h n (by omega)
  refine ⟨l ++ [x], by simp [hl], fun i y hy => ?_⟩
  rcases Nat.lt_or_ge i n with hi | hi
  ·rw [List.getElem?_append_left (by omega)] at hy
   exact hP i y hy
  ·rw [List.getElem?_append_right (by omega)] at hy
   have : i = n := by
    rcases Nat.lt_or_ge n i with h1 | h1
    ·rw [List.getElem?_eq_none (by simp; omega)] at hy; cases hy
    ·omega
   subst this
   simp [hl] at hy
   exact hy ▸ hx
/-- A slice that came in. -/
theorem open_C {T e : TypeId} {α : Type} {d : Kd α} {wf : α → Prop} {r : Reach} {b0 : Nat} {v : Value} {dt : DataW H} {ps : List MemPlace} (ht : P.underlying T = some (.slice e)) (hc : P.cellsOf e = d.sz) (hd : Opens enc P w e d wf) (hv : Value.okWide P w r b0 T v) (h : DataW.Trod enc P w 0 (fun _ => true) true T v dt ps) :
  ∃ (A : Option Addr) (c : Nat) (l : List α), v = .slice A l.length c ∧ l.length ≤ c ∧ Kd.C d w A l.length l ∧ ∀ x ∈ l, wf x := by
 obtain ⟨A, n, c, rfl⟩ := okWide_slice ht hv
 obtain ⟨fuel, hf⟩ := h
 obtain ⟨l, ⟨A', c', hcs, hlc, hC⟩, hw⟩ := Opens.slice ht hc hd fuel _ _ hf
 simp [Value.cells] at hcs
 obtain ⟨rfl, rfl, rfl⟩ := hcs
 exact ⟨A, c, l, rfl, hlc, hC, hw⟩
end
end Go.Proofs.Ytnjnjajgpkmfhaa

namespace Go.Proofs.Ytnjnjajgpkmfhaa.PX
open Go.RowKit Go.Proofs.YtnjnjajgpkmfhaaW.PrintWords Go.Proofs.YtnjnjajgpkmfhaaW.PrintLast Go.Proofs.YtnjnjajgpkmfhaaW.PrintMore
attribute [local go_sem] max2_int min2_int max_two min_two max_three min_three max_four min_four   -- for this text's walks alone
set_option linter.unusedVariables false
set_option linter.unusedSimpArgs false



def errW : Option Int → Value
 | none => .nilIface
 | some c => .iface 0 (.int .i64 c)
theorem errW_none : errW none = .nilIface := rfl
theorem errW_some (c : Int) : errW (some c) = .iface 0 (.int .i64 c) := rfl

theorem info3 : (Try.prog.info? 3).map (fun i => (i.zero, i.size, i.bytes)) = some (some (.int .i64 0), 1, 8) := by kernel_rfl
-- the values' own types
def rd_L1 (xs : List (List Int)) (i : Int) : (List Int) := xs.getD i.toNat ([] : List Int)
theorem at_L1 {w : World} {A : Option Addr} {n : Nat} {xs : List (List Int)} (h : Kd.C (Kd.slice 3 (Kd.int .i64)) w A n xs) (i : Int) (h0 : 0 ≤ i) (h1 : i < n) : ∃ ad A0 c0, A = some ad ∧ w.cell? (ad.add i.toNat) = some (.slice A0 (rd_L1 xs i).length c0) ∧ (rd_L1 xs i).length ≤ c0 ∧ (Kd.int .i64).C w A0 (rd_L1 xs i).length (rd_L1 xs i) := by
 obtain ⟨ad, c, e, _, hK, hc0⟩ := Kd.C_get h ([] : List Int) i h0 h1
 have hc : ∀ j u, c[j]? = some u → w.cell? (ad.add (i.toNat * 1 + j)) = some u := hc0
 obtain ⟨A0, c0, rfl, l0, g0⟩ := hK
 exact ⟨ad, A0, c0, e, by have hq := hc 0 _ rfl; rwa [Nat.mul_one, Nat.add_zero] at hq, l0, g0⟩

/-! #### struct type 33 -/
structure S33 where
 f0 : Int
 f1 : Int
 f2 : (List Int)
def z33 : S33 := ⟨(0 : Int), (0 : Int), ([] : List Int)⟩
def k33 : Kd S33 := Kd.iso (Kd.pair (Kd.int .i64) (Kd.pair (Kd.int .i64) (Kd.slice 3 (Kd.int .i64)))) (fun x : S33 => (x.f0, x.f1, x.f2))
theorem k33_heap : Kd.Heap k33 := Kd.heap_iso _ (Kd.heap_pair (Kd.heap_int .i64) (Kd.heap_pair (Kd.heap_int .i64) (Kd.heap_slice 3 (Kd.heap_int .i64))))
theorem k33_open {w : World} {x : S33} {cs : List Value} (h : k33.K w x cs) : ∃ A2 c2, cs = [.int .i64 x.f0, .int .i64 x.f1, .slice A2 x.f2.length c2] ∧ x.f2.length ≤ c2 ∧ (Kd.int .i64).C w A2 x.f2.length x.f2 := by
 obtain ⟨_, _, rfl, rfl, ⟨_, _, rfl, rfl, ⟨A2, c2, rfl, l2, g2⟩⟩⟩ := h
 exact ⟨A2, c2, rfl, l2, g2⟩
theorem k33_mk (w : World) (x : S33) {A2 : Option Addr} {c2 : Nat} (l2 : x.f2.length ≤ c2) (g2 : (Kd.int .i64).C w A2 x.f2.length x.f2) : k33.K w x [.int .i64 x.f0, .int .i64 x.f1, .slice A2 x.f2.length c2] := ⟨[.int .i64 x.f0], [.int .i64 x.f1, .slice A2 x.f2.length c2], rfl, rfl, ⟨[.int .i64 x.f1], [.slice A2 x.f2.length c2], rfl, rfl, ⟨A2, c2, rfl, l2, g2⟩⟩⟩
theorem k33_openF {W : World} {ok : Nat → Prop} {x : S33} {cs : List Value} (h : Kd.FK k33 W ok x cs) : ∃ A2 c2, cs = [.int .i64 x.f0, .int .i64 x.f1, .slice A2 x.f2.length c2] ∧ x.f2.length ≤ c2 ∧ Kd.F (Kd.int .i64) W ok A2 x.f2.length x.f2 := by
 obtain ⟨A2, c2, rfl, l2, _⟩ := k33_open (Kd.FK_now h)
 exact ⟨A2, c2, rfl, l2, (fun W' hW => by obtain ⟨A2_, c2_, he, l2_, g2_⟩ := k33_open (h W' hW); injection (Option.some.inj (show some (Value.slice A2 x.f2.length c2) = some (Value.slice A2_ x.f2.length c2_) from congrArg (fun l => l[2]?) he)) with ha_ _ _; rw [ha_]; exact g2_)⟩
def rd_T33 (xs : List S33) (i : Int) : S33 := xs.getD i.toNat z33
theorem at_T33 {w : World} {A : Option Addr} {n : Nat} {xs : List S33} (h : Kd.C k33 w A n xs) (i : Int) (h0 : 0 ≤ i) (h1 : i < n) : ∃ ad A2 c2, A = some ad ∧ w.cell? (ad.add (i.toNat * 3)) = some (.int .i64 (rd_T33 xs i).f0) ∧ w.cell? ⟨(ad.add (i.toNat * 3)).block, (ad.add (i.toNat * 3)).off + 1, none⟩ = some (.int .i64 (rd_T33 xs i).f1) ∧ w.cell? ⟨(ad.add (i.toNat * 3)).block, (ad.add (i.toNat * 3)).off + 2, none⟩ = some (.slice A2 (rd_T33 xs i).f2.length c2) ∧ (rd_T33 xs i).f2.length ≤ c2 ∧ (Kd.int .i64).C w A2 (rd_T33 xs i).f2.length (rd_T33 xs i).f2 := by
 obtain ⟨ad, c, e, _, hK, hc0⟩ := Kd.C_get h z33 i h0 h1
 have hc : ∀ j u, c[j]? = some u → w.cell? (ad.add (i.toNat * 3 + j)) = some u := hc0
 obtain ⟨A2, c2, rfl, l2, g2⟩ := k33_open hK
 exact ⟨ad, A2, c2, e, hc 0 _ rfl, by rw [← add_field _ _ 1 (by omega)]; exact hc 1 _ rfl, by rw [← add_field _ _ 2 (by omega)]; exact hc 2 _ rfl, l2, g2⟩

/-! #### struct type 87 -/
structure S87 where
 f0 : Int
 f1 : Int
 f2 : Int
def z87 : S87 := ⟨(0 : Int), (0 : Int), (0 : Int)⟩
def k87 : Kd S87 := Kd.iso (Kd.pair (Kd.int .i64) (Kd.pair (Kd.int .i64) (Kd.int .i64))) (fun x : S87 => (x.f0, x.f1, x.f2))
theorem k87_open {w : World} {x : S87} {cs : List Value} (h : k87.K w x cs) : cs = [.int .i64 x.f0, .int .i64 x.f1, .int .i64 x.f2] := by
 obtain ⟨_, _, rfl, rfl, ⟨_, _, rfl, rfl, rfl⟩⟩ := h
 exact rfl
theorem k87_mkM (w : World) (base : Nat) (ok : Nat → Prop) (x : S87)  : k87.M w base ok x [.int .i64 x.f0, .int .i64 x.f1, .int .i64 x.f2] := ⟨[.int .i64 x.f0], [.int .i64 x.f1, .int .i64 x.f2], rfl, rfl, ⟨[.int .i64 x.f1], [.int .i64 x.f2], rfl, rfl, rfl⟩⟩
def rd_T87 (xs : List S87) (i : Int) : S87 := xs.getD i.toNat z87
def rd_L4 (xs : List (List S87)) (i : Int) : (List S87) := xs.getD i.toNat ([] : List S87)
/-! #### struct type 70 -/
structure S70 where
 f0 : Int
 f1 : (List S87)
def z70 : S70 := ⟨(0 : Int), ([] : List S87)⟩
def k70 : Kd S70 := Kd.iso (Kd.pair (Kd.int .i64) (Kd.slice 87 k87)) (fun x : S70 => (x.f0, x.f1))
def rd_T70 (xs : List S70) (i : Int) : S70 := xs.getD i.toNat z70
def rd_L6 (xs : List (List S33)) (i : Int) : (List S33) := xs.getD i.toNat ([] : List S33)
/-! Words for phrases that stand often: the last argument is found by its default. -/
theorem zV {q p : Prop} (h : Aside0 q) (f : q → p := by intro z; (with_reducible repeat (first | apply Kd.V_alloc | apply Kd.V_drewN | apply Kd.V_drew)); exact z) : p := f h.out
theorem zN {q p : Prop} (h : Aside0 q) (f : q → p := by intro z; (with_reducible repeat (first | apply Kd.N_alloc | apply Kd.N_drewN | apply Kd.N_drew)); exact z) : p := f h.out
theorem zR {q p : Prop} (h : Aside0 q) (f : q → p := by intro z; (with_reducible repeat (first | apply Kd.R_alloc | apply Kd.R_drewN | apply Kd.R_drew)); exact z) : p := f h.out
theorem zK {q p : Prop} (h : Aside0 q) (f : q → p := by intro z; (with_reducible repeat (first | refine blk_drewN ?_ _ | refine blk_drew ?_ | refine blk_alloc ?_ _)); exact z) : p := f h.out
theorem zB {q p : Prop} (h : Aside0 q) (f : q → p := by intro z; repeat (first | (with_reducible first | exact z | apply below_alloc | apply pw_below_drewN | apply below_drew1) | exact z)) : p := f h.out
theorem zB1 {q g p : Prop} (h : Aside0 q) (y : Aside0 g) (f : q → g → p := by intro z y; repeat (first | (with_reducible first | exact z | apply below_alloc | apply pw_below_drewN | apply below_drew1 | refine below_set ?_ y) | exact z)) : p := f h.out y.out
theorem zB2 {q g g2 p : Prop} (h : Aside0 q) (y : Aside0 g) (x : Aside0 g2) (f : q → g → g2 → p := by intro z y x; repeat (first | (with_reducible first | exact z | apply below_alloc | apply pw_below_drewN | apply below_drew1 | refine below_set ?_ y | refine below_set ?_ x) | exact z)) : p := f h.out y.out x.out
theorem zP {p : Prop} (f : p := by (try simp only [List.map_toArray, List.map_cons, List.map_nil]); first | done | rfl | (simp only [List.length_drop, List.length_take]; rfl)) : p := f

end Go.Proofs.Ytnjnjajgpkmfhaa.PX

/-
 More words for memory: make and copy of slices of structs, a row that is set at a place.
-/
namespace Go.Proofs.Ytnjnjajgpkmfhaa
open Go.RowKit

/-- copy between rows of elements of m cells. -/
theorem run_copy_rowM {P : Program} (w : World) (dT sT ty elem : TypeId) (m g o n dLen dCap : Nat) (a : Addr) (sLen sCap : Nat) (cur : Array Value) (t : TypeId) (cs : List Value)
  (hu : P.underlying dT = some (.slice elem)) (hs : (P.info? elem).map (·.size) = some m)
  (hg : w.heap[g]? = some (.cells cur t (0, 0))) (hn : n = Nat.min sLen dLen) (hcs : cs.length = n * m)
  (hsrc : ∀ j v, cs[j]? = some v → w.cell? (a.add j) = some v) (hfit : o + cs.length ≤ cur.size) (h1 : ∀ v ∈ cs, v.oneCell' = true) :
  (Builtin.copy_ #[dT, sT] ty #[.slice (some ⟨g, o, none⟩) dLen dCap, .slice (some a) sLen sCap]).run P w =
   .ok (goInt n) (w.setRow g (cur.toList.take o ++ cs ++ cur.toList.drop (o + cs.length)).toArray) := by
 have hl := run_loadCells_list (P := P) w a cs hsrc
 have hst := run_storeCells_at P g o t cs 0 cur w hg (by simpa using hfit) h1
 cases hq : P.info? elem with
 | none => simp [hq] at hs
 | some i =>
  have hi : i.size = m := by simpa [hq] using hs
  rw [hcs] at hl
  simp [Builtin.copy_, run_underlying hu, Builtin.lenOf, Builtin.firstCells, sizeOf, typeInfo, hq, hi, ← hn, hl, hst]

/-- A row of a block that is known whole. -/
theorem Reads.of_blk {w : World} {g : Nat} {t : TypeId} {cs : Array Value} {size n : Nat} (h : Blk w g t cs) (hl : cs.size = n * size) : Reads w w.heap.size size (some ⟨g, 0, none⟩) n cs.toList := by
 refine ⟨by simpa using hl, fun _ => ⟨_, rfl, h.lt, fun j u hu => ?_⟩⟩
 have e : (⟨g, 0, none⟩ : Addr).add j = ⟨g, j, none⟩ := by unfold Addr.add; by_cases hj : j = 0 <;> simp [hj]
 rw [e, h.cell j]
 simpa using hu

end Go.Proofs.Ytnjnjajgpkmfhaa

/-
 A slice from an index on, under one name.
-/
namespace Go.Proofs.Ytnjnjajgpkmfhaa
open Go.RowKit
def cutA (A : Option Addr) (c k size : Nat) : Option Addr := if c = k then A else A.map (·.add (k * size))
theorem Reads.cutA {w : World} {B size n k c : Nat} {A : Option Addr} {xs : List Value} (h : Reads w B size A n xs) (hk : k ≤ n) (hc : n ≤ c) : Reads w B size (cutA A c k size) (n - k) (xs.drop (k * size)) := h.cut hk hc
theorem run_from_ints (A : Option Addr) (n c k : Nat) (hk : k ≤ n) (w : World) : (Instr.slice 25 (.slice A n c) (some (.int .i64 k)) none none).run Try.prog w = .ok (.slice (cutA A c k 1) (n - k) (c - k)) w := by
 have hi : (Try.prog.info? 3).map (fun i => (i.zero, i.size, i.bytes)) = some (some (.int .i64 0), 1, 8) := by kernel_rfl
 obtain ⟨i0, hi, hz0, hz1, hz2⟩ := info_parts hi
 have he : Try.prog.elem 25 = 3 := by kernel_rfl
 rw [run_slice_l w 25 A n c (by rw [he]; exact Try.underlying25) .i64 k (by omega) (by omega), he]
 simp [sizeOf, typeInfo, hi, hz1, sliced, cutA]

theorem own_reads3 {w : World} {B n size : Nat} {e : TypeId} {v : Value} {xs : List Value} (h : w.ownsRow B e size v n xs) : ∃ A c, v = .slice A n c ∧ n ≤ c ∧ c ≤ maxLen ∧ Reads w w.heap.size size A n xs := by
 have h' := h
 rcases h.2 with ⟨rfl, rfl⟩ | ⟨g, cap, cur, rfl, _, _, h1, h2, _⟩
 ·exact ⟨none, 0, rfl, Nat.le_refl _, by simp [maxLen], Reads.of_own h'⟩
 ·exact ⟨_, cap, rfl, h1, h2, Reads.of_own h'⟩
end Go.Proofs.Ytnjnjajgpkmfhaa

/-
 The contracts of line.Right and line.Pop, in the form that the printed texts lean on.
-/
namespace Go.Proofs.Ytnjnjajgpkmfhaa.PX
open Go.RowKit Go.Proofs.YtnjnjajgpkmfhaaW.PrintWords Go.Proofs.YtnjnjajgpkmfhaaW.PrintLast Go.Proofs.YtnjnjajgpkmfhaaW.PrintMore
/-- May a line be: nobody twice, nobody below 0, not too many. -/
def lineB (l : List Int) : Bool := decide (l.Nodup) && l.all (fun x => decide (0 ≤ x)) && decide (l.length ≤ 64)
theorem lineB_iff (l : List Int) : lineB l = true ↔ l.Nodup ∧ (∀ x ∈ l, 0 ≤ x) ∧ l.length ≤ 64 := by simp [lineB, and_assoc]
theorem line_twice {l : List Int} {i : Nat} (hi : i < l.length) {j : Nat} (hj : j < i) (h : l.getD i 0 = l.getD j 0) : lineB l = false := by
 rw [Bool.eq_false_iff]
 intro hb
 have hn := ((lineB_iff l).1 hb).1
 rw [List.getD_eq_getElem?_getD, List.getD_eq_getElem?_getD, List.getElem?_eq_getElem hi, List.getElem?_eq_getElem (by omega)] at h
 have := (List.nodup_iff_pairwise_ne.1 hn)
 exact List.pairwise_iff_getElem.1 this j i (by omega) hi hj h.symm
theorem line_neg {l : List Int} {i : Nat} (hi : i < l.length) (h : l.getD i 0 < 0) : lineB l = false := by
 rw [Bool.eq_false_iff]
 intro hb
 rw [List.getD_eq_getElem?_getD, List.getElem?_eq_getElem hi] at h
 have := ((lineB_iff l).1 hb).2.1 _ (List.getElem_mem hi)
 simp at h
 omega
theorem line_all {l : List Int} (h : ∀ i, i < l.length → (∀ j, j < i → l.getD i 0 ≠ l.getD j 0) ∧ 0 ≤ l.getD i 0) : lineB l = decide (l.length ≤ 64) := by
 have h1 : l.Nodup := List.nodup_iff_pairwise_ne.2 (List.pairwise_iff_getElem.2 fun j i hj hi hij he => by
  refine (h i hi).1 j hij ?_
  rw [List.getD_eq_getElem?_getD, List.getD_eq_getElem?_getD, List.getElem?_eq_getElem hi, List.getElem?_eq_getElem hj]
  exact he.symm)
 have h2 : l.all (fun x => decide (0 ≤ x)) = true := by
  rw [List.all_eq_true]
  intro x hx
  obtain ⟨i, hi, rfl⟩ := List.mem_iff_getElem.1 hx
  have := (h i hi).2
  rw [List.getD_eq_getElem?_getD, List.getElem?_eq_getElem hi] at this
  exact decide_eq_true this
 rw [lineB, decide_eq_true h1, h2]
 simp
theorem int_cell {w : World} {B n k : Nat} {A : Option Addr} {zs : List Int} (h : Reads w B 1 A n (zs.map (Value.int .i64))) (hk : k < n) : ∃ ad, A = some ad ∧ ad.block < B ∧ w.cell? (ad.add k) = some (.int .i64 (zs.getD k 0)) := by
 obtain ⟨ad, z, hA, hb, hz, hc⟩ := h.int_at hk
 exact ⟨ad, hA, hb, by rw [hc, List.getD_eq_getElem?_getD, hz]; rfl⟩
theorem info_int : (Try.prog.info? 3).map (fun i => (i.zero, i.size, i.bytes)) = some (some (.int .i64 0), 1, 8) := by kernel_rfl
theorem run_upto_ints (A : Option Addr) (n c k : Nat) (hk : k ≤ c) (w : World) : (Instr.slice 25 (.slice A n c) none (some (.int .i64 k)) none).run Try.prog w = .ok (.slice A k c) w := by
 obtain ⟨i0, hi, hz0, hz1, hz2⟩ := info_parts info_int
 have he : Try.prog.elem 25 = 3 := by kernel_rfl
 rw [run_slice_h w 25 A n c (by rw [he]; exact Try.underlying25) .i64 k (by omega) (by omega), he]
 simp [sizeOf, typeInfo, hi, hz1, sliced]
 cases A <;> simp [Addr.add]
def line_Right.f (l0 : List Int) : Option Bool := if l0.length ≤ 1000 then some (lineB l0) else none
set_option maxRecDepth 100000 in
set_option maxHeartbeats 2000000 in
theorem right_any (A : Option Addr) (n c : Nat) (l : List Int) (hn : n ≤ 1000) (hnc : n ≤ c) (w : World) (hr : Reads w w.heap.size 1 A n (l.map (Value.int .i64))) :
  Calls Try.prog 61 #[.slice A n c] w fun e w' => e = .returned (.bool (lineB l)) ∧ w = w' := by
 have hlen := hr.int_len
 have HR := Lib.hid hr
 clear hr
 go_enter Try.func61, Try.ntmps61
 go_wp2_with fail
 go_step3
 go_wp2_with fail
 go_step3
 go_wp2_with fail
 go_loopw [9] (fun v wr => ∃ i : Nat, i ≤ n ∧ v = .int .i64 i ∧ (∀ k, k < i → (∀ j, j < k → l.getD k 0 ≠ l.getD j 0) ∧ 0 ≤ l.getD k 0) ∧ w = wr) (fun v _ => n - (intOf v).toNat)
 case atStart => exact ⟨0, Nat.zero_le _, rfl, fun k hk => absurd hk (by omega), rfl⟩
 case round =>
  obtain ⟨i, hi, rfl, hall, rfl⟩ := hrel
  have HALL := Lib.hid hall
  clear hall
  by_cases hlt : i < n
  ·have d0 : decide ((i : Int) < n) = true := decide_eq_true (by omega)
   obtain ⟨ad, rfl, _, hc⟩ := int_cell HR.out hlt
   have hcut := run_upto_ints (some ad) n c i (by omega)
   obtain ⟨x, hx⟩ : ∃ x, l.getD i 0 = x := ⟨_, rfl⟩
   rw [hx] at hc
   have HX := Lib.hid hx
   clear hx
   go_wp2_with fail
   go_loopw [18] (fun v18 wq => ∃ j : Nat, j ≤ i ∧ v18 = .int .i64 j ∧ (∀ q, q < j → x ≠ l.getD q 0) ∧ w = wq) (fun v18 _ => i - (intOf v18).toNat)
   case atStart => exact ⟨0, Nat.zero_le _, rfl, fun q hq => absurd hq (by omega), by first | trivial | rfl⟩
   case round =>
    obtain ⟨j, hj, rfl, hne, rfl⟩ := hrel
    have HNE := Lib.hid hne
    clear hne
    by_cases hji : j < i
    ·have d1 : decide ((j : Int) < i) = true := decide_eq_true (by omega)
     obtain ⟨_, hq, _, hcy⟩ := int_cell HR.out (show j < n by omega)
     obtain rfl := Option.some.inj hq
     obtain ⟨y, hy⟩ : ∃ y, l.getD j 0 = y := ⟨_, rfl⟩
     rw [hy] at hcy
     have HY := Lib.hid hy
     clear hy hq
     by_cases hxy : x = y
     ·have hF : Hid (lineB l = false) := line_twice (by rw [hlen]; exact hlt) hji (by rw [HX.out, HY.out, hxy])
      have d2 : (x != y) = false := by simp [hxy]
      go_wp2_with fail
      (try simp only [Exit.noGoto_ret])
      go_ret
      exact ⟨by rw [hF.out]; rfl, rfl⟩
     ·have d2 : (x != y) = true := by simp [hxy]
      have HXY := Lib.hid hxy
      clear hxy
      go_wp2_with fail
      refine ⟨⟨j + 1, by omega, rfl, fun q hq => ?_, by first | trivial | rfl⟩, by simp only [intOf]; omega⟩
      rcases Nat.lt_or_eq_of_le (Nat.le_of_lt_succ hq) with h | h
      ·exact HNE.out q h
      ·rw [h, HY.out]; exact HXY.out
    ·obtain rfl : j = i := by omega
     have d1 : decide ((j : Int) < j) = false := decide_eq_false (by omega)
     by_cases h0 : 0 ≤ x
     ·have d2 : decide ((0 : Int) ≤ x) = true := decide_eq_true h0
      go_wp2_with fail
      refine ⟨⟨j + 1, by omega, rfl, fun k hk => ?_, by first | trivial | rfl⟩, by simp only [intOf]; omega⟩
      rcases Nat.lt_or_eq_of_le (Nat.le_of_lt_succ hk) with h | h
      ·exact HALL.out k h
      ·rw [h, HX.out]; exact ⟨HNE.out, h0⟩
     ·have d2 : decide ((0 : Int) ≤ x) = false := decide_eq_false h0
      have hF : Hid (lineB l = false) := line_neg (by rw [hlen]; exact hlt) (by rw [HX.out]; omega)
      go_wp2_with fail
      (try simp only [Exit.noGoto_ret])
      go_ret
      exact ⟨by rw [hF.out]; rfl, rfl⟩
  ·have d0 : decide ((i : Int) < n) = false := decide_eq_false (by omega)
   obtain rfl : i = n := by omega
   have HE := Lib.hid (line_all (l := l) (by rw [hlen]; exact HALL.out))
   rw [hlen] at HE
   go_wp2_with fail
   (try simp only [Exit.noGoto_ret])
   go_ret
   exact ⟨by rw [HE.out]; first | rfl | (congr 2; simp; done) | (congr 2; simp; omega), rfl⟩
theorem line_Right.calls (A0 : Option Addr) (c0 : Nat) (l0 : List Int) (r : Bool) (w : World) (hr0 : Kd.C (Kd.int .i64) w A0 l0.length l0) (hc0 : l0.length ≤ c0) (h : line_Right.f l0 = some r) :
  Calls Try.prog 61 #[.slice A0 l0.length c0] w fun e w' => e = .returned (.bool r) ∧ Below w.heap.size w w' := by
 unfold line_Right.f at h
 split at h
 ·rename_i hn
  obtain rfl := Option.some.inj h
  exact (right_any A0 l0.length c0 l0 hn hc0 w (reads_ints hr0)).mono fun e w' ⟨he, hw⟩ => ⟨he, hw ▸ Below.refl _ _⟩
 ·cases h
/-- The first one goes. -/
def line_Pop.f (l0 : List Int) : Option (List Int × Int × Int) := if l0.length ≤ 1000 then some (if lineB l0 = false then ([], 0, 1) else match l0 with | [] => ([], 0, 4) | x :: l => (l, x, 0)) else none
def PopP (P : Nat → Prop) (r1 : List Int) (r2 r3 : Int) (w : World) (e : Ending) (w' : World) : Prop := ∃ v0_ : Value, e = .returned (.tuple #[v0_, .int .i64 r2, .int .i64 r3]) ∧ Kd.V (Kd.int .i64) 3 w' w.heap.size P v0_ r1 ∧ Below w.heap.size w w'
set_option maxRecDepth 100000 in
set_option maxHeartbeats 2000000 in
theorem line_Pop.calls (P0_ : Nat → Prop) (A0 : Option Addr) (c0 : Nat) (l0 : List Int) (r1 : List Int) (r2 r3 : Int) (w : World) (hs0 : Kd.V (Kd.int .i64) 3 w w.heap.size (fun k_ => P0_ k_) (.slice A0 l0.length c0) l0) (h : line_Pop.f l0 = some (r1, r2, r3)) :
  Calls Try.prog 58 #[.slice A0 l0.length c0] w fun e w' => ∃ v0_ : Value, e = .returned (.tuple #[v0_, .int .i64 r2, .int .i64 r3]) ∧ Kd.V (Kd.int .i64) 3 w' w.heap.size (fun k_ => (P0_ k_ ∨ w.heap.size ≤ k_)) v0_ r1 ∧ Below w.heap.size w w' := by
 unfold line_Pop.f at h
 split at h
 case isFalse => cases h
 rename_i hn
 have hq := Option.some.inj h
 clear h
 obtain ⟨_, hnc, hF⟩ := Kd.V_at hs0
 have HR := Lib.hid (reads_ints (Kd.F_now hF))
 have H1 := Lib.hid (right_any A0 l0.length c0 l0 hn hnc w HR.out)
 have HV := Lib.hid (Kd.V_mono hs0 (ok' := fun k_ => (P0_ k_ ∨ w.heap.size ≤ k_)) (fun _ hk => .inl hk))
 show Calls _ _ _ _ (PopP (fun k_ => (P0_ k_ ∨ w.heap.size ≤ k_)) r1 r2 r3 w)
 cases hb : lineB l0 with
 | false =>
  rw [hb] at hq H1
  obtain ⟨rfl, rfl, rfl⟩ : r1 = [] ∧ r2 = 0 ∧ r3 = 1 := by
   have hq' : (([] : List Int), (0 : Int), (1 : Int)) = (r1, r2, r3) := hq
   exact ⟨(congrArg (·.1) hq').symm, (congrArg (·.2.1) hq').symm, (congrArg (·.2.2) hq').symm⟩
  clear hq hs0 hF hb
  go_enter Try.func58, Try.ntmps58
  go_wp2_with fail
  refine H1.out.mono ?_
  rintro e w' ⟨rfl, rfl⟩
  go_wp2_with fail
  go_ret3
  exact ⟨_, rfl, Kd.V_nil _ _ _ _ _, Below.refl _ _⟩
 | true =>
  rw [hb] at hq H1
  cases l0 with
  | nil =>
   obtain ⟨rfl, rfl, rfl⟩ : r1 = [] ∧ r2 = 0 ∧ r3 = 4 := by
    have hq' : (([] : List Int), (0 : Int), (4 : Int)) = (r1, r2, r3) := hq
    exact ⟨(congrArg (·.1) hq').symm, (congrArg (·.2.1) hq').symm, (congrArg (·.2.2) hq').symm⟩
   clear hq hs0 hF hb
   go_enter Try.func58, Try.ntmps58
   go_wp2_with fail
   refine H1.out.mono ?_
   rintro e w' ⟨rfl, rfl⟩
   go_wp2_with fail
   go_ret3
   exact ⟨_, rfl, Kd.V_nil _ _ _ _ _, Below.refl _ _⟩
  | cons x l =>
   obtain ⟨rfl, rfl, rfl⟩ : r1 = l ∧ r2 = x ∧ r3 = 0 := by
    have hq' : (l, x, (0 : Int)) = (r1, r2, r3) := hq
    exact ⟨(congrArg (·.1) hq').symm, (congrArg (·.2.1) hq').symm, (congrArg (·.2.2) hq').symm⟩
   obtain ⟨m, hm⟩ : ∃ m, (r2 :: r1).length = m := ⟨_, rfl⟩
   obtain ⟨ad, rfl, _, hc⟩ := int_cell HR.out (show 0 < (r2 :: r1).length by simp)
   have hc' : w.cell? ad = some (.int .i64 r2) := by
    rw [show ad.add 0 = ad from by simp [Addr.add]] at hc
    exact hc
   have hml : r1.length = m - 1 := by simp at hm; omega
   have hV : Kd.V (Kd.int .i64) 3 w w.heap.size (fun k_ => (P0_ k_ ∨ w.heap.size ≤ k_)) (.slice (cutA (some ad) c0 1 1) (m - 1) (c0 - 1)) r1 := by
    have h2 := Kd.V_mk (e := 3) (base := w.heap.size) (c := c0 - 1) (by simp at hnc ⊢; omega) (Kd.F_cut hF (m := 1) (by simp) hnc)
    have e1 : ((r2 :: r1).drop 1) = r1 := rfl
    rw [e1, hml] at h2
    exact Kd.V_mono h2 (fun _ hk => .inl hk)
   have hcut : ∀ w, (Instr.slice 25 (.slice (some ad) m c0) (some (.int .i64 1)) none none).run Try.prog w = .ok (.slice (cutA (some ad) c0 1 1) (m - 1) (c0 - 1)) w := fun w => run_from_ints (some ad) m c0 1 (by simp at hm; omega) w
   obtain ⟨A1, hA1⟩ : ∃ A1, cutA (some ad) c0 1 1 = A1 := ⟨_, rfl⟩
   rw [hA1] at hV hcut
   have HV2 := Lib.hid hV
   have hm0 : 0 < m := by simp at hm; omega
   rw [hm] at H1 ⊢
   have dm : ((m : Int) == 0) = false := by simp; omega
   clear hq hs0 hF hb hV hA1 HV HR hc hnc hn hm
   go_enter Try.func58, Try.ntmps58
   go_wp2_with fail
   refine H1.out.mono ?_
   rintro e w' ⟨rfl, rfl⟩
   go_wp2_with fail
   go_quiet (fail)
   go_wp2_with fail
   go_ret3
   exact ⟨_, rfl, Kd.V_drewN HV2.out _, (Below.refl _ _).trans ⟨rfl, rfl, rfl, Nat.le_refl _, fun _ _ => rfl⟩⟩
end Go.Proofs.Ytnjnjajgpkmfhaa.PX

/-
 A block's cells, all at once.
-/
namespace Go.Proofs.Ytnjnjajgpkmfhaa
open Go.RowKit
section
variable {w : World} {g : Nat} {t : TypeId} {a b c d e : Value}
theorem Blk.at1 (h : Blk w g t #[a]) : w.cell? ⟨g, 0, none⟩ = some a := by rw [h.cell]; rfl
theorem Blk.at2 (h : Blk w g t #[a, b]) : w.cell? ⟨g, 0, none⟩ = some a ∧ w.cell? ⟨g, 1, none⟩ = some b := ⟨by rw [h.cell]; rfl, by rw [h.cell]; rfl⟩
theorem Blk.at3 (h : Blk w g t #[a, b, c]) : w.cell? ⟨g, 0, none⟩ = some a ∧ w.cell? ⟨g, 1, none⟩ = some b ∧ w.cell? ⟨g, 2, none⟩ = some c := ⟨by rw [h.cell]; rfl, by rw [h.cell]; rfl, by rw [h.cell]; rfl⟩
end
end Go.Proofs.Ytnjnjajgpkmfhaa

/-
 The contract of law09's cut, in the form that the printed texts lean on.
-/
namespace Go.Proofs.Ytnjnjajgpkmfhaa.PX
open Go.RowKit Go.Proofs.YtnjnjajgpkmfhaaW.PrintWords Go.Proofs.YtnjnjajgpkmfhaaW.PrintLast Go.Proofs.YtnjnjajgpkmfhaaW.PrintMore
theorem infoSpot : (Try.prog.info? 33).map (·.size) = some 3 := by kernel_rfl
theorem results_spot2 {fn : Func} {p u : Tmp} (h : fn.results = #[.cell p 33, .tmp u]) (tmps : Array Value) (w : World) (g : Nat) (a b c : Value)
  (hp : tmps.getD p undef = .pointer (some ⟨g, 0, none⟩)) (hg : Blk w g 33 #[a, b, c]) :
  (results fn tmps).run Try.prog w = .ok (.tuple #[.agg #[a, b, c], tmps.getD u undef]) w := by
 have hp' : tmps[p]?.getD undef = .pointer (some ⟨g, 0, none⟩) := by simpa using hp
 simp [results, h, hp', asAddr, run_loadVar_row w g 33 33 #[a, b, c] (0, 0) _ hg Try.underlying33 rfl infoSpot]
def deadboltlaw09_cut.f (a0_0 : Int) (a0_1 : Int) (l0_2 : List Int) : Option (Int × Int × List Int) := some (a0_0, a0_1, l0_2.take 70)
end Go.Proofs.Ytnjnjajgpkmfhaa.PX

/-
 Rows of spots with the values of their lines: out of the print's words and back; the contract of slices.IndexFunc.
-/
namespace Go.Proofs.Ytnjnjajgpkmfhaa.PX
open Go.RowKit Go.Proofs.YtnjnjajgpkmfhaaW.PrintWords Go.Proofs.YtnjnjajgpkmfhaaW.PrintLast Go.Proofs.YtnjnjajgpkmfhaaW.PrintMore
/-- A spot, and the slice that its line is. -/
structure Rw where
 s : S33
 A : Option Addr
 c : Nat
instance : Inhabited Rw := ⟨⟨z33, none, 0⟩⟩
def Rw.v (x : Rw) : Value := .slice x.A x.s.f2.length x.c
def Rw.cells (x : Rw) : List Value := [.int .i64 x.s.f0, .int .i64 x.s.f1, x.v]
def Rw.val (x : Rw) : Value := .agg #[.int .i64 x.s.f0, .int .i64 x.s.f1, x.v]
def spots (R : List Rw) : List S33 := R.map (·.s)
def Rep (w : World) (ok : Nat → Prop) (R : List Rw) : Prop := ∀ x ∈ R, Kd.V (Kd.int .i64) 3 w 0 ok x.v x.s.f2
theorem cells3 (x : Rw) : x.cells.length = 3 := rfl
section
variable {w w' : World} {ok ok' : Nat → Prop} {R : List Rw} {B n c : Nat} {A : Option Addr} {l : List S33}
theorem Rep.below (h : Rep w ok R) (hb : Below w.heap.size w w') : Rep w' ok R := fun x hx => Kd.V_below (h x hx) hb
theorem raw_at {k : Nat} (h : Reads w B 3 A n (R.flatMap Rw.cells)) (hk : k < n) : ∃ (ad : Addr) (x : Rw), A = some ad ∧ ad.block < B ∧ R[k]? = some x ∧ w.cell? (ad.add (k * 3)) = some (.int .i64 x.s.f0) ∧
  w.cell? ⟨(ad.add (k * 3)).block, (ad.add (k * 3)).off + 1, none⟩ = some (.int .i64 x.s.f1) ∧ w.cell? ⟨(ad.add (k * 3)).block, (ad.add (k * 3)).off + 2, none⟩ = some x.v := by
 obtain ⟨ad, hA, hb, hc⟩ := h.2 (by omega)
 have hl : k < R.length := by have := h.1; rw [flat_len Rw.cells 3 cells3] at this; omega
 have hx : R[k]? = some R[k] := List.getElem?_eq_getElem hl
 have hf : ∀ j, j < 3 → (R.flatMap Rw.cells)[k * 3 + j]? = R[k].cells[j]? := fun j hj => flat_at Rw.cells 3 cells3 R k j _ hx hj
 refine ⟨ad, R[k], hA, hb, hx, hc _ _ (by rw [← Nat.add_zero (k * 3), hf 0 (by omega)]; rfl), ?_, ?_⟩
 ·rw [← add_field _ _ 1 (by omega)]; exact hc _ _ (by rw [hf 1 (by omega)]; rfl)
 ·rw [← add_field _ _ 2 (by omega)]; exact hc _ _ (by rw [hf 2 (by omega)]; rfl)
theorem raw_len (h : Reads w B 3 A n (R.flatMap Rw.cells)) : R.length = n := by
 have := h.1
 rw [flat_len Rw.cells 3 cells3] at this
 omega
theorem raws_of_V {base : Nat} (h : Kd.V k33 33 w base ok (.slice A n c) l) : ∃ R : List Rw, spots R = l ∧ n = l.length ∧ n ≤ c ∧ Reads w w.heap.size 3 A n (R.flatMap Rw.cells) ∧ Rep w ok R := by
 obtain ⟨hn, hnc, hF⟩ := Kd.V_at h
 have hF' := Kd.V_F h
 have each : ∀ i, i < n → ∃ x : Rw, x.s = l.getD i z33 ∧ Kd.V (Kd.int .i64) 3 w 0 ok x.v x.s.f2 ∧ ∀ j u, x.cells[j]? = some u → ∀ ad, A = some ad → w.cell? (ad.add (i * 3 + j)) = some u := fun i hi => by
  obtain ⟨ad, cs, hA, hl, hK, hc, _⟩ := Kd.F_get hF' z33 (i : Int) (by omega) (by omega)
  obtain ⟨A2, c2, rfl, l2, g2⟩ := k33_openF hK
  refine ⟨⟨l.getD i z33, A2, c2⟩, rfl, Kd.V_mk l2 g2, fun j u hu ad' had => ?_⟩
  rw [hA] at had
  obtain rfl := Option.some.inj had
  exact hc j u hu
 obtain ⟨f, hf⟩ := Go.Deep.choose_lt each
 have hg : ∀ i, i < n → ((List.range n).map f)[i]? = some (f i) := fun i hi => by simp [hi]
 refine ⟨(List.range n).map f, ?_, hn, hnc, ⟨by rw [flat_len Rw.cells 3 cells3]; simp, fun h0 => ?_⟩, fun x hx => ?_⟩
 ·unfold spots
  apply List.ext_getElem?
  intro i
  by_cases hi : i < n
  ·rw [List.getElem?_map, hg i hi, List.getElem?_eq_getElem (by omega)]
   simp only [Option.map_some, (hf i hi).1]
   rw [List.getD_eq_getElem?_getD, List.getElem?_eq_getElem (by omega)]
   rfl
  ·rw [List.getElem?_eq_none (by simp; omega), List.getElem?_eq_none (by omega)]
 ·obtain ⟨ad, cs, hA, hl, hK, hc, _⟩ := Kd.F_get hF' z33 (0 : Int) (by omega) (by omega)
  have hcell : ∀ j u, (((List.range n).map f).flatMap Rw.cells)[j]? = some u → w.cell? (ad.add j) = some u := fun j u hu => by
   obtain ⟨x, hx, hu2⟩ := flat_split Rw.cells 3 cells3 (by omega) hu
   have hj : j / 3 < n := by
    have := (List.getElem?_eq_some_iff.1 hx).1
    simpa using this
   rw [hg _ hj] at hx
   obtain rfl := Option.some.inj hx
   have := (hf _ hj).2.2 _ u hu2 ad hA
   rwa [Nat.div_add_mod'] at this
  refine ⟨ad, hA, ?_, hcell⟩
  have hl0 : 0 < (((List.range n).map f).flatMap Rw.cells).length := by rw [flat_len Rw.cells 3 cells3]; simp; omega
  have := lt_of_cell (hcell 0 _ (List.getElem?_eq_getElem hl0))
  rwa [block_of_add] at this
 ·obtain ⟨i, hi, rfl⟩ := List.mem_map.1 hx
  exact (hf i (by simpa using hi)).2.1
theorem V_of_raws {base : Nat} (h : Reads w B 3 A n (R.flatMap Rw.cells)) (hok : ∀ ad, A = some ad → ok ad.block) (hr : Rep w ok R) (hnc : n ≤ c) (hn : n ≤ 9223372036854775807) : Kd.V k33 33 w base ok (.slice A n c) (spots R) := by
 have hl := raw_len h
 have hls : (spots R).length = n := by simp [spots, hl]
 have := Kd.V_mk (d := k33) (e := 33) (base := base) (W := w) (ok := ok) (A := A) (xs := spots R) (c := c) (by omega) (fun W' hW => ?_)
 ·rwa [hls] at this
 ·refine ⟨rfl, by omega, fun h0 => ?_⟩
  obtain ⟨ad, hA, hb, hc⟩ := h.2 (by omega)
  refine ⟨ad, hA, fun j p hj => ?_⟩
  have hjl : j < R.length := by have := (List.getElem?_eq_some_iff.1 hj).1; simpa [spots] using this
  have hx : R[j]? = some R[j] := List.getElem?_eq_getElem hjl
  have hp : p = R[j].s := by
   rw [spots, List.getElem?_map, hx] at hj
   exact (Option.some.inj hj).symm
  subst hp
  have hV := hr _ (List.getElem_mem hjl)
  obtain ⟨A2, c2, hv, l2, g2⟩ := hV
  refine ⟨R[j].cells, rfl, ?_, fun i u hu => ?_⟩
  ·have := k33_mk W' R[j].s l2 (g2 W' hW)
   rw [Rw.cells, hv]
   exact this
  ·have hi : i < 3 := (List.getElem?_eq_some_iff.1 hu).1
   have h1 := hc (j * 3 + i) u (by rw [flat_at Rw.cells 3 cells3 R j i _ hx hi]; exact hu)
   have hlt := lt_of_cell h1
   rw [World.cell?_of_block (w := w) (w' := W')] <;> first | exact h1 | (rw [block_of_add] at hlt ⊢; exact hW _ (hok ad hA) hlt)
end
/-- Who tells of an address. -/
structure PredF where
 K : Nat
 caps : Array Value
 I : World → Prop
 p : Int → Bool
 enter : ∀ (x : Rw) (w : World), (callFunc K (#[.agg #[.int .i64 x.s.f0, .int .i64 x.s.f1, x.v]] ++ caps)).run Try.prog w = .ok (.enter K (#[.agg #[.int .i64 x.s.f0, .int .i64 x.s.f1, x.v]] ++ caps)) w
 keep : ∀ {w w'}, I w → Below w.heap.size w w' → I w'
 run : ∀ {w} (x : Rw), I w → Calls Try.prog K (#[.agg #[.int .i64 x.s.f0, .int .i64 x.s.f1, x.v]] ++ caps) w fun e w' => e = .returned (.bool (p x.s.f0)) ∧ Below w.heap.size w w'
def idxI (p : Int → Bool) (R : List Rw) : Int := if R.findIdx (fun x => p x.s.f0) < R.length then (R.findIdx (fun x => p x.s.f0) : Int) else -1
theorem idx_at {p : Int → Bool} {R : List Rw} {i : Nat} {x : Rw} (h : ∀ j y, j < i → R[j]? = some y → p y.s.f0 = false) (hx : R[i]? = some x) (hp : p x.s.f0 = true) : idxI p R = i := by
 have hi := (List.getElem?_eq_some_iff.1 hx).1
 have he := (List.getElem?_eq_some_iff.1 hx).2
 have : R.findIdx (fun x => p x.s.f0) = i := by
  rw [List.findIdx_eq hi]
  refine ⟨by rw [he]; exact hp, fun j hj => ?_⟩
  exact h j _ hj (List.getElem?_eq_getElem (by omega))
 rw [idxI, this, if_pos hi]
theorem idx_none {p : Int → Bool} {R : List Rw} (h : ∀ j y, j < R.length → R[j]? = some y → p y.s.f0 = false) : idxI p R = -1 := by
 have : R.findIdx (fun x => p x.s.f0) = R.length := by
  rw [List.findIdx_eq_length]
  intro x hx
  obtain ⟨j, hj, rfl⟩ := List.mem_iff_getElem.1 hx
  exact h j _ hj (List.getElem?_eq_getElem hj)
 rw [idxI, this, if_neg (by omega)]
set_option maxRecDepth 100000 in
set_option maxHeartbeats 2000000 in
theorem index_any (C : PredF) (A : Option Addr) (n c : Nat) (R : List Rw) (hn : n ≤ 1000) (w : World) (hr : Reads w w.heap.size 3 A n (R.flatMap Rw.cells)) (hI : C.I w) :
  Calls Try.prog 47 #[.slice A n c, .func (.func C.K) #[] C.caps] w fun e w' => e = .returned (.int .i64 (idxI C.p R)) ∧ Below w.heap.size w w' := by
 have HL := Lib.hid (raw_len hr)
 have HR := Lib.hid hr
 have HI := Lib.hid hI
 clear hr hI
 go_enter Try.func47, Try.ntmps47
 go_wp2_with fail
 go_loopw [8] (fun v wr => ∃ i : Nat, i ≤ n ∧ v = .int .i64 i ∧ (∀ j y, j < i → R[j]? = some y → C.p y.s.f0 = false) ∧ Below w.heap.size w wr) (fun v _ => n - (intOf v).toNat)
 case atStart => exact ⟨0, Nat.zero_le _, rfl, fun j y hj => absurd hj (by omega), Below.refl _ _⟩
 case round =>
  obtain ⟨i, hi, rfl, hall, hb⟩ := hrel
  have HALL := Lib.hid hall
  have HB := Lib.hid hb
  by_cases hlt : i < n
  ·have d0 : decide ((i : Int) < n) = true := decide_eq_true (by omega)
   obtain ⟨ad, x, rfl, _, hx, q0, q1, q2⟩ := raw_at (HR.out.below hb) hlt
   have HX := Lib.hid hx
   have hen := fun W => C.enter x W
   have hrun := Lib.hid (C.run (w := wr) x (C.keep HI.out hb))
   clear hall hb hx
   go_wp2_with fail
   refine hrun.out.mono ?_
   rintro e w2 ⟨rfl, hb2⟩
   have HB2 := Lib.hid (bthen HB.out hb2)
   clear hb2 q0 q1 q2
   cases hp : C.p x.s.f0 with
   | true =>
    have HE := Lib.hid (idx_at (p := C.p) (R := R) (i := i) (x := x) HALL.out HX.out hp)
    clear hp
    go_wp2_with fail
    go_ret
    exact ⟨by rw [HE.out]; rfl, HB2.out⟩
   | false =>
    have HP := Lib.hid hp
    clear hp
    go_wp2_with fail
    refine ⟨⟨i + 1, by omega, rfl, fun j y hj hy => ?_, HB2.out⟩, by simp only [intOf]; omega⟩
    rcases Nat.lt_or_eq_of_le (Nat.le_of_lt_succ hj) with h | h
    ·exact HALL.out j y h hy
    ·rw [h, HX.out] at hy
     obtain rfl := Option.some.inj hy
     exact HP.out
  ·have d0 : decide ((i : Int) < n) = false := decide_eq_false (by omega)
   obtain rfl : i = n := by omega
   have HE := Lib.hid (idx_none (p := C.p) (R := R) (by rw [HL.out]; exact HALL.out))
   clear hall hb
   go_wp2_with fail
   go_ret
   exact ⟨by rw [HE.out]; rfl, HB.out⟩
end Go.Proofs.Ytnjnjajgpkmfhaa.PX

/-
 What a function value may turn: its own blocks, and what it makes; all else stays.
-/
namespace Go.Proofs.Ytnjnjajgpkmfhaa
open Go.RowKit

/-- All blocks but own ones are as they were; the streams are; no block has gone. -/
structure Kp (own : Nat → Prop) (w w' : World) : Prop where
 zero : Below 0 w w'
 same : ∀ k, k < w.heap.size → ¬ own k → w'.heap[k]? = w.heap[k]?
section
variable {own own' : Nat → Prop} {w a b w' : World}
theorem Kp.refl (own : Nat → Prop) (w : World) : Kp own w w := ⟨Below.refl _ _, fun _ _ _ => rfl⟩
theorem Kp.of_below (h : Below w.heap.size w w') : Kp own w w' := ⟨h.mono (Nat.zero_le _), fun k hk _ => h.block k hk⟩
theorem Kp.size (h : Kp own w w') : w.heap.size ≤ w'.heap.size := h.zero.size
theorem Kp.trans (h : Kp own w a) (k : Kp own' a b) (hs : ∀ i, own' i → own i ∨ w.heap.size ≤ i) : Kp own w b :=
 ⟨h.zero.trans k.zero, fun i hi hn => (k.same i (Nat.lt_of_lt_of_le hi h.size) (fun ho => by
  rcases hs i ho with h1 | h1
  ·exact hn h1
  ·omega)).trans (h.same i hi hn)⟩
theorem Kp.below_ {B : Nat} (h : Kp own w w') (hB : B ≤ w.heap.size) (ho : ∀ k, own k → B ≤ k) : Below B w w' :=
 ⟨h.zero.os, h.zero.tape, h.zero.output, h.zero.size, fun k hk => h.same k (by omega) (fun hq => by have := ho k hq; omega)⟩
theorem Kp.alloc (h : Kp own w a) (o : Obj) : Kp own w (a.alloc o) := h.trans (own' := fun _ => False) (.of_below ((Below.refl _ _).alloc (Nat.le_refl _) o)) (fun _ h => h.elim)
theorem Kp.drew (h : Kp own w a) : Kp own w a.drew := h.trans (own' := fun _ => False) (.of_below (Below.refl _ _).drew) (fun _ h => h.elim)
theorem Kp.more (h : Kp own w a) (k : Below a.heap.size a b) : Kp own w b := h.trans (own' := fun _ => False) (.of_below k) (fun _ h => h.elim)
theorem Kp.setCell (h : Kp own w a) {p : Addr} (hp : own p.block ∨ w.heap.size ≤ p.block) (u : Value) : Kp own w (a.setCell p u) :=
 ⟨h.zero.setCell (Nat.zero_le _) u, fun k hk hn => (Below.heap_setCell a p u k (fun e => by
  subst e
  rcases hp with hp | hp
  ·exact hn hp
  ·omega)).trans (h.same k hk hn)⟩
theorem Kp.grown {row : Option Nat} (h : Kp own w a) (hg : a.grownBy b row) (hr : ∀ g, row = some g → own g ∨ w.heap.size ≤ g) : Kp own w b :=
 ⟨h.zero.grown hg (Nat.zero_le _) (fun _ _ => Nat.zero_le _), fun k hk hn => (hg.block k (Nat.lt_of_lt_of_le hk h.size) (fun e => by
  rcases hr k e.symm with hq | hq
  ·exact hn hq
  ·omega)).trans (h.same k hk hn)⟩
theorem Blk.kp {g : Nat} {t : TypeId} {cs : Array Value} (h : Blk w g t cs) (hk : Kp own w w') (hg : ¬ own g) : Blk w' g t cs := (hk.same g h.lt hg).trans h
theorem own_kp {base : Nat} {e : TypeId} {size n : Nat} {v : Value} {xs : List Value} (h : w.ownsRow base e size v n xs) (hk : Kp own w w') (hg : ∀ g, v.ownBlock = some g → ¬ own g) : w'.ownsRow base e size v n xs := by
 obtain ⟨h1, h2⟩ := h
 refine ⟨h1, ?_⟩
 rcases h2 with h2 | ⟨g, cap, cur, rfl, hb, hh, r⟩
 ·exact .inl h2
 ·have hlt : g < w.heap.size := by
   rcases Nat.lt_or_ge g w.heap.size with hlt | hge
   ·exact hlt
   ·rw [Array.getElem?_eq_none hge] at hh; cases hh
  exact .inr ⟨g, cap, cur, rfl, hb, (hk.same g hlt (hg g (by simp [Value.ownBlock]))).trans hh, r⟩
end
/-- A row of the call's own, cut behind. -/
theorem own_cut {w : World} {base : Nat} {e : TypeId} {size n k : Nat} {g : Addr} {c : Nat} {xs : List Value} (h : w.ownsRow base e size (.slice (some g) n c) n xs) (hk : k ≤ n) : w.ownsRow base e size (.slice (some g) k c) k (xs.take (k * size)) := by
 obtain ⟨h1, h2⟩ := h
 have hm := Nat.mul_le_mul_right size hk
 rcases h2 with ⟨hv, _⟩ | ⟨g', cap, cur, hv, hb, hh, hn, hm2, hs, hx⟩
 ·cases hv
 ·injection hv with e1 e2 e3
  injection e1 with e1
  subst e1 e3
  refine ⟨by rw [List.length_take, h1]; omega, .inr ⟨g', c, cur, rfl, hb, hh, by omega, hm2, hs, ?_⟩⟩
  rw [← hx, List.take_take, Nat.min_eq_left hm]
end Go.Proofs.Ytnjnjajgpkmfhaa

/-
 Cells that are written one behind the other into a row.
-/
namespace Go.Proofs.Ytnjnjajgpkmfhaa
open Go.RowKit
def over (cs : Array Value) : Nat → List Value → Array Value
 | _, [] => cs
 | o, v :: vs => over (cs.setIfInBounds o v) (o + 1) vs
end Go.Proofs.Ytnjnjajgpkmfhaa

/-
 Words on own rows that more than one group wants (they stood in the judge's texts first).
-/
namespace Go.Proofs.Ytnjnjajgpkmfhaa
open Go.RowKit
namespace Judge
theorem below_setRow {w a : World} {B g : Nat} (h : Below B w a) (hg : B ≤ g) (cs : Array Value) : Below B w (a.setRow g cs) := by
 refine h.trans ⟨rfl, rfl, rfl, ?_, ?_⟩
 ·simp [World.setRow]
 ·intro k hk
  simp [World.setRow, Array.getElem?_modify, show ¬ g = k by omega]
theorem own_empty (w : World) (B : Nat) (e : TypeId) (size : Nat) (hB : B ≤ w.heap.size) : (w.alloc (.cells #[] e)).ownsRow B e size (.slice (some ⟨w.heap.size, 0, none⟩) 0 0) 0 [] :=
 ⟨by simp, .inr ⟨w.heap.size, 0, #[], rfl, hB, heap_alloc_new w _, Nat.le_refl _, by simp [maxLen], by simp, by simp⟩⟩
/-- 'clear(s)' of a run of a row: what lies ahead of it stays. -/
theorem run_clear_row {P : Program} (w : World) (t e ty t' : TypeId) (z : Value) (hu : P.underlying t = some (.slice e)) (hv : ∀ w, (zeroValue e).run P w = .ok z w) (m g o n c : Nat) (hm : z.cells.size = m) (h1 : ∀ v ∈ z.cells, v.oneCell' = true)
  (cur : Array Value) (hg : w.heap[g]? = some (.cells cur t' (0, 0))) (hfit : o + n * m ≤ cur.size) :
  ∃ cur' : Array Value, (Builtin.clear_ #[t] ty #[.slice (some ⟨g, o, none⟩) n c]).run P w = .ok (.tuple #[]) (w.setRow g cur') ∧ cur'.size = cur.size ∧ cur'.toList.take o = cur.toList.take o := by
 rcases Nat.eq_zero_or_pos n with h0 | h0
 ·subst h0
  refine ⟨cur, ?_, rfl, rfl⟩
  rw [setRow_self w g cur t' (0, 0) hg]
  simp [Builtin.clear_, run_underlying hu]
 ·have hlen : (Builtin.zeroCells z.cells n).toList.length = n * m := by simp [Builtin.zeroCells, hm]
  have hone : ∀ v ∈ (Builtin.zeroCells z.cells n).toList, v.oneCell' = true := by
   intro v hv
   simp only [Builtin.zeroCells, Array.toList_map, List.mem_map] at hv
   obtain ⟨i, hi, rfl⟩ := hv
   have hi' : i < n * z.cells.size := by simpa using hi
   have hpos : 0 < z.cells.size := by
    rcases Nat.eq_zero_or_pos z.cells.size with h | h
    ·rw [h] at hi'; omega
    ·exact h
   have hlt := Nat.mod_lt i hpos
   rw [getElem!_pos z.cells (i % z.cells.size) hlt]
   exact h1 _ (by simp)
  have hst := run_storeCells_at P g o t' (Builtin.zeroCells z.cells n).toList 0 cur w hg (by rw [hlen]; simpa using hfit) hone
  refine ⟨(cur.toList.take o ++ (Builtin.zeroCells z.cells n).toList ++ cur.toList.drop (o + n * m)).toArray, ?_, ?_, ?_⟩
  ·obtain ⟨k, rfl⟩ : ∃ k, n = k + 1 := ⟨n - 1, by omega⟩
   rw [hlen] at hst
   simp only [Nat.add_zero] at hst
   simp [Builtin.clear_, run_underlying hu, hv, hst]
  ·simp [Builtin.zeroCells, hm]; omega
  ·rw [List.append_assoc, List.take_append_of_le_length (by simp; omega), List.take_take, Nat.min_self]
end Judge
end Go.Proofs.Ytnjnjajgpkmfhaa

/-
 A row of spots of the call's own; the contracts of slices.Clone and slices.DeleteFunc over spots.
-/
namespace Go.Proofs.Ytnjnjajgpkmfhaa.PX
open Go.RowKit Go.Proofs.YtnjnjajgpkmfhaaW.PrintWords Go.Proofs.YtnjnjajgpkmfhaaW.PrintLast Go.Proofs.YtnjnjajgpkmfhaaW.PrintMore
theorem cells_one (R : List Rw) : ∀ u ∈ R.flatMap Rw.cells, u.oneCell' = true := by
 intro u hu
 obtain ⟨x, hx, hu⟩ := List.mem_flatMap.1 hu
 simp only [Rw.cells, List.mem_cons, List.not_mem_nil, or_false] at hu
 rcases hu with rfl | rfl | rfl <;> rfl
theorem infoSp : (Try.prog.info? 33).map (fun i => (i.zero, i.size, i.bytes)) = some (some (.agg #[.int .i64 0, .int .i64 0, .slice none 0 0]), 3, 40) := by kernel_rfl
def RowS (w : World) (g n c : Nat) (D : List Rw) : Prop := D.length = n ∧ ∃ cur, w.heap[g]? = some (.cells cur 33 (0, 0)) ∧ cur.size = c * 3 ∧ n ≤ c ∧ c ≤ maxLen ∧ cur.toList.take (n * 3) = D.flatMap Rw.cells
section
variable {w w' : World} {g n c i : Nat} {D : List Rw}
theorem RowS.len (h : RowS w g n c D) : D.length = n := h.1
theorem RowS.lt (h : RowS w g n c D) : g < w.heap.size := by
 obtain ⟨_, cur, hh, _⟩ := h
 exact Blk.lt hh
theorem RowS.block (h : RowS w g n c D) (hk : w'.heap[g]? = w.heap[g]?) : RowS w' g n c D := by
 obtain ⟨hl, cur, hh, h2⟩ := h
 exact ⟨hl, cur, hk.trans hh, h2⟩
theorem RowS.below (h : RowS w g n c D) (hb : Below w.heap.size w w') : RowS w' g n c D := h.block (hb.block g h.lt)
theorem RowS.alloc (h : RowS w g n c D) (o : Obj) : RowS (w.alloc o) g n c D := h.block (Below.heap_alloc w o g h.lt)
theorem RowS.fr (h : RowS w g n c D) (j : Nat) : w.frozen? ⟨g, j, none⟩ = false := by
 obtain ⟨_, cur, hh, _⟩ := h
 exact Blk.frozen hh j
theorem RowS.own {B : Nat} (h : RowS w g n c D) (hB : B ≤ g) : w.ownsRow B 33 3 (.slice (some ⟨g, 0, none⟩) n c) n (D.flatMap Rw.cells) := by
 obtain ⟨hl, cur, hh, hs, hn, hm, hx⟩ := h
 exact ⟨by rw [flat_len Rw.cells 3 cells3, hl], .inr ⟨g, c, cur, rfl, hB, hh, hn, hm, hs, hx⟩⟩
theorem RowS.reads (h : RowS w g n c D) : Reads w w.heap.size 3 (some ⟨g, 0, none⟩) n (D.flatMap Rw.cells) := Reads.of_own (h.own (Nat.zero_le _))
theorem RowS.at_ (h : RowS w g n c D) (hi : i < n) : ∃ x, D[i]? = some x ∧ w.cell? ⟨g, i * 3, none⟩ = some (.int .i64 x.s.f0) ∧ w.cell? ⟨g, i * 3 + 1, none⟩ = some (.int .i64 x.s.f1) ∧ w.cell? ⟨g, i * 3 + 2, none⟩ = some x.v := by
 obtain ⟨ad, x, had, _, hx, e0, e1, e2⟩ := raw_at h.reads hi
 obtain rfl : (⟨g, 0, none⟩ : Addr) = ad := Option.some.inj had
 have e : ((⟨g, 0, none⟩ : Addr).add (i * 3)) = ⟨g, i * 3, none⟩ := by unfold Addr.add; split <;> simp_all
 rw [e] at e0 e1 e2
 exact ⟨x, hx, e0, e1, e2⟩
theorem RowS.set_ (h : RowS w g n c D) (hi : i < n) (x : Rw) :
  RowS (((w.setCell ⟨g, i * 3, none⟩ (.int .i64 x.s.f0)).setCell ⟨g, i * 3 + 1, none⟩ (.int .i64 x.s.f1)).setCell ⟨g, i * 3 + 2, none⟩ x.v) g n c (D.set i x) := by
 obtain ⟨hl, cur, hh, hs, hn, hm, hx⟩ := h
 refine ⟨by simp [hl], _, ((Blk.set_ hh _ _).set_ _ _).set_ _ _, by simp [hs], hn, hm, ?_⟩
 simp only [Array.toList_setIfInBounds, List.take_set]
 rw [hx]
 have key : ∀ (l : List Rw) (i : Nat), i < l.length → (((l.flatMap Rw.cells).set (i * 3) (.int .i64 x.s.f0)).set (i * 3 + 1) (.int .i64 x.s.f1)).set (i * 3 + 2) x.v = (l.set i x).flatMap Rw.cells := by
  intro l
  induction l with
  | nil => intro i h; simp at h
  | cons y l ih =>
   intro i h
   cases i with
   | zero => simp [Rw.cells]
   | succ i =>
    have := ih i (by simpa using h)
    rw [List.set_cons_succ, List.flatMap_cons, List.flatMap_cons, ← this]
    have hy : (Rw.cells y).length = 3 := rfl
    simp only [List.set_append, hy]
    rw [if_neg (by omega), show (i + 1) * 3 - 3 = i * 3 by omega]
    simp only [List.set_append, hy]
    rw [if_neg (by omega), show (i + 1) * 3 + 1 - 3 = i * 3 + 1 by omega]
    simp only [List.set_append, hy]
    rw [if_neg (by omega), show (i + 1) * 3 + 2 - 3 = i * 3 + 2 by omega]
 exact key D i (by omega)
theorem rowS_of_own {B : Nat} {v : Value} (h : w.ownsRow B 33 3 v n (D.flatMap Rw.cells)) (hn : 0 < n) : ∃ g c, v = .slice (some ⟨g, 0, none⟩) n c ∧ B ≤ g ∧ RowS w g n c D := by
 obtain ⟨hl, h | ⟨g, c, cur, rfl, hb, hh, hc, hm, hs, ht⟩⟩ := h
 ·omega
 ·exact ⟨g, c, rfl, hb, by rw [flat_len Rw.cells 3 cells3] at hl; omega, cur, hh, hs, hc, hm, ht⟩
end
def OwnS (w0 : World) (n : Nat) (R : List Rw) (e : Ending) (w' : World) : Prop := ∃ v, e = .returned v ∧ w'.ownsRow w0.heap.size 33 3 v n (R.flatMap Rw.cells) ∧ Below w0.heap.size w0 w'
set_option maxRecDepth 100000 in
set_option maxHeartbeats 2000000 in
theorem clone_any (A : Option Addr) (n c : Nat) (R : List Rw) (hn : n ≤ 1000) (w : World) (hr : Reads w w.heap.size 3 A n (R.flatMap Rw.cells)) :
  Calls Try.prog 50 #[.slice A n c] w (OwnS w n R) := by
 obtain ⟨i0, hi, hz0, hz1, hz2⟩ := info_parts infoSp
 cases A with
 | none =>
  have h0 : n = 0 := by
   rcases Nat.eq_zero_or_pos n with h | h
   ·exact h
   ·obtain ⟨ad, h, _⟩ := hr.2 h; cases h
  subst h0
  have hnil : R.flatMap Rw.cells = [] := List.eq_nil_of_length_eq_zero (by simpa using hr.1)
  have HNIL := Lib.hid hnil
  have hq := fun w : World => Lib.run_eql_slice_nil (P := Try.prog) w 22 33 none 0 c 0 0 Try.underlying22
  clear hnil hr
  go_enter Try.func50, Try.ntmps50
  go_wp2_with fail
  go_ret
  exact ⟨_, rfl, by rw [HNIL.out]; exact World.ownsRow_nil _ _ _ _, Below.refl _ _⟩
 | some ad =>
  have HR := Lib.hid hr
  have hq := fun w : World => Lib.run_eql_slice_nil (P := Try.prog) w 22 33 (some ad) n c 0 0 Try.underlying22
  clear hr
  have hE := Judge.own_empty w w.heap.size 33 3 (Nat.le_refl _)
  have hRe := HR.out.alloc (Nat.le_refl _) (.cells #[] 33)
  have hBe := (Below.refl w.heap.size w).alloc (Nat.le_refl _) (.cells #[] 33)
  go_enter Try.func50, Try.ntmps50
  go_wp2_with (first
   | (at_builtin; refine wpList_append_any _ rfl _ _ 22 rfl w.heap.size 33 i0 (.agg #[.int .i64 0, .int .i64 0, .slice none 0 0]) 3 40 Try.underlying22 hi hz0 hz1 hz2 rfl (by decide) _ _ _ rfl hE w.heap.size (some ad) n c (R.flatMap Rw.cells) rfl hRe (cells_one R) ?c3 ?c4 ?c5 ?_)
   | go_in)
  case c3 => simp [maxLen]; omega
  case c4 => omega
  case c5 => simp
  intro v' w1 hown' hg1 _
  have hB1 := hBe.grown hg1 (by simp) (fun g hg => Nat.le_of_eq (Option.some.inj (show some w.heap.size = some g from hg)))
  have HO := Lib.hid hown'
  have HB1 := Lib.hid hB1
  clear hown' hg1 hB1 hE hRe hBe
  go_wp2_with fail
  go_ret
  exact ⟨v', rfl, by simpa using HO.out, HB1.out⟩
/-- Who is not told of stays. -/
def stay (p : Int → Bool) (R : List Rw) : List Rw := R.filter (fun x => !p x.s.f0)
theorem stay_all {p : Int → Bool} {R : List Rw} (h : idxI p R = -1) : stay p R = R := by
 unfold idxI at h
 split at h
 ·rename_i hlt
  omega
 ·rename_i hlt
  refine List.filter_eq_self.2 (fun x hx => ?_)
  have : R.findIdx (fun x => p x.s.f0) = R.length := Nat.le_antisymm List.findIdx_le_length (by omega)
  have := List.findIdx_eq_length.1 this x hx
  simp [this]
theorem idx_cases (p : Int → Bool) (R : List Rw) : idxI p R = -1 ∨ ∃ (k : Nat) (x : Rw), idxI p R = k ∧ R[k]? = some x ∧ p x.s.f0 = true ∧ stay p (R.take k) = R.take k := by
 by_cases hlt : R.findIdx (fun x => p x.s.f0) < R.length
 ·refine .inr ⟨_, R[R.findIdx (fun x => p x.s.f0)], by rw [idxI, if_pos hlt], List.getElem?_eq_getElem hlt, List.findIdx_getElem (w := hlt), ?_⟩
  refine List.filter_eq_self.2 (fun x hx => ?_)
  obtain ⟨j, hj, rfl⟩ := List.mem_iff_getElem.1 hx
  have hj' : j < R.findIdx (fun x => p x.s.f0) := by rw [List.length_take] at hj; omega
  have := List.not_of_lt_findIdx hj'
  rw [List.getElem_take]
  simpa using this
 ·exact .inl (by rw [idxI, if_neg hlt])
def DelP (g c : Nat) (p : Int → Bool) (R : List Rw) (w : World) (e : Ending) (w' : World) : Prop := e = .returned (.slice (some ⟨g, 0, none⟩) (stay p R).length c) ∧ RowS w' g (stay p R).length c (stay p R) ∧ Below g w w'
set_option maxRecDepth 100000 in
set_option maxHeartbeats 4000000 in
theorem del_any (C : PredF) (g n c : Nat) (R : List Rw) (hn : n ≤ 1000) (w : World) (hr : RowS w g n c R) (hI : C.I w) (hkeep : ∀ {a b : World}, C.I a → Below g a b → g < a.heap.size → C.I b) :
  Calls Try.prog 49 #[.slice (some ⟨g, 0, none⟩) n c, .func (.func C.K) #[] C.caps] w (DelP g c C.p R w) := by
 have hl : R.length = n := hr.1
 have HL := Lib.hid hl
 have HR := Lib.hid hr
 have HI := Lib.hid hI
 clear hl hr hI
 go_enter Try.func49, Try.ntmps49
 go_wp2_with fail
 refine (index_any C (some ⟨g, 0, none⟩) n c R hn _ HR.out.reads HI.out).mono ?_
 rintro e w1 ⟨rfl, hb1⟩
 have HB1 := Lib.hid (hb1.mono (Nat.le_of_lt HR.out.lt))
 have HR1 := Lib.hid (HR.out.below hb1)
 clear hb1
 rcases idx_cases C.p R with hno | ⟨k, x0, hk, hx0, hp0, hst⟩
 ·have HST := Lib.hid (stay_all hno)
  rw [hno]
  go_wp2_with fail
  go_ret
  refine ⟨by rw [HST.out, HL.out]; rfl, ?_, HB1.out⟩
  rw [HST.out, HL.out]
  exact HR1.out
 ·have hkn : k < n := by rw [← HL.out]; exact (List.getElem?_eq_some_iff.1 hx0).1
  have HH : Hid (stay C.p (R.take (k + 1)) = R.take k) := by
   unfold Hid
   rw [List.take_add_one, hx0, stay, List.filter_append]
   rw [stay] at hst
   rw [hst]
   simp [hp0]
  rw [hk]
  clear hst hp0 hx0 hk
  go_wp2_with fail
  go_loopw [5, 6] (fun i j wr => ∃ (a b : Nat) (L : List Rw), i = .int .i64 a ∧ j = .int .i64 b ∧ a < b ∧ b ≤ n ∧ RowS wr g n c L ∧ L.take a = stay C.p (R.take b) ∧ L.drop b = R.drop b ∧ Below g w wr) (fun _ j _ => n - (intOf j).toNat)
  case atStart => exact ⟨k, k + 1, R, rfl, by go_num, by omega, by omega, HR1.out, HH.out.symm, rfl, HB1.out⟩
  case round =>
   obtain ⟨a, b, L, rfl, rfl, hab, hbn, hrw, htk, hdr, hbw⟩ := hrel
   have HRW := Lib.hid hrw
   have HTK := Lib.hid htk
   have HDR := Lib.hid hdr
   have HBW := Lib.hid hbw
   clear hrw htk hdr hbw
   by_cases hlt : b < n
   ·have d0 : decide ((b : Int) < n) = true := decide_eq_true (by omega)
    obtain ⟨x, hx, e0, e1, e2⟩ := HRW.out.at_ hlt
    have HX := Lib.hid hx
    have hRb : R[b]? = some x := by
     have h1 := congrArg (fun l => l[0]?) HDR.out
     simp only [List.getElem?_drop, Nat.add_zero] at h1
     rw [← h1]; exact HX.out
    have HRb := Lib.hid hRb
    obtain ⟨xs, Ax, cx⟩ := x
    simp only [Rw.v] at e2
    clear hx hRb
    have hgw : g ≤ wr.heap.size := Nat.le_of_lt HRW.out.lt
    have HA := Lib.hid (HRW.out.alloc (.cells #[.int .i64 xs.f0, .int .i64 xs.f1, .slice Ax xs.f2.length cx] 33))
    have HAB := Lib.hid (HBW.out.alloc hgw (.cells #[.int .i64 xs.f0, .int .i64 xs.f1, .slice Ax xs.f2.length cx] 33))
    have HAN := Lib.hid (Blk.new wr 33 #[.int .i64 xs.f0, .int .i64 xs.f1, .slice Ax xs.f2.length cx])
    have hne : wr.heap.size ≠ g := by have := HRW.out.lt; omega
    have hen := fun W => C.enter ⟨xs, Ax, cx⟩ W
    simp only [Rw.v] at hen
    go_wp2_with fail
    obtain ⟨W, hW⟩ : ∃ W, wr.alloc (.cells #[.int .i64 xs.f0, .int .i64 xs.f1, .slice Ax xs.f2.length cx] 33) = W := ⟨_, rfl⟩
    rw [hW] at HA HAB HAN ⊢
    clear hW e0 e1 e2 hgw
    have hIW : C.I W := hkeep HI.out HAB.out HR.out.lt
    refine (C.run ⟨xs, Ax, cx⟩ hIW).mono ?_
    rintro e w2 ⟨rfl, hb2⟩
    have HR2 := Lib.hid (HA.out.below hb2)
    have HB2 := Lib.hid (HAB.out.trans (hb2.mono (Nat.le_of_lt HA.out.lt)))
    have HN2 := Lib.hid (HAN.out.below hb2 HAN.out.lt)
    clear hb2 hIW
    cases hkp : C.p xs.f0 with
    | false =>
     obtain ⟨y, _, f0, f1, f2⟩ := HR2.out.at_ (show a < n by omega)
     obtain ⟨q0, q1, q2⟩ := HN2.out.at3
     have z0 := HR2.out.fr
     have HK := Lib.hid hkp
     clear hkp
     go_wp2_with fail
     refine ⟨⟨_, _, _, _, _, _, _, _, _, _, _, _, _, _, _, _, _, _, _, _, _, _, _, ⟨a + 1, b + 1, L.set a ⟨xs, Ax, cx⟩, by go_num, by go_num, by omega, by omega, HR2.out.set_ (show a < n by omega) ⟨xs, Ax, cx⟩, ?_, ?_, ?_⟩, rfl⟩, by simp [intOf]; omega⟩
     ·have hal : a < L.length := by rw [HR2.out.1]; omega
      rw [List.take_add_one, List.take_add_one, stay, List.filter_append, ← stay, ← HTK.out, HRb.out, List.getElem?_set_self hal, List.take_set_of_le (Nat.le_refl a)]
      simp [HK.out]
     ·rw [List.drop_set_of_lt (by omega), ← List.drop_drop, ← List.drop_drop, HDR.out]
     ·exact ((HB2.out.setCell (p := ⟨g, a * 3, none⟩) (Nat.le_refl _) _).setCell (p := ⟨g, a * 3 + 1, none⟩) (Nat.le_refl _) _).setCell (p := ⟨g, a * 3 + 2, none⟩) (Nat.le_refl _) _
    | true =>
     have HK := Lib.hid hkp
     clear hkp
     go_wp2_with fail
     refine ⟨⟨_, _, _, _, _, _, _, _, _, _, _, _, _, _, _, _, _, _, _, _, _, _, _, ⟨a, b + 1, L, rfl, by go_num, by omega, by omega, HR2.out, ?_, ?_, HB2.out⟩, rfl⟩, by simp [intOf]; omega⟩
     ·rw [List.take_add_one, stay, List.filter_append, ← stay, ← HTK.out, HRb.out]
      simp [HK.out]
     ·rw [← List.drop_drop, ← List.drop_drop, HDR.out]
   ·have d0 : decide ((b : Int) < n) = false := decide_eq_false (by omega)
    obtain rfl : b = n := by omega
    have han : a ≤ b := by omega
    obtain ⟨_, cur, hh, hs5, hcap, hcm2, hflat⟩ := HRW.out
    have hac : a ≤ c := by omega
    have hca : ¬ c = a := by omega
    have hq : ∀ ty, ∃ cur' : Array Value, (Builtin.clear_ #[22] ty #[.slice (some ⟨g, a * 3, none⟩) (b - a) (c - a)]).run Try.prog wr = .ok (.tuple #[]) (wr.setRow g cur') ∧ cur'.size = cur.size ∧ cur'.toList.take (a * 3) = cur.toList.take (a * 3) := fun ty =>
     Judge.run_clear_row wr 22 33 ty 33 (.agg #[.int .i64 0, .int .i64 0, .slice none 0 0]) Try.underlying22 (fun w => by kernel_rfl) 3 g (a * 3) (b - a) (c - a) rfl (by simp [Value.cells, Value.oneCell']) cur hh (by rw [hs5, ← Nat.add_mul]; exact Nat.mul_le_mul_right 3 (by omega))
    obtain ⟨cur', hcl, hsz, htk⟩ := hq 0
    have HSZ := Lib.hid hsz
    have HT := Lib.hid htk
    have HF := Lib.hid hflat
    have HH2 := Lib.hid hh
    have HCAP := Lib.hid hcap
    have HCM := Lib.hid hcm2
    have HS5 := Lib.hid hs5
    clear hq hsz htk hflat hh hcap hcm2 hs5
    go_wp2_with fail
    go_ret
    have hF : stay C.p R = L.take a := by rw [HTK.out, ← HL.out, List.take_length]
    have hlen : (L.take a).length = a := by rw [List.length_take, HRW.out.1]; omega
    refine ⟨by rw [hF, hlen]; rfl, ?_, Judge.below_setRow HBW.out (Nat.le_refl _) _⟩
    rw [hF, hlen]
    refine ⟨hlen, cur', setRow_heap wr g cur cur' _ _ HH2.out, by rw [HSZ.out, HS5.out], Nat.le_trans han HCAP.out, HCM.out, ?_⟩
    have e : List.take (a * 3) cur.toList = List.take (a * 3) (L.flatMap Rw.cells) := by
     rw [← HF.out, List.take_take, Nat.min_eq_left (Nat.mul_le_mul_right 3 han)]
    rw [HT.out, e]
    conv => lhs; rw [← List.take_append_drop a L, List.flatMap_append]
    exact List.take_left' (by rw [flat_len Rw.cells 3 cells3, hlen])
end Go.Proofs.Ytnjnjajgpkmfhaa.PX

/-
 The contract of slices.Insert over spots: one more, at a place.
-/
namespace Go.Proofs.Ytnjnjajgpkmfhaa.PX
open Go.RowKit Go.Proofs.YtnjnjajgpkmfhaaW.PrintWords Go.Proofs.YtnjnjajgpkmfhaaW.PrintLast Go.Proofs.YtnjnjajgpkmfhaaW.PrintMore
section
variable {P : Program}
theorem step_copy_eq {ops : Array Oper} {o : Oper} {a : Act} {w : World} {K : Act → World → Prop} {Q : Exit → Act → World → Prop} {E : Prop}
  (hg : o.guard = none) (d x : Operand) (dT sT : TypeId) (hop : o.op = Op.call { callee := Callee.builtin Builtin.copy, args := #[d, x], argTypes := #[dT, sT] })
  (v u : Value) (hd : a.eval d = v) (hx : a.eval x = u) {v' : Value} {w' : World} (hr : (Builtin.copy_ #[dT, sT] o.type #[v, u]).run P w = .ok v' w') (hK : K (a.put o.dst v') w') :
  if Region.wanted o (yielded ops a.tmps) = true then Oper.wp P o a w K Q else E := by
 have hw : Region.wanted o (yielded ops a.tmps) = true := by simp [Region.wanted, hg]
 rw [if_pos hw]
 unfold Oper.wp
 simp [execOp, hop, resolve, invoke, builtin, hd, hx, hr, Result.andThen]
 exact hK
end
/-- A copy of spots into a row of the call's own. -/
theorem copy_spots (w : World) (ty : TypeId) (g o dLen dCap : Nat) (a : Addr) (sLen sCap k : Nat) (cur : Array Value) (cs : List Value)
  (hg : w.heap[g]? = some (.cells cur 33 (0, 0))) (hk : k = Nat.min sLen dLen) (hcs : cs.length = k * 3) (hsrc : ∀ j v, cs[j]? = some v → w.cell? (a.add j) = some v) (hfit : o + cs.length ≤ cur.size) (h1 : ∀ v ∈ cs, v.oneCell' = true) :
  (Builtin.copy_ #[22, 22] ty #[.slice (some ⟨g, o, none⟩) dLen dCap, .slice (some a) sLen sCap]).run Try.prog w = .ok (goInt k) (w.setRow g (cur.toList.take o ++ cs ++ cur.toList.drop (o + cs.length)).toArray) :=
 run_copy_rowM (P := Try.prog) w 22 22 ty 33 3 g o k dLen dCap a sLen sCap cur 33 cs Try.underlying22 infoSpot hg hk hcs hsrc hfit h1
/-- append(s, make(..)...) where there is no room: a row of its own, that begins as s does. -/
theorem append_made (w : World) (ty : TypeId) (ad : Addr) (i c m : Nat) (xs : List Value) (hl : xs.length = i * 3) (hc : ∀ j u, xs[j]? = some u → w.cell? (ad.add j) = some u) (hgrow : c < i + m) (hb : (i + m) * 40 ≤ 140737488355328) (hm : 0 < m) :
  ∃ (cs : Array Value) (cap : Nat), (Builtin.append_ #[22, 3] ty #[.slice (some ad) i c, .int .i64 m]).run Try.prog w = .ok (.slice (some ⟨w.heap.size, 0, none⟩) (i + m) cap) (w.drew.alloc (.cells cs 33)) ∧ cs.size = cap * 3 ∧ i + m ≤ cap ∧ cap ≤ maxLen ∧ cs.toList.take (i * 3) = xs := by
 obtain ⟨i0, hi, hz, hsz, hby⟩ := info_parts infoSp
 have hle : i + m ≤ 140737488355328 := by omega
 have h63 : i + m ≤ maxLen := by simp only [maxLen]; omega
 have hw : IntKind.i64.wrap (m : Int) = m := by rw [IntKind.wrap_i64]; omega
 have hneg : ¬ ((m : Int) < 0) := by omega
 have hbig : ¬ (281474976710656 < (m : Int) * (40 : Int)) := by omega
 have hn : ¬ (i + m ≤ c) := by omega
 have h63' : ¬ (9223372036854775807 < ((i : Int) + (m : Int))) := by omega
 have hfit := growslice_fits hgrow (bytes := 40) hb
 have h48' : ¬ (281474976710656 < Builtin.nextslicecap (i + m) c * 40) := by omega
 have hfo := run_firstCells_some (P := Try.prog) w.drew 3 i ad i c xs hl (by simpa using hc)
 have hge := grownCap_ge w (i + m) c 33
 have hcm := grownCap_le_maxLen w (i + m) c 33 h63
 refine ⟨xs.toArray ++ Builtin.zeroCells #[.int .i64 0, .int .i64 0, .slice none 0 0] m ++ Builtin.zeroCells #[.int .i64 0, .int .i64 0, .slice none 0 0] (grownCap w (i + m) c 33 - (i + m)), grownCap w (i + m) c 33, ?_, ?_, hge, hcm, ?_⟩
 ·simp [Builtin.append_, run_underlying Try.underlying22, run_underlying Try.underlying3, sizeOf, typeInfo, zeroValue, hi, hz, hsz, hby, asInt, asIntOf, hw, hneg, hbig, hn, h63', h48', Question.forced, hfo, newRow, grownCap, Value.cells]
  intro h0
  omega
 ·simp only [Array.size_append, List.size_toArray, size_zeroCells, hl]
  show i * 3 + m * 3 + (grownCap w (i + m) c 33 - (i + m)) * 3 = grownCap w (i + m) c 33 * 3
  omega
 ·simp only [Array.toList_append, List.append_assoc]
  rw [← hl]
  exact List.take_left
def cutS (A : Option Addr) (c k : Nat) : Option Addr := if c = k then A else A.map (·.add (k * 3))
theorem run_from_spots (A : Option Addr) (n c k : Nat) (hk : k ≤ n) (w : World) : (Instr.slice 22 (.slice A n c) (some (.int .i64 k)) none none).run Try.prog w = .ok (.slice (cutS A c k) (n - k) (c - k)) w := by
 obtain ⟨i0, hi, hz0, hz1, hz2⟩ := info_parts infoSp
 have he : Try.prog.elem 22 = 33 := by kernel_rfl
 rw [run_slice_l w 22 A n c (by rw [he]; exact Try.underlying22) .i64 k (by omega) (by omega), he]
 simp [sizeOf, typeInfo, hi, hz1, sliced, cutS]
def put1 (D : List Rw) (i : Nat) (x : Rw) : List Rw := D.take i ++ x :: D.drop i
theorem put1_cells (D : List Rw) (i : Nat) (x : Rw) : (put1 D i x).flatMap Rw.cells = (D.take i).flatMap Rw.cells ++ (x.cells ++ (D.drop i).flatMap Rw.cells) := by simp [put1]
def InsP (B n i : Nat) (D : List Rw) (x : Rw) (w : World) (e : Ending) (w' : World) : Prop := ∃ v, e = .returned v ∧ w'.ownsRow B 33 3 v (n + 1) ((put1 D i x).flatMap Rw.cells) ∧ Below B w w'
set_option maxRecDepth 100000 in
set_option maxHeartbeats 4000000 in
theorem ins_end (B n : Nat) (v : Value) (D : List Rw) (x : Rw) (gv : Nat) (hn : n ≤ 1000) (w : World) (hown : w.ownsRow B 33 3 v n (D.flatMap Rw.cells)) (hB : B ≤ w.heap.size) (hv : Blk w gv 33 #[.int .i64 x.s.f0, .int .i64 x.s.f1, x.v]) :
  Calls Try.prog 53 #[v, .int .i64 n, .slice (some ⟨gv, 0, none⟩) 1 1] w (InsP B n n D x w) := by
 obtain ⟨i0, hi, hz0, hz1, hz2⟩ := info_parts infoSp
 have hlD : D.length = n := by have := hown.1; rw [flat_len Rw.cells 3 cells3] at this; omega
 obtain ⟨A, c, rfl, hnc, hcm, hrd⟩ := own_reads3 hown
 have HLD := Lib.hid hlD
 have HO := Lib.hid hown
 have HV : Hid (Reads w w.heap.size 3 (some ⟨gv, 0, none⟩) 1 x.cells) := Reads.of_blk hv rfl
 have hone : ∀ u ∈ x.cells, u.oneCell' = true := by
  have := cells_one [x]
  simpa using this
 have HONE := Lib.hid hone
 have hcut := run_from_spots A n c n (Nat.le_refl _)
 have hnw : IntKind.i64.wrap (n : Int) = n := by rw [IntKind.wrap_i64]; omega
 clear hown hv hone hrd hlD
 go_enter Try.func53, Try.ntmps53
 go_wp2_with (first
  | (at_builtin; refine wpList_append_any _ rfl _ _ 22 rfl B 33 i0 (.agg #[.int .i64 0, .int .i64 0, .slice none 0 0]) 3 40 Try.underlying22 hi hz0 hz1 hz2 rfl (by decide) _ _ _ rfl HO.out _ _ _ _ _ rfl HV.out HONE.out ?c3 ?c4 ?c5 ?_)
  | go_in)
 all_goals try (case c3 => simp [maxLen]; omega)
 all_goals try (case c4 => omega)
 all_goals try (case c5 => exact hB)
 all_goals
  intro v' w1 ho hg _
  have HB1 := Lib.hid ((Below.refl B w).grown hg hB (own_base HO.out))
  have HO1 := Lib.hid ho
  clear ho hg
  go_wp2_with fail
  go_ret
  refine ⟨_, rfl, ?_, HB1.out⟩
  have e : (put1 D n x).flatMap Rw.cells = D.flatMap Rw.cells ++ x.cells := by
   rw [put1_cells, ← HLD.out, List.take_length, List.drop_length]
   simp
  rw [e]
  exact HO1.out
theorem put1_len {D : List Rw} {i n : Nat} {x : Rw} (hl : D.length = n) (hi : i ≤ n) : (put1 D i x).length = n + 1 := by simp [put1]; omega
theorem len_take (D : List Rw) (k : Nat) (hk : k ≤ D.length) : ((D.take k).flatMap Rw.cells).length = k * 3 := by rw [flat_len Rw.cells 3 cells3, List.length_take]; omega
theorem len_drop (D : List Rw) (k : Nat) : ((D.drop k).flatMap Rw.cells).length = (D.length - k) * 3 := by rw [flat_len Rw.cells 3 cells3, List.length_drop]
theorem take_flat (D : List Rw) (k : Nat) (hk : k ≤ D.length) : (D.flatMap Rw.cells).take (k * 3) = (D.take k).flatMap Rw.cells := by
 conv => lhs; rw [← List.take_append_drop k D, List.flatMap_append]
 exact List.take_left' (len_take D k hk)
theorem drop_flat (D : List Rw) (k : Nat) (hk : k ≤ D.length) : (D.flatMap Rw.cells).drop (k * 3) = (D.drop k).flatMap Rw.cells := by
 conv => lhs; rw [← List.take_append_drop k D, List.flatMap_append]
 exact List.drop_left' (len_take D k hk)
set_option maxRecDepth 100000 in
set_option maxHeartbeats 4000000 in
/-- There is room: in place. -/
theorem ins_room (B g n c i : Nat) (D : List Rw) (x : Rw) (gv : Nat) (hn : n ≤ 1000) (hi : i < n) (hroom : n + 1 ≤ c) (w : World) (hr : RowS w g n c D) (hB : B ≤ g) (hv : Blk w gv 33 #[.int .i64 x.s.f0, .int .i64 x.s.f1, x.v]) (hne : gv ≠ g) :
  Calls Try.prog 53 #[.slice (some ⟨g, 0, none⟩) n c, .int .i64 i, .slice (some ⟨gv, 0, none⟩) 1 1] w (InsP B n i D x w) := by
 obtain ⟨hl, cur, hh, hcs, hnc, hcm, hx⟩ := hr
 have hdl : (D.drop i).length = n - i := by rw [List.length_drop, hl]
 have hgl := Blk.lt hh
 -- the first copy: what stands from i on, one farther
 obtain ⟨cs1, hcs1⟩ : ∃ cs1, (D.drop i).flatMap Rw.cells = cs1 := ⟨_, rfl⟩
 have hl1 : cs1.length = (n - i) * 3 := by rw [← hcs1, len_drop, hl]
 have hcell : ∀ (W : World), W.heap = w.heap → ∀ j v, cs1[j]? = some v → W.cell? ((⟨g, i * 3, none⟩ : Addr).add j) = some v := fun W hW j v hj => by
  have e : ((⟨g, i * 3, none⟩ : Addr).add j) = ⟨g, i * 3 + j, none⟩ := by unfold Addr.add; by_cases hj : j = 0 <;> simp [hj]
  have hb : W.heap[g]? = some (.cells cur 33 (0, 0)) := by rw [hW]; exact hh
  rw [e, cell_of_row W g _ cur 33 (0, 0) hb]
  rw [← hcs1, ← drop_flat D i (by omega), List.getElem?_drop, ← hx] at hj
  rw [List.getElem?_take] at hj
  split at hj
  ·simpa using hj
  ·cases hj
 obtain ⟨cur1, hcur1⟩ : ∃ cur1, (cur.toList.take ((i + 1) * 3) ++ cs1 ++ cur.toList.drop ((i + 1) * 3 + cs1.length)).toArray = cur1 := ⟨_, rfl⟩
 have hsz1 : cur1.size = c * 3 := by rw [← hcur1]; simp; omega
 have hcp1 := fun (ty : TypeId) (dc sc : Nat) => copy_spots w.drew ty g ((i + 1) * 3) (n - i) dc ⟨g, i * 3, none⟩ (n + 1 - i) sc (n - i) cur cs1 hh (by simp only [Nat.min_def]; split <;> omega) hl1 (hcell w.drew rfl) (by rw [hl1, hcs]; omega) (by rw [← hcs1]; exact cells_one _)
 rw [hcur1] at hcp1
 have hh1 : (w.drew.setRow g cur1).heap[g]? = some (.cells cur1 33 (0, 0)) := setRow_heap w.drew g cur cur1 _ _ hh
 have hv1 : Blk (w.drew.setRow g cur1) gv 33 #[.int .i64 x.s.f0, .int .i64 x.s.f1, x.v] := (setRow_other w.drew g gv cur1 hne).trans hv
 obtain ⟨w1, hw1⟩ : ∃ w1, w.drew.setRow g cur1 = w1 := ⟨_, rfl⟩
 have hbw1 : Below B w w1 := by rw [← hw1]; exact Judge.below_setRow (Below.refl B w).drew hB cur1
 rw [hw1] at hcp1 hh1 hv1
 obtain ⟨cur2, hcur2⟩ : ∃ cur2, (cur1.toList.take (i * 3) ++ x.cells ++ cur1.toList.drop (i * 3 + x.cells.length)).toArray = cur2 := ⟨_, rfl⟩
 have hcellv : ∀ j v, x.cells[j]? = some v → w1.cell? ((⟨gv, 0, none⟩ : Addr).add j) = some v := fun j v hj => by
  have e : ((⟨gv, 0, none⟩ : Addr).add j) = ⟨gv, j, none⟩ := by unfold Addr.add; by_cases hj : j = 0 <;> simp [hj]
  rw [e, hv1.cell]
  simpa [Rw.cells] using hj
 have hcp2 := fun (ty : TypeId) (dc : Nat) => copy_spots w1 ty g (i * 3) (n + 1 - i) dc ⟨gv, 0, none⟩ 1 1 1 cur1 x.cells hh1 (by simp only [Nat.min_def]; split <;> omega) rfl hcellv (by rw [hsz1]; simp [Rw.cells]; omega) (by have := cells_one [x]; simpa using this)
 rw [hcur2] at hcp2
 -- what there is at last
 have hfin : cur2.size = c * 3 ∧ cur2.toList.take ((n + 1) * 3) = (put1 D i x).flatMap Rw.cells := by
  refine ⟨by rw [← hcur2]; simp [Rw.cells, hsz1]; omega, ?_⟩
  have e1 : cur.toList.take (i * 3) = (D.take i).flatMap Rw.cells := by
   rw [← take_flat D i (by omega), ← hx, List.take_take, Nat.min_eq_left (by omega)]
  have hlx : x.cells.length = 3 := rfl
  have hlt : (cur.toList.take ((i + 1) * 3)).length = (i + 1) * 3 := by rw [List.length_take, Array.length_toList, hcs]; omega
  have e2 : cur1.toList.take (i * 3) = (D.take i).flatMap Rw.cells := by
   rw [← hcur1]
   simp only [List.append_assoc]
   rw [List.take_append_of_le_length (by rw [hlt]; omega), List.take_take, Nat.min_eq_left (by omega), e1]
  have e3 : cur1.toList.drop (i * 3 + 3) = cs1 ++ cur.toList.drop ((i + 1) * 3 + cs1.length) := by
   rw [← hcur1]
   simp only [List.append_assoc]
   rw [show i * 3 + 3 = (i + 1) * 3 by omega]
   exact List.drop_left' hlt
  rw [← hcur2, put1_cells, hcs1]
  simp only [hlx, e2, e3, List.append_assoc]
  have hlt2 := len_take D i (by omega)
  rw [← List.append_assoc, ← List.append_assoc, ← List.append_assoc]
  exact List.take_left' (by simp only [List.length_append, hlt2, hlx, hl1]; omega)
 have HFIN : Hid (InsP B n i D x w (.returned (.slice (some ⟨g, 0, none⟩) (n + 1) c)) (w1.setRow g cur2)) :=
  ⟨_, rfl, ⟨by rw [flat_len Rw.cells 3 cells3, put1_len hl (by omega)], .inr ⟨g, c, cur2, rfl, hB, setRow_heap w1 g cur1 cur2 _ _ hh1, by omega, hcm, hfin.1, hfin.2⟩⟩, Judge.below_setRow hbw1 hB cur2⟩
 have HCP1 := Lib.hid hcp1
 have HCP2 := Lib.hid hcp2
 have hov : ∀ lb cb, (callFunc 71 #[.slice (some ⟨gv, 0, none⟩) 1 1, .slice (some ⟨g, (i + 1) * 3, none⟩) lb cb]).run Try.prog w = .ok (.value (.bool false)) w := fun lb cb => by
  rw [run_callFunc_extern Try.func71 (by kernel_rfl) (by kernel_rfl) (by kernel_rfl) (e := Extern.SlicesOverlaps.overlaps #[22, 22] #[4]) (by kernel_rfl),
   Lib.run_overlaps_apart w 22 4 33 Try.underlying22 3 (fun w => by kernel_rfl) ⟨gv, 0, none⟩ ⟨g, (i + 1) * 3, none⟩ 1 1 lb cb hne 33 33 3 (c * 3) ?_ ?_ (by omega) (hv.frozen 0) (hv.frozen 3)]
  ·rfl
  ·unfold World.shape?; rw [show w.heap[gv]? = _ from hv]; rfl
  ·unfold World.shape?; rw [hh]; simp [hcs]
 have hw0 : (i : Int) ≠ n := by omega
 have d0 : ((i : Int) == n) = false := by simp; omega
 have d1 : decide ((c : Int) < (n : Int) + 1) = false := decide_eq_false (by omega)
 have hci : ¬ c = i := by omega
 have hci1 : ¬ c = i + 1 := by omega
 have hc0 : ¬ c = 0 := by omega
 have mixed : Try.prog.follows Departure.mixedOrders = true := by kernel_rfl
 have hwi : IntKind.i64.wrap ((i : Int) + 1) = (i : Int) + 1 := by rw [IntKind.wrap_i64]; omega
 have hwi0 : (0 : Int) ≤ (i : Int) + 1 := by omega
 have hwi1 : (i : Int) + 1 ≤ (n : Int) + 1 := by omega
 have hwi2 : ((i : Int) + 1).toNat = i + 1 := by omega
 have hwi3 : (i : Int) ≤ (n : Int) + 1 := by omega
 clear hcp1 hcp2 hfin hcur1 hcur2 hcell hcellv hh hh1 hv hv1 hbw1 hx hcs1 hdl hl1 hsz1 hw1
 go_enter Try.func53, Try.ntmps53
 go_wp2_with fail
 go_region_law_o (refine step_copy_eq rfl _ _ 22 22 rfl (.slice (some ⟨g, (i + 1) * 3, none⟩) (n - i) (c - (i + 1))) (.slice (some ⟨g, i * 3, none⟩) (n + 1 - i) (c - i)) (by simp [Act.eval, Act.put]) (by simp [Act.eval, Act.put]) (HCP1.out _ _ _) ?_)
 have hq := HCP2.out
 go_wp2_with fail
 go_ret
 exact HFIN.out
set_option maxRecDepth 100000 in
set_option maxHeartbeats 4000000 in
/-- There is no room: a new row. -/
theorem ins_grow (B g n c i : Nat) (D : List Rw) (x : Rw) (gv : Nat) (hn : n ≤ 1000) (hi : i < n) (hroom : ¬ n + 1 ≤ c) (w : World) (hr : RowS w g n c D) (hB : B ≤ g) (hv : Blk w gv 33 #[.int .i64 x.s.f0, .int .i64 x.s.f1, x.v]) :
  Calls Try.prog 53 #[.slice (some ⟨g, 0, none⟩) n c, .int .i64 i, .slice (some ⟨gv, 0, none⟩) 1 1] w (InsP B n i D x w) := by
 have hrd := hr.reads
 obtain ⟨hl, cur, hh, hcs, hnc, hcm, hx⟩ := hr
 have hgl := Blk.lt hh
 obtain rfl : c = n := by omega
 obtain ⟨h, hhs⟩ : ∃ h, w.heap.size = h := ⟨_, rfl⟩
 obtain ⟨cs1, hcs1⟩ : ∃ cs1, (D.drop i).flatMap Rw.cells = cs1 := ⟨_, rfl⟩
 have hl1 : cs1.length = (c - i) * 3 := by rw [← hcs1, len_drop, hl]
 have hlx : x.cells.length = 3 := rfl
 have hgcell : ∀ j v, (D.flatMap Rw.cells)[j]? = some v → w.cell? ⟨g, j, none⟩ = some v := fun j v hj => by
  rw [cell_of_row w g _ cur 33 (0, 0) hh]
  rw [← hx, List.getElem?_take] at hj
  split at hj
  ·simpa using hj
  ·cases hj
 -- the append
 obtain ⟨m, hm⟩ : ∃ m, c + 1 - i = m := ⟨_, rfl⟩
 obtain ⟨cs, cap, hap, hsz, hcap1, hcap2, htk⟩ := append_made w 22 ⟨g, 0, none⟩ i c m ((D.take i).flatMap Rw.cells) (len_take D i (by omega)) (fun j u hj => by
  have e : ((⟨g, 0, none⟩ : Addr).add j) = ⟨g, j, none⟩ := by unfold Addr.add; by_cases hj : j = 0 <;> simp [hj]
  rw [e]
  refine hgcell j u ?_
  rw [← take_flat D i (by omega), List.getElem?_take] at hj
  split at hj
  ·exact hj
  ·cases hj) (by omega) (by omega) (by omega)
 rw [show i + m = c + 1 by omega, hhs] at hap
 have hA0 : Blk (w.drew.alloc (.cells cs 33)) h 33 cs := by rw [← hhs]; exact Blk.new w.drew 33 cs
 have hbA : Below w.heap.size w (w.drew.alloc (.cells cs 33)) := ((Below.refl _ _).drew).alloc (Nat.le_refl _) _
 have hv0 := hv.below hbA hv.lt
 obtain ⟨W0, hW0⟩ : ∃ W0, w.drew.alloc (.cells cs 33) = W0 := ⟨_, rfl⟩
 rw [hW0] at hap hA0 hbA hv0
 have hgh : g ≠ h := by omega
 have hvh : gv ≠ h := by have := hv.lt; omega
 -- the first copy: the one that comes
 obtain ⟨cur1, hcur1⟩ : ∃ cur1, (cs.toList.take (i * 3) ++ x.cells ++ cs.toList.drop (i * 3 + x.cells.length)).toArray = cur1 := ⟨_, rfl⟩
 have hcp1 := fun (ty : TypeId) (dc : Nat) => copy_spots W0 ty h (i * 3) (c + 1 - i) dc ⟨gv, 0, none⟩ 1 1 1 cs x.cells hA0 (by simp only [Nat.min_def]; split <;> omega) rfl (fun j v hj => by
  have e : ((⟨gv, 0, none⟩ : Addr).add j) = ⟨gv, j, none⟩ := by unfold Addr.add; by_cases hj : j = 0 <;> simp [hj]
  rw [e, hv0.cell]
  simpa [Rw.cells] using hj) (by rw [hsz, hlx]; omega) (by have := cells_one [x]; simpa using this)
 rw [hcur1] at hcp1
 have hsz1 : cur1.size = cap * 3 := by rw [← hcur1]; simp [hlx]; omega
 have hh1 : (W0.setRow h cur1).drew.heap[h]? = some (.cells cur1 33 (0, 0)) := setRow_heap W0 h cs cur1 _ _ hA0
 have hgr : ∀ j v, cs1[j]? = some v → (W0.setRow h cur1).drew.cell? ((⟨g, i * 3, none⟩ : Addr).add j) = some v := fun j v hj => by
  have e : ((⟨g, i * 3, none⟩ : Addr).add j) = ⟨g, i * 3 + j, none⟩ := by unfold Addr.add; by_cases hj : j = 0 <;> simp [hj]
  have hk : (W0.setRow h cur1).drew.heap[g]? = some (.cells cur 33 (0, 0)) := ((setRow_other W0 h g cur1 hgh).trans (hbA.block g hgl)).trans hh
  rw [e, cell_of_row _ g _ cur 33 (0, 0) hk]
  have h2 := hgcell (i * 3 + j) v (by rw [← hcs1, ← drop_flat D i (by omega), List.getElem?_drop] at hj; exact hj)
  rwa [cell_of_row w g _ cur 33 (0, 0) hh] at h2
 have hbW1 : Below B w (W0.setRow h cur1).drew := (Judge.below_setRow (hbA.mono (by omega)) (by omega) cur1).drew
 obtain ⟨W1, hW1⟩ : ∃ W1, W0.setRow h cur1 = W1 := ⟨_, rfl⟩
 rw [hW1] at hcp1 hh1 hgr hbW1
 obtain ⟨cur2, hcur2⟩ : ∃ cur2, (cur1.toList.take ((i + 1) * 3) ++ cs1 ++ cur1.toList.drop ((i + 1) * 3 + cs1.length)).toArray = cur2 := ⟨_, rfl⟩
 have hcp2 := fun (ty : TypeId) (dc sc : Nat) => copy_spots W1.drew ty h ((i + 1) * 3) (c - i) dc ⟨g, i * 3, none⟩ (c - i) sc (c - i) cur1 cs1 hh1 (by simp only [Nat.min_def]; split <;> omega) hl1 hgr (by rw [hsz1, hl1]; omega) (by rw [← hcs1]; exact cells_one _)
 rw [hcur2] at hcp2
 have hfin : cur2.size = cap * 3 ∧ cur2.toList.take ((c + 1) * 3) = (put1 D i x).flatMap Rw.cells := by
  refine ⟨by rw [← hcur2]; simp [hsz1, hl1]; omega, ?_⟩
  have hlt2 := len_take D i (by omega)
  have e2 : cur1.toList.take ((i + 1) * 3) = (D.take i).flatMap Rw.cells ++ x.cells := by
   rw [← hcur1]
   simp only [htk]
   exact List.take_left' (by simp only [List.length_append, hlt2, hlx]; omega)
  rw [← hcur2, put1_cells, hcs1]
  simp only [e2]
  rw [← List.append_assoc]
  exact List.take_left' (by simp only [List.length_append, hlt2, hlx, hl1]; omega)
 have HFIN : Hid (InsP B c i D x w (.returned (.slice (some ⟨h, 0, none⟩) (c + 1) cap)) (W1.drew.setRow h cur2)) :=
  ⟨_, rfl, ⟨by rw [flat_len Rw.cells 3 cells3, put1_len hl (by omega)], .inr ⟨h, cap, cur2, rfl, by omega, setRow_heap W1.drew h cur1 cur2 _ _ hh1, by omega, hcap2, hfin.1, hfin.2⟩⟩, Judge.below_setRow hbW1 (by omega) cur2⟩
 have HCP2 := Lib.hid hcp2
 have HAP := Lib.hid hap
 have d0 : ((i : Int) == c) = false := by simp; omega
 have d1 : decide ((c : Int) < (c : Int) + 1) = true := decide_eq_true (by omega)
 have hci : ¬ c = i := by omega
 have hcapi : ¬ cap = i := by omega
 have hcapi1 : ¬ cap = i + 1 := by omega
 have mixed : Try.prog.follows Departure.mixedOrders = true := by kernel_rfl
 have hsub : (c : Int) + 1 - i = ((m : Nat) : Int) := by omega
 have hmm : c + 1 - i = m := hm
 have hic : (i : Int) ≤ c := by omega
 have hwi : IntKind.i64.wrap ((i : Int) + 1) = (i : Int) + 1 := by rw [IntKind.wrap_i64]; omega
 have hwi0 : (0 : Int) ≤ (i : Int) + 1 := by omega
 have hwi1 : (i : Int) + 1 ≤ (c : Int) + 1 := by omega
 have hwi2 : ((i : Int) + 1).toNat = i + 1 := by omega
 have hwi3 : (i : Int) ≤ (c : Int) + 1 := by omega
 clear hcp2 hap hfin hcur1 hcur2 hgcell hgr hh hh1 hv hv0 hbA hbW1 hx hcs1 hl1 hsz1 hW1 hW0 hrd hA0 htk hsz
 rw [hm] at hcp1
 go_enter Try.func53, Try.ntmps53
 go_wp2_with (first
  | (at_builtin; refine Lib.wpList_append_run _ rfl _ _ 22 3 rfl _ _ rfl rfl _ _ HAP.out ?_)
  | go_in)
 go_region_law_o (refine step_copy_eq rfl _ _ 22 22 rfl (.slice (some ⟨h, (i + 1) * 3, none⟩) (c - i) (cap - (i + 1))) (.slice (some ⟨g, i * 3, none⟩) (c - i) (c - i)) (by simp [Act.eval, Act.put]) (by simp [Act.eval, Act.put]) (HCP2.out _ _ _) ?_)
 go_wp2_with fail
 go_ret
 exact HFIN.out
/-- One more, at a place. -/
theorem ins_any (B n i : Nat) (v : Value) (D : List Rw) (x : Rw) (gv : Nat) (hn : n ≤ 1000) (hi : i ≤ n) (w : World) (hown : w.ownsRow B 33 3 v n (D.flatMap Rw.cells)) (hB : B ≤ w.heap.size) (hv : Blk w gv 33 #[.int .i64 x.s.f0, .int .i64 x.s.f1, x.v]) (hne : v.ownBlock ≠ some gv) :
  Calls Try.prog 53 #[v, .int .i64 i, .slice (some ⟨gv, 0, none⟩) 1 1] w (InsP B n i D x w) := by
 rcases Nat.lt_or_eq_of_le hi with h | rfl
 ·obtain ⟨g, c, rfl, hBg, hrow⟩ := rowS_of_own hown (by omega)
  by_cases hroom : n + 1 ≤ c
  ·exact ins_room B g n c i D x gv hn h hroom w hrow hBg hv (fun e => hne (by rw [e]; simp [Value.ownBlock]))
  ·exact ins_grow B g n c i D x gv hn h hroom w hrow hBg hv
 ·exact ins_end B i v D x gv hn w hown hB hv
end Go.Proofs.Ytnjnjajgpkmfhaa.PX

/-
 Trees in rows of nodes: who comes in which order, as the program goes. No program.
-/
namespace Go.Proofs.Ytnjnjajgpkmfhaa
open Go.RowKit
namespace Treap
structure Nd where
 key : Int
 left : Int
 right : Int
deriving Inhabited
def cells (n : Nd) : List Value := [.int .i64 n.key, .int .i64 n.left, .int .i64 n.right]
def nd (ns : List Nd) (i : Nat) : Nd := ns.getD i ⟨0, 0, 0⟩
theorem nd_at {ns : List Nd} {i : Nat} (h : i < ns.length) : ns[i]? = some (nd ns i) := by
 unfold nd
 rw [List.getD_eq_getElem?_getD, List.getElem?_eq_getElem h]
 rfl
/-- From a link on: the places in the order of the keys, and how many may still be come to. -/
def inord (ns : List Nd) : Nat → Int → Nat → Option (List Nat × Nat)
 | 0, _, _ => none
 | f + 1, at_, x => if at_ = -1 then some ([], x) else if at_ < 0 ∨ (ns.length : Int) ≤ at_ ∨ x = 0 then none else
  match inord ns f (nd ns at_.toNat).left (x - 1) with
  | none => none
  | some (a, y) => match inord ns f (nd ns at_.toNat).right y with
   | none => none
   | some (b, z) => some (a ++ at_.toNat :: b, z)
theorem inord_le (ns : List Nd) : ∀ (f : Nat) (at_ : Int) (x : Nat) (a : List Nat) (y : Nat), inord ns f at_ x = some (a, y) → x = y + a.length := by
 intro f
 induction f with
 | zero => intro _ _ _ _ h; cases h
 | succ f ih =>
  intro at_ x a y h
  unfold inord at h
  split at h
  ·obtain ⟨rfl, rfl⟩ := Prod.mk.inj (Option.some.inj h)
   rfl
  ·split at h
   ·cases h
   ·rename_i hc
    split at h
    ·cases h
    ·rename_i a1 y1 h1
     split at h
     ·cases h
     ·rename_i b z h2
      obtain ⟨rfl, rfl⟩ := Prod.mk.inj (Option.some.inj h)
      have e1 := ih _ _ _ _ h1
      have e2 := ih _ _ _ _ h2
      simp only [List.length_append, List.length_cons]
      omega
/-- The depth is no matter, where it is enough. -/
theorem inord_fuel (ns : List Nd) : ∀ (x f g : Nat) (at_ : Int), x < f → x < g → inord ns f at_ x = inord ns g at_ x := by
 intro x
 induction x using Nat.strongRecOn with
 | _ x ih =>
  intro f g at_ hf hg
  obtain ⟨f, rfl⟩ : ∃ q, f = q + 1 := ⟨f - 1, by omega⟩
  obtain ⟨g, rfl⟩ : ∃ q, g = q + 1 := ⟨g - 1, by omega⟩
  unfold inord
  split
  ·rfl
  ·split
   ·rfl
   ·rename_i hc
    have hx : 0 < x := by omega
    rw [ih (x - 1) (by omega) f g _ (by omega) (by omega)]
    cases h1 : inord ns g (nd ns at_.toNat).left (x - 1) with
    | none => rfl
    | some p =>
     obtain ⟨a, y⟩ := p
     have := inord_le ns _ _ _ _ _ h1
     show (match inord ns f (nd ns at_.toNat).right y with | none => none | some (b, z) => some (a ++ at_.toNat :: b, z)) = (match inord ns g (nd ns at_.toNat).right y with | none => none | some (b, z) => some (a ++ at_.toNat :: b, z))
     rw [ih y (by omega) f g _ (by omega) (by omega)]
/-- What comes behind, where some wait above (the last first). -/
def cont (ns : List Nd) (F : Nat) : List Nat → Nat → Option (List Nat × Nat)
 | [], x => some ([], x)
 | i :: s, x => match inord ns F (nd ns i).right x with
  | none => none
  | some (b, y) => match cont ns F s y with
   | none => none
   | some (c, z) => some (i :: b ++ c, z)
/-- All that is still to come: from a link on, and then those that wait above. -/
def rest (ns : List Nd) (F : Nat) (at_ : Int) (s : List Nat) (x : Nat) : Option (List Nat × Nat) :=
 match inord ns F at_ x with
 | none => none
 | some (a, y) => match cont ns F s y with
  | none => none
  | some (c, z) => some (a ++ c, z)
def behind (vis : List Nat) : Option (List Nat × Nat) → Option (List Nat × Nat)
 | none => none
 | some (a, x) => some (vis ++ a, x)
theorem rest_bad {ns : List Nd} {F : Nat} {at_ : Int} {s : List Nat} {x : Nat} (h1 : at_ ≠ -1) (hb : at_ < 0 ∨ (ns.length : Int) ≤ at_ ∨ x = 0) : rest ns F at_ s x = none := by
 unfold rest
 have : inord ns F at_ x = none := by
  cases F with
  | zero => rfl
  | succ F => unfold inord; rw [if_neg h1, if_pos hb]
 rw [this]
theorem rest_push {ns : List Nd} {F : Nat} {i : Nat} {s : List Nat} {x : Nat} (hi : i < ns.length) (hx : 0 < x) (hF : x < F) : rest ns F (i : Int) s x = rest ns F (nd ns i).left (i :: s) (x - 1) := by
 obtain ⟨F, rfl⟩ : ∃ q, F = q + 1 := ⟨F - 1, by omega⟩
 unfold rest
 rw [show inord ns (F + 1) (i : Int) x = (match inord ns F (nd ns i).left (x - 1) with | none => none | some (a, y) => match inord ns F (nd ns i).right y with | none => none | some (b, z) => some (a ++ i :: b, z)) by
  rw [inord, if_neg (by omega), if_neg (by omega), Int.toNat_natCast]]
 rw [inord_fuel ns (x - 1) F (F + 1) _ (by omega) (by omega)]
 cases h1 : inord ns (F + 1) (nd ns i).left (x - 1) with
 | none => rfl
 | some p =>
  obtain ⟨a, y⟩ := p
  have := inord_le ns _ _ _ _ _ h1
  show (match (match inord ns F (nd ns i).right y with | none => none | some (b, z) => some (a ++ i :: b, z)) with | none => none | some (a, y) => match cont ns (F + 1) s y with | none => none | some (c, z) => some (a ++ c, z)) = (match cont ns (F + 1) (i :: s) y with | none => none | some (c, z) => some (a ++ c, z))
  rw [cont, inord_fuel ns y F (F + 1) _ (by omega) (by omega)]
  cases h2 : inord ns (F + 1) (nd ns i).right y with
  | none => rfl
  | some q =>
   obtain ⟨b, z⟩ := q
   show (match cont ns (F + 1) s z with | none => none | some (c, z) => some (a ++ i :: b ++ c, z)) = (match (match cont ns (F + 1) s z with | none => none | some (c, z) => some (i :: b ++ c, z)) with | none => none | some (c, z) => some (a ++ c, z))
   cases cont ns (F + 1) s z with
   | none => rfl
   | some r =>
    obtain ⟨c, u⟩ := r
    simp
theorem rest_pop {ns : List Nd} {F : Nat} {i : Nat} {s : List Nat} {x : Nat} (hF : x < F) : rest ns F (-1) (i :: s) x = behind [i] (rest ns F (nd ns i).right s x) := by
 obtain ⟨F, rfl⟩ : ∃ q, F = q + 1 := ⟨F - 1, by omega⟩
 unfold rest
 have e : inord ns (F + 1) (-1) x = some ([], x) := by unfold inord; rw [if_pos rfl]
 rw [e]
 show (match cont ns (F + 1) (i :: s) x with | none => none | some (c, z) => some ([] ++ c, z)) = _
 rw [cont]
 cases inord ns (F + 1) (nd ns i).right x with
 | none => rfl
 | some p =>
  obtain ⟨b, y⟩ := p
  show (match (match cont ns (F + 1) s y with | none => none | some (c, z) => some (i :: b ++ c, z)) with | none => none | some (c, z) => some ([] ++ c, z)) = behind [i] (match cont ns (F + 1) s y with | none => none | some (c, z) => some (b ++ c, z))
  cases cont ns (F + 1) s y with
  | none => rfl
  | some r =>
   obtain ⟨c, u⟩ := r
   simp [behind]
theorem rest_end {ns : List Nd} {F : Nat} {x : Nat} (hF : x < F) : rest ns F (-1) [] x = some ([], x) := by
 obtain ⟨F, rfl⟩ : ∃ q, F = q + 1 := ⟨F - 1, by omega⟩
 unfold rest
 have e : inord ns (F + 1) (-1) x = some ([], x) := by unfold inord; rw [if_pos rfl]
 rw [e]
 rfl
theorem behind_behind (u v : List Nat) (o : Option (List Nat × Nat)) : behind u (behind v o) = behind (u ++ v) o := by
 cases o with
 | none => rfl
 | some p => simp [behind]
theorem rest_root {ns : List Nd} {F : Nat} {at_ : Int} {x : Nat} : rest ns F at_ [] x = inord ns F at_ x := by
 unfold rest
 cases inord ns F at_ x with
 | none => rfl
 | some p => simp [cont]
/-- The walk: is it a tree? and who is seen. -/
def whole (ns : List Nd) (root : Int) : Bool := match inord ns (ns.length + 1) root ns.length with
 | some (_, 0) => true
 | _ => false
def seen (ns : List Nd) (root : Int) : List Nat := match inord ns (ns.length + 1) root ns.length with
 | some (a, _) => a
 | none => []
end Treap
end Go.Proofs.Ytnjnjajgpkmfhaa

/-
  The contract of treap.walk, whatever sees the nodes.
-/
namespace Go.Proofs.Ytnjnjajgpkmfhaa
open Go.RowKit
namespace Treap
theorem cells_len (n : Nd) : (cells n).length = 3 := rfl
theorem node_at {w : World} {B n k : Nat} {A : Option Addr} {ns : List Nd} (hr : Reads w B 3 A n (ns.flatMap cells)) (hk : k < n) :
    ∃ ad, A = some ad ∧ ad.block < B ∧ w.cell? (ad.add (k * 3)) = some (.int .i64 (nd ns k).key) ∧ w.cell? ⟨(ad.add (k * 3)).block, (ad.add (k * 3)).off + 1, none⟩ = some (.int .i64 (nd ns k).left) ∧
      w.cell? ⟨(ad.add (k * 3)).block, (ad.add (k * 3)).off + 2, none⟩ = some (.int .i64 (nd ns k).right) := by
  obtain ⟨ad, hA, hb, hc⟩ := hr.2 (by omega)
  have hl : ns.length = n := by have := hr.1; rw [flat_len cells 3 cells_len] at this; omega
  have hat : ∀ j, j < 3 → ∀ v, (cells (nd ns k))[j]? = some v → w.cell? ((ad.add (k * 3)).add j) = some v := fun j hj v hv => by
    rw [add_of_add]
    exact hc _ _ ((flat_at cells 3 cells_len ns k j _ (nd_at (by omega)) hj).trans hv)
  exact ⟨ad, hA, hb, hat 0 (by omega) _ rfl, hat 1 (by omega) _ rfl, hat 2 (by omega) _ rfl⟩
def nval (n : Nd) : Value := .agg #[.int .i64 n.key, .int .i64 n.left, .int .i64 n.right]
/-- Somebody who sees nodes: by which function, with what it holds; what it has (σ), in which blocks. -/
structure Seer (σ : Type) where
  K : Nat
  caps : Array Value
  I : σ → (Nat → Prop) → World → Prop
  step : σ → Nd → σ
  ok : σ → Prop
  enter : ∀ (n : Nd) (w : World), (callFunc K (#[nval n] ++ caps)).run Try.prog w = .ok (.enter K (#[nval n] ++ caps)) w
  keep : ∀ {s own w w'}, I s own w → w.heap.size ≤ w'.heap.size → (∀ k, own k → w'.heap[k]? = w.heap[k]?) → I s own w'
  lt : ∀ {s own w}, I s own w → ∀ k, own k → k < w.heap.size
  run : ∀ {s own w} (n : Nd), ok s → I s own w → Calls Try.prog K (#[nval n] ++ caps) w fun e w' => e = .returned (.tuple #[]) ∧ ∃ own', I (step s n) own' w' ∧ (∀ k, own' k → own k ∨ w.heap.size ≤ k) ∧ Kp own w w'
theorem infoI3 : (Try.prog.info? 3).map (fun i => (i.zero, i.size, i.bytes)) = some (some (.int .i64 0), 1, 8) := by kernel_rfl
/-- What treap.walk leaves. -/
def Walked {σ : Type} (S : Seer σ) (s : σ) (own : Nat → Prop) (root : Int) (ns : List Nd) (w : World) (e : Ending) (w' : World) : Prop :=
  ∃ (s' : σ) (own' : Nat → Prop), e = .returned (.bool (whole ns root)) ∧ S.I s' own' w' ∧ (∀ k, own' k → own k ∨ w.heap.size ≤ k) ∧ Kp own w w' ∧ (whole ns root = true → s' = ((seen ns root).map (nd ns)).foldl S.step s)
def lenV : Value → Nat
  | .slice _ n _ => n
  | _ => 0
def ints (ab : List Nat) : List Value := ab.map fun (i : Nat) => Value.int .i64 (i : Int)
theorem ints_eq (ab : List Nat) : ints ab = (ab.map (fun i : Nat => (i : Int))).map (Value.int .i64) := by unfold ints; rw [List.map_map]; rfl
/-- What holds at the heads of the two loops. -/
structure Inv {σ : Type} (S : Seer σ) (s0 : σ) (own : Nat → Prop) (root : Int) (ns : List Nd) (A : Option Addr) (n c : Nat) (w : World) (v5 : Value) (ab : List Nat) (met : Nat) (at_ : Int) (vis : List Nat) (s : σ) (own' : Nat → Prop) (wr : World) : Prop where
  row : wr.ownsRow w.heap.size 3 1 v5 ab.length (ints ab)
  low : ∀ i ∈ ab, i < n
  met_ : met ≤ n
  few : vis.length + ab.length = met
  all : inord ns (n + 1) root n = behind vis (rest ns (n + 1) at_ ab.reverse (n - met))
  st : s = (vis.map (nd ns)).foldl S.step s0
  I : S.I s own' wr
  new : ∀ k, own' k → own k ∨ w.heap.size ≤ k
  box : Blk wr w.heap.size 70 #[.int .i64 root, .slice A n c]
  nbox : ¬ own' w.heap.size
  nrow : ∀ g, v5.ownBlock = some g → ¬ own' g ∧ g ≠ w.heap.size
  kp : Kp own w wr
set_option maxRecDepth 100000 in
set_option maxHeartbeats 4000000 in
theorem walk_any {σ : Type} (S : Seer σ) (s0 : σ) (own : Nat → Prop) (root : Int) (ns : List Nd) (A : Option Addr) (n c B : Nat) (hn : n ≤ 1000) (w : World) (hB : B ≤ w.heap.size) (hr : Reads w B 3 A n (ns.flatMap cells)) (ho : ∀ k, own k → B ≤ k) (hI : S.I s0 own w) (hok : ∀ vis : List Nat, vis.length < n → S.ok ((vis.map (nd ns)).foldl S.step s0)) :
    Calls Try.prog 63 #[.agg #[.int .i64 root, .slice A n c], .func (.func S.K) #[] S.caps] w (Walked S s0 own root ns w) := by
  have hl : ns.length = n := by have := hr.1; rw [flat_len cells 3 cells_len] at this; omega
  have HL := Lib.hid hl
  have HR := Lib.hid hr
  have HO := Lib.hid ho
  have HOKS := Lib.hid hok
  have hq := Blk.new w 70 #[.int .i64 root, .slice A n c]
  have HI0 : Hid (Inv S s0 own root ns A n c w (.slice none 0 0) [] 0 root [] s0 own (w.alloc (.cells #[.int .i64 root, .slice A n c] 70))) := by
    have hk : ∀ k, own k → k < w.heap.size := S.lt hI
    refine ⟨World.ownsRow_nil _ _ _ _, by simp, Nat.zero_le _, rfl, ?_, rfl, S.keep hI (by simp) (fun k hk' => Below.heap_alloc _ _ k (hk k hk')), fun k hk => .inl hk, hq, fun h => by have := hk _ h; omega, fun g hg => by simp [Value.ownBlock] at hg, (Kp.refl own w).alloc _⟩
    rw [List.reverse_nil, Nat.sub_zero, rest_root]
    cases inord ns (n + 1) root n with
    | none => rfl
    | some p => simp [behind]
  obtain ⟨i0, hi, hz0, hz1, hz2⟩ := info_parts infoI3
  have c0 : (w.alloc (.cells #[.int .i64 root, .slice A n c] 70)).cell? ⟨w.heap.size, 0, none⟩ = some (.int .i64 root) := by rw [hq.cell]; rfl
  clear hl hr ho hI hq hok
  go_enter Try.func63, Try.ntmps63
  go_wp2_with fail
  obtain ⟨W, hW⟩ : ∃ W, w.alloc (.cells #[.int .i64 root, .slice A n c] 70) = W := ⟨_, rfl⟩
  rw [hW] at HI0 ⊢
  clear hW c0
  go_loopw [5, 6, 7] (fun v5 v6 v7 wr => ∃ (ab : List Nat) (met : Nat) (at_ : Int) (vis : List Nat) (s : σ) (own' : Nat → Prop), v6 = .int .i64 met ∧ v7 = .int .i64 at_ ∧ Inv S s0 own root ns A n c w v5 ab met at_ vis s own' wr) (fun v5 v6 _ _ => n - (intOf v6).toNat + lenV v5)
  case atStart => exact ⟨[], 0, root, [], s0, own, rfl, rfl, HI0.out⟩
  case round =>
    obtain ⟨ab, met, at_, vis, s, own', rfl, rfl, hinv⟩ := hrel
    obtain ⟨A5, c5, rfl, hc5, hm5, hr5⟩ := own_reads3 hinv.row
    have HINV := Lib.hid hinv
    have HR5 := Lib.hid hr5
    have hmet := hinv.met_
    clear hinv hr5 hm5
    by_cases hend : at_ = -1 ∧ ab = []
    · obtain ⟨rfl, rfl⟩ := hend
      have HX := Lib.hid HINV.out.all
      have b0 := HINV.out.box
      have c0 : wr.cell? ⟨w.heap.size, 0, none⟩ = some (.int .i64 root) := by rw [b0.cell]; rfl
      have c1 : wr.cell? ⟨w.heap.size, 1, none⟩ = some (.slice A n c) := by rw [b0.cell]; rfl
      clear b0
      have hw : whole ns root = ((met : Int) == (n : Int)) := by
        unfold whole
        rw [HL.out, HX.out, List.reverse_nil, rest_end (by omega)]
        simp only [behind]
        rcases Nat.eq_zero_or_pos (n - met) with h0 | h0
        · rw [h0]
          simp
          omega
        · obtain ⟨q, hq⟩ : ∃ q, n - met = q + 1 := ⟨n - met - 1, by omega⟩
          rw [hq]
          simp
          omega
      have hse : seen ns root = vis := by
        unfold seen
        rw [HL.out, HX.out, List.reverse_nil, rest_end (by omega)]
        simp [behind]
      have HW := Lib.hid hw
      have HSE := Lib.hid hse
      clear hw hse
      go_wp2_with fail
      go_ret
      exact ⟨s, own', by rw [HW.out]; rfl, HINV.out.I, HINV.out.new, HINV.out.kp, fun _ => by rw [HSE.out]; exact HINV.out.st⟩
    · have hgo : at_ ≠ -1 ∨ 0 < ab.length := by
        rcases Decidable.em (at_ = -1) with h | h
        · refine .inr (List.length_pos_iff.2 fun h2 => hend ⟨h, h2⟩)
        · exact .inl h
      clear hend
      have hsum : Hid (n - met + ab.length = n - met + ab.length) := rfl
      obtain ⟨M, hM⟩ : ∃ M, n - met + ab.length = M := ⟨_, rfl⟩
      have HM := Lib.hid hM
      clear hM hsum
      have HGO := Lib.hid hgo
      by_cases ha : at_ = -1
      all_goals
        first
          | (have e1 : (at_ != -1) = false := by simp [ha]
             have e2 : decide (0 < ab.length) = true := decide_eq_true (hgo.resolve_left (fun h => h ha))
             clear ha hgo)
          | (have e1 : (at_ != -1) = true := by simp [ha]
             clear ha hgo)
        go_wp2_with fail
        go_loopw [5, 6, 7] (fun v5 v6 v7 wq => ∃ (ab2 : List Nat) (met2 : Nat) (at2 : Int), v6 = .int .i64 met2 ∧ v7 = .int .i64 at2 ∧ Inv S s0 own root ns A n c w v5 ab2 met2 at2 vis s own' wq ∧ (at2 ≠ -1 ∨ 0 < ab2.length) ∧ n - met2 + ab2.length = M) (fun _ v6 _ _ => n - (intOf v6).toNat)
        case atStart => exact ⟨ab, met, at_, rfl, rfl, HINV.out, HGO.out, HM.out⟩
        case round =>
          obtain ⟨ab2, met2, at2, rfl, rfl, hinv2, hgo2, hM2⟩ := hrel
          obtain ⟨A6, c6, rfl, hc6, hm6, hr6⟩ := own_reads3 hinv2.row
          have HINV2 := Lib.hid hinv2
          have HR6 := Lib.hid hr6
          have hmet2 := hinv2.met_
          have b0 := hinv2.box
          have c1 : wr.cell? ⟨w.heap.size, 1, none⟩ = some (.slice A n c) := by rw [b0.cell]; rfl
          have HGO2 := Lib.hid hgo2
          have HM2 := Lib.hid hM2
          clear hinv2 hr6 hm6 b0 hM2
          by_cases h1 : at2 = -1
          · subst h1
            have hpos : 0 < ab2.length := hgo2.resolve_left (fun h => h rfl)
            clear hgo2
            obtain ⟨q, hq⟩ : ∃ q, ab2.length = q + 1 := ⟨ab2.length - 1, by omega⟩
            have hr7 := HR6.out
            rw [ints_eq, hq] at hr7
            obtain ⟨ad6, z, rfl, hbl6, hz, hz0⟩ := hr7.int_at (k := q) (by omega)
            rw [List.getElem?_map] at hz
            obtain ⟨i, hiq, rfl⟩ : ∃ i, ab2[q]? = some i ∧ (i : Int) = z := by
              cases hx : ab2[q]? with
              | none => rw [hx] at hz; cases hz
              | some i => rw [hx] at hz; exact ⟨i, rfl, Option.some.inj hz⟩
            have hin : i < n := HINV2.out.low i (List.mem_of_getElem? hiq)
            obtain ⟨ad, rfl, hbl, n0, n1, n2⟩ := node_at (HR.out.below (HINV2.out.kp.below_ hB HO.out)) hin
            have hnd : nd ns i = ⟨(nd ns i).key, (nd ns i).left, (nd ns i).right⟩ := rfl
            have hwq : Value.int .i64 (wrap64 (((q + 1 : Nat) : Int) - 1)) = .int .i64 (q : Int) := by have := HINV2.out.few; congr 1; unfold wrap64; omega
            have hwq2 : Value.int .i64 (wrap64 (q : Int)) = .int .i64 (q : Int) := by have := HINV2.out.few; congr 1; unfold wrap64; omega
            obtain ⟨kx, hkx⟩ : ∃ x, (nd ns i).key = x := ⟨_, rfl⟩
            obtain ⟨lx, hlx⟩ : ∃ x, (nd ns i).left = x := ⟨_, rfl⟩
            obtain ⟨rx, hrx⟩ : ∃ x, (nd ns i).right = x := ⟨_, rfl⟩
            rw [hkx, hlx, hrx] at hnd
            have HND := Lib.hid hnd
            rw [hkx] at n0
            rw [hlx] at n1
            rw [hrx] at n2
            have HKX := Lib.hid hkx
            have HLX := Lib.hid hlx
            have HRX := Lib.hid hrx
            clear hkx hlx hrx hnd
            have up : ∀ (o : Obj) (p : Addr) (v : Value), wr.cell? p = some v → (wr.alloc o).cell? p = some v := fun o p v h => (World.cell?_alloc_lt wr o p (lt_of_cell h)).trans h
            have hz0' := fun o => up o _ _ hz0
            have n0' := fun o => up o _ _ n0
            have n1' := fun o => up o _ _ n1
            have n2' := fun o => up o _ _ n2
            have c1' := fun o => up o _ _ c1
            have HIQ := Lib.hid hiq
            have hc6' : q + 1 ≤ c6 := by omega
            clear up
            have HQ := Lib.hid hq
            rw [hq]
            clear hr7 hz hiq hq hpos hc6
            have hsl : ∀ W : World, (Instr.slice 25 (.slice (some ad6) (q + 1) c6) none (some (.int .i64 q)) none).run Try.prog W = .ok (.slice (some ad6) q c6) W := fun W => by
              obtain ⟨i1, hi1, _, hz11, _⟩ := info_parts infoI3
              have he : Try.prog.elem 25 = 3 := by kernel_rfl
              have hx : (ad6.add 0) = ad6 := by simp [Addr.add]
              rw [run_slice_h W 25 (some ad6) (q + 1) c6 (by rw [he]; exact Try.underlying25) .i64 q (by omega) (by omega), he]
              simp [sizeOf, typeInfo, hi1, hz11, sliced, Result.andThen, hx]
            have hen := fun W => S.enter ⟨kx, lx, rx⟩ W
            simp only [nval] at hen
            go_wp2_with fail
            go_region
            clear hz0' n0' n1' n2' c1' hz0 n0 n1 n2
            go_wp2_with fail
            have hIW : S.I s own' ((wr.alloc (.cells #[.int .i64 kx, .int .i64 lx, .int .i64 rx] 87)).drew) :=
              S.keep HINV2.out.I (by show wr.heap.size ≤ (wr.alloc _).heap.size; simp) (fun k hk => Below.heap_alloc _ _ k (S.lt HINV2.out.I k hk))
            refine (S.run ⟨kx, lx, rx⟩ (by rw [HINV2.out.st]; exact HOKS.out vis (by have := HINV2.out.few; have := HQ.out; omega)) hIW).mono ?_
            rintro e w5 ⟨rfl, own2, hI2, hnew2, hkp2⟩
            have hbn : Blk w5 wr.heap.size 87 #[.int .i64 kx, .int .i64 lx, .int .i64 rx] := (Blk.new wr 87 #[.int .i64 kx, .int .i64 lx, .int .i64 rx]).drew.kp hkp2 (fun h => by have := S.lt HINV2.out.I _ h; omega)
            have r2 : w5.cell? ⟨wr.heap.size, 2, none⟩ = some (.int .i64 rx) := by rw [hbn.cell]; rfl
            have HI3 : Hid (Inv S s0 own root ns (some ad) n c w (.slice (some ad6) q c6) (ab2.take q) met2 rx (vis ++ [i]) (S.step s ⟨kx, lx, rx⟩) own2 w5) := by
              have hv := HINV2.out
              have hlq := HQ.out
              have hsz := hv.box.lt
              have hszA : (wr.alloc (.cells #[.int .i64 kx, .int .i64 lx, .int .i64 rx] 87)).drew.heap.size = wr.heap.size + 1 := by show (wr.alloc _).heap.size = _; simp
              have hin5 : ∀ k, own2 k → own' k ∨ wr.heap.size + 1 ≤ k := fun k hk => by have := hnew2 k hk; rwa [hszA] at this
              have hblk := hv.row.lt ad6.block (by simp [Value.ownBlock])
              have hcut := own_cut (k := q) hv.row (by omega)
              have hci : (ints ab2).take (q * 1) = ints (ab2.take q) := by rw [Nat.mul_one, ints, ints, List.map_take]
              rw [hci] at hcut
              have htl : (ab2.take q).length = q := by rw [List.length_take]; omega
              have hrev : ab2.reverse = i :: (ab2.take q).reverse := by
                have : ab2 = ab2.take q ++ [i] := by
                  have h1 : ab2.take (q + 1) = ab2 := List.take_of_length_le (by omega)
                  rw [List.take_add_one, HIQ.out] at h1
                  exact h1.symm
                conv => lhs; rw [this]
                rw [List.reverse_append]
                rfl
              have hrow : ∀ g, (Value.slice (some ad6) q c6).ownBlock = some g → ¬ own' g ∧ g ≠ w.heap.size := fun g hg => hv.nrow g hg
              refine ⟨?_, fun x hx => hv.low x (List.mem_of_mem_take hx), hv.met_, ?_, ?_, ?_, hI2, fun k hk => ?_, ((hv.box.alloc _).drew).kp hkp2 hv.nbox, fun h => ?_, fun g hg => ?_, ((hv.kp.alloc _).drew).trans hkp2 hv.new⟩
              · rw [htl]
                have h2 : ((wr.alloc (.cells #[.int .i64 kx, .int .i64 lx, .int .i64 rx] 87)).drew).ownsRow w.heap.size 3 1 (.slice (some ad6) q c6) q (ints (ab2.take q)) := hcut.alloc _
                exact own_kp h2 hkp2 (fun g hg => (hrow g hg).1)
              · rw [htl, List.length_append]
                have := hv.few
                simp
                omega
              · rw [hv.all, hrev, rest_pop (by omega), behind_behind, HND.out]
              · rw [List.map_append, List.foldl_append, ← hv.st]
                simp [HND.out]
              · rcases hin5 k hk with h | h
                · exact hv.new k h
                · exact .inr (by omega)
              · rcases hin5 _ h with h | h
                · exact hv.nbox h
                · omega
              · obtain ⟨h1, h2⟩ := hrow g hg
                have hg6 : g = ad6.block := by simpa [Value.ownBlock] using hg.symm
                refine ⟨fun h => ?_, h2⟩
                rcases hin5 _ h with h | h
                · exact h1 h
                · have := hblk.2
                  omega
            have hmz : Hid (n - met2 + q < n - met + ab.length) := by
              have := HM2.out
              have := HM.out
              have := HQ.out
              unfold Hid
              omega
            clear hIW hI2 hnew2 hkp2 hbn hen hsl
            go_wp2_with fail
            go_roundw
            case rel => exact ⟨ab2.take q, met2, rx, vis ++ [i], S.step s ⟨kx, lx, rx⟩, own2, rfl, rfl, HI3.out⟩
            case measure =>
              have := hmz.out
              simp [intOf, lenV]
              omega
          · have HN1 := Lib.hid h1
            by_cases hbad : at2 < 0 ∨ (n : Int) ≤ at2 ∨ met2 = n
            · have hnone : inord ns (n + 1) root n = none := by
                have := HINV2.out.all
                rw [rest_bad h1 (by rw [HL.out]; omega)] at this
                exact this
              have hw : whole ns root = false := by
                unfold whole
                rw [HL.out, hnone]
              have HW := Lib.hid hw
              have d1 : (at2 != -1) = true := by simp [h1]
              clear hnone hw hgo2 h1
              by_cases b1 : at2 < 0
              · have e1 : decide (at2 < 0) = true := decide_eq_true b1
                clear b1 hbad
                go_wp2_with fail
                go_ret
                exact ⟨s, own', by rw [HW.out]; rfl, HINV2.out.I, HINV2.out.new, HINV2.out.kp, fun h => by rw [HW.out] at h; cases h⟩
              · have e1 : decide (at2 < 0) = false := decide_eq_false b1
                by_cases b2 : (n : Int) ≤ at2
                · have e2 : decide ((n : Int) ≤ at2) = true := decide_eq_true b2
                  clear b1 b2 hbad
                  go_wp2_with fail
                  go_ret
                  exact ⟨s, own', by rw [HW.out]; rfl, HINV2.out.I, HINV2.out.new, HINV2.out.kp, fun h => by rw [HW.out] at h; cases h⟩
                · have e2 : decide ((n : Int) ≤ at2) = false := decide_eq_false b2
                  have e3 : ((met2 : Int) == (n : Int)) = true := by simp; omega
                  clear b1 b2 hbad
                  go_wp2_with fail
                  go_ret
                  exact ⟨s, own', by rw [HW.out]; rfl, HINV2.out.I, HINV2.out.new, HINV2.out.kp, fun h => by rw [HW.out] at h; cases h⟩
            · obtain ⟨i, rfl⟩ : ∃ i : Nat, at2 = i := ⟨at2.toNat, by omega⟩
              have hin : i < n := by omega
              have hmn : met2 < n := by omega
              have d1 : ((i : Int) != -1) = true := bne_iff_ne.2 (by omega)
              have e1 : decide ((i : Int) < 0) = false := decide_eq_false (by omega)
              have e2 : decide ((n : Int) ≤ i) = false := decide_eq_false (by omega)
              have e3 : ((met2 : Int) == (n : Int)) = false := by simp; omega
              have hab : ab2.length ≤ met2 := by have := HINV2.out.few; omega
              have hab2 : ab2.length ≤ 1000 := by omega
              clear h1 hbad hgo2
              go_wp2_with (first
                | (at_builtin; refine wpList_append_any _ rfl _ _ 25 rfl w.heap.size 3 i0 (.int .i64 0) 1 8 Try.underlying25 hi hz0 hz1 hz2 rfl (by decide) _ _ _ rfl (HINV2.out.row.alloc _) (wr.heap.size + 1) (some ⟨wr.heap.size, 0, none⟩) 1 1 [.int .i64 i] rfl ?c1 ?c2 ?c3 ?c4 ?c5 ?_)
                | go_in)
              case c1 =>
                have := Reads.of_blk (n := 1) (size := 1) (Blk.new wr 3 #[.int .i64 i]) rfl
                rwa [World.size_alloc] at this
              case c2 => intro u hu; simp at hu; subst hu; rfl
              case c3 => simp [maxLen]; omega
              case c4 => omega
              case c5 => have := HINV2.out.kp.size; simp; omega
              intro v' w' hown' hgrow hblk
              have HI2 : Hid (Inv S s0 own root ns A n c w v' (ab2 ++ [i]) (met2 + 1) (nd ns i).left vis s own' w') := by
                have hv5 := HINV2.out
                have hsz := hv5.box.lt
                have hlt := S.lt hv5.I
                have hrow : ∀ g, some g = (Value.slice A6 ab2.length c6).ownBlock → ¬ own' g ∧ g ≠ w.heap.size := fun g hg => hv5.nrow g hg.symm
                refine ⟨?_, ?_, by omega, ?_, ?_, hv5.st, ?_, hv5.new, (hv5.box.alloc _).grown hgrow (fun h => (hrow _ h).2 rfl), hv5.nbox, ?_, (hv5.kp.alloc _).grown hgrow (fun g hg => .inr (hv5.row.lt g hg).1)⟩
                · have : ints (ab2 ++ [i]) = ints ab2 ++ [.int .i64 i] := by simp [ints]
                  rw [this, List.length_append]
                  exact hown'
                · intro x hx
                  rcases List.mem_append.1 hx with h | h
                  · exact hv5.low x h
                  · rw [List.mem_singleton.1 h]; exact hin
                · rw [List.length_append]
                  have := hv5.few
                  simp
                  omega
                · rw [hv5.all, rest_push (by rw [HL.out]; exact hin) (by omega) (by omega), List.reverse_append]
                  rfl
                · refine S.keep hv5.I ?_ (fun k hk => ?_)
                  · have := hgrow.size
                    simp at this
                    omega
                  · have hk2 := hlt k hk
                    rw [hgrow.block k (by simp; omega) (fun h => (hrow k h).1 hk)]
                    exact Below.heap_alloc _ _ k hk2
                · intro g hg
                  rcases hblk with h | h
                  · exact hrow g (by rw [← h, hg])
                  · rw [h] at hg
                    simp at hg
                    refine ⟨fun ho => by have := hlt g ho; omega, by omega⟩
              have hb2 : Below B w w' := HI2.out.kp.below_ hB HO.out
              obtain ⟨ad, rfl, _, _, hleft, _⟩ := node_at (HR.out.below hb2) hin
              have b0 := HI2.out.box
              have c1' : w'.cell? ⟨w.heap.size, 1, none⟩ = some (.slice (some ad) n c) := by rw [b0.cell]; rfl
              clear hgrow hown' hblk hb2 b0 c1
              go_wp2_with fail
              go_roundw
              case rel => exact ⟨ab2 ++ [i], met2 + 1, (nd ns i).left, by go_num, rfl, HI2.out, .inr (by simp), by have := HM2.out; rw [List.length_append]; simp; omega⟩
              case measure => simp [intOf]; omega
end Treap
end Go.Proofs.Ytnjnjajgpkmfhaa

/-
 The contracts of treap.isKey and treap.Pri.
-/
namespace Go.Proofs.Ytnjnjajgpkmfhaa
open Go.RowKit
namespace Treap
def isKey (k : Int) : Bool := decide (0 ≤ k) && decide (k ≤ 4294967295)
def priOf (k : Int) : Int := if isKey k = true then Go.bits .and .i64 (wrap64 (k * 2654435761)) 4294967295 else -1
theorem isKey_any (k : Int) (w : World) : Calls Try.prog 76 #[.int .i64 k] w fun e w' => e = .returned (.bool (isKey k)) ∧ w = w' := by
 by_cases h0 : 0 ≤ k
 ·have d0 : decide (0 ≤ k) = true := decide_eq_true h0
  have H : Hid (isKey k = decide (k ≤ 4294967295)) := by unfold Hid isKey; rw [d0]; rfl
  clear h0
  go_enter Try.func76, Try.ntmps76
  go_wp2_with fail
  go_ret
  exact ⟨ret_bool H.out.symm, rfl⟩
 ·have d0 : decide (0 ≤ k) = false := decide_eq_false h0
  have H : Hid (isKey k = false) := by unfold Hid isKey; rw [d0]; rfl
  clear h0
  go_enter Try.func76, Try.ntmps76
  go_wp2_with fail
  go_ret
  exact ⟨ret_bool H.out.symm, rfl⟩
theorem pri_any (k : Int) (w : World) : Calls Try.prog 78 #[.int .i64 k] w fun e w' => e = .returned (.int .i64 (priOf k)) ∧ w = w' := by
 cases hk : isKey k with
 | true =>
  have H : Hid (priOf k = Go.bits .and .i64 (wrap64 (k * 2654435761)) 4294967295) := by unfold Hid priOf; rw [if_pos hk]
  go_enter Try.func78, Try.ntmps78
  go_wp2_with fail
  refine (isKey_any k _).mono ?_
  rw [hk]
  rintro e w1 ⟨rfl, rfl⟩
  clear hk
  go_wp2_with fail
  go_ret
  exact ⟨ret_int H.out.symm, rfl⟩
 | false =>
  have H : Hid (priOf k = -1) := by unfold Hid priOf; rw [if_neg (by simp [hk])]
  go_enter Try.func78, Try.ntmps78
  go_wp2_with fail
  refine (isKey_any k _).mono ?_
  rw [hk]
  rintro e w1 ⟨rfl, rfl⟩
  clear hk
  go_wp2_with fail
  go_ret
  exact ⟨ret_int H.out.symm, rfl⟩
end Treap
end Go.Proofs.Ytnjnjajgpkmfhaa

/-
 Who sees nodes in treap.Right: do the keys rise?
-/
namespace Go.Proofs.Ytnjnjajgpkmfhaa
open Go.RowKit
namespace Treap
def stepR (s : Bool × Int) (n : Nd) : Bool × Int := (s.1 && (isKey n.key && decide (s.2 < n.key)), n.key)
theorem see_right (R L : Nat) (hne : R ≠ L) (b : Bool) (last : Int) (n : Nd) (w : World) (hR : Blk w R 4 #[.bool b]) (hL : Blk w L 3 #[.int .i64 last]) :
  Calls Try.prog 75 #[nval n, .pointer (some ⟨R, 0, none⟩), .pointer (some ⟨L, 0, none⟩)] w fun e w' => e = .returned (.tuple #[]) ∧ Blk w' R 4 #[.bool (stepR (b, last) n).1] ∧ Blk w' L 3 #[.int .i64 n.key] ∧ Kp (fun k => k = R ∨ k = L) w w' := by
 obtain ⟨kx, lx, rx⟩ := n
 unfold nval
 have HFIN : ∀ x : Bool, Hid ((stepR (b, last) ⟨kx, lx, rx⟩).1 = x → Blk (((w.alloc (.cells #[.int .i64 kx, .int .i64 lx, .int .i64 rx] 87)).setCell ⟨R, 0, none⟩ (.bool x)).setCell ⟨L, 0, none⟩ (.int .i64 kx)) R 4 #[.bool (stepR (b, last) ⟨kx, lx, rx⟩).1] ∧
   Blk (((w.alloc (.cells #[.int .i64 kx, .int .i64 lx, .int .i64 rx] 87)).setCell ⟨R, 0, none⟩ (.bool x)).setCell ⟨L, 0, none⟩ (.int .i64 kx)) L 3 #[.int .i64 kx] ∧
   Kp (fun k => k = R ∨ k = L) w (((w.alloc (.cells #[.int .i64 kx, .int .i64 lx, .int .i64 rx] 87)).setCell ⟨R, 0, none⟩ (.bool x)).setCell ⟨L, 0, none⟩ (.int .i64 kx))) := fun x hx => by
  refine ⟨?_, ?_, ?_⟩
  ·rw [hx]
   exact (((hR.alloc (.cells #[.int .i64 kx, .int .i64 lx, .int .i64 rx] 87)).set_ 0 (.bool x)).far (p := ⟨L, 0, none⟩) hne _)
  ·exact (((hL.alloc (.cells #[.int .i64 kx, .int .i64 lx, .int .i64 rx] 87)).far (p := ⟨R, 0, none⟩) (fun h => hne h.symm) _).set_ 0 (.int .i64 kx))
  ·exact (((Kp.refl _ w).alloc _).setCell (.inl (.inl rfl)) _).setCell (.inl (.inr rfl)) _
 have hlR := hR.lt
 have hlL := hL.lt
 have cR : ∀ o, (w.alloc o).cell? ⟨R, 0, none⟩ = some (.bool b) := fun o => by rw [(hR.alloc o).cell]; rfl
 have cL : ∀ o, (w.alloc o).cell? ⟨L, 0, none⟩ = some (.int .i64 last) := fun o => by rw [(hL.alloc o).cell]; rfl
 have zR : ∀ o, (w.alloc o).frozen? ⟨R, 0, none⟩ = false := fun o => (hR.alloc o).frozen 0
 have zL : ∀ o, (w.alloc o).frozen? ⟨L, 0, none⟩ = false := fun o => (hL.alloc o).frozen 0
 have n1 : w.heap.size ≠ R := by omega
 have n2 : R ≠ w.heap.size := by omega
 have n3 : w.heap.size ≠ L := by omega
 have n4 : L ≠ w.heap.size := by omega
 have n5 : L ≠ R := fun h => hne h.symm
 clear hR hL hlR hlL
 cases b with
 | false =>
  have HF := HFIN false
  clear HFIN
  go_enter Try.func75, Try.ntmps75
  go_wp2_with fail
  go_end0
  exact ⟨rfl, HF.out rfl⟩
 | true =>
  cases hk : isKey kx with
  | false =>
   have HF := HFIN false
   have HH : Hid ((stepR (true, last) ⟨kx, lx, rx⟩).1 = false) := by unfold Hid stepR; simp [hk]
   clear HFIN
   go_enter Try.func75, Try.ntmps75
   go_wp2_with fail
   refine (isKey_any kx _).mono ?_
   rw [hk]
   rintro e w1 ⟨rfl, rfl⟩
   clear hk
   go_wp2_with fail
   go_end0
   exact ⟨rfl, HF.out HH.out⟩
  | true =>
   obtain ⟨x, hx⟩ : ∃ x, decide (last < kx) = x := ⟨_, rfl⟩
   have HF := HFIN x
   have HH : Hid ((stepR (true, last) ⟨kx, lx, rx⟩).1 = x) := by unfold Hid stepR; simp [hk, hx]
   clear HFIN
   go_enter Try.func75, Try.ntmps75
   go_wp2_with fail
   refine (isKey_any kx _).mono ?_
   rw [hk]
   rintro e w1 ⟨rfl, rfl⟩
   clear hk
   go_wp2_with fail
   go_end0
   exact ⟨rfl, HF.out HH.out⟩
/-- It sees them. -/
def seerR (R L : Nat) (hne : R ≠ L) : Seer (Bool × Int) where
 K := 75
 caps := #[.pointer (some ⟨R, 0, none⟩), .pointer (some ⟨L, 0, none⟩)]
 I := fun s own w => own = (fun k => k = R ∨ k = L) ∧ Blk w R 4 #[.bool s.1] ∧ Blk w L 3 #[.int .i64 s.2]
 step := stepR
 ok := fun _ => True
 enter := fun n w => by unfold nval; simp [go_sem]
 keep := fun ⟨ho, hR, hL⟩ _ hk => ⟨ho, (hk R (by rw [ho]; exact .inl rfl)).trans hR, (hk L (by rw [ho]; exact .inr rfl)).trans hL⟩
 lt := fun ⟨ho, hR, hL⟩ k hk => by
  rw [ho] at hk
  rcases hk with rfl | rfl
  ·exact hR.lt
  ·exact hL.lt
 run := fun {s own w} n _ ⟨ho, hR, hL⟩ => by
  refine (see_right R L hne s.1 s.2 n w hR hL).mono ?_
  rintro e w' ⟨rfl, h1, h2, h3⟩
  subst ho
  exact ⟨rfl, _, ⟨rfl, h1, h2⟩, fun k hk => .inl hk, h3⟩
end Treap
end Go.Proofs.Ytnjnjajgpkmfhaa

/-
 Going down a tree, from link to link: the plain words, and who is asked whether to go on.
-/
namespace Go.Proofs.Ytnjnjajgpkmfhaa
open Go.RowKit
namespace Treap
inductive Lk where
 | root : Lk
 | left : Nat → Lk
 | right : Nat → Lk
def lget (ns : List Nd) (root : Int) : Lk → Int
 | .root => root
 | .left i => (nd ns i).left
 | .right i => (nd ns i).right
def lok (n : Nat) : Lk → Prop
 | .root => True
 | .left i => i < n
 | .right i => i < n
def side (key : Int) (i : Nat) (x : Nd) : Lk := if x.key < key then .right i else .left i
/-- Down from a link: where it stops, how many it passes, and whom it asks. -/
def seekF (go : Nd → Bool) (key : Int) (ns : List Nd) (root : Int) : Nat → Lk → Option (Lk × Nat × List Nd)
 | 0, _ => none
 | f + 1, l => if lget ns root l = -1 then some (l, 0, []) else
  if lget ns root l < 0 ∨ (ns.length : Int) ≤ lget ns root l then none else
  if go (nd ns (lget ns root l).toNat) = false then some (l, 0, [nd ns (lget ns root l).toNat]) else
  match seekF go key ns root f (side key (lget ns root l).toNat (nd ns (lget ns root l).toNat)) with
  | none => none
  | some (m, d, xs) => some (m, d + 1, nd ns (lget ns root l).toNat :: xs)
theorem seekF_lt (go : Nd → Bool) (key : Int) (ns : List Nd) (root : Int) : ∀ (f : Nat) (l m : Lk) (d : Nat) (xs : List Nd), seekF go key ns root f l = some (m, d, xs) → d < f := by
 intro f
 induction f with
 | zero => intro _ _ _ _ h; cases h
 | succ f ih =>
  intro l m d xs h
  unfold seekF at h
  split at h
  ·obtain ⟨_, h⟩ := Prod.mk.inj (Option.some.inj h)
   obtain ⟨rfl, _⟩ := Prod.mk.inj h
   omega
  ·split at h
   ·cases h
   ·split at h
    ·obtain ⟨_, h⟩ := Prod.mk.inj (Option.some.inj h)
     obtain ⟨rfl, _⟩ := Prod.mk.inj h
     omega
    ·split at h
     ·cases h
     ·rename_i m1 d1 xs1 h1
      obtain ⟨_, h⟩ := Prod.mk.inj (Option.some.inj h)
      obtain ⟨rfl, _⟩ := Prod.mk.inj h
      have := ih _ _ _ _ h1
      omega
/-- Somebody who is asked of nodes. -/
structure On (σ : Type) where
 K : Nat
 caps : Array Value
 own : Nat → Prop
 I : σ → World → Prop
 step : σ → Nd → σ
 go : Nd → Bool
 enter : ∀ (n : Nd) (w : World), (callFunc K (#[nval n] ++ caps)).run Try.prog w = .ok (.enter K (#[nval n] ++ caps)) w
 keep : ∀ {s w w'}, I s w → (∀ k, own k → w'.heap[k]? = w.heap[k]?) → I s w'
 lt : ∀ {s w}, I s w → ∀ k, own k → k < w.heap.size
 run : ∀ {s w} (n : Nd), I s w → Calls Try.prog K (#[nval n] ++ caps) w fun e w' => e = .returned (.bool (go n)) ∧ I (step s n) w' ∧ Kp own w w'
/-- Another key. -/
theorem other1_any (Kb : Nat) (key : Int) (n : Nd) (w : World) (hK : Blk w Kb 3 #[.int .i64 key]) :
  Calls Try.prog 84 #[nval n, .pointer (some ⟨Kb, 0, none⟩)] w fun e w' => e = .returned (.bool (n.key != key)) ∧ Below w.heap.size w w' := by
 obtain ⟨kx, lx, rx⟩ := n
 unfold nval
 have c0 : ∀ o, (w.alloc o).cell? ⟨Kb, 0, none⟩ = some (.int .i64 key) := fun o => by rw [(hK.alloc o).cell]; rfl
 have HB := Lib.hid ((Below.refl w.heap.size w).alloc (Nat.le_refl _) (.cells #[.int .i64 kx, .int .i64 lx, .int .i64 rx] 87))
 clear hK
 go_enter Try.func84, Try.ntmps84
 go_wp2_with fail
 go_ret
 exact ⟨rfl, HB.out⟩
def onOther (Kb : Nat) (key : Int) : On Unit where
 K := 84
 caps := #[.pointer (some ⟨Kb, 0, none⟩)]
 own := fun k => k = Kb
 I := fun _ w => Blk w Kb 3 #[.int .i64 key]
 step := fun _ _ => ()
 go := fun n => n.key != key
 enter := fun n w => by unfold nval; simp [go_sem]
 keep := fun hI hk => (hk Kb rfl).trans hI
 lt := fun hI k hk => by subst hk; exact hI.lt
 run := fun n hI => by
  refine (other1_any Kb key n _ hI).mono ?_
  rintro e w' ⟨rfl, hb⟩
  exact ⟨rfl, hI.below hb hI.lt, Kp.of_below hb⟩
/-- Heavier than a key. -/
theorem put1_any (Kb : Nat) (key : Int) (n : Nd) (w : World) (hK : Blk w Kb 3 #[.int .i64 key]) :
  Calls Try.prog 83 #[nval n, .pointer (some ⟨Kb, 0, none⟩)] w fun e w' => e = .returned (.bool (decide (priOf key < priOf n.key))) ∧ Below w.heap.size w w' := by
 obtain ⟨kx, lx, rx⟩ := n
 unfold nval
 have c0 : ∀ o, (w.alloc o).cell? ⟨Kb, 0, none⟩ = some (.int .i64 key) := fun o => by rw [(hK.alloc o).cell]; rfl
 have HB := Lib.hid ((Below.refl w.heap.size w).alloc (Nat.le_refl _) (.cells #[.int .i64 kx, .int .i64 lx, .int .i64 rx] 87))
 clear hK
 go_enter Try.func83, Try.ntmps83
 go_wp2_with fail
 go_quiet ((go_at_call 78; refine Calls.quiet_of ((pri_any _ _).mono fun _ _ ⟨he, hw⟩ => ⟨he, 0, hw.symm⟩)))
 go_wp2_with fail
 go_ret
 exact ⟨rfl, below_drewN HB.out _⟩
def onPut (Kb : Nat) (key : Int) : On Unit where
 K := 83
 caps := #[.pointer (some ⟨Kb, 0, none⟩)]
 own := fun k => k = Kb
 I := fun _ w => Blk w Kb 3 #[.int .i64 key]
 step := fun _ _ => ()
 go := fun n => decide (priOf key < priOf n.key)
 enter := fun n w => by unfold nval; simp [go_sem]
 keep := fun hI hk => (hk Kb rfl).trans hI
 lt := fun hI k hk => by subst hk; exact hI.lt
 run := fun n hI => by
  refine (put1_any Kb key n _ hI).mono ?_
  rintro e w' ⟨rfl, hb⟩
  exact ⟨rfl, hI.below hb hI.lt, Kp.of_below hb⟩
/-- The least key from one on. -/
def stepN (key best : Int) (n : Nd) : Int := if key ≤ n.key then n.key else best
end Treap
end Go.Proofs.Ytnjnjajgpkmfhaa

/-
 The contract of treap.seek, whoever is asked.
-/
namespace Go.Proofs.Ytnjnjajgpkmfhaa
open Go.RowKit
namespace Treap
/-- The address of a link: of a tree at a box, whose nodes lie at an address. -/
def lkA (T : Nat) (A : Option Addr) : Lk → Addr
 | .root => ⟨T, 0, none⟩
 | .left i => ⟨((A.getD ⟨0, 0, none⟩).add (i * 3)).block, ((A.getD ⟨0, 0, none⟩).add (i * 3)).off + 1, none⟩
 | .right i => ⟨((A.getD ⟨0, 0, none⟩).add (i * 3)).block, ((A.getD ⟨0, 0, none⟩).add (i * 3)).off + 2, none⟩
theorem link_at {w : World} {T B n c : Nat} {root : Int} {A : Option Addr} {ns : List Nd} (hT : Blk w T 70 #[.int .i64 root, .slice A n c]) (hr : Reads w B 3 A n (ns.flatMap cells)) {l : Lk} (hl : lok n l) :
  w.cell? (lkA T A l) = some (.int .i64 (lget ns root l)) := by
 cases l with
 | root => show w.cell? ⟨T, 0, none⟩ = _; rw [hT.cell]; rfl
 | left i =>
  obtain ⟨ad, rfl, _, _, h1, _⟩ := node_at hr (k := i) hl
  exact h1
 | right i =>
  obtain ⟨ad, rfl, _, _, _, h2⟩ := node_at hr (k := i) hl
  exact h2
/-- What holds each time round. -/
structure SInv {σ : Type} (O : On σ) (s0 : σ) (key root : Int) (ns : List Nd) (f : Nat) (L : Lk) (D : Nat) (XS : List Nd) (n : Nat) (w : World) (l : Lk) (d : Nat) (s : σ) (wr : World) : Prop where
 run : ∃ g xs vis, seekF O.go key ns root g l = some (L, D - d, xs) ∧ XS = vis ++ xs ∧ s = vis.foldl O.step s0
 le : d ≤ D
 ok : lok n l
 I : O.I s wr
 kp : Kp O.own w wr
/-- The frame at the label. -/
def SJ {σ : Type} (O : On σ) (s0 : σ) (key root : Int) (ns : List Nd) (A : Option Addr) (T f : Nat) (L : Lk) (D : Nat) (XS : List Nd) (n : Nat) (w : World) (a : Act) (wr : World) : Prop :=
 ∃ (l : Lk) (d : Nat) (s : σ) (u10 u11 u12 u13 u14 u15 u16 u17 u18 u19 u20 u21 u22 u23 u24 u25 u26 u27 u28 u29 u30 u31 u32 u33 u34 u35 u36 u37 u38 u39 u40 u41 u42 u43 u44 u45 u46 u47 u48 u49 u50 u51 u52 u53 u54 u55 : Value), a = { tmps := (.pointer (some ⟨T, 0, none⟩) :: .int .i64 key :: .func (.func O.K) #[] O.caps :: undef :: undef :: undef :: .pointer none :: .int .i64 0 :: .pointer (some (lkA T A l)) :: .int .i64 d :: u10 :: u11 :: u12 :: u13 :: u14 :: u15 :: u16 :: u17 :: u18 :: u19 :: u20 :: u21 :: u22 :: u23 :: u24 :: u25 :: u26 :: u27 :: u28 :: u29 :: u30 :: u31 :: u32 :: u33 :: u34 :: u35 :: u36 :: u37 :: u38 :: u39 :: u40 :: u41 :: u42 :: u43 :: u44 :: u45 :: u46 :: u47 :: u48 :: u49 :: u50 :: u51 :: u52 :: u53 :: u54 :: u55 :: []).toArray, defers := [] } ∧ SInv O s0 key root ns f L D XS n w l d s wr
set_option maxRecDepth 100000 in
set_option maxHeartbeats 4000000 in
theorem seek_any {σ : Type} (O : On σ) (s0 : σ) (key root : Int) (ns : List Nd) (A : Option Addr) (n c B T f : Nat) (L : Lk) (D : Nat) (XS : List Nd) (hf : f ≤ 1001) (w : World) (hT : Blk w T 70 #[.int .i64 root, .slice A n c]) (hr : Reads w B 3 A n (ns.flatMap cells)) (hB : B ≤ w.heap.size)
  (hoT : ¬ O.own T) (hoB : ∀ ad, A = some ad → 0 < n → ¬ O.own ad.block) (hI : O.I s0 w) (hs : seekF O.go key ns root f .root = some (L, D, XS)) :
  Calls Try.prog 69 #[.pointer (some ⟨T, 0, none⟩), .int .i64 key, .func (.func O.K) #[] O.caps] w fun e w' => e = .returned (.tuple #[.pointer (some (lkA T A L)), .int .i64 D]) ∧ lok n L ∧ O.I (XS.foldl O.step s0) w' ∧ Kp O.own w w' := by
 have hl : ns.length = n := by have := hr.1; rw [flat_len cells 3 cells_len] at this; omega
 have hD := seekF_lt _ _ _ _ _ _ _ _ _ hs
 have HL := Lib.hid hl
 have HT := Lib.hid hT
 have HR := Lib.hid hr
 have HOT := Lib.hid hoT
 have HOB := Lib.hid hoB
 have HI0 : Hid (SInv O s0 key root ns f L D XS n w .root 0 s0 w) := ⟨⟨f, XS, [], hs, rfl, rfl⟩, Nat.zero_le _, trivial, hI, Kp.refl _ _⟩
 clear hl hT hr hoT hoB hI hs
 go_enter Try.func69, Try.ntmps69
 go_wp2
 refine (fun (PASS : ∀ a wr, SJ O s0 key root ns A T f L D XS n w a wr → Code.wp Try.prog _ (Exit.jump 0 (fun a' w' => SJ O s0 key root ns A T f L D XS n w a' w' ∧ D - (intOf (a'.tmps.getD 9 undef)).toNat < D - (intOf (a.tmps.getD 9 undef)).toNat) _) a wr) => wp_scope_jumps 0 (SJ O s0 key root ns A T f L D XS n w) (fun a' _ => D - (intOf (a'.tmps.getD 9 undef)).toNat) rfl ?first (fun a wr h => wp_seq (wp_skip (PASS a wr h)))) ?pass
 case first =>
  clear hD
  go_wp2
  go_step3
  rename_i hK
  refine hK _ _ (wp_mono (PASS _ _ ⟨.root, 0, s0, _, _, _, _, _, _, _, _, _, _, _, _, _, _, _, _, _, _, _, _, _, _, _, _, _, _, _, _, _, _, _, _, _, _, _, _, _, _, _, _, _, _, _, _, _, _, rfl, HI0.out⟩) ?_)
  intro e a' w' h
  cases e with
  | goto l => exact ⟨h.1, h.2.1⟩
  | normal => exact h
  | exit id => exact h
  | ret => exact h
  | panic ch => exact h
  | outgrown => exact h
 case pass =>
  intro a wr hJ
  obtain ⟨l, d, s, u10, u11, u12, u13, u14, u15, u16, u17, u18, u19, u20, u21, u22, u23, u24, u25, u26, u27, u28, u29, u30, u31, u32, u33, u34, u35, u36, u37, u38, u39, u40, u41, u42, u43, u44, u45, u46, u47, u48, u49, u50, u51, u52, u53, u54, u55, rfl, hinv⟩ := hJ
  refine (fun (step : ∀ J' : Act → World → Prop, (∀ a' w', SJ O s0 key root ns A T f L D XS n w a' w' → D - (intOf (a'.tmps.getD 9 undef)).toNat < D - d → J' a' w') → Code.wp Try.prog _ (Exit.jump 0 J' _) _ wr) => step _ (fun _ _ h1 h2 => ⟨h1, h2⟩)) ?_
  intro J' HJ'
  have HJ := Lib.hid HJ'
  clear HJ'
  have hB1 : Below 0 w wr := hinv.kp.zero
  have hT1 := HT.out.kp hinv.kp HOT.out
  have hR1 : Reads wr wr.heap.size 3 A n (ns.flatMap cells) := by
   refine ⟨HR.out.1, fun h0 => ?_⟩
   obtain ⟨ad, rfl, hb, hc⟩ := HR.out.2 h0
   refine ⟨ad, rfl, Nat.lt_of_lt_of_le (Nat.lt_of_lt_of_le hb hB) hinv.kp.size, fun j u hu => ?_⟩
   rw [World.cell?_of_block (hinv.kp.same _ (by rw [block_of_add]; exact Nat.lt_of_lt_of_le hb hB) (by rw [block_of_add]; exact HOB.out ad rfl h0))]
   exact hc j u hu
  have cL := link_at hT1 hR1 hinv.ok
  obtain ⟨g, xs, vis, hrun, hXS, hs⟩ := hinv.run
  have HINV := Lib.hid hinv
  clear hinv hB1
  have hD2 : D ≤ 1000 := by omega
  clear hD hf hB
  obtain ⟨g, rfl⟩ : ∃ q, g = q + 1 := ⟨g - 1, by cases g with | zero => cases hrun | succ g => rfl⟩
  unfold seekF at hrun
  by_cases h1 : lget ns root l = -1
  ·rw [if_pos h1] at hrun
   obtain ⟨e1, e2⟩ := Prod.mk.inj (Option.some.inj hrun)
   obtain ⟨hd0, e4⟩ := Prod.mk.inj e2
   subst e1 e4
   have hle := HINV.out.le
   obtain rfl : d = D := by omega
   rw [h1] at cL
   have HF : Hid (lok n l ∧ O.I (XS.foldl O.step s0) wr ∧ Kp O.own w wr) := ⟨HINV.out.ok, by rw [hXS, List.append_nil, ← hs]; exact HINV.out.I, HINV.out.kp⟩
   obtain ⟨p, hp⟩ : ∃ p, lkA T A l = p := ⟨_, rfl⟩
   rw [hp] at cL ⊢
   have HP := Lib.hid hp
   clear e2 hrun hd0 hle h1 hXS hs hT1 hR1 hp
   go_wp2_with fail
   go_quiet (fail)
   go_wp2_with fail
   simp only [Exit.jump]
   go_ret2
   refine ⟨?_, HF.out.1, O.keep HF.out.2.1 (fun _ _ => rfl), HF.out.2.2.more (below_drewN (Below.refl _ _) _)⟩
   rw [← HP.out]
   rfl
  ·rw [if_neg h1] at hrun
   by_cases h2 : lget ns root l < 0 ∨ (ns.length : Int) ≤ lget ns root l
   ·rw [if_pos h2] at hrun
    cases hrun
   ·rw [if_neg h2] at hrun
    obtain ⟨i, hi⟩ : ∃ i : Nat, lget ns root l = i := ⟨(lget ns root l).toNat, by omega⟩
    rw [hi] at h1 h2 cL hrun
    rw [Int.toNat_natCast] at hrun
    have hin : i < n := by have := HL.out; omega
    obtain ⟨ad, rfl, hbl, n0, n1, n2⟩ := node_at hR1 hin
    have cT : wr.cell? ⟨T, 1, none⟩ = some (.slice (some ad) n c) := by rw [hT1.cell]; rfl
    have d1 : ((i : Int) == -1) = false := beq_eq_false_iff_ne.2 h1
    have hpad : lkA T (some ad) (.left i) = ⟨(ad.add (i * 3)).block, (ad.add (i * 3)).off + 1, none⟩ := rfl
    have hpad2 : lkA T (some ad) (.right i) = ⟨(ad.add (i * 3)).block, (ad.add (i * 3)).off + 2, none⟩ := rfl
    obtain ⟨p, hp⟩ : ∃ p, lkA T (some ad) l = p := ⟨_, rfl⟩
    rw [hp] at cL ⊢
    have HP := Lib.hid hp
    obtain ⟨x, hx⟩ : ∃ x, nd ns i = x := ⟨_, rfl⟩
    rw [hx] at hrun n0 n1 n2
    have HX := Lib.hid hx
    obtain ⟨kx, lx, rx⟩ := x
    have hen := fun W => O.enter ⟨kx, lx, rx⟩ W
    simp only [nval] at hen
    have HK0 : Hid (Kp O.own wr wr.drew) := (Kp.refl _ _).drew
    have HKEEP : Hid (∀ w2, Kp O.own wr w2 → w2.cell? p = some (.int .i64 i) ∧ w2.cell? ⟨T, 1, none⟩ = some (.slice (some ad) n c) ∧ w2.cell? (ad.add (i * 3)) = some (.int .i64 kx) ∧ w2.cell? ⟨(ad.add (i * 3)).block, (ad.add (i * 3)).off + 1, none⟩ = some (.int .i64 lx) ∧ w2.cell? ⟨(ad.add (i * 3)).block, (ad.add (i * 3)).off + 2, none⟩ = some (.int .i64 rx)) := by
     intro w2 hk
     have hne : ¬ O.own ad.block := HOB.out ad rfl (by omega)
     have key : ∀ (q : Addr) (v : Value), (q.block = T ∨ q.block = ad.block) → wr.cell? q = some v → w2.cell? q = some v := fun q v hq hv => by
      rw [World.cell?_of_block (hk.same _ (lt_of_cell hv) (fun ho => by
       rcases hq with hq | hq
       ·rw [hq] at ho; exact HOT.out ho
       ·rw [hq] at ho; exact hne ho))]
      exact hv
     refine ⟨key _ _ ?_ cL, key _ _ (.inl rfl) cT, key _ _ (.inr (block_of_add _ _)) n0, key _ _ (.inr (block_of_add _ _)) n1, key _ _ (.inr (block_of_add _ _)) n2⟩
     rw [← hp]
     cases l with
     | root => exact .inl rfl
     | left j => exact .inr (block_of_add _ _)
     | right j => exact .inr (block_of_add _ _)
    have HRUN := Lib.hid hrun
    have HXS := Lib.hid hXS
    have HS := Lib.hid hs
    have HT1 := Lib.hid hT1
    have HR1 := Lib.hid hR1
    have HPAD := Lib.hid hpad
    have HPAD2 := Lib.hid hpad2
    have HBL := Lib.hid hbl
    clear hrun hXS hs hT1 hR1 hpad hpad2 hx hp h1 h2 hi hbl
    go_wp2_with fail
    go_region_held3 (fun w' => Kp O.own wr w' ∧ w'.cell? p = some (.int .i64 i) ∧ w'.cell? ⟨T, 1, none⟩ = some (.slice (some ad) n c) ∧ w'.cell? (ad.add (i * 3)) = some (.int .i64 kx) ∧ w'.cell? ⟨(ad.add (i * 3)).block, (ad.add (i * 3)).off + 1, none⟩ = some (.int .i64 lx) ∧ w'.cell? ⟨(ad.add (i * 3)).block, (ad.add (i * 3)).off + 2, none⟩ = some (.int .i64 rx)) (first | exact ⟨HK0.out, cL, cT, n0, n1, n2⟩ | exact ⟨by assumption, by assumption, by assumption, by assumption, by assumption, by assumption⟩)
     (first | (refine (O.run (w := wr.drew) ⟨kx, lx, rx⟩ (O.keep HINV.out.I (fun _ _ => rfl))).mono ?_; rintro e w2 ⟨rfl, hI2, hk2⟩; have hk3 : Kp O.own wr w2 := HK0.out.trans hk2 (fun _ h => .inl h); obtain ⟨k1, k2, k3, k4, k5⟩ := HKEEP.out w2 hk3; clear hk2))
    rename_i hHeld
    clear hHeld
    cases hgo : O.go ⟨kx, lx, rx⟩ with
    | false =>
     have hrun2 := HRUN.out
     rw [if_pos hgo] at hrun2
     obtain ⟨e1, e2⟩ := Prod.mk.inj (Option.some.inj hrun2)
     obtain ⟨hd0, e4⟩ := Prod.mk.inj e2
     have hle := HINV.out.le
     obtain rfl : d = D := by omega
     have HF : Hid (lok n L ∧ O.I (XS.foldl O.step s0) w2 ∧ Kp O.own w w2) := ⟨by rw [← e1]; exact HINV.out.ok, by rw [HXS.out, ← e4, List.foldl_append, ← HS.out]; exact hI2, HINV.out.kp.trans hk3 (fun _ h => .inl h)⟩
     have HP2 : Hid (lkA T (some ad) L = p) := by rw [← e1]; exact HP.out
     clear hrun2 e1 e2 hd0 e4 hle hgo hI2 hk3
     go_wp2_with fail
     simp only [Exit.jump]
     go_ret2
     refine ⟨?_, HF.out⟩
     rw [← HP2.out]
     rfl
    | true =>
     have hrun2 := HRUN.out
     rw [if_neg (by rw [hgo]; simp)] at hrun2
     cases hnx : seekF O.go key ns root g (side key i ⟨kx, lx, rx⟩) with
     | none => rw [hnx] at hrun2; cases hrun2
     | some r =>
      obtain ⟨m1, d1, xs1⟩ := r
      rw [hnx] at hrun2
      obtain ⟨e1, e2⟩ := Prod.mk.inj (Option.some.inj hrun2)
      obtain ⟨hd0, e4⟩ := Prod.mk.inj e2
      have hle := HINV.out.le
      have hlt : d < D := by omega
      have HNEW : ∀ q, Hid (SInv O s0 key root ns f L D XS n w (side key i ⟨kx, lx, rx⟩) (d + 1) (O.step s ⟨kx, lx, rx⟩) (w2.drewN q)) := fun q => by
       refine ⟨⟨g, xs1, vis ++ [⟨kx, lx, rx⟩], ?_, ?_, ?_⟩, hlt, ?_, O.keep hI2 (fun _ _ => rfl), (HINV.out.kp.trans hk3 (fun _ h => .inl h)).more (below_drewN (Below.refl _ _) _)⟩
       ·rw [hnx, e1, show D - (d + 1) = d1 by omega]
       ·rw [HXS.out, ← e4]
        simp
       ·rw [List.foldl_append, ← HS.out]
        rfl
       ·unfold side
        split
        ·exact hin
        ·exact hin
      have HLT := Lib.hid hlt
      clear hrun2 e1 e2 hd0 e4 hle hgo hI2 hk3 hnx
      by_cases hk : kx < key
      ·have hkd : decide (kx < key) = true := decide_eq_true hk
       have HSD : Hid (side key i ⟨kx, lx, rx⟩ = .right i) := by unfold Hid side; rw [if_pos hk]
       clear hk
       go_wp2_with fail
       go_quiet (fail)
       go_wp2_with fail
       go_step3
       refine ⟨rfl, HJ.out _ _ ⟨.right i, d + 1, _, _, _, _, _, _, _, _, _, _, _, _, _, _, _, _, _, _, _, _, _, _, _, _, _, _, _, _, _, _, _, _, _, _, _, _, _, _, _, _, _, _, _, _, _, _, _, rfl, by rw [← HSD.out]; exact (HNEW _).out⟩ ?_⟩
       simp [intOf]
       have := HLT.out
       omega
      ·have hkd : decide (kx < key) = false := decide_eq_false hk
       have HSD : Hid (side key i ⟨kx, lx, rx⟩ = .left i) := by unfold Hid side; rw [if_neg hk]
       clear hk
       go_wp2_with fail
       go_quiet (fail)
       go_wp2_with fail
       go_step3
       refine ⟨rfl, HJ.out _ _ ⟨.left i, d + 1, _, _, _, _, _, _, _, _, _, _, _, _, _, _, _, _, _, _, _, _, _, _, _, _, _, _, _, _, _, _, _, _, _, _, _, _, _, _, _, _, _, _, _, _, _, _, _, rfl, by rw [← HSD.out]; exact (HNEW _).out⟩ ?_⟩
       simp [intOf]
       have := HLT.out
       omega
end Treap
end Go.Proofs.Ytnjnjajgpkmfhaa

/-
 The contracts of the function values of treap.Right that compare weights, and of slices.ContainsFunc over them.
-/
namespace Go.Proofs.Ytnjnjajgpkmfhaa
open Go.RowKit
namespace Treap
/-- Is the node at a link as heavy as one, or heavier? -/
def heavyB (ns : List Nd) (x : Nd) (i : Int) : Bool := !(i == -1) && decide (priOf x.key ≤ priOf (nd ns i.toNat).key)
def heavyN (ns : List Nd) (x : Nd) : Bool := heavyB ns x x.left || heavyB ns x x.right
def okLink (n : Nat) (i : Int) : Prop := i = -1 ∨ (0 ≤ i ∧ i < n)
set_option maxRecDepth 100000 in
theorem heavy_any (T B : Nat) (root : Int) (ns : List Nd) (A : Option Addr) (n c : Nat) (x : Nd) (i : Int) (hi : okLink n i) (w : World) (hT : Blk w T 70 #[.int .i64 root, .slice A n c]) (hr : Reads w B 3 A n (ns.flatMap cells)) :
  Calls Try.prog 77 #[nval x, .int .i64 i, .pointer (some ⟨T, 0, none⟩)] w fun e w' => e = .returned (.bool (heavyB ns x i)) ∧ Below w.heap.size w w' := by
 obtain ⟨kx, lx, rx⟩ := x
 unfold nval
 have hlT := hT.lt
 have cT : ∀ o, (w.alloc o).cell? ⟨T, 1, none⟩ = some (.slice A n c) := fun o => by rw [(hT.alloc o).cell]; rfl
 have HR := Lib.hid hr
 have HB := Lib.hid ((Below.refl w.heap.size w).alloc (Nat.le_refl _) (.cells #[.int .i64 kx, .int .i64 lx, .int .i64 rx] 87))
 clear hT hr
 by_cases h1 : i = -1
 ·subst h1
  go_enter Try.func77, Try.ntmps77
  go_wp2_with fail
  go_quiet (fail)
  go_wp2_with fail
  go_ret
  exact ⟨rfl, below_drewN HB.out _⟩
 ·obtain ⟨j, rfl⟩ : ∃ j : Nat, i = j := ⟨i.toNat, by rcases hi with h | h <;> omega⟩
  have hjn : j < n := by rcases hi with h | h <;> omega
  have d1 : ((j : Int) != -1) = true := bne_iff_ne.2 h1
  obtain ⟨ad, rfl, hbl, n0, _, _⟩ := node_at HR.out hjn
  have n0' : ∀ o, (w.alloc o).cell? (ad.add (j * 3)) = some (.int .i64 (nd ns j).key) := fun o => (World.cell?_alloc_lt w o _ (lt_of_cell n0)).trans n0
  have HE : Hid (heavyB ns ⟨kx, lx, rx⟩ j = decide (priOf kx ≤ priOf (nd ns j).key)) := by
   unfold Hid heavyB
   have : ((j : Int) == -1) = false := beq_eq_false_iff_ne.2 h1
   rw [this, Int.toNat_natCast]
   rfl
  clear hi h1 n0
  go_enter Try.func77, Try.ntmps77
  go_wp2_with fail
  go_quiet ((go_at_call 78; refine Calls.quiet_of ((pri_any _ _).mono fun _ _ ⟨he, hw⟩ => ⟨he, 0, hw.symm⟩)))
  go_wp2_with fail
  go_ret
  exact ⟨ret_bool HE.out.symm, below_drewN HB.out _⟩
def fheavy (T : Nat) : Value := .func (.func 77) #[] #[.pointer (some ⟨T, 0, none⟩)]
set_option maxRecDepth 100000 in
theorem right3_any (Hb T B : Nat) (root : Int) (ns : List Nd) (A : Option Addr) (n c : Nat) (x : Nd) (hl : okLink n x.left) (hr2 : okLink n x.right) (w : World) (hH : Blk w Hb 104 #[fheavy T]) (hT : Blk w T 70 #[.int .i64 root, .slice A n c]) (hr : Reads w B 3 A n (ns.flatMap cells)) (hB : B ≤ w.heap.size) :
  Calls Try.prog 80 #[nval x, .pointer (some ⟨Hb, 0, none⟩)] w fun e w' => e = .returned (.bool (heavyN ns x)) ∧ Below w.heap.size w w' := by
 obtain ⟨kx, lx, rx⟩ := x
 have hlH := hH.lt
 have cH : ∀ o, (w.alloc o).cell? ⟨Hb, 0, none⟩ = some (.func (.func 77) #[] #[.pointer (some ⟨T, 0, none⟩)]) := fun o => by rw [(hH.alloc o).cell]; rfl
 have hb0 := (Below.refl w.heap.size w).alloc (Nat.le_refl _) (.cells #[.int .i64 kx, .int .i64 lx, .int .i64 rx] 87)
 have HB0 := Lib.hid hb0
 have h1 := heavy_any T B root ns A n c ⟨kx, lx, rx⟩ lx hl _ (hT.alloc (.cells #[.int .i64 kx, .int .i64 lx, .int .i64 rx] 87)) (hr.alloc hB (.cells #[.int .i64 kx, .int .i64 lx, .int .i64 rx] 87))
 have H1 := Lib.hid h1
 have HT := Lib.hid (hT.alloc (.cells #[.int .i64 kx, .int .i64 lx, .int .i64 rx] 87))
 have HHb := Lib.hid (hH.alloc (.cells #[.int .i64 kx, .int .i64 lx, .int .i64 rx] 87))
 have HN := Lib.hid (Blk.new w 87 #[.int .i64 kx, .int .i64 lx, .int .i64 rx])
 have HR := Lib.hid (hr.alloc hB (.cells #[.int .i64 kx, .int .i64 lx, .int .i64 rx] 87))
 have HB := Lib.hid hB
 clear hT hr hH h1 hb0 hl
 unfold nval at *
 go_enter Try.func80, Try.ntmps80
 go_wp2_with fail
 refine H1.out.mono ?_
 rintro e w1 ⟨rfl, hb1⟩
 have HB1 := Lib.hid (bthen HB0.out hb1)
 cases hv : heavyB ns ⟨kx, lx, rx⟩ lx with
 | true =>
  have HE : Hid (heavyN ns ⟨kx, lx, rx⟩ = true) := by unfold Hid heavyN; rw [hv]; rfl
  clear hv hb1
  go_wp2_with fail
  go_ret
  exact ⟨ret_bool HE.out.symm, HB1.out⟩
 | false =>
  have HE : Hid (heavyN ns ⟨kx, lx, rx⟩ = heavyB ns ⟨kx, lx, rx⟩ rx) := by unfold Hid heavyN; rw [hv]; rfl
  have bN := HN.out.below hb1 (by simp)
  have bH := HHb.out.below hb1 (by simp; omega)
  have cH1 : w1.cell? ⟨Hb, 0, none⟩ = some (.func (.func 77) #[] #[.pointer (some ⟨T, 0, none⟩)]) := by rw [bH.cell]; rfl
  have q0 : w1.cell? ⟨w.heap.size, 0, none⟩ = some (.int .i64 kx) := by rw [bN.cell]; rfl
  have q1 : w1.cell? ⟨w.heap.size, 1, none⟩ = some (.int .i64 lx) := by rw [bN.cell]; rfl
  have q2 : w1.cell? ⟨w.heap.size, 2, none⟩ = some (.int .i64 rx) := by rw [bN.cell]; rfl
  have h2 := heavy_any T B root ns A n c ⟨kx, lx, rx⟩ rx hr2 w1 (HT.out.below hb1 HT.out.lt) (HR.out.below (hb1.mono (by have := HB.out; simp; omega)))
  have H2 := Lib.hid h2
  clear hv hb1 bN bH h2 cH hr2
  unfold nval at *
  go_wp2_with fail
  refine H2.out.mono ?_
  rintro e w2 ⟨rfl, hb2⟩
  have HB2 := Lib.hid (bthen HB1.out hb2)
  clear hb2
  go_wp2_with fail
  go_ret
  exact ⟨ret_bool HE.out.symm, HB2.out⟩
/-- The first heavy one. -/
def Found (ns : List Nd) (w : World) (e : Ending) (w' : World) : Prop := ((e = .returned (.int .i64 (-1)) ∧ ns.any (heavyN ns) = false) ∨ (∃ k : Nat, e = .returned (.int .i64 k) ∧ k < ns.length ∧ ns.any (heavyN ns) = true)) ∧ Below w.heap.size w w'
theorem any_take (f : Nd → Bool) (ns : List Nd) {k : Nat} (hk : k < ns.length) (h : (ns.take k).any f = false) (hx : f (nd ns k) = false) : (ns.take (k + 1)).any f = false := by
 rw [List.take_add_one, nd_at hk, List.any_append, h]
 simp [hx]
set_option maxRecDepth 100000 in
theorem index_any (Hb T B : Nat) (root : Int) (ns : List Nd) (A : Option Addr) (n c : Nat) (hn : n ≤ 1000) (hok : ∀ j, j < n → okLink n (nd ns j).left ∧ okLink n (nd ns j).right) (w : World) (hH : Blk w Hb 104 #[fheavy T]) (hT : Blk w T 70 #[.int .i64 root, .slice A n c]) (hr : Reads w B 3 A n (ns.flatMap cells)) (hB : B ≤ w.heap.size) :
  Calls Try.prog 86 #[.slice A n c, .func (.func 80) #[] #[.pointer (some ⟨Hb, 0, none⟩)]] w (Found ns w) := by
 have hl : ns.length = n := by have := hr.1; rw [flat_len cells 3 cells_len] at this; omega
 have HL := Lib.hid hl
 have HR := Lib.hid hr
 have HH := Lib.hid hH
 have HT := Lib.hid hT
 have HOK := Lib.hid hok
 clear hl hr hH hT hok
 go_enter Try.func86, Try.ntmps86
 go_wp2_with fail
 go_loopw [8] (fun i wr => ∃ k : Nat, k ≤ n ∧ i = .int .i64 k ∧ (ns.take k).any (heavyN ns) = false ∧ Below w.heap.size w wr) (fun i _ => n - (intOf i).toNat)
 case atStart => exact ⟨0, Nat.zero_le _, rfl, rfl, Below.refl _ _⟩
 case round =>
  obtain ⟨k, hk, rfl, hall, hbw⟩ := hrel
  have HALL := Lib.hid hall
  have HBW := Lib.hid hbw
  clear hall hbw
  by_cases hlt : k < n
  ·obtain ⟨ad, rfl, hbl, n0, n1, n2⟩ := node_at ((HR.out.below (HBW.out.mono hB))) hlt
   obtain ⟨o1, o2⟩ := HOK.out k hlt
   have h3 := right3_any Hb T B root ns (some ad) n c (nd ns k) o1 o2 wr (HH.out.below HBW.out HH.out.lt) (HT.out.below HBW.out HT.out.lt) (HR.out.below (HBW.out.mono hB)) (Nat.le_trans hB HBW.out.size)
   have H3 := Lib.hid h3
   clear o1 o2 h3
   unfold nval at *
   go_wp2_with fail
   refine H3.out.mono ?_
   rintro e w2 ⟨rfl, hb2⟩
   have HB2 := Lib.hid (bthen HBW.out hb2)
   clear hb2 n0 n1 n2
   cases hkp : heavyN ns (nd ns k) with
   | true =>
    have HK := Lib.hid hkp
    clear hkp
    go_wp2_with fail
    go_ret
    exact ⟨.inr ⟨k, rfl, by rw [HL.out]; exact hlt, List.any_eq_true.2 ⟨_, List.mem_of_getElem? (nd_at (by rw [HL.out]; exact hlt)), HK.out⟩⟩, HB2.out⟩
   | false =>
    have HK := Lib.hid hkp
    clear hkp
    go_wp2_with fail
    refine ⟨⟨k + 1, by omega, by go_num, any_take _ ns (by rw [HL.out]; exact hlt) HALL.out HK.out, HB2.out⟩, by simp [intOf]; omega⟩
  ·obtain rfl : k = n := by omega
   go_wp2_with fail
   go_ret
   have := HALL.out
   rw [← HL.out, List.take_length] at this
   exact ⟨.inl ⟨rfl, this⟩, HBW.out⟩
theorem contains_any (Hb T B : Nat) (root : Int) (ns : List Nd) (A : Option Addr) (n c : Nat) (hn : n ≤ 1000) (hok : ∀ j, j < n → okLink n (nd ns j).left ∧ okLink n (nd ns j).right) (w : World) (hH : Blk w Hb 104 #[fheavy T]) (hT : Blk w T 70 #[.int .i64 root, .slice A n c]) (hr : Reads w B 3 A n (ns.flatMap cells)) (hB : B ≤ w.heap.size) :
  Calls Try.prog 79 #[.slice A n c, .func (.func 80) #[] #[.pointer (some ⟨Hb, 0, none⟩)]] w fun e w' => e = .returned (.bool (ns.any (heavyN ns))) ∧ Below w.heap.size w w' := by
 have h := index_any Hb T B root ns A n c hn hok w hH hT hr hB
 have HF := Lib.hid h
 clear h hok hH hT hr
 go_enter Try.func79, Try.ntmps79
 go_wp2_with fail
 refine HF.out.mono ?_
 rintro e w1 ⟨⟨rfl, ha⟩ | ⟨k, rfl, _, ha⟩, hb⟩
 all_goals
  have HA := Lib.hid ha
  have HB := Lib.hid hb
  clear ha hb
  go_wp2_with fail
  go_ret
  exact ⟨by rw [HA.out]; rfl, HB.out⟩
end Treap
end Go.Proofs.Ytnjnjajgpkmfhaa

/-
 Trees that are whole and rise: every place is come to, and every link leads to one. No program.
-/
namespace Go.Proofs.Ytnjnjajgpkmfhaa
open Go.RowKit
namespace Treap
theorem inord_ok (ns : List Nd) : ∀ (f : Nat) (at_ : Int) (x : Nat) (a : List Nat) (y : Nat), inord ns f at_ x = some (a, y) → okLink ns.length at_ ∧ ∀ i ∈ a, i < ns.length ∧ okLink ns.length (nd ns i).left ∧ okLink ns.length (nd ns i).right := by
 intro f
 induction f with
 | zero => intro _ _ _ _ h; cases h
 | succ f ih =>
  intro at_ x a y h
  unfold inord at h
  split at h
  ·rename_i h1
   obtain ⟨rfl, rfl⟩ := Prod.mk.inj (Option.some.inj h)
   exact ⟨.inl h1, by simp⟩
  ·split at h
   ·cases h
   ·rename_i h1 hc
    split at h
    ·cases h
    ·rename_i a1 y1 e1
     split at h
     ·cases h
     ·rename_i b z e2
      obtain ⟨rfl, rfl⟩ := Prod.mk.inj (Option.some.inj h)
      obtain ⟨k1, g1⟩ := ih _ _ _ _ e1
      obtain ⟨k2, g2⟩ := ih _ _ _ _ e2
      refine ⟨.inr ⟨by omega, by omega⟩, fun i hi => ?_⟩
      rcases List.mem_append.1 hi with hi | hi
      ·exact g1 i hi
      ·rcases List.mem_cons.1 hi with rfl | hi
       ·exact ⟨by omega, k1, k2⟩
       ·exact g2 i hi
theorem rise_of : ∀ (l : List Nd) (b : Bool) (last : Int), (l.foldl stepR (b, last)).1 = true → b = true ∧ (∀ x ∈ l, isKey x.key = true ∧ last < x.key) ∧ l.Pairwise (fun x y => x.key < y.key) := by
 intro l
 induction l with
 | nil => exact fun b last h => ⟨h, by simp, List.Pairwise.nil⟩
 | cons x l ih =>
  intro b last h
  rw [List.foldl_cons] at h
  obtain ⟨h1, h2, h3⟩ := ih _ _ h
  rw [Bool.and_eq_true, Bool.and_eq_true, decide_eq_true_eq] at h1
  refine ⟨h1.1, fun y hy => ?_, List.Pairwise.cons (fun y hy => (h2 y hy).2) h3⟩
  rcases List.mem_cons.1 hy with rfl | hy
  ·exact h1.2
  ·have := h2 y hy
   exact ⟨this.1, Int.lt_trans h1.2.2 this.2⟩
theorem rise_mk : ∀ (l : List Nd) (last : Int), (∀ x ∈ l, isKey x.key = true ∧ last < x.key) → l.Pairwise (fun x y => x.key < y.key) → (l.foldl stepR (true, last)).1 = true := by
 intro l
 induction l with
 | nil => exact fun _ _ _ => rfl
 | cons x l ih =>
  intro last h hp
  rw [List.foldl_cons]
  have hx := h x (by simp)
  have e : stepR (true, last) x = (true, x.key) := by unfold stepR; simp [hx.1, hx.2]
  rw [e]
  exact ih x.key (fun y hy => ⟨(h y (by simp [hy])).1, (List.pairwise_cons.1 hp).1 y hy⟩) (List.pairwise_cons.1 hp).2
theorem sub_len : ∀ (a l : List Nat), a.Nodup → (∀ i ∈ a, i ∈ l) → a.length ≤ l.length := by
 intro a
 induction a with
 | nil => exact fun _ _ _ => Nat.zero_le _
 | cons x a ih =>
  intro l hn hs
  have hx : x ∈ l := hs x (by simp)
  have hn' := List.nodup_cons.1 hn
  have := ih (l.erase x) hn'.2 (fun i hi => (List.mem_erase_of_ne (fun e => hn'.1 (by rw [← e]; exact hi))).2 (hs i (by simp [hi])))
  rw [List.length_erase_of_mem hx] at this
  have := List.length_pos_of_mem hx
  rw [List.length_cons]
  omega
theorem pigeon {a : List Nat} {n : Nat} (hn : a.Nodup) (hlt : ∀ i ∈ a, i < n) (hl : a.length = n) : ∀ j, j < n → j ∈ a := by
 intro j hj
 apply Classical.byContradiction
 intro hja
 have hm : j ∈ List.range n := List.mem_range.2 hj
 have := sub_len a ((List.range n).erase j) hn (fun i hi => (List.mem_erase_of_ne (fun e => hja (by rw [← e]; exact hi))).2 (List.mem_range.2 (hlt i hi)))
 rw [List.length_erase_of_mem hm, List.length_range] at this
 omega
/-- Do the keys rise, in the order of the walk? -/
def rises (ns : List Nd) (root : Int) : Bool := (((seen ns root).map (nd ns)).foldl stepR (true, -1)).1
theorem whole_some {ns : List Nd} {root : Int} (h : whole ns root = true) : inord ns (ns.length + 1) root ns.length = some (seen ns root, 0) := by
 unfold whole at h
 unfold seen
 split at h
 ·rename_i a e
  rw [e]
 ·cases h
theorem seen_len {ns : List Nd} {root : Int} (h : whole ns root = true) : (seen ns root).length = ns.length := by
 have := inord_le ns _ _ _ _ _ (whole_some h)
 omega
theorem seen_nodup {ns : List Nd} {root : Int} (h : rises ns root = true) : (seen ns root).Nodup := by
 have hp := (rise_of _ _ _ h).2.2
 rw [List.pairwise_map] at hp
 exact hp.imp (fun {i j} hij e => by rw [e] at hij; exact absurd hij (Int.lt_irrefl _))
theorem seen_all {ns : List Nd} {root : Int} (h : whole ns root = true) (hr : rises ns root = true) : ∀ j, j < ns.length → j ∈ seen ns root :=
 pigeon (seen_nodup hr) (fun i hi => ((inord_ok ns _ _ _ _ _ (whole_some h)).2 i hi).1) (seen_len h)
theorem links_ok {ns : List Nd} {root : Int} (h : whole ns root = true) (hr : rises ns root = true) : ∀ j, j < ns.length → okLink ns.length (nd ns j).left ∧ okLink ns.length (nd ns j).right :=
 fun j hj => ((inord_ok ns _ _ _ _ _ (whole_some h)).2 j (seen_all h hr j hj)).2
/-- May a tree be? -/
def rightB (ns : List Nd) (root : Int) : Bool := decide (ns.length ≤ 64) && (whole ns root && (rises ns root && !(ns.any (heavyN ns))))
@[go_sem] theorem run_store_func {P : Program} {w : World} {a : Addr} {m : Mode} (f : Fn) (bs cs : Array Value) : (store a (.func f bs cs) m).run P w = stored P w a (.func f bs cs) m := run_store P w a _ m rfl
set_option maxRecDepth 100000 in
set_option maxHeartbeats 2000000 in
theorem right_any (root : Int) (ns : List Nd) (A : Option Addr) (n c : Nat) (hn : n ≤ 1000) (w : World) (hr : Reads w w.heap.size 3 A n (ns.flatMap cells)) :
  Calls Try.prog 62 #[.agg #[.int .i64 root, .slice A n c]] w fun e w' => e = .returned (.bool (rightB ns root)) ∧ Below w.heap.size w w' := by
 have hl : ns.length = n := by have := hr.1; rw [flat_len cells 3 cells_len] at this; omega
 have HL := Lib.hid hl
 have HR := Lib.hid hr
 by_cases h64 : n ≤ 64
 ·have d64 : decide (n ≤ 64) = true := decide_eq_true h64
  clear hl hr
  go_enter Try.func62, Try.ntmps62
  go_wp2_with fail
  have hT0 := ((Blk.new w 70 #[.int .i64 root, .slice A n c]).alloc (.cells #[.int .i64 (-1)] 3)).alloc (.cells #[.bool true] 4)
  have hL0 := (Blk.new (w.alloc (.cells #[.int .i64 root, .slice A n c] 70)) 3 #[.int .i64 (-1)]).alloc (.cells #[.bool true] 4)
  have hR0 := Blk.new ((w.alloc (.cells #[.int .i64 root, .slice A n c] 70)).alloc (.cells #[.int .i64 (-1)] 3)) 4 #[.bool true]
  have hb0 := (((Below.refl w.heap.size w).alloc (Nat.le_refl _) (.cells #[.int .i64 root, .slice A n c] 70)).alloc (by simp) (.cells #[.int .i64 (-1)] 3)).alloc (by simp; omega) (.cells #[.bool true] 4)
  obtain ⟨W, hW⟩ : ∃ W, ((w.alloc (.cells #[.int .i64 root, .slice A n c] 70)).alloc (.cells #[.int .i64 (-1)] 3)).alloc (.cells #[.bool true] 4) = W := ⟨_, rfl⟩
  simp only [World.size_alloc] at hL0 hR0
  rw [hW] at hT0 hL0 hR0 hb0 ⊢
  have hsz : W.heap.size = w.heap.size + 1 + 1 + 1 := by rw [← hW]; simp
  clear hW
  have hne : w.heap.size + 1 + 1 ≠ w.heap.size + 1 := by omega
  refine (walk_any (seerR (w.heap.size + 1 + 1) (w.heap.size + 1) hne) (true, -1) (fun k => k = w.heap.size + 1 + 1 ∨ k = w.heap.size + 1) root ns A n c w.heap.size hn W hb0.size (HR.out.below hb0) (fun k hk => by rcases hk with rfl | rfl <;> omega) ⟨rfl, hR0, hL0⟩ (fun _ _ => trivial)).mono ?_
  rintro e w1 ⟨s', own', rfl, ⟨hown, hR1, hL1⟩, hnew, hkp, hfold⟩
  have hT1 := hT0.kp hkp (fun h => by rcases h with h | h <;> omega)
  have hb1 : Below w.heap.size w w1 := hb0.trans (hkp.below_ hb0.size (fun k hk => by rcases hk with rfl | rfl <;> omega))
  have HT1 := Lib.hid hT1
  have HB1 := Lib.hid hb1
  have cR : w1.cell? ⟨w.heap.size + 1 + 1, 0, none⟩ = some (.bool s'.1) := by rw [hR1.cell]; rfl
  have cT : w1.cell? ⟨w.heap.size, 1, none⟩ = some (.slice A n c) := by rw [hT1.cell]; rfl
  clear hT0 hL0 hR0 hb0 hown hR1 hL1 hnew hkp hT1 hb1 hsz
  cases hw : whole ns root with
  | false =>
   have HE : Hid (rightB ns root = false) := by unfold Hid rightB; rw [hw]; simp
   clear hw hfold
   go_wp2_with fail
   go_ret
   exact ⟨ret_bool HE.out.symm, HB1.out⟩
  | true =>
   have hrs : s'.1 = rises ns root := by rw [hfold hw]; rfl
   rw [hrs] at cR
   cases hri : rises ns root with
   | false =>
    have HE : Hid (rightB ns root = false) := by unfold Hid rightB; rw [hri]; simp
    rw [hri] at cR
    clear hw hfold hrs hri
    go_wp2_with fail
    go_ret
    exact ⟨ret_bool HE.out.symm, HB1.out⟩
   | true =>
    have HE : Hid (rightB ns root = !(ns.any (heavyN ns))) := by unfold Hid rightB; rw [hri, hw, HL.out, d64]; rfl
    have hok := links_ok hw hri
    rw [HL.out] at hok
    have HOK := Lib.hid hok
    rw [hri] at cR
    have cT' : ∀ o, (w1.alloc o).cell? ⟨w.heap.size, 1, none⟩ = some (.slice A n c) := fun o => (World.cell?_alloc_lt w1 o _ (lt_of_cell cT)).trans cT
    clear hw hfold hrs hri hok
    go_wp2_with fail
    have hH := Blk.new w1 104 #[fheavy w.heap.size]
    have hT2 := HT1.out.alloc (.cells #[fheavy w.heap.size] 104)
    have hb2 := HB1.out.alloc HB1.out.size (.cells #[fheavy w.heap.size] 104)
    refine (contains_any w1.heap.size w.heap.size w.heap.size root ns A n c hn HOK.out _ hH hT2 (HR.out.below hb2) hb2.size).mono ?_
    rintro e w2 ⟨rfl, hb3⟩
    have HB3 := Lib.hid (bthen hb2 hb3)
    clear hH hT2 hb2 hb3
    go_wp2_with fail
    go_ret
    exact ⟨ret_bool HE.out.symm, HB3.out⟩
 ·have d64 : decide (n ≤ 64) = false := decide_eq_false h64
  have HE : Hid (rightB ns root = false) := by unfold Hid rightB; rw [hl, d64]; rfl
  have HB0 := Lib.hid ((((Below.refl w.heap.size w).alloc (Nat.le_refl _) (.cells #[.int .i64 root, .slice A n c] 70)).alloc (by simp) (.cells #[.int .i64 (-1)] 3)).alloc (by simp; omega) (.cells #[.bool true] 4))
  clear hl hr
  go_enter Try.func62, Try.ntmps62
  go_wp2_with fail
  go_ret
  exact ⟨ret_bool HE.out.symm, HB0.out⟩
end Treap
end Go.Proofs.Ytnjnjajgpkmfhaa

/-
 The contracts of treap.may, other, Find and Next.
-/
namespace Go.Proofs.Ytnjnjajgpkmfhaa
open Go.RowKit
namespace Treap
def mayB (ns : List Nd) (root key : Int) : Bool := rightB ns root && isKey key
theorem may_any (root key : Int) (ns : List Nd) (A : Option Addr) (n c : Nat) (hn : n ≤ 1000) (w : World) (hr : Reads w w.heap.size 3 A n (ns.flatMap cells)) :
  Calls Try.prog 68 #[.agg #[.int .i64 root, .slice A n c], .int .i64 key] w fun e w' => e = .returned (.bool (mayB ns root key)) ∧ Below w.heap.size w w' := by
 have hq := Blk.new w 70 #[.int .i64 root, .slice A n c]
 have hb0 := (Below.refl w.heap.size w).alloc (Nat.le_refl _) (.cells #[.int .i64 root, .slice A n c] 70)
 have HB0 := Lib.hid hb0
 have H1 := Lib.hid (right_any root ns A n c hn (w.alloc (.cells #[.int .i64 root, .slice A n c] 70)) ((hr.below hb0).more (by simp)))
 clear hq hb0 hr
 go_enter Try.func68, Try.ntmps68
 go_wp2_with fail
 refine H1.out.mono ?_
 rintro e w1 ⟨rfl, hb1⟩
 have HB1 := Lib.hid (bthen HB0.out hb1)
 cases hri : rightB ns root with
 | false =>
  have HE : Hid (mayB ns root key = false) := by unfold Hid mayB; rw [hri]; rfl
  clear hri hb1
  go_wp2_with fail
  go_ret
  exact ⟨ret_bool HE.out.symm, HB1.out⟩
 | true =>
  have HE : Hid (mayB ns root key = isKey key) := by unfold Hid mayB; rw [hri]; rfl
  clear hri hb1
  go_wp2_with fail
  refine (isKey_any key _).mono ?_
  rintro e w2 ⟨rfl, rfl⟩
  go_wp2_with fail
  go_ret
  exact ⟨ret_bool HE.out.symm, HB1.out⟩
theorem other_any (key : Int) (w : World) :
  Calls Try.prog 70 #[.int .i64 key] w fun e w' => e = .returned (.func (.func 84) #[] #[.pointer (some ⟨w.heap.size, 0, none⟩)]) ∧ w.alloc (.cells #[.int .i64 key] 3) = w' := by
 go_enter Try.func70, Try.ntmps70
 go_wp2_with fail
 go_ret
 exact ⟨rfl, rfl⟩
/-- Where a key is, or would be. -/
def goOther (key : Int) : Nd → Bool := fun n => n.key != key
def findF (ns : List Nd) (root key : Int) : Option (Int × Int) :=
 if mayB ns root key = false then some (0, 1) else
 match seekF (goOther key) key ns root (ns.length + 1) .root with
 | none => none
 | some (l, d, _) => if lget ns root l = -1 then some (0, 4) else some (d, 0)
theorem right_few {ns : List Nd} {root key : Int} (h : mayB ns root key = true) : ns.length ≤ 64 := by
 unfold mayB rightB at h
 simp at h
 exact h.1.1
set_option maxRecDepth 100000 in
theorem find_any (root key : Int) (ns : List Nd) (A : Option Addr) (n c : Nat) (hn : n ≤ 1000) (r : Int × Int) (w : World) (hr : Reads w w.heap.size 3 A n (ns.flatMap cells)) (hf : findF ns root key = some r) :
  Calls Try.prog 46 #[.agg #[.int .i64 root, .slice A n c], .int .i64 key] w fun e w' => e = .returned (.tuple #[.int .i64 r.1, .int .i64 r.2]) ∧ Below w.heap.size w w' := by
 have hl : ns.length = n := by have := hr.1; rw [flat_len cells 3 cells_len] at this; omega
 have hT := Blk.new w 70 #[.int .i64 root, .slice A n c]
 have hb0 := (Below.refl w.heap.size w).alloc (Nat.le_refl _) (.cells #[.int .i64 root, .slice A n c] 70)
 have HB0 := Lib.hid hb0
 have HT := Lib.hid hT
 have HR := Lib.hid hr
 have HL := Lib.hid hl
 have H1 := Lib.hid (may_any root key ns A n c hn (w.alloc (.cells #[.int .i64 root, .slice A n c] 70)) ((hr.below hb0).more (by simp)))
 have HF := Lib.hid hf
 clear hT hb0 hr hl hf
 go_enter Try.func46, Try.ntmps46
 go_wp2_with fail
 refine H1.out.mono ?_
 rintro e w1 ⟨rfl, hb1⟩
 have HB1 := Lib.hid (bthen HB0.out hb1)
 have HT1 := Lib.hid (HT.out.below hb1 HT.out.lt)
 cases hm : mayB ns root key with
 | false =>
  have hf := HF.out
  unfold findF at hf
  rw [if_pos hm] at hf
  obtain rfl := Option.some.inj hf
  clear hm hb1 hf
  go_wp2_with fail
  go_ret2
  exact ⟨rfl, HB1.out⟩
 | true =>
  have hf := HF.out
  unfold findF at hf
  rw [if_neg (by rw [hm]; simp)] at hf
  have h64 := right_few hm
  cases hs : seekF (goOther key) key ns root (ns.length + 1) .root with
  | none => rw [hs] at hf; cases hf
  | some q =>
   obtain ⟨l, d, xs⟩ := q
   rw [hs] at hf
   have HF2 := Lib.hid hf
   have HS := Lib.hid hs
   clear hm hb1 hf hs
   go_wp2_with fail
   refine (other_any key _).mono ?_
   rintro e w2 ⟨rfl, hw2⟩
   have hK : Blk w2 w1.heap.size 3 #[.int .i64 key] := by rw [← hw2]; exact Blk.new _ _ _
   have hT2 : Blk w2 w.heap.size 70 #[.int .i64 root, .slice A n c] := by rw [← hw2]; exact HT1.out.alloc _
   have hb2 : Below w.heap.size w w2 := by rw [← hw2]; exact HB1.out.alloc HB1.out.size _
   have hsz : w1.heap.size < w2.heap.size := by rw [← hw2]; simp
   have hsz1 := HT1.out.lt
   have HR2 := Lib.hid (HR.out.below hb2)
   clear hw2
   go_wp2_with fail
   refine (seek_any (onOther w1.heap.size key) () key root ns A n c w.heap.size w.heap.size (ns.length + 1) l d xs (by omega) w2 hT2 HR2.out hb2.size (fun h => by have : w.heap.size = w1.heap.size := h; omega) (fun ad hA h0 h => by
    obtain ⟨ad', hA', hb, _⟩ := HR2.out.2 h0
    rw [hA] at hA'
    obtain rfl := Option.some.inj hA'
    have : ad.block = w1.heap.size := h
    omega) hK HS.out).mono ?_
   rintro e w3 ⟨rfl, hlk, _, hkp⟩
   have hT3 := hT2.kp hkp (fun h => by have : w.heap.size = w1.heap.size := h; omega)
   have hb3 : Below w.heap.size w w3 := hb2.trans (hkp.below_ hb2.size (fun k hk => by have : k = w1.heap.size := hk; omega))
   have cl := link_at hT3 (HR.out.below hb3) hlk
   have HB3 := Lib.hid hb3
   obtain ⟨p, hp⟩ : ∃ p, lkA w.heap.size A l = p := ⟨_, rfl⟩
   rw [hp] at cl ⊢
   clear hK hT2 hb2 hsz hsz1 hkp hT3 hb3 hp hlk
   by_cases h1 : lget ns root l = -1
   ·have hr : r = (0, 4) := by have := HF2.out; simp only [if_pos h1] at this; exact (Option.some.inj this).symm
    subst hr
    rw [h1] at cl
    clear h1
    go_wp2_with fail
    go_ret2
    exact ⟨rfl, HB3.out⟩
   ·have hr : r = ((d : Int), 0) := by have := HF2.out; simp only [if_neg h1] at this; exact (Option.some.inj this).symm
    subst hr
    have d1 : (lget ns root l == -1) = false := beq_eq_false_iff_ne.2 h1
    clear h1
    go_wp2_with fail
    go_ret2
    exact ⟨rfl, HB3.out⟩
/-- The least key from one on. -/
def nextF (ns : List Nd) (root key : Int) : Option (Int × Int) :=
 if mayB ns root key = false then some (0, 1) else
 match seekF (goOther key) key ns root (ns.length + 1) .root with
 | none => none
 | some (_, _, xs) => if xs.foldl (stepN key) (-1) = -1 then some (0, 4) else some (xs.foldl (stepN key) (-1), 0)
end Treap
end Go.Proofs.Ytnjnjajgpkmfhaa

/-
 A tree of the call's own: slices.Clone of nodes, treap.own; links that are written.
-/
namespace Go.Proofs.Ytnjnjajgpkmfhaa
open Go.RowKit
namespace Treap
theorem infoN3 : (Try.prog.info? 87).map (fun i => (i.zero, i.size, i.bytes)) = some (some (.agg #[.int .i64 0, .int .i64 0, .int .i64 0]), 3, 24) := by kernel_rfl
theorem one_nd (ns : List Nd) : ∀ u ∈ ns.flatMap cells, u.oneCell' = true := by
 intro u hu
 obtain ⟨h, _, h2⟩ := List.mem_flatMap.1 hu
 simp [cells] at h2
 rcases h2 with rfl | rfl | rfl <;> rfl
def Cloned (n : Nat) (ns : List Nd) (w : World) (e : Ending) (w' : World) : Prop := ∃ A' c', e = .returned (.slice A' n c') ∧ w'.ownsRow w.heap.size 87 3 (.slice A' n c') n (ns.flatMap cells) ∧ Below w.heap.size w w'
set_option maxRecDepth 100000 in
set_option maxHeartbeats 2000000 in
theorem clone_any (A : Option Addr) (n c : Nat) (ns : List Nd) (hn : n ≤ 1000) (w : World) (hr : Reads w w.heap.size 3 A n (ns.flatMap cells)) :
  Calls Try.prog 87 #[.slice A n c] w (Cloned n ns w) := by
 obtain ⟨i0, hi, hz0, hz1, hz2⟩ := info_parts infoN3
 cases A with
 | none =>
  have h0 : n = 0 := by
   rcases Nat.eq_zero_or_pos n with h | h
   ·exact h
   ·obtain ⟨ad, h, _⟩ := hr.2 h; cases h
  subst h0
  have hnil : ns.flatMap cells = [] := List.eq_nil_of_length_eq_zero (by simpa using hr.1)
  have HNIL := Lib.hid hnil
  have hq := fun w : World => Lib.run_eql_slice_nil (P := Try.prog) w 68 87 none 0 c 0 0 Try.underlying68
  clear hnil hr
  go_enter Try.func87, Try.ntmps87
  go_wp2_with fail
  go_ret
  exact ⟨_, _, rfl, by rw [HNIL.out]; exact World.ownsRow_nil _ _ _ _, Below.refl _ _⟩
 | some ad =>
  have HR := Lib.hid hr
  have hq := fun w : World => Lib.run_eql_slice_nil (P := Try.prog) w 68 87 (some ad) n c 0 0 Try.underlying68
  clear hr
  have hE := Judge.own_empty w w.heap.size 87 3 (Nat.le_refl _)
  have hRe := HR.out.alloc (Nat.le_refl _) (.cells #[] 87)
  have hBe := (Below.refl w.heap.size w).alloc (Nat.le_refl _) (.cells #[] 87)
  go_enter Try.func87, Try.ntmps87
  go_wp2_with (first
   | (at_builtin; refine wpList_append_any _ rfl _ _ 68 rfl w.heap.size 87 i0 (.agg #[.int .i64 0, .int .i64 0, .int .i64 0]) 3 24 Try.underlying68 hi hz0 hz1 hz2 rfl (by decide) _ _ _ rfl hE w.heap.size (some ad) n c (ns.flatMap cells) rfl hRe (one_nd ns) ?c3 ?c4 ?c5 ?_)
   | go_in)
  case c3 => simp [maxLen]; omega
  case c4 => omega
  case c5 => simp
  intro v' w1 hown' hg1 _
  have hB1 := hBe.grown hg1 (by simp) (fun g hg => Nat.le_of_eq (Option.some.inj (show some w.heap.size = some g from hg)))
  obtain ⟨A5, c5, rfl, _, _, _⟩ := own_reads3 hown'
  have HO := Lib.hid hown'
  have HB1 := Lib.hid hB1
  clear hown' hg1 hB1 hE hRe hBe
  go_wp2_with fail
  go_ret
  exact ⟨A5, c5, rfl, by simpa using HO.out, HB1.out⟩
theorem own_base {w : World} {B B' size n : Nat} {e : TypeId} {v : Value} {xs : List Value} (h : w.ownsRow B e size v n xs) (hB : B' ≤ B) : w.ownsRow B' e size v n xs := by
 obtain ⟨h1, h2⟩ := h
 refine ⟨h1, ?_⟩
 rcases h2 with h2 | ⟨g, cap, cur, rfl, hb, r⟩
 ·exact .inl h2
 ·exact .inr ⟨g, cap, cur, rfl, Nat.le_trans hB hb, r⟩
/-- What treap.own makes. -/
def Owned (root : Int) (n : Nat) (ns : List Nd) (w : World) (e : Ending) (w' : World) : Prop := ∃ (U : Nat) (A' : Option Addr) (c' : Nat), e = .returned (.pointer (some ⟨U, 0, none⟩)) ∧ w.heap.size ≤ U ∧ Blk w' U 70 #[.int .i64 root, .slice A' n c'] ∧ w'.ownsRow w.heap.size 87 3 (.slice A' n c') n (ns.flatMap cells) ∧ Below w.heap.size w w'
set_option maxRecDepth 100000 in
theorem own_any (root : Int) (ns : List Nd) (A : Option Addr) (n c : Nat) (hn : n ≤ 1000) (w : World) (hr : Reads w w.heap.size 3 A n (ns.flatMap cells)) :
  Calls Try.prog 82 #[.agg #[.int .i64 root, .slice A n c]] w (Owned root n ns w) := by
 have hT := Blk.new w 70 #[.int .i64 root, .slice A n c]
 have hb0 := (Below.refl w.heap.size w).alloc (Nat.le_refl _) (.cells #[.int .i64 root, .slice A n c] 70)
 have HB0 := Lib.hid hb0
 have HR := Lib.hid hr
 have c0 : (w.alloc (.cells #[.int .i64 root, .slice A n c] 70)).cell? ⟨w.heap.size, 0, none⟩ = some (.int .i64 root) := by rw [hT.cell]; rfl
 have c1 : (w.alloc (.cells #[.int .i64 root, .slice A n c] 70)).cell? ⟨w.heap.size, 1, none⟩ = some (.slice A n c) := by rw [hT.cell]; rfl
 have hs1 : w.heap.size < (w.alloc (.cells #[.int .i64 root, .slice A n c] 70)).heap.size := by simp
 clear hT hb0 hr
 go_enter Try.func82, Try.ntmps82
 go_wp2_with fail
 obtain ⟨w1, hw1⟩ : ∃ W, w.alloc (.cells #[.int .i64 root, .slice A n c] 70) = W := ⟨_, rfl⟩
 rw [hw1] at HB0 c0 c1 hs1 ⊢
 clear hw1
 have hD0 := (Below.refl w1.heap.size w1).drew
 go_region_held3 (fun w' => Below w1.heap.size w1 w' ∧ w'.cell? ⟨w.heap.size, 0, none⟩ = some (.int .i64 root) ∧ w'.cell? ⟨w.heap.size, 1, none⟩ = some (.slice A n c)) (first | exact ⟨hD0, c0, c1⟩ | exact ⟨by assumption, by assumption, by assumption⟩ | exact ⟨hB'.alloc hB'.size _, (World.cell?_alloc_lt _ _ _ (lt_of_cell k0)).trans k0, (World.cell?_alloc_lt _ _ _ (lt_of_cell k1)).trans k1⟩)
  (first
   | (go_at_call 87; refine (clone_any A n c ns hn _ ((HR.out.below (bthen HB0.out ‹Below w1.heap.size w1 _›)).more (bthen HB0.out ‹Below w1.heap.size w1 _›).size)).mono ?_; rintro e w' ⟨A', c', rfl, hown, hb⟩; have hB' := bthen ‹Below w1.heap.size w1 _› hb; have k0 := (hB'.cell (p := ⟨w.heap.size, 0, none⟩) hs1).trans c0; have k1 := (hB'.cell (p := ⟨w.heap.size, 1, none⟩) hs1).trans c1; clear hb))
 have hU := Blk.new w' 70 #[.int .i64 root, .slice A' n c']
 have hO : (w'.alloc (.cells #[.int .i64 root, .slice A' n c'] 70)).ownsRow w1.heap.size 87 3 (.slice A' n c') n (ns.flatMap cells) := World.ownsRow.alloc hown _
 have hB2 := (bthen HB0.out hB').alloc (bthen HB0.out hB').size (.cells #[.int .i64 root, .slice A' n c'] 70)
 have HFIN : Hid (Owned root n ns w (.returned (.pointer (some ⟨w'.heap.size, 0, none⟩))) (w'.alloc (.cells #[.int .i64 root, .slice A' n c'] 70))) := by
  refine ⟨w'.heap.size, A', c', rfl, (bthen HB0.out hB').size, hU, ?_, hB2⟩
  exact own_base hO (by omega)
 clear hU hO hB2 hown hB' k0 k1 hD0 c0 c1
 go_wp2_with fail
 go_ret
 exact HFIN.out
end Treap
end Go.Proofs.Ytnjnjajgpkmfhaa

/-
 A tree of the call's own whose links are written.
-/
namespace Go.Proofs.Ytnjnjajgpkmfhaa
open Go.RowKit
namespace Treap
/-- A link is set. -/
def lset (s : List Nd × Int) : Lk → Int → List Nd × Int
 | .root, x => (s.1, x)
 | .left i, x => (s.1.set i { nd s.1 i with left := x }, s.2)
 | .right i, x => (s.1.set i { nd s.1 i with right := x }, s.2)
theorem lset_len (s : List Nd × Int) (l : Lk) (x : Int) : (lset s l x).1.length = s.1.length := by cases l <;> simp [lset]
theorem nd_set (ns : List Nd) (i j : Nat) (x : Nd) (hi : i < ns.length) : nd (ns.set i x) j = if j = i then x else nd ns j := by
 unfold nd
 rw [List.getD_eq_getElem?_getD, List.getD_eq_getElem?_getD, List.getElem?_set]
 by_cases h : j = i
 ·subst h
  simp [hi]
 ·rw [if_neg (fun e => h e.symm), if_neg h]
theorem lset_key (s : List Nd × Int) (l : Lk) (x : Int) (hl : lok s.1.length l) (j : Nat) : (nd (lset s l x).1 j).key = (nd s.1 j).key := by
 cases l with
 | root => rfl
 | left i =>
  rw [lset, nd_set _ _ _ _ hl]
  split
  ·rename_i h; rw [h]
  ·rfl
 | right i =>
  rw [lset, nd_set _ _ _ _ hl]
  split
  ·rename_i h; rw [h]
  ·rfl
/-- A row of nodes of the call's own. -/
def RowIs (w : World) (g n cap : Nat) (L : List Nd) : Prop := L.length = n ∧ ∃ cur, w.heap[g]? = some (.cells cur 87 (0, 0)) ∧ cur.size = cap * 3 ∧ n ≤ cap ∧ cap ≤ maxLen ∧ cur.toList.take (n * 3) = L.flatMap cells
section
variable {w w' : World} {g n cap : Nat} {L : List Nd}
theorem RowIs.lt (h : RowIs w g n cap L) : g < w.heap.size := by
 obtain ⟨_, cur, hh, _⟩ := h
 exact Blk.lt hh
theorem RowIs.block (h : RowIs w g n cap L) (hk : w'.heap[g]? = w.heap[g]?) : RowIs w' g n cap L := by
 obtain ⟨hl, cur, hh, h2⟩ := h
 exact ⟨hl, cur, hk.trans hh, h2⟩
theorem RowIs.of_own {B c : Nat} {ad : Addr} (hl : L.length = n) (h : w.ownsRow B 87 3 (.slice (some ad) n c) n (L.flatMap cells)) : RowIs w ad.block n c L ∧ B ≤ ad.block ∧ ad = ⟨ad.block, 0, none⟩ := by
 rcases h.2 with ⟨h0, _⟩ | ⟨g', cap, cur, hv, hB, hh, h1, h2, h3, h4⟩
 ·cases h0
 ·injection hv with a b c
  injection a with a
  subst a c
  exact ⟨⟨hl, cur, hh, h3, h1, h2, h4⟩, hB, rfl⟩
theorem RowIs.own {B c : Nat} {ad : Addr} (h : RowIs w ad.block n c L) (hB : B ≤ ad.block) (ha : ad = ⟨ad.block, 0, none⟩) : w.ownsRow B 87 3 (.slice (some ad) n c) n (L.flatMap cells) := by
 obtain ⟨hl, cur, hh, h3, h1, h2, h4⟩ := h
 exact ⟨by rw [flat_len cells 3 cells_len, hl], .inr ⟨ad.block, c, cur, by rw [← ha], hB, hh, h1, h2, h3, h4⟩⟩
theorem RowIs.set_ (h : RowIs w g n cap L) {i j : Nat} (hi : i < n) (hj : j < 3) (u : Value) (x : Nd) (hx : cells x = (cells (nd L i)).set j u) : RowIs (w.setCell ⟨g, i * 3 + j, none⟩ u) g n cap (L.set i x) := by
 obtain ⟨hl, cur, hh, hs, hn, hm, hc⟩ := h
 refine ⟨by simp [hl], _, Blk.set_ hh _ _, by simp [hs], hn, hm, ?_⟩
 simp only [Array.toList_setIfInBounds, List.take_set]
 rw [hc]
 have key : ∀ (l : List Nd) (i : Nat) (x : Nd), i < l.length → cells x = (cells (nd l i)).set j u → (l.flatMap cells).set (i * 3 + j) u = (l.set i x).flatMap cells := by
  intro l
  induction l with
  | nil => intro i x h; simp at h
  | cons y l ih =>
   intro i x h hx
   cases i with
   | zero =>
    rw [List.set_cons_zero, List.flatMap_cons, List.flatMap_cons, hx, Nat.zero_mul, Nat.zero_add, List.set_append, if_pos (by rw [cells_len]; exact hj)]
    rfl
   | succ i =>
    rw [List.set_cons_succ, List.flatMap_cons, List.flatMap_cons, List.set_append, if_neg (by rw [cells_len]; omega), cells_len, show (i + 1) * 3 + j - 3 = i * 3 + j by omega, ih i x (by simpa using h) hx]
 exact key L i x (by omega) hx
end
/-- A tree in a box, both of the call's own. -/
structure TR (w : World) (B U : Nat) (ad : Addr) (n c : Nat) (root : Int) (L : List Nd) : Prop where
 box : Blk w U 70 #[.int .i64 root, .slice (some ad) n c]
 row : RowIs w ad.block n c L
 zero : ad = ⟨ad.block, 0, none⟩
 ne : ad.block ≠ U
 loU : B ≤ U
 loA : B ≤ ad.block
section
variable {w w' : World} {B U : Nat} {ad : Addr} {n c : Nat} {root : Int} {L : List Nd}
theorem TR.len (h : TR w B U ad n c root L) : L.length = n := h.row.1
theorem TR.own (h : TR w B U ad n c root L) : w.ownsRow B 87 3 (.slice (some ad) n c) n (L.flatMap cells) := h.row.own h.loA h.zero
theorem TR.reads (h : TR w B U ad n c root L) : Reads w w.heap.size 3 (some ad) n (L.flatMap cells) := Reads.of_own h.own
theorem TR.keep (h : TR w B U ad n c root L) (h1 : w'.heap[U]? = w.heap[U]?) (h2 : w'.heap[ad.block]? = w.heap[ad.block]?) : TR w' B U ad n c root L := ⟨h1.trans h.box, h.row.block h2, h.zero, h.ne, h.loU, h.loA⟩
theorem TR.alloc (h : TR w B U ad n c root L) (o : Obj) : TR (w.alloc o) B U ad n c root L := h.keep (Below.heap_alloc _ _ _ h.box.lt) (Below.heap_alloc _ _ _ h.row.lt)
theorem TR.kp {own : Nat → Prop} (h : TR w B U ad n c root L) (hk : Kp own w w') (h1 : ¬ own U) (h2 : ¬ own ad.block) : TR w' B U ad n c root L := h.keep (hk.same _ h.box.lt h1) (hk.same _ h.row.lt h2)
theorem TR.drewN (h : TR w B U ad n c root L) (q : Nat) : TR (w.drewN q) B U ad n c root L := h.keep rfl rfl
theorem TR.link (h : TR w B U ad n c root L) {l : Lk} (hl : lok n l) : w.cell? (lkA U (some ad) l) = some (.int .i64 (lget L root l)) := link_at h.box h.reads hl
theorem TR.frozen (h : TR w B U ad n c root L) (l : Lk) : w.frozen? (lkA U (some ad) l) = false := by
 have key : ∀ k, w.frozen? ⟨ad.block, k, none⟩ = false := by
  obtain ⟨_, cur, hh, _⟩ := h.row
  exact fun k => Blk.frozen hh k
 cases l with
 | root => exact h.box.frozen 0
 | left i => show w.frozen? ⟨(ad.add (i * 3)).block, _, none⟩ = false; rw [block_of_add]; exact key _
 | right i => show w.frozen? ⟨(ad.add (i * 3)).block, _, none⟩ = false; rw [block_of_add]; exact key _
theorem lkA_at (h : ad = ⟨ad.block, 0, none⟩) (i : Nat) : lkA U (some ad) (.left i) = ⟨ad.block, i * 3 + 1, none⟩ ∧ lkA U (some ad) (.right i) = ⟨ad.block, i * 3 + 2, none⟩ := by
 have e : (ad.add (i * 3)) = ⟨ad.block, i * 3, none⟩ := by
  rw [h]
  unfold Addr.add
  by_cases hj : i * 3 = 0 <;> simp [hj]
 constructor
 ·show (⟨(ad.add (i * 3)).block, (ad.add (i * 3)).off + 1, none⟩ : Addr) = _
  rw [e]
 ·show (⟨(ad.add (i * 3)).block, (ad.add (i * 3)).off + 2, none⟩ : Addr) = _
  rw [e]
theorem TR.set (h : TR w B U ad n c root L) {l : Lk} (hl : lok n l) (x : Int) : TR (w.setCell (lkA U (some ad) l) (.int .i64 x)) B U ad n c (lset (L, root) l x).2 (lset (L, root) l x).1 := by
 cases l with
 | root => exact ⟨h.box.set_ 0 _, h.row.block (Below.heap_setCell w ⟨U, 0, none⟩ _ ad.block h.ne), h.zero, h.ne, h.loU, h.loA⟩
 | left i =>
  rw [(lkA_at h.zero i).1]
  exact ⟨h.box.far (p := ⟨ad.block, i * 3 + 1, none⟩) (fun e => h.ne e.symm) _, h.row.set_ hl (by omega) _ _ rfl, h.zero, h.ne, h.loU, h.loA⟩
 | right i =>
  rw [(lkA_at h.zero i).2]
  exact ⟨h.box.far (p := ⟨ad.block, i * 3 + 2, none⟩) (fun e => h.ne e.symm) _, h.row.set_ hl (by omega) _ _ rfl, h.zero, h.ne, h.loU, h.loA⟩
theorem lkA_block (l : Lk) : (lkA U (some ad) l).block = U ∨ (lkA U (some ad) l).block = ad.block := by
 cases l with
 | root => exact .inl rfl
 | left i => exact .inr (block_of_add _ _)
 | right i => exact .inr (block_of_add _ _)
theorem TR.lo (h : TR w B U ad n c root L) (l : Lk) : B ≤ (lkA U (some ad) l).block := by
 rcases lkA_block (U := U) (ad := ad) l with e | e
 ·rw [e]; exact h.loU
 ·rw [e]; exact h.loA
end
/-- A subtree is parted at a key: what is less to one link, what is not to another. -/
def splitF (key : Int) : Nat → List Nd × Int → Int → Lk → Lk → Option (List Nd × Int)
 | 0, _, _, _, _ => none
 | f + 1, s, rest, l, r => if rest = -1 then some (lset (lset s l (-1)) r (-1)) else
  if rest < 0 ∨ (s.1.length : Int) ≤ rest then none else
  if (nd s.1 rest.toNat).key < key then splitF key f (lset s l rest) (nd (lset s l rest).1 rest.toNat).right (.right rest.toNat) r
  else splitF key f (lset s r rest) (nd (lset s r rest).1 rest.toNat).left l (.left rest.toNat)
def goHeavy (key : Int) : Nd → Bool := fun n => decide (priOf key < priOf n.key)
/-- A key more. -/
def putF (ns : List Nd) (root key : Int) : Option ((List Nd × Int) × Int) :=
 if mayB ns root key = false then some (([], 0), 1) else
 match seekF (goOther key) key ns root (ns.length + 1) .root with
 | none => none
 | some (l, _, _) => if lget ns root l ≠ -1 then some (([], 0), 7) else if ns.length = 64 then some (([], 0), 5) else
  match seekF (goHeavy key) key (ns ++ [⟨key, -1, -1⟩]) root (ns.length + 2) .root with
  | none => none
  | some (m, _, _) =>
   match splitF key (ns.length + 2) (lset (ns ++ [⟨key, -1, -1⟩], root) m ns.length) (lget (ns ++ [⟨key, -1, -1⟩]) root m) (.left ns.length) (.right ns.length) with
   | none => none
   | some s => some (s, 0)
end Treap
end Go.Proofs.Ytnjnjajgpkmfhaa

/-
 A key less: two subtrees become one; a place is taken out. Plain words.
-/
namespace Go.Proofs.Ytnjnjajgpkmfhaa
open Go.RowKit
namespace Treap
def mergeF : Nat → List Nd × Int → Lk → Int → Int → Option (List Nd × Int)
 | 0, _, _, _, _ => none
 | f + 1, s, l, a, b => if a = -1 ∨ b = -1 then some (lset s l (max a b)) else
  if (a < 0 ∨ (s.1.length : Int) ≤ a) ∨ (b < 0 ∨ (s.1.length : Int) ≤ b) then none else
  if priOf (nd s.1 b.toNat).key < priOf (nd s.1 a.toNat).key then mergeF f (lset s l a) (.right a.toNat) (nd (lset s l a).1 a.toNat).right b
  else mergeF f (lset s l b) (.left b.toNat) a (nd (lset s l b).1 b.toNat).left
def shiftI (at_ i : Int) : Int := if at_ < i then i - 1 else i
def withoutL (s : List Nd × Int) (at_ : Nat) : List Nd × Int := ((s.1.eraseIdx at_).map fun n => ⟨n.key, shiftI at_ n.left, shiftI at_ n.right⟩, shiftI at_ s.2)
/-- A key less. -/
def delF (ns : List Nd) (root key : Int) : Option ((List Nd × Int) × Int) :=
 if mayB ns root key = false then some (([], 0), 1) else
 match seekF (goOther key) key ns root (ns.length + 1) .root with
 | none => none
 | some (l, _, _) => if lget ns root l = -1 then some (([], 0), 4) else
  if lget ns root l < 0 ∨ (ns.length : Int) ≤ lget ns root l then none else
  match mergeF (2 * ns.length + 2) (ns, root) l (nd ns (lget ns root l).toNat).left (nd ns (lget ns root l).toNat).right with
  | none => none
  | some s => some (withoutL s (lget ns root l).toNat, 0)
end Treap
end Go.Proofs.Ytnjnjajgpkmfhaa

/-
 Trees by places: what a row of nodes stands for, and what the writing of links makes of it. No program.
-/
namespace Go.Proofs.Ytnjnjajgpkmfhaa
open Go.RowKit
namespace Treap
inductive T where
 | leaf : T
 | node : Nat → T → T → T
def T.ins : T → List Nat
 | .leaf => []
 | .node i l r => l.ins ++ i :: r.ins
def G (s : List Nd × Int) (m : Lk) : Int := lget s.1 s.2 m
def K (s : List Nd × Int) (j : Nat) : Int := (nd s.1 j).key
def isOf (m : Lk) (j : Nat) : Prop := m = .left j ∨ m = .right j
/-- From a link's value on: the tree that is there. -/
def Rep (s : List Nd × Int) : Int → T → Prop
 | a, .leaf => a = -1
 | a, .node i l r => a = i ∧ i < s.1.length ∧ Rep s (G s (.left i)) l ∧ Rep s (G s (.right i)) r
theorem G_same (s : List Nd × Int) (l : Lk) (x : Int) (hl : lok s.1.length l) : G (lset s l x) l = x := by
 cases l with
 | root => rfl
 | left i => show (nd (s.1.set i _) i).left = x; rw [nd_set _ _ _ _ hl, if_pos rfl]
 | right i => show (nd (s.1.set i _) i).right = x; rw [nd_set _ _ _ _ hl, if_pos rfl]
theorem G_other (s : List Nd × Int) (l m : Lk) (x : Int) (hl : lok s.1.length l) (h : m ≠ l) : G (lset s l x) m = G s m := by
 cases l with
 | root =>
  cases m with
  | root => exact absurd rfl h
  | left j => rfl
  | right j => rfl
 | left i =>
  cases m with
  | root => rfl
  | left j =>
   show (nd (s.1.set i _) j).left = (nd s.1 j).left
   rw [nd_set _ _ _ _ hl, if_neg (fun e => h (by rw [e]))]
  | right j =>
   show (nd (s.1.set i _) j).right = (nd s.1 j).right
   rw [nd_set _ _ _ _ hl]
   split
   ·rename_i e; rw [e]
   ·rfl
 | right i =>
  cases m with
  | root => rfl
  | right j =>
   show (nd (s.1.set i _) j).right = (nd s.1 j).right
   rw [nd_set _ _ _ _ hl, if_neg (fun e => h (by rw [e]))]
  | left j =>
   show (nd (s.1.set i _) j).left = (nd s.1 j).left
   rw [nd_set _ _ _ _ hl]
   split
   ·rename_i e; rw [e]
   ·rfl
theorem K_set (s : List Nd × Int) (l : Lk) (x : Int) (hl : lok s.1.length l) : K (lset s l x) = K s := funext fun j => lset_key s l x hl j
theorem Rep.frame {s s' : List Nd × Int} (hlen : s'.1.length = s.1.length) : ∀ (t : T) (a : Int), Rep s a t → (∀ j ∈ t.ins, G s' (.left j) = G s (.left j) ∧ G s' (.right j) = G s (.right j)) → Rep s' a t := by
 intro t
 induction t with
 | leaf => exact fun a h _ => h
 | node i l r ihl ihr =>
  rintro a ⟨rfl, hi, h1, h2⟩ hf
  obtain ⟨f1, f2⟩ := hf i (by simp [T.ins])
  refine ⟨rfl, by rw [hlen]; exact hi, ?_, ?_⟩
  ·rw [f1]
   exact ihl _ h1 (fun j hj => hf j (by simp [T.ins, hj]))
  ·rw [f2]
   exact ihr _ h2 (fun j hj => hf j (by simp [T.ins, hj]))
theorem Rep.lt {s : List Nd × Int} : ∀ (t : T) (a : Int), Rep s a t → ∀ j ∈ t.ins, j < s.1.length := by
 intro t
 induction t with
 | leaf => intro a _ j hj; simp [T.ins] at hj
 | node i l r ihl ihr =>
  rintro a ⟨rfl, hi, h1, h2⟩ j hj
  simp only [T.ins, List.mem_append, List.mem_cons] at hj
  rcases hj with hj | rfl | hj
  ·exact ihl _ h1 j hj
  ·exact hi
  ·exact ihr _ h2 j hj
theorem nodup_node {i : Nat} {l r : T} (h : (T.node i l r).ins.Nodup) : l.ins.Nodup ∧ r.ins.Nodup ∧ i ∉ l.ins ∧ i ∉ r.ins ∧ (∀ j ∈ l.ins, j ∉ r.ins) := by
 unfold T.ins at h
 rw [List.nodup_append] at h
 obtain ⟨h1, h2, h3⟩ := h
 rw [List.nodup_cons] at h2
 refine ⟨h1, h2.2, fun hi => h3 i hi i (by simp) rfl, h2.1, fun j hj hj' => h3 j hj j (by simp [hj']) rfl⟩
theorem len_node (i : Nat) (l r : T) : (T.node i l r).ins.length = l.ins.length + (r.ins.length + 1) := by simp [T.ins]
/-- A tree is parted at a key. -/
def splitT (k : Nat → Int) (key : Int) : T → T × T
 | .leaf => (.leaf, .leaf)
 | .node i l r => if k i < key then (.node i l (splitT k key r).1, (splitT k key r).2) else ((splitT k key l).1, .node i (splitT k key l).2 r)
theorem split_spec (key : Int) : ∀ (t : T) (f : Nat) (s : List Nd × Int) (rest : Int) (l r : Lk), Rep s rest t → t.ins.Nodup → t.ins.length < f → lok s.1.length l → lok s.1.length r → l ≠ r → (∀ j ∈ t.ins, ¬ isOf l j ∧ ¬ isOf r j) →
  ∃ s', splitF key f s rest l r = some s' ∧ Rep s' (G s' l) (splitT (K s) key t).1 ∧ Rep s' (G s' r) (splitT (K s) key t).2 ∧ s'.1.length = s.1.length ∧ K s' = K s ∧ ∀ m, m ≠ l → m ≠ r → (∀ j ∈ t.ins, ¬ isOf m j) → G s' m = G s m := by
 intro t
 induction t with
 | leaf =>
  intro f s rest l r hr _ hf hl hr2 hne _
  obtain ⟨f, rfl⟩ : ∃ q, f = q + 1 := ⟨f - 1, by omega⟩
  have hr : rest = -1 := hr
  have hr3 : lok (lset s l (-1)).1.length r := by rw [lset_len]; exact hr2
  refine ⟨lset (lset s l (-1)) r (-1), by unfold splitF; rw [if_pos hr], ?_, ?_, by rw [lset_len, lset_len], by rw [K_set _ _ _ hr3, K_set _ _ _ hl], fun m h1 h2 _ => by rw [G_other _ _ _ _ hr3 h2, G_other _ _ _ _ hl h1]⟩
  ·show G _ l = -1
   rw [G_other _ _ _ _ hr3 hne, G_same _ _ _ hl]
  ·show G _ r = -1
   rw [G_same _ _ _ hr3]
 | node i tl tr ihl ihr =>
  rintro f s rest l r ⟨rfl, hi, hL, hR⟩ hnd hf hl hr2 hne hoff
  obtain ⟨f, rfl⟩ : ∃ q, f = q + 1 := ⟨f - 1, by omega⟩
  rw [len_node] at hf
  obtain ⟨n1, n2, n3, n4, n5⟩ := nodup_node hnd
  obtain ⟨oi1, oi2⟩ := hoff i (by simp [T.ins])
  unfold splitF
  rw [if_neg (by omega), if_neg (by omega), Int.toNat_natCast]
  by_cases hk : (nd s.1 i).key < key
  ·rw [if_pos hk]
   have e1 : G (lset s l i) (.right i) = G s (.right i) := G_other _ _ _ _ hl (fun e => oi1 (.inr e.symm))
   have hlen : (lset s l i).1.length = s.1.length := lset_len _ _ _
   have hR' : Rep (lset s l i) (G (lset s l i) (.right i)) tr := by
    rw [e1]
    refine Rep.frame hlen tr _ hR (fun j hj => ?_)
    obtain ⟨o1, o2⟩ := hoff j (by simp [T.ins, hj])
    exact ⟨G_other _ _ _ _ hl (fun e => o1 (.inl e.symm)), G_other _ _ _ _ hl (fun e => o1 (.inr e.symm))⟩
   obtain ⟨s', hs, r1, r2, r3, r4, r5⟩ := ihr f (lset s l i) _ (.right i) r hR' n2 (by omega) (by rw [hlen]; exact hi) (by rw [hlen]; exact hr2) (fun e => oi2 (.inr e.symm)) (fun j hj => ⟨fun e => by
    rcases e with e | e
    ·cases e
    ·injection e with e; exact n4 (by rw [e]; exact hj), (hoff j (by simp [T.ins, hj])).2⟩)
   refine ⟨s', hs, ?_, ?_, by rw [r3, hlen], by rw [r4, K_set _ _ _ hl], ?_⟩
   ·rw [K_set _ _ _ hl] at r1
    unfold splitT
    rw [if_pos (show K s i < key from hk)]
    have el : G s' l = i := by
     rw [r5 l (fun e => oi1 (.inr e)) hne (fun j hj => (hoff j (by simp [T.ins, hj])).1), G_same _ _ _ hl]
    refine ⟨el, by rw [r3, hlen]; exact hi, ?_, r1⟩
    have eL : ∀ j, j ∉ tr.ins → (j = i ∨ j ∈ tl.ins) → G s' (.left j) = G s (.left j) ∧ (j ≠ i → G s' (.right j) = G s (.right j)) := fun j hj hj2 => by
     have ho := hoff j (by simp only [T.ins, List.mem_append, List.mem_cons]; rcases hj2 with h | h; exact .inr (.inl h); exact .inl h)
     have off2 : ∀ m, isOf m j → ∀ j' ∈ tr.ins, ¬ isOf m j' := fun m hm j' hj' hm' => by
      have : j = j' := by
       rcases hm with rfl | rfl <;> rcases hm' with e | e <;> injection e
      rw [this] at hj; exact hj hj'
     refine ⟨?_, fun hji => ?_⟩
     ·rw [r5 (.left j) (fun e => by cases e) (fun e => ho.2 (.inl e.symm)) (off2 _ (.inl rfl)), G_other _ _ _ _ hl (fun e => ho.1 (.inl e.symm))]
     ·rw [r5 (.right j) (fun e => by injection e with e; exact hji e) (fun e => ho.2 (.inr e.symm)) (off2 _ (.inr rfl)), G_other _ _ _ _ hl (fun e => ho.1 (.inr e.symm))]
    rw [(eL i n4 (.inl rfl)).1]
    refine Rep.frame (by rw [r3, hlen]) tl _ hL (fun j hj => ?_)
    have := eL j (n5 j hj) (.inr hj)
    exact ⟨this.1, this.2 (fun e => n3 (by rw [← e]; exact hj))⟩
   ·rw [K_set _ _ _ hl] at r2
    unfold splitT
    rw [if_pos (show K s i < key from hk)]
    exact r2
   ·intro m h1 h2 hm
    have hmi := hm i (by simp [T.ins])
    rw [r5 m (fun e => hmi (.inr e)) h2 (fun j hj => hm j (by simp [T.ins, hj])), G_other _ _ _ _ hl h1]
  ·rw [if_neg hk]
   have e1 : G (lset s r i) (.left i) = G s (.left i) := G_other _ _ _ _ hr2 (fun e => oi2 (.inl e.symm))
   have hlen : (lset s r i).1.length = s.1.length := lset_len _ _ _
   have hL' : Rep (lset s r i) (G (lset s r i) (.left i)) tl := by
    rw [e1]
    refine Rep.frame hlen tl _ hL (fun j hj => ?_)
    obtain ⟨o1, o2⟩ := hoff j (by simp [T.ins, hj])
    exact ⟨G_other _ _ _ _ hr2 (fun e => o2 (.inl e.symm)), G_other _ _ _ _ hr2 (fun e => o2 (.inr e.symm))⟩
   obtain ⟨s', hs, r1, r2, r3, r4, r5⟩ := ihl f (lset s r i) _ l (.left i) hL' n1 (by omega) (by rw [hlen]; exact hl) (by rw [hlen]; exact hi) (fun e => oi1 (.inl e)) (fun j hj => ⟨(hoff j (by simp [T.ins, hj])).1, fun e => by
    rcases e with e | e
    ·injection e with e; exact n3 (by rw [e]; exact hj)
    ·cases e⟩)
   refine ⟨s', hs, ?_, ?_, by rw [r3, hlen], by rw [r4, K_set _ _ _ hr2], ?_⟩
   ·rw [K_set _ _ _ hr2] at r1
    unfold splitT
    rw [if_neg (show ¬ K s i < key from hk)]
    exact r1
   ·rw [K_set _ _ _ hr2] at r2
    unfold splitT
    rw [if_neg (show ¬ K s i < key from hk)]
    have el : G s' r = i := by
     rw [r5 r (fun e => hne e.symm) (fun e => oi2 (.inl e)) (fun j hj => (hoff j (by simp [T.ins, hj])).2), G_same _ _ _ hr2]
    refine ⟨el, by rw [r3, hlen]; exact hi, r2, ?_⟩
    have eR : ∀ j, j ∉ tl.ins → (j = i ∨ j ∈ tr.ins) → G s' (.right j) = G s (.right j) ∧ (j ≠ i → G s' (.left j) = G s (.left j)) := fun j hj hj2 => by
     have ho := hoff j (by simp only [T.ins, List.mem_append, List.mem_cons]; rcases hj2 with h | h; exact .inr (.inl h); exact .inr (.inr h))
     have off2 : ∀ m, isOf m j → ∀ j' ∈ tl.ins, ¬ isOf m j' := fun m hm j' hj' hm' => by
      have : j = j' := by
       rcases hm with rfl | rfl <;> rcases hm' with e | e <;> injection e
      rw [this] at hj; exact hj hj'
     refine ⟨?_, fun hji => ?_⟩
     ·rw [r5 (.right j) (fun e => ho.1 (.inr e.symm)) (fun e => by cases e) (off2 _ (.inr rfl)), G_other _ _ _ _ hr2 (fun e => ho.2 (.inr e.symm))]
     ·rw [r5 (.left j) (fun e => ho.1 (.inl e.symm)) (fun e => by injection e with e; exact hji e) (off2 _ (.inl rfl)), G_other _ _ _ _ hr2 (fun e => ho.2 (.inl e.symm))]
    rw [(eR i n3 (.inl rfl)).1]
    refine Rep.frame (by rw [r3, hlen]) tr _ hR (fun j hj => ?_)
    have := eR j (fun h => n5 j h hj) (.inr hj)
    exact ⟨this.2 (fun e => n4 (by rw [← e]; exact hj)), this.1⟩
   ·intro m h1 h2 hm
    have hmi := hm i (by simp [T.ins])
    rw [r5 m h1 (fun e => hmi (.inl e)) (fun j hj => hm j (by simp [T.ins, hj])), G_other _ _ _ _ hr2 h2]
end Treap
end Go.Proofs.Ytnjnjajgpkmfhaa

/-
 Two trees become one; down a tree from link to link. No program.
-/
namespace Go.Proofs.Ytnjnjajgpkmfhaa
open Go.RowKit
namespace Treap
theorem isOf_inj {m : Lk} {i j : Nat} (h1 : isOf m i) (h2 : isOf m j) : i = j := by
 rcases h1 with rfl | rfl <;> rcases h2 with e | e <;> injection e
def Pr (s : List Nd × Int) (j : Nat) : Int := priOf (K s j)
def mergeT (p : Nat → Int) : Nat → T → T → T
 | 0, _, _ => .leaf
 | _ + 1, .leaf, b => b
 | _ + 1, .node i l r, .leaf => .node i l r
 | f + 1, .node i l r, .node j l' r' => if p j < p i then .node i l (mergeT p f r (.node j l' r')) else .node j (mergeT p f (.node i l r) l') r'
section
variable (go : Nat → Bool) (k : Nat → Int) (key : Int)
def subT : T → T
 | .leaf => .leaf
 | .node i l r => if go i = false then .node i l r else if k i < key then subT r else subT l
def replT (u : T) : T → T
 | .leaf => u
 | .node i l r => if go i = false then u else if k i < key then .node i l (replT u r) else .node i (replT u l) r
def depT : T → Nat
 | .leaf => 0
 | .node i l r => if go i = false then 0 else (if k i < key then depT r else depT l) + 1
def visT : T → List Nat
 | .leaf => []
 | .node i l r => i :: if go i = false then [] else if k i < key then visT r else visT l
theorem sub_mem : ∀ (t : T), ∀ j ∈ (subT go k key t).ins, j ∈ t.ins := by
 intro t
 induction t with
 | leaf => exact fun j hj => hj
 | node i l r ihl ihr =>
  intro j hj
  unfold subT at hj
  split at hj
  ·exact hj
  ·split at hj
   ·simp [T.ins, ihr j hj]
   ·simp [T.ins, ihl j hj]
theorem sub_nodup : ∀ (t : T), t.ins.Nodup → (subT go k key t).ins.Nodup := by
 intro t
 induction t with
 | leaf => exact fun h => h
 | node i l r ihl ihr =>
  intro h
  obtain ⟨n1, n2, _⟩ := nodup_node h
  unfold subT
  split
  ·exact h
  ·split
   ·exact ihr n2
   ·exact ihl n1
theorem subT_len : ∀ (t : T), (subT go k key t).ins.length ≤ t.ins.length := by
 intro t
 induction t with
 | leaf => exact Nat.le_refl _
 | node i l r ihl ihr =>
  unfold subT
  split
  ·exact Nat.le_refl _
  ·rw [len_node]
   split <;> omega
end
/-- Where the way down ends, and what hangs there. -/
theorem seek_spec (go : Nd → Bool) (key : Int) (s : List Nd × Int) : ∀ (t : T) (f : Nat) (l : Lk), Rep s (G s l) t → t.ins.Nodup → t.ins.length < f → lok s.1.length l → (∀ j ∈ t.ins, ¬ isOf l j) →
  ∃ m, seekF go key s.1 s.2 f l = some (m, depT (fun j => go (nd s.1 j)) (K s) key t, (visT (fun j => go (nd s.1 j)) (K s) key t).map (nd s.1)) ∧ Rep s (G s m) (subT (fun j => go (nd s.1 j)) (K s) key t) ∧ lok s.1.length m ∧ (m = l ∨ ∃ j ∈ t.ins, isOf m j) ∧
   (∀ j ∈ (subT (fun j => go (nd s.1 j)) (K s) key t).ins, ¬ isOf m j) ∧
   ∀ (s' : List Nd × Int) (u : T), s'.1.length = s.1.length → (∀ m', (m' = l ∨ ∃ j ∈ t.ins, isOf m' j) → m' ≠ m → (∀ j ∈ (subT (fun j => go (nd s.1 j)) (K s) key t).ins, ¬ isOf m' j) → G s' m' = G s m') → Rep s' (G s' m) u → Rep s' (G s' l) (replT (fun j => go (nd s.1 j)) (K s) key u t) := by
 intro t
 induction t with
 | leaf =>
  intro f l hr _ hf hl hoff
  obtain ⟨f, rfl⟩ : ∃ q, f = q + 1 := ⟨f - 1, by omega⟩
  have hr' : lget s.1 s.2 l = -1 := hr
  exact ⟨l, by unfold seekF; rw [if_pos hr']; rfl, hr, hl, .inl rfl, by simp [subT, T.ins], fun s' u _ _ hu => hu⟩
 | node i tl tr ihl ihr =>
  intro f l hr hnd hf hl hoff
  obtain ⟨f, rfl⟩ : ∃ q, f = q + 1 := ⟨f - 1, by omega⟩
  obtain ⟨e0, hi, hL, hR⟩ := hr
  have e : lget s.1 s.2 l = i := e0
  rw [len_node] at hf
  obtain ⟨n1, n2, n3, n4, n5⟩ := nodup_node hnd
  have oi := hoff i (by simp [T.ins])
  unfold seekF
  rw [e, if_neg (by omega), if_neg (by omega), Int.toNat_natCast]
  cases hg : go (nd s.1 i) with
  | false =>
   rw [if_pos rfl]
   have es : subT (fun j => go (nd s.1 j)) (K s) key (.node i tl tr) = .node i tl tr := by unfold subT; rw [if_pos hg]
   refine ⟨l, ?_, ?_, hl, .inl rfl, ?_, ?_⟩
   ·unfold depT visT
    rw [if_pos hg, if_pos hg]
    rfl
   ·rw [es]; exact ⟨e0, hi, hL, hR⟩
   ·rw [es]; exact hoff
   ·intro s' u _ _ hu
    unfold replT
    rw [if_pos hg]
    exact hu
  | true =>
   rw [if_neg (by simp)]
   have hg' : ¬ (fun j => go (nd s.1 j)) i = false := by show ¬ go (nd s.1 i) = false; rw [hg]; simp
   by_cases hk : (nd s.1 i).key < key
   ·have hk' : K s i < key := hk
    unfold side
    rw [if_pos hk]
    obtain ⟨m, h1, h2, h3, h4, h5, h6⟩ := ihr f (.right i) hR n2 (by omega) hi (fun j hj hm => by
     have e := isOf_inj (i := i) (.inr rfl) hm
     exact n4 (by rw [e]; exact hj))
    rw [h1]
    have es : subT (fun j => go (nd s.1 j)) (K s) key (.node i tl tr) = subT (fun j => go (nd s.1 j)) (K s) key tr := by rw [subT, if_neg hg', if_pos hk']
    have hof : ∃ j ∈ (T.node i tl tr).ins, isOf m j ∧ (j = i → m = .right i) ∧ j ∉ tl.ins := by
     rcases h4 with rfl | ⟨j, hj, hm⟩
     ·exact ⟨i, by simp [T.ins], .inr rfl, fun _ => rfl, n3⟩
     ·exact ⟨j, by simp [T.ins, hj], hm, fun e => absurd (by rw [← e]; exact hj) n4, fun h => n5 j h hj⟩
    refine ⟨m, ?_, by rw [es]; exact h2, h3, ?_, by rw [es]; exact h5, ?_⟩
    ·rw [depT, if_neg hg', if_pos hk', visT, if_neg hg', if_pos hk']
     rfl
    ·obtain ⟨j, hj, hm, _⟩ := hof
     exact .inr ⟨j, hj, hm⟩
    ·intro s' u hlen hs hu
     rw [es] at hs
     rw [replT, if_neg hg', if_pos hk']
     obtain ⟨jm, hjm, hmm, hmi, hml⟩ := hof
     have el : G s' l = i := by
      rw [hs l (.inl rfl) (fun e => hoff jm hjm (by rw [e]; exact hmm)) (fun j hj => hoff j (by simp [T.ins, sub_mem _ _ _ tr j hj])), e0]
     have eL : ∀ m' q, isOf m' q → q ∈ (T.node i tl tr).ins → q ∉ tr.ins → m' ≠ m → G s' m' = G s m' := fun m' q hm' hq hq2 hne => hs m' (.inr ⟨q, hq, hm'⟩) hne (fun j hj hm => hq2 (by
      have e := isOf_inj hm' hm
      rw [e]; exact sub_mem _ _ _ tr j hj))
     refine ⟨el, by rw [hlen]; exact hi, ?_, ?_⟩
     ·rw [eL (.left i) i (.inl rfl) (by simp [T.ins]) n4 (fun e => by
       have e2 : i = jm := isOf_inj (m := m) (by rw [← e]; exact .inl rfl) hmm
       rw [hmi e2.symm] at e
       cases e)]
      refine Rep.frame hlen tl _ hL (fun j hj => ⟨eL _ j (.inl rfl) (by simp [T.ins, hj]) (n5 j hj) (fun e => hml ?_), eL _ j (.inr rfl) (by simp [T.ins, hj]) (n5 j hj) (fun e => hml ?_)⟩)
      ·have e2 : j = jm := isOf_inj (m := m) (by rw [← e]; exact .inl rfl) hmm
       rw [← e2]; exact hj
      ·have e2 : j = jm := isOf_inj (m := m) (by rw [← e]; exact .inr rfl) hmm
       rw [← e2]; exact hj
     ·refine h6 s' u hlen (fun m' hm' hne hsub => hs m' (.inr ?_) hne hsub) hu
      rcases hm' with rfl | ⟨j, hj, hm'⟩
      ·exact ⟨i, by simp [T.ins], .inr rfl⟩
      ·exact ⟨j, by simp [T.ins, hj], hm'⟩
   ·have hk' : ¬ K s i < key := hk
    unfold side
    rw [if_neg hk]
    obtain ⟨m, h1, h2, h3, h4, h5, h6⟩ := ihl f (.left i) hL n1 (by omega) hi (fun j hj hm => by
     have e := isOf_inj (i := i) (.inl rfl) hm
     exact n3 (by rw [e]; exact hj))
    rw [h1]
    have es : subT (fun j => go (nd s.1 j)) (K s) key (.node i tl tr) = subT (fun j => go (nd s.1 j)) (K s) key tl := by rw [subT, if_neg hg', if_neg hk']
    have hof : ∃ j ∈ (T.node i tl tr).ins, isOf m j ∧ (j = i → m = .left i) ∧ j ∉ tr.ins := by
     rcases h4 with rfl | ⟨j, hj, hm⟩
     ·exact ⟨i, by simp [T.ins], .inl rfl, fun _ => rfl, n4⟩
     ·exact ⟨j, by simp [T.ins, hj], hm, fun e => absurd (by rw [← e]; exact hj) n3, fun h => n5 j hj h⟩
    refine ⟨m, ?_, by rw [es]; exact h2, h3, ?_, by rw [es]; exact h5, ?_⟩
    ·rw [depT, if_neg hg', if_neg hk', visT, if_neg hg', if_neg hk']
     rfl
    ·obtain ⟨j, hj, hm, _⟩ := hof
     exact .inr ⟨j, hj, hm⟩
    ·intro s' u hlen hs hu
     rw [es] at hs
     rw [replT, if_neg hg', if_neg hk']
     obtain ⟨jm, hjm, hmm, hmi, hml⟩ := hof
     have el : G s' l = i := by
      rw [hs l (.inl rfl) (fun e => hoff jm hjm (by rw [e]; exact hmm)) (fun j hj => hoff j (by simp [T.ins, sub_mem _ _ _ tl j hj])), e0]
     have eL : ∀ m' q, isOf m' q → q ∈ (T.node i tl tr).ins → q ∉ tl.ins → m' ≠ m → G s' m' = G s m' := fun m' q hm' hq hq2 hne => hs m' (.inr ⟨q, hq, hm'⟩) hne (fun j hj hm => hq2 (by
      have e := isOf_inj hm' hm
      rw [e]; exact sub_mem _ _ _ tl j hj))
     refine ⟨el, by rw [hlen]; exact hi, ?_, ?_⟩
     ·refine h6 s' u hlen (fun m' hm' hne hsub => hs m' (.inr ?_) hne hsub) hu
      rcases hm' with rfl | ⟨j, hj, hm'⟩
      ·exact ⟨i, by simp [T.ins], .inl rfl⟩
      ·exact ⟨j, by simp [T.ins, hj], hm'⟩
     ·rw [eL (.right i) i (.inr rfl) (by simp [T.ins]) n3 (fun e => by
       have e2 : i = jm := isOf_inj (m := m) (by rw [← e]; exact .inr rfl) hmm
       rw [hmi e2.symm] at e
       cases e)]
      refine Rep.frame hlen tr _ hR (fun j hj => ⟨eL _ j (.inl rfl) (by simp [T.ins, hj]) (fun h => n5 j h hj) (fun e => hml ?_), eL _ j (.inr rfl) (by simp [T.ins, hj]) (fun h => n5 j h hj) (fun e => hml ?_)⟩)
      ·have e2 : j = jm := isOf_inj (m := m) (by rw [← e]; exact .inl rfl) hmm
       rw [← e2]; exact hj
      ·have e2 : j = jm := isOf_inj (m := m) (by rw [← e]; exact .inr rfl) hmm
       rw [← e2]; exact hj
end Treap
end Go.Proofs.Ytnjnjajgpkmfhaa

/-
 The contract of treap.Keys.
-/
namespace Go.Proofs.Ytnjnjajgpkmfhaa
open Go.RowKit
namespace Treap
/-- A captured box with a row of the call's own in it. -/
structure KI (L base : Nat) (zs : List Int) (own : Nat → Prop) (w : World) : Prop where
 row : ∃ v, Blk w L 25 #[v] ∧ w.ownsRow base 3 1 v zs.length (zs.map (Value.int .i64)) ∧ v.ownBlock ≠ some L ∧ own = fun k => k = L ∨ v.ownBlock = some k
 base_ : base ≤ w.heap.size
theorem own_far {w : World} {B size n : Nat} {e : TypeId} {v : Value} {xs : List Value} (h : w.ownsRow B e size v n xs) {p : Addr} (hp : v.ownBlock ≠ some p.block) (u : Value) : (w.setCell p u).ownsRow B e size v n xs := by
 obtain ⟨h1, h2⟩ := h
 refine ⟨h1, ?_⟩
 rcases h2 with h2 | ⟨g, cap, cur, rfl, hb, hh, r⟩
 ·exact .inl h2
 ·exact .inr ⟨g, cap, cur, rfl, hb, (Below.heap_setCell w p u g (fun e => hp (by rw [← e]; rfl))).trans hh, r⟩
set_option maxRecDepth 100000 in
set_option maxHeartbeats 1000000 in
theorem see_keys (L base : Nat) (zs : List Int) (own : Nat → Prop) (n : Nd) (hz : zs.length ≤ 1000) (w : World) (hI : KI L base zs own w) :
  Calls Try.prog 64 #[nval n, .pointer (some ⟨L, 0, none⟩)] w fun e w' => e = .returned (.tuple #[]) ∧ ∃ own', KI L base (zs ++ [n.key]) own' w' ∧ (∀ k, own' k → own k ∨ w.heap.size ≤ k) ∧ Kp own w w' := by
 obtain ⟨i0, hi, hz0, hz1, hz2⟩ := info_parts infoI3
 obtain ⟨kx, lx, rx⟩ := n
 obtain ⟨⟨v, hL, hown, hne, hO⟩, hb⟩ := hI
 obtain ⟨A, c, rfl, _, _, _⟩ := own_reads3 hown
 unfold nval
 have hLlt := hL.lt
 have hl1 := hL.alloc (.cells #[.int .i64 kx, .int .i64 lx, .int .i64 rx] 87)
 have cL : (w.alloc (.cells #[.int .i64 kx, .int .i64 lx, .int .i64 rx] 87)).cell? ⟨L, 0, none⟩ = some (.slice A zs.length c) := by rw [hl1.cell]; rfl
 have hl2 := hl1.alloc (.cells #[.int .i64 kx] 3)
 have ho2 := World.ownsRow.alloc (World.ownsRow.alloc hown (.cells #[.int .i64 kx, .int .i64 lx, .int .i64 rx] 87)) (.cells #[.int .i64 kx] 3)
 have hk2 := ((Kp.refl own w).alloc (.cells #[.int .i64 kx, .int .i64 lx, .int .i64 rx] 87)).alloc (.cells #[.int .i64 kx] 3)
 have HL2 := Lib.hid hl2
 have HK2 := Lib.hid hk2
 have HNE := Lib.hid hne
 have HO := Lib.hid hO
 have HLT := Lib.hid hLlt
 have HB := Lib.hid hb
 have HLO := Lib.hid (hown.lt)
 have hc1 := Reads.of_blk (n := 1) (size := 1) (Blk.new (w.alloc (.cells #[.int .i64 kx, .int .i64 lx, .int .i64 rx] 87)) 3 #[.int .i64 kx]) rfl
 simp only [World.size_alloc] at hc1
 clear hL hl1 hl2 hown hne hO hb hLlt hk2
 go_enter Try.func64, Try.ntmps64
 go_wp2_with (first
  | (at_builtin; go_loud (refine wpList_append_any _ rfl _ _ 25 rfl base 3 i0 (.int .i64 0) 1 8 Try.underlying25 hi hz0 hz1 hz2 rfl (by decide) (.slice A zs.length c) zs.length (zs.map (Value.int .i64)) rfl ho2 (w.heap.size + 1 + 1) (some ⟨w.heap.size + 1, 0, none⟩) 1 1 [.int .i64 kx] rfl ?c1 ?c2 ?c3 ?c4 ?c5 ?_))
  | go_in)
 case c1 => exact hc1
 case c2 => first | rfl | (intro u hu; simp at hu; subst hu; rfl)
 case c3 => simp [maxLen]; omega
 case c4 => omega
 case c5 => have := HB.out; simp; omega
 intro v' w' hown' hgrow hblk
 have hLw := HL2.out.grown hgrow (fun e => HNE.out e.symm)
 obtain ⟨A2, c2, rfl, _, _, _⟩ := own_reads3 hown'
 have cw : w'.cell? ⟨L, 0, none⟩ = some (.slice A zs.length c) := by rw [hLw.cell]; rfl
 have fw := hLw.frozen 0
 have HFIN : Hid (∃ own', KI L base (zs ++ [kx]) own' (w'.setCell ⟨L, 0, none⟩ (.slice A2 (zs.length + 1) c2)) ∧ (∀ k, own' k → own k ∨ w.heap.size ≤ k) ∧ Kp own w (w'.setCell ⟨L, 0, none⟩ (.slice A2 (zs.length + 1) c2))) := by
  have hne2 : (Value.slice A2 (zs.length + 1) c2).ownBlock ≠ some L := by
   rcases hblk with h | h
   ·rw [h]; exact HNE.out
   ·rw [h]
    intro e
    have := Option.some.inj e
    have := HLT.out
    simp at *
    omega
  refine ⟨_, ⟨⟨_, hLw.set_ 0 _, ?_, hne2, rfl⟩, ?_⟩, ?_, ?_⟩
  ·rw [List.length_append, List.map_append]
   exact own_far hown' (p := ⟨L, 0, none⟩) hne2 _
  ·have := hgrow.size
   have := HB.out
   show base ≤ (w'.setCell _ _).heap.size
   simp at *
   omega
  ·intro k hk
   rcases hk with rfl | hk
   ·exact .inl (by rw [HO.out]; exact .inl rfl)
   ·rcases hblk with h | h
    ·rw [h] at hk
     exact .inl (by rw [HO.out]; exact .inr hk)
    ·rw [h] at hk
     have e := Option.some.inj hk
     right
     have : ((w.alloc (.cells #[.int .i64 kx, .int .i64 lx, .int .i64 rx] 87)).alloc (.cells #[.int .i64 kx] 3)).heap.size = w.heap.size + 1 + 1 := by simp
     omega
  ·refine (HK2.out.grown hgrow (fun g hg => .inl (by rw [HO.out]; exact .inr hg))).setCell (.inl (by rw [HO.out]; exact .inl rfl)) _
 clear hLw hown' hgrow hblk
 go_wp2_with fail
 go_end0
 exact ⟨rfl, HFIN.out⟩
def seerK (L base : Nat) : Seer (List Int) where
 K := 64
 caps := #[.pointer (some ⟨L, 0, none⟩)]
 I := KI L base
 step := fun zs n => zs ++ [n.key]
 ok := fun zs => zs.length ≤ 1000
 enter := fun n w => by unfold nval; simp [go_sem]
 keep := fun {zs own w w'} ⟨⟨v, hL, hown, hne, hO⟩, hb⟩ hsz hk => by
  refine ⟨⟨v, (hk L (by rw [hO]; exact .inl rfl)).trans hL, ?_, hne, hO⟩, Nat.le_trans hb hsz⟩
  obtain ⟨h1, h2⟩ := hown
  refine ⟨h1, ?_⟩
  rcases h2 with h2 | ⟨g, cap, cur, rfl, hb, hh, r⟩
  ·exact .inl h2
  ·exact .inr ⟨g, cap, cur, rfl, hb, (hk g (by rw [hO]; exact .inr rfl)).trans hh, r⟩
 lt := fun {zs own w} ⟨⟨v, hL, hown, _, hO⟩, _⟩ k hk => by
  rw [hO] at hk
  rcases hk with rfl | hk
  ·exact hL.lt
  ·exact (hown.lt k hk).2
 run := fun {zs own w} n hz hI => see_keys L base zs own n hz w hI
/-- All keys. -/
def keysL (ns : List Nd) (root : Int) : List Int := ((seen ns root).map (nd ns)).map (·.key)
def keysF (ns : List Nd) (root : Int) : List Int × Int := if rightB ns root = true then (keysL ns root, 0) else ([], 1)
def KeysPost (r : List Int × Int) (w : World) (e : Ending) (w' : World) : Prop := ∃ v, e = .returned (.tuple #[v, .int .i64 r.2]) ∧ w'.ownsRow w.heap.size 3 1 v r.1.length (r.1.map (Value.int .i64)) ∧ Below w.heap.size w w'
end Treap
end Go.Proofs.Ytnjnjajgpkmfhaa

/-
 Trees that may be, told by trees of places; the tree of rising keys is one alone. No program.
-/
namespace Go.Proofs.Ytnjnjajgpkmfhaa
open Go.RowKit
namespace Treap
/-- From the walk to the tree, and back. -/
theorem inord_rep (ns : List Nd) (root : Int) : ∀ (f : Nat) (a : Int) (x : Nat) (b : List Nat) (y : Nat), inord ns f a x = some (b, y) → ∃ t, Rep (ns, root) a t ∧ t.ins = b := by
 intro f
 induction f with
 | zero => intro _ _ _ _ h; cases h
 | succ f ih =>
  intro a x b y h
  unfold inord at h
  split at h
  ·rename_i h1
   obtain ⟨rfl, rfl⟩ := Prod.mk.inj (Option.some.inj h)
   exact ⟨.leaf, h1, rfl⟩
  ·split at h
   ·cases h
   ·rename_i h1 hc
    split at h
    ·cases h
    ·rename_i a1 y1 e1
     split at h
     ·cases h
     ·rename_i b1 z e2
      obtain ⟨rfl, rfl⟩ := Prod.mk.inj (Option.some.inj h)
      obtain ⟨t1, r1, i1⟩ := ih _ _ _ _ e1
      obtain ⟨t2, r2, i2⟩ := ih _ _ _ _ e2
      refine ⟨.node a.toNat t1 t2, ⟨by omega, by show a.toNat < ns.length; omega, r1, r2⟩, by rw [T.ins, i1, i2]⟩
theorem rep_inord (s : List Nd × Int) : ∀ (t : T) (a : Int) (f x : Nat), Rep s a t → t.ins.length ≤ x → x < f → inord s.1 f a x = some (t.ins, x - t.ins.length) := by
 intro t
 induction t with
 | leaf =>
  intro a f x h _ hf
  obtain ⟨f, rfl⟩ : ∃ q, f = q + 1 := ⟨f - 1, by omega⟩
  have h : a = -1 := h
  unfold inord
  rw [if_pos h]
  rfl
 | node i l r ihl ihr =>
  rintro a f x ⟨rfl, hi, h1, h2⟩ hx hf
  obtain ⟨f, rfl⟩ : ∃ q, f = q + 1 := ⟨f - 1, by omega⟩
  rw [len_node] at hx
  have e1 := ihl _ f (x - 1) h1 (by omega) (by omega)
  have e2 := ihr _ f (x - 1 - l.ins.length) h2 (by omega) (by omega)
  have e1' : inord s.1 f (nd s.1 i).left (x - 1) = _ := e1
  have e2' : inord s.1 f (nd s.1 i).right (x - 1 - l.ins.length) = _ := e2
  unfold inord
  rw [if_neg (by omega), if_neg (by omega), Int.toNat_natCast, e1']
  simp only
  rw [e2']
  simp only
  congr 2
  rw [len_node]
  omega
def Heap (p : Nat → Int) : T → Prop
 | .leaf => True
 | .node i l r => (∀ j ∈ l.ins, p j < p i) ∧ (∀ j ∈ r.ins, p j < p i) ∧ Heap p l ∧ Heap p r
theorem heap_top {p : Nat → Int} {i : Nat} {l r : T} (h : Heap p (.node i l r)) : ∀ j ∈ (T.node i l r).ins, p j ≤ p i := by
 intro j hj
 simp only [T.ins, List.mem_append, List.mem_cons] at hj
 rcases hj with hj | rfl | hj
 ·exact Int.le_of_lt (h.1 j hj)
 ·exact Int.le_refl _
 ·exact Int.le_of_lt (h.2.1 j hj)
theorem heavyB_false {ns : List Nd} {x : Nd} {i : Int} : heavyB ns x i = false ↔ (i = -1 ∨ priOf (nd ns i.toNat).key < priOf x.key) := by
 unfold heavyB
 by_cases h : i = -1
 ·simp [h]
 ·have hb : (i == -1) = false := beq_eq_false_iff_ne.2 h
  rw [hb]
  simp only [Bool.not_false, Bool.true_and, decide_eq_false_iff_not, h, false_or]
  omega
theorem heap_of_light {s : List Nd × Int} : ∀ (t : T) (a : Int), Rep s a t → (∀ j ∈ t.ins, heavyN s.1 (nd s.1 j) = false) → Heap (Pr s) t := by
 intro t
 induction t with
 | leaf => exact fun _ _ _ => trivial
 | node i l r ihl ihr =>
  rintro a ⟨rfl, hi, h1, h2⟩ hh
  have hl := ihl _ h1 (fun j hj => hh j (by simp [T.ins, hj]))
  have hr := ihr _ h2 (fun j hj => hh j (by simp [T.ins, hj]))
  have hi0 := hh i (by simp [T.ins])
  unfold heavyN at hi0
  rw [Bool.or_eq_false_iff, heavyB_false, heavyB_false] at hi0
  have side : ∀ (t : T) (x : Int), Rep s x t → Heap (Pr s) t → (x = -1 ∨ priOf (nd s.1 x.toNat).key < priOf (nd s.1 i).key) → ∀ j ∈ t.ins, Pr s j < Pr s i := by
   intro t x hx ht hb j hj
   cases t with
   | leaf => simp [T.ins] at hj
   | node i' l' r' =>
    obtain ⟨rfl, _⟩ := hx
    have h3 := heap_top ht j hj
    rcases hb with hb | hb
    ·omega
    ·rw [Int.toNat_natCast] at hb
     exact Int.lt_of_le_of_lt h3 hb
  exact ⟨side l _ h1 hl hi0.1, side r _ h2 hr hi0.2, hl, hr⟩
theorem light_of_heap {s : List Nd × Int} : ∀ (t : T) (a : Int), Rep s a t → Heap (Pr s) t → ∀ j ∈ t.ins, heavyN s.1 (nd s.1 j) = false := by
 intro t
 induction t with
 | leaf => intro _ _ _ j hj; simp [T.ins] at hj
 | node i l r ihl ihr =>
  rintro a ⟨rfl, hi, h1, h2⟩ ⟨g1, g2, g3, g4⟩ j hj
  simp only [T.ins, List.mem_append, List.mem_cons] at hj
  rcases hj with hj | rfl | hj
  ·exact ihl _ h1 g3 j hj
  ·unfold heavyN
   rw [Bool.or_eq_false_iff, heavyB_false, heavyB_false]
   have side : ∀ (t : T) (x : Int), Rep s x t → (∀ q ∈ t.ins, Pr s q < Pr s j) → (x = -1 ∨ priOf (nd s.1 x.toNat).key < priOf (nd s.1 j).key) := by
    intro t x hx hq
    cases t with
    | leaf => exact .inl hx
    | node i' l' r' =>
     obtain ⟨rfl, _⟩ := hx
     right
     rw [Int.toNat_natCast]
     exact hq i' (by simp [T.ins])
   exact ⟨side l _ h1 g1, side r _ h2 g2⟩
  ·exact ihr _ h2 g4 j hj
/-- A tree that may be. -/
structure Good (s : List Nd × Int) (t : T) : Prop where
 rep : Rep s s.2 t
 len : t.ins.length = s.1.length
 up : (t.ins.map (K s)).Pairwise (· < ·)
 keys : ∀ j ∈ t.ins, isKey (K s j) = true
 heap : Heap (Pr s) t
theorem Good.nodup {s : List Nd × Int} {t : T} (h : Good s t) : t.ins.Nodup := by
 have hp := h.up
 rw [List.pairwise_map] at hp
 exact hp.imp (fun {i j} hij e => by rw [e] at hij; exact absurd hij (Int.lt_irrefl _))
theorem Good.all {s : List Nd × Int} {t : T} (h : Good s t) : ∀ j, j < s.1.length → j ∈ t.ins := pigeon h.nodup (fun i hi => h.rep.lt t _ i hi) h.len
theorem Good.seen {s : List Nd × Int} {t : T} (h : Good s t) : seen s.1 s.2 = t.ins ∧ whole s.1 s.2 = true := by
 have e := rep_inord s t s.2 (s.1.length + 1) s.1.length h.rep (by rw [h.len]; exact Nat.le_refl _) (Nat.lt_succ_self _)
 unfold Treap.seen whole
 rw [e, h.len, Nat.sub_self]
 exact ⟨rfl, rfl⟩
theorem Good.right {s : List Nd × Int} {t : T} (h : Good s t) (h64 : s.1.length ≤ 64) : rightB s.1 s.2 = true := by
 unfold rightB rises
 rw [h.seen.1, h.seen.2, decide_eq_true h64]
 simp only [Bool.true_and, Bool.and_eq_true, Bool.not_eq_true']
 refine ⟨rise_mk _ _ (fun x hx => ?_) ?_, ?_⟩
 ·obtain ⟨j, hj, rfl⟩ := List.mem_map.1 hx
  have hk := h.keys j hj
  have hk' : isKey (nd s.1 j).key = true := hk
  refine ⟨hk', ?_⟩
  unfold isKey at hk'
  simp only [Bool.and_eq_true, decide_eq_true_eq] at hk'
  omega
 ·rw [List.pairwise_map]
  have := h.up
  rw [List.pairwise_map] at this
  exact this
 ·rw [List.any_eq_false]
  intro x hx
  obtain ⟨i, hi, rfl⟩ := List.getElem_of_mem hx
  have e : nd s.1 i = s.1[i] := by have := nd_at hi; rw [List.getElem?_eq_getElem hi] at this; exact (Option.some.inj this).symm
  rw [← e]
  simp [light_of_heap t _ h.rep h.heap i (h.all i hi)]
theorem good_of {ns : List Nd} {root : Int} (h : rightB ns root = true) : ns.length ≤ 64 ∧ ∃ t, Good (ns, root) t := by
 unfold rightB at h
 simp only [Bool.and_eq_true, decide_eq_true_eq, Bool.not_eq_true'] at h
 obtain ⟨h64, hw, hr, hh⟩ := h
 refine ⟨h64, ?_⟩
 obtain ⟨t, ht, hi⟩ := inord_rep ns root _ _ _ _ _ (whole_some hw)
 have h1 := rise_of _ _ _ hr
 refine ⟨t, ht, by rw [hi, seen_len hw], ?_, ?_, ?_⟩
 ·rw [hi, List.pairwise_map]
  have := h1.2.2
  rw [List.pairwise_map] at this
  exact this
 ·intro j hj
  rw [hi] at hj
  exact (h1.2.1 (nd ns j) (List.mem_map.2 ⟨j, hj, rfl⟩)).1
 ·refine heap_of_light t _ ht (fun j hj => ?_)
  rw [List.any_eq_false] at hh
  have hlt := ht.lt t _ j hj
  have := hh (nd ns j) (List.mem_of_getElem? (nd_at hlt))
  simpa using this
end Treap
end Go.Proofs.Ytnjnjajgpkmfhaa

/-
 What the ways down, the parting and the joining make of the order of the keys and of the weights. No program.
-/
namespace Go.Proofs.Ytnjnjajgpkmfhaa
open Go.RowKit
namespace Treap
section
variable (go : Nat → Bool) (k : Nat → Int) (key : Int) (p : Nat → Int)
theorem up_node {i : Nat} {l r : T} (h : ((T.node i l r).ins.map k).Pairwise (· < ·)) : (l.ins.map k).Pairwise (· < ·) ∧ (r.ins.map k).Pairwise (· < ·) ∧ (∀ j ∈ l.ins, k j < k i) ∧ (∀ j ∈ r.ins, k i < k j) := by
 rw [T.ins, List.map_append, List.map_cons, List.pairwise_append, List.pairwise_cons] at h
 obtain ⟨h1, ⟨h2, h3⟩, h4⟩ := h
 exact ⟨h1, h3, fun j hj => h4 _ (List.mem_map.2 ⟨j, hj, rfl⟩) _ (by simp), fun j hj => h2 _ (List.mem_map.2 ⟨j, hj, rfl⟩)⟩
/-- The way down: what is to its left is less, what is to its right is not. -/
theorem path_spec : ∀ (t : T), (t.ins.map k).Pairwise (· < ·) → ∃ A B, t.ins = A ++ (subT go k key t).ins ++ B ∧ (∀ u, (replT go k key u t).ins = A ++ u.ins ++ B) ∧ (∀ i ∈ A, k i < key) ∧ (∀ i ∈ B, key ≤ k i) := by
 intro t
 induction t with
 | leaf => exact fun _ => ⟨[], [], by simp [subT, T.ins], fun u => by simp [replT], by simp, by simp⟩
 | node i l r ihl ihr =>
  intro hup
  obtain ⟨u1, u2, u3, u4⟩ := up_node k hup
  by_cases hg : go i = false
  ·exact ⟨[], [], by simp [subT, hg], fun u => by simp [replT, hg], by simp, by simp⟩
  ·by_cases hk : k i < key
   ·obtain ⟨A, B, h1, h2, h3, h4⟩ := ihr u2
    refine ⟨l.ins ++ i :: A, B, ?_, fun u => ?_, fun j hj => ?_, h4⟩
    ·rw [subT, if_neg hg, if_pos hk, T.ins, h1]
     simp
    ·rw [replT, if_neg hg, if_pos hk, T.ins, h2]
     simp
    ·rcases List.mem_append.1 hj with hj | hj
     ·exact Int.lt_trans (u3 j hj) hk
     ·rcases List.mem_cons.1 hj with rfl | hj
      ·exact hk
      ·exact h3 j hj
   ·obtain ⟨A, B, h1, h2, h3, h4⟩ := ihl u1
    refine ⟨A, B ++ i :: r.ins, ?_, fun u => ?_, h3, fun j hj => ?_⟩
    ·rw [subT, if_neg hg, if_neg hk, T.ins, h1]
     simp
    ·rw [replT, if_neg hg, if_neg hk, T.ins, h2]
     simp
    ·rcases List.mem_append.1 hj with hj | hj
     ·exact h4 j hj
     ·rcases List.mem_cons.1 hj with rfl | hj
      ·omega
      ·have := u4 j hj; omega
theorem repl_mem : ∀ (t u : T), ∀ j ∈ (replT go k key u t).ins, j ∈ t.ins ∨ j ∈ u.ins := by
 intro t
 induction t with
 | leaf => exact fun u j hj => .inr hj
 | node i l r ihl ihr =>
  intro u j hj
  unfold replT at hj
  split at hj
  ·exact .inr hj
  ·split at hj
   ·simp only [T.ins, List.mem_append, List.mem_cons] at hj
    rcases hj with hj | rfl | hj
    ·exact .inl (by simp [T.ins, hj])
    ·exact .inl (by simp [T.ins])
    ·exact (ihr u j hj).imp (fun h => by simp [T.ins, h]) id
   ·simp only [T.ins, List.mem_append, List.mem_cons] at hj
    rcases hj with hj | rfl | hj
    ·exact (ihl u j hj).imp (fun h => by simp [T.ins, h]) id
    ·exact .inl (by simp [T.ins])
    ·exact .inl (by simp [T.ins, hj])
theorem repl_heap : ∀ (t u : T), Heap p t → Heap p u → (∀ j ∈ u.ins, j ∈ (subT go k key t).ins ∨ ∀ i ∈ t.ins, go i = true → p j < p i) → Heap p (replT go k key u t) := by
 intro t
 induction t with
 | leaf => exact fun u _ hu _ => hu
 | node i l r ihl ihr =>
  intro u ht hu hju
  unfold replT
  by_cases hg : go i = false
  ·rw [if_pos hg]
   exact hu
  ·rw [if_neg hg]
   have hg' : go i = true := by cases h : go i with | true => rfl | false => exact absurd h hg
   by_cases hk : k i < key
   ·rw [if_pos hk]
    rw [subT, if_neg hg, if_pos hk] at hju
    refine ⟨ht.1, fun j hj => ?_, ht.2.2.1, ihr u ht.2.2.2 hu (fun j hj => (hju j hj).imp id (fun h q hq => h q (by simp [T.ins, hq])))⟩
    rcases repl_mem go k key r u j hj with h | h
    ·exact ht.2.1 j h
    ·rcases hju j h with h | h
     ·exact ht.2.1 j (sub_mem _ _ _ r j h)
     ·exact h i (by simp [T.ins]) hg'
   ·rw [if_neg hk]
    rw [subT, if_neg hg, if_neg hk] at hju
    refine ⟨fun j hj => ?_, ht.2.1, ihl u ht.2.2.1 hu (fun j hj => (hju j hj).imp id (fun h q hq => h q (by simp [T.ins, hq]))), ht.2.2.2⟩
    rcases repl_mem go k key l u j hj with h | h
    ·exact ht.1 j h
    ·rcases hju j h with h | h
     ·exact ht.1 j (sub_mem _ _ _ l j h)
     ·exact h i (by simp [T.ins]) hg'
theorem sub_heap : ∀ (t : T), Heap p t → Heap p (subT go k key t) := by
 intro t
 induction t with
 | leaf => exact fun h => h
 | node i l r ihl ihr =>
  intro h
  unfold subT
  split
  ·exact h
  ·split
   ·exact ihr h.2.2.2
   ·exact ihl h.2.2.1
theorem sub_up : ∀ (t : T), (t.ins.map k).Pairwise (· < ·) → ((subT go k key t).ins.map k).Pairwise (· < ·) := by
 intro t
 induction t with
 | leaf => exact fun h => h
 | node i l r ihl ihr =>
  intro h
  obtain ⟨u1, u2, _⟩ := up_node k h
  unfold subT
  split
  ·exact h
  ·split
   ·exact ihr u2
   ·exact ihl u1
theorem split_ins : ∀ (t : T), (t.ins.map k).Pairwise (· < ·) → t.ins = (splitT k key t).1.ins ++ (splitT k key t).2.ins ∧ (∀ i ∈ (splitT k key t).1.ins, k i < key) ∧ (∀ i ∈ (splitT k key t).2.ins, key ≤ k i) := by
 intro t
 induction t with
 | leaf => exact fun _ => ⟨rfl, by simp [splitT, T.ins], by simp [splitT, T.ins]⟩
 | node i l r ihl ihr =>
  intro h
  obtain ⟨u1, u2, u3, u4⟩ := up_node k h
  unfold splitT
  by_cases hk : k i < key
  ·rw [if_pos hk]
   obtain ⟨h1, h2, h3⟩ := ihr u2
   refine ⟨?_, fun j hj => ?_, h3⟩
   ·show l.ins ++ i :: r.ins = (l.ins ++ i :: (splitT k key r).1.ins) ++ (splitT k key r).2.ins
    conv => lhs; rw [h1]
    simp
   ·simp only [T.ins, List.mem_append, List.mem_cons] at hj
    rcases hj with hj | rfl | hj
    ·exact Int.lt_trans (u3 j hj) hk
    ·exact hk
    ·exact h2 j hj
  ·rw [if_neg hk]
   obtain ⟨h1, h2, h3⟩ := ihl u1
   refine ⟨?_, h2, fun j hj => ?_⟩
   ·show l.ins ++ i :: r.ins = (splitT k key l).1.ins ++ ((splitT k key l).2.ins ++ i :: r.ins)
    conv => lhs; rw [h1]
    simp
   ·simp only [T.ins, List.mem_append, List.mem_cons] at hj
    rcases hj with hj | rfl | hj
    ·exact h3 j hj
    ·omega
    ·have := u4 j hj; omega
theorem split_mem : ∀ (t : T), (∀ j ∈ (splitT k key t).1.ins, j ∈ t.ins) ∧ (∀ j ∈ (splitT k key t).2.ins, j ∈ t.ins) := by
 intro t
 induction t with
 | leaf => exact ⟨fun j hj => hj, fun j hj => hj⟩
 | node i l r ihl ihr =>
  unfold splitT
  split
  ·refine ⟨fun j hj => ?_, fun j hj => by simp [T.ins, ihr.2 j hj]⟩
   simp only [T.ins, List.mem_append, List.mem_cons] at hj ⊢
   exact hj.imp id (fun h => h.imp id (fun h => ihr.1 j h))
  ·refine ⟨fun j hj => by simp [T.ins, ihl.1 j hj], fun j hj => ?_⟩
   simp only [T.ins, List.mem_append, List.mem_cons] at hj ⊢
   exact hj.imp (fun h => ihl.2 j h) id
theorem split_heap : ∀ (t : T), Heap p t → Heap p (splitT k key t).1 ∧ Heap p (splitT k key t).2 := by
 intro t
 induction t with
 | leaf => exact fun _ => ⟨trivial, trivial⟩
 | node i l r ihl ihr =>
  intro h
  unfold splitT
  split
  ·exact ⟨⟨h.1, fun j hj => h.2.1 j ((split_mem k key r).1 j hj), h.2.2.1, (ihr h.2.2.2).1⟩, (ihr h.2.2.2).2⟩
  ·exact ⟨(ihl h.2.2.1).1, ⟨fun j hj => h.1 j ((split_mem k key l).2 j hj), h.2.1, (ihl h.2.2.1).2, h.2.2.2⟩⟩
end
/-- Weights of keys are unlike. -/
theorem and_mask (x : Int) : bits .and .i64 x 4294967295 = x % 4294967296 := by
 show IntKind.i64.wrap ((BitVec.ofInt 64 x &&& BitVec.ofInt 64 (4294967295 : Int)).toNat : Int) = _
 rw [BitVec.toNat_and, show (BitVec.ofInt 64 (4294967295 : Int)).toNat = 2 ^ 32 - 1 from rfl, Nat.and_two_pow_sub_one_eq_mod, BitVec.toNat_ofInt, IntKind.wrap_i64]
 obtain ⟨y, hy⟩ : ∃ y : Nat, (x % ((2 ^ 64 : Nat) : Int)).toNat = y := ⟨_, rfl⟩
 rw [hy]
 omega
theorem priOf_eq {a : Int} (h : isKey a = true) : priOf a = a * 2654435761 % 4294967296 := by
 unfold priOf
 rw [if_pos h, and_mask]
 unfold wrap64
 omega
theorem odd_inv : BitVec.ofInt 32 2654435761 * BitVec.ofInt 32 244002641 = 1#32 := by decide
theorem low_inj {a b : Int} (h0 : 0 ≤ a) (h1 : a ≤ 4294967295) (h2 : 0 ≤ b) (h3 : b ≤ 4294967295) (e3 : (a % 4294967296).toNat = (b % 4294967296).toNat) : a = b := by omega
theorem mul_inj (M N : Int) (hm : BitVec.ofInt 32 M * BitVec.ofInt 32 N = 1#32) {a b : Int} (h0 : 0 ≤ a) (h1 : a ≤ 4294967295) (h2 : 0 ≤ b) (h3 : b ≤ 4294967295) (h : a * M % 4294967296 = b * M % 4294967296) : a = b := by
 have e : BitVec.ofInt 32 (a * M) = BitVec.ofInt 32 (b * M) := by
  apply BitVec.eq_of_toNat_eq
  rw [BitVec.toNat_ofInt, BitVec.toNat_ofInt]
  exact congrArg Int.toNat h
 rw [BitVec.ofInt_mul, BitVec.ofInt_mul] at e
 have e2 := congrArg (· * BitVec.ofInt 32 N) e
 simp only [BitVec.mul_assoc] at e2
 rw [hm, BitVec.mul_one, BitVec.mul_one] at e2
 have e3 := congrArg BitVec.toNat e2
 rw [BitVec.toNat_ofInt, BitVec.toNat_ofInt] at e3
 exact low_inj h0 h1 h2 h3 e3
theorem isKey_iff {a : Int} : isKey a = true ↔ 0 ≤ a ∧ a ≤ 4294967295 := by
 unfold isKey
 simp only [Bool.and_eq_true, decide_eq_true_eq]
theorem pri_inj {a b : Int} (ha : isKey a = true) (hb : isKey b = true) (h : priOf a = priOf b) : a = b := by
 rw [priOf_eq ha, priOf_eq hb] at h
 have ha := isKey_iff.1 ha
 have hb := isKey_iff.1 hb
 exact mul_inj _ _ odd_inv ha.1 ha.2 hb.1 hb.2 h
end Treap
end Go.Proofs.Ytnjnjajgpkmfhaa

/-
 A key more, a key less, told by the rows of keys. No program.
-/
namespace Go.Proofs.Ytnjnjajgpkmfhaa
open Go.RowKit
namespace Treap
theorem nd_app {ns : List Nd} {x : Nd} {j : Nat} (h : j < ns.length) : nd (ns ++ [x]) j = nd ns j := by
 unfold nd
 rw [List.getD_eq_getElem?_getD, List.getD_eq_getElem?_getD, List.getElem?_append_left h]
theorem nd_new {ns : List Nd} {x : Nd} : nd (ns ++ [x]) ns.length = x := by
 unfold nd
 rw [List.getD_eq_getElem?_getD, List.getElem?_concat_length]
 rfl
theorem Rep.grow {ns : List Nd} {root : Int} (x : Nd) : ∀ (t : T) (a : Int), Rep (ns, root) a t → Rep (ns ++ [x], root) a t := by
 intro t
 induction t with
 | leaf => exact fun a h => h
 | node i l r ihl ihr =>
  rintro a ⟨rfl, hi, h1, h2⟩
  have hi' : i < ns.length := hi
  have e1 : G (ns ++ [x], root) (.left i) = G (ns, root) (.left i) := by show (nd (ns ++ [x]) i).left = (nd ns i).left; rw [nd_app hi']
  have e2 : G (ns ++ [x], root) (.right i) = G (ns, root) (.right i) := by show (nd (ns ++ [x]) i).right = (nd ns i).right; rw [nd_app hi']
  refine ⟨rfl, by show i < (ns ++ [x]).length; simp; omega, ?_, ?_⟩
  ·rw [e1]; exact ihl _ h1
  ·rw [e2]; exact ihr _ h2
theorem heap_congr {p q : Nat → Int} : ∀ (t : T), (∀ j ∈ t.ins, p j = q j) → Heap p t → Heap q t := by
 intro t
 induction t with
 | leaf => exact fun _ _ => trivial
 | node i l r ihl ihr =>
  rintro h ⟨h1, h2, h3, h4⟩
  have hi := h i (by simp [T.ins])
  exact ⟨fun j hj => by rw [← hi, ← h j (by simp [T.ins, hj])]; exact h1 j hj, fun j hj => by rw [← hi, ← h j (by simp [T.ins, hj])]; exact h2 j hj, ihl (fun j hj => h j (by simp [T.ins, hj])) h3, ihr (fun j hj => h j (by simp [T.ins, hj])) h4⟩
/-- The way to a key: where nothing hangs, it is not there. -/
theorem sub_other (key : Int) (k : Nat → Int) : ∀ (t : T), (t.ins.map k).Pairwise (· < ·) → (key ∉ t.ins.map k ∧ subT (fun j => k j != key) k key t = .leaf) ∨ (∃ i l r, subT (fun j => k j != key) k key t = .node i l r ∧ k i = key ∧ key ∈ t.ins.map k) := by
 intro t
 induction t with
 | leaf => exact fun _ => .inl ⟨by simp [T.ins], rfl⟩
 | node i l r ihl ihr =>
  intro hup
  obtain ⟨u1, u2, u3, u4⟩ := up_node k hup
  unfold subT
  by_cases he : k i = key
  ·rw [if_pos (by simp [he])]
   exact .inr ⟨i, l, r, rfl, he, by simp [T.ins, he]⟩
  ·rw [if_neg (by simp [he])]
   by_cases hk : k i < key
   ·rw [if_pos hk]
    rcases ihr u2 with ⟨h1, h2⟩ | ⟨i', l', r', h1, h2, h3⟩
    ·refine .inl ⟨?_, h2⟩
     simp only [T.ins, List.map_append, List.map_cons, List.mem_append, List.mem_cons, not_or]
     refine ⟨fun h => ?_, fun e => he e.symm, h1⟩
     obtain ⟨j, hj, e⟩ := List.mem_map.1 h
     have := u3 j hj
     omega
    ·exact .inr ⟨i', l', r', h1, h2, by simp only [T.ins, List.map_append, List.map_cons, List.mem_append, List.mem_cons]; exact .inr (.inr h3)⟩
   ·rw [if_neg hk]
    rcases ihl u1 with ⟨h1, h2⟩ | ⟨i', l', r', h1, h2, h3⟩
    ·refine .inl ⟨?_, h2⟩
     simp only [T.ins, List.map_append, List.map_cons, List.mem_append, List.mem_cons, not_or]
     refine ⟨h1, fun e => he e.symm, fun h => ?_⟩
     obtain ⟨j, hj, e⟩ := List.mem_map.1 h
     have := u4 j hj
     omega
    ·exact .inr ⟨i', l', r', h1, h2, by simp only [T.ins, List.map_append, List.map_cons, List.mem_append, List.mem_cons]; exact .inl h3⟩
theorem no_root {j : Nat} : ¬ isOf .root j := fun h => by rcases h with h | h <;> cases h
theorem Good.may {s : List Nd × Int} {t : T} (h : Good s t) (h64 : s.1.length ≤ 64) {key : Int} (hk : isKey key = true) : ¬ mayB s.1 s.2 key = false := by
 unfold mayB
 rw [h.right h64, hk]
 simp
/-- A key that is there already; a tree that is full. -/
theorem put_twice {s : List Nd × Int} {t : T} (h : Good s t) (h64 : s.1.length ≤ 64) {key : Int} (hk : isKey key = true) (hin : key ∈ t.ins.map (K s)) : putF s.1 s.2 key = some (([], 0), 7) := by
 obtain ⟨m, h1, h2, _⟩ := seek_spec (goOther key) key s t (s.1.length + 1) .root h.rep h.nodup (by rw [h.len]; omega) trivial (fun _ _ => no_root)
 unfold putF
 rw [if_neg (h.may h64 hk), h1]
 simp only
 rcases sub_other key (K s) t h.up with ⟨h3, _⟩ | ⟨i, l, r, h3, _⟩
 ·exact absurd hin h3
 ·have e : (fun j => goOther key (nd s.1 j)) = fun j => K s j != key := rfl
  rw [e, h3] at h2
  have e2 : lget s.1 s.2 m = i := h2.1
  rw [if_pos (by rw [e2]; omega)]
theorem put_full {s : List Nd × Int} {t : T} (h : Good s t) (h64 : s.1.length = 64) {key : Int} (hk : isKey key = true) (hin : key ∉ t.ins.map (K s)) : putF s.1 s.2 key = some (([], 0), 5) := by
 obtain ⟨m, h1, h2, _⟩ := seek_spec (goOther key) key s t (s.1.length + 1) .root h.rep h.nodup (by rw [h.len]; omega) trivial (fun _ _ => no_root)
 unfold putF
 rw [if_neg (h.may (Nat.le_of_eq h64) hk), h1]
 simp only
 rcases sub_other key (K s) t h.up with ⟨_, h3⟩ | ⟨i, l, r, h3, _, h4⟩
 ·have e : (fun j => goOther key (nd s.1 j)) = fun j => K s j != key := rfl
  rw [e, h3] at h2
  have e2 : lget s.1 s.2 m = -1 := h2
  rw [if_neg (by rw [e2]; simp), if_pos h64]
 ·exact absurd h4 hin
/-- A key more. -/
theorem put_good {s : List Nd × Int} {t : T} (h : Good s t) (h64 : s.1.length < 64) {key : Int} (hk : isKey key = true) (hin : key ∉ t.ins.map (K s)) :
  ∃ s' t', putF s.1 s.2 key = some (s', 0) ∧ s'.1.length = s.1.length + 1 ∧ Good s' t' ∧ ∃ A B, t.ins.map (K s) = A ++ B ∧ t'.ins.map (K s') = A ++ key :: B ∧ (∀ x ∈ A, x < key) ∧ (∀ x ∈ B, key < x) := by
 obtain ⟨m0, h1, h2, _⟩ := seek_spec (goOther key) key s t (s.1.length + 1) .root h.rep h.nodup (by rw [h.len]; omega) trivial (fun _ _ => no_root)
 have hl0 : lget s.1 s.2 m0 = -1 := by
  rcases sub_other key (K s) t h.up with ⟨_, h3⟩ | ⟨i, l, r, h3, _, h4⟩
  ·have e : (fun j => goOther key (nd s.1 j)) = fun j => K s j != key := rfl
   rw [e, h3] at h2
   exact h2
  ·exact absurd h4 hin
 clear h2
 -- the row with the new node
 obtain ⟨s1, hs1⟩ : ∃ s1 : List Nd × Int, s1 = (s.1 ++ [⟨key, -1, -1⟩], s.2) := ⟨_, rfl⟩
 have hrep1 : Rep s1 (G s1 .root) t := by rw [hs1]; exact Rep.grow _ t _ h.rep
 have hlen1 : s1.1.length = s.1.length + 1 := by rw [hs1]; simp
 have hKold : ∀ j, j < s.1.length → K s1 j = K s j := fun j hj => by rw [hs1]; show (nd (s.1 ++ [_]) j).key = _; rw [nd_app hj]; rfl
 have hKnew : K s1 s.1.length = key := by rw [hs1]; show (nd (s.1 ++ [_]) s.1.length).key = _; rw [nd_new]
 have hlt : ∀ j ∈ t.ins, j < s.1.length := fun j hj => h.rep.lt t _ j hj
 have hkmap : t.ins.map (K s1) = t.ins.map (K s) := List.map_congr_left (fun j hj => hKold j (hlt j hj))
 have hup1 : (t.ins.map (K s1)).Pairwise (· < ·) := by rw [hkmap]; exact h.up
 have hheap1 : Heap (Pr s1) t := heap_congr t (fun j hj => by unfold Pr; rw [hKold j (hlt j hj)]) h.heap
 have hne : ∀ j ∈ t.ins, Pr s1 j ≠ priOf key := fun j hj e => hin (List.mem_map.2 ⟨j, hj, pri_inj (h.keys j hj) hk (by rw [← hKold j (hlt j hj)]; exact e)⟩)
 obtain ⟨m, g1, g2, g3, g4, g5, g6⟩ := seek_spec (goHeavy key) key s1 t (s.1.length + 2) .root hrep1 h.nodup (by rw [h.len]; omega) trivial (fun _ _ => no_root)
 obtain ⟨go, hgo⟩ : ∃ go : Nat → Bool, go = fun j => goHeavy key (nd s1.1 j) := ⟨_, rfl⟩
 rw [← hgo] at g1 g2 g5 g6
 have hgoj : ∀ j, go j = decide (priOf key < Pr s1 j) := fun j => by rw [hgo]; rfl
 obtain ⟨t0, ht0⟩ : ∃ t0, t0 = subT go (K s1) key t := ⟨_, rfl⟩
 rw [← ht0] at g2 g5 g6
 have ht0m : ∀ j ∈ t0.ins, j ∈ t.ins := by rw [ht0]; exact sub_mem _ _ _ t
 have ht0n : t0.ins.Nodup := by rw [ht0]; exact sub_nodup _ _ _ t h.nodup
 have ht0l : t0.ins.length ≤ t.ins.length := by rw [ht0]; exact subT_len _ _ _ t
 have hmn : ∀ j, isOf m j → j < s.1.length := fun j hj => by
  rcases g4 with rfl | ⟨q, hq, hmq⟩
  ·exact absurd hj no_root
  ·rw [isOf_inj hj hmq]; exact hlt q hq
 have hnt0 : s.1.length ∉ t0.ins := fun hh => Nat.lt_irrefl _ (hlt _ (ht0m _ hh))
 -- the new node is hung up
 have hs2len : (lset s1 m s.1.length).1.length = s.1.length + 1 := by rw [lset_len, hlen1]
 have hs2K : K (lset s1 m s.1.length) = K s1 := K_set _ _ _ g3
 have hrep2 : Rep (lset s1 m s.1.length) (G s1 m) t0 := Rep.frame (lset_len _ _ _) t0 _ g2 (fun j hj => ⟨G_other _ _ _ _ g3 (fun e => g5 j hj (.inl e.symm)), G_other _ _ _ _ g3 (fun e => g5 j hj (.inr e.symm))⟩)
 obtain ⟨s', p1, p2, p3, p4, p5, p6⟩ := split_spec key t0 (s.1.length + 2) (lset s1 m s.1.length) (G s1 m) (.left s.1.length) (.right s.1.length) hrep2 ht0n (by have := h.len; omega) (by rw [hs2len]; exact Nat.lt_succ_self _) (by rw [hs2len]; exact Nat.lt_succ_self _) (fun e => by cases e) (fun j hj => ⟨fun e => hnt0 (by rw [isOf_inj (i := s.1.length) (.inl rfl) e]; exact hj), fun e => hnt0 (by rw [isOf_inj (i := s.1.length) (.inr rfl) e]; exact hj)⟩)
 rw [hs2K] at p2 p3 p5
 have hlen' : s'.1.length = s.1.length + 1 := by rw [p4, hs2len]
 obtain ⟨u, hu⟩ : ∃ u, u = T.node s.1.length (splitT (K s1) key t0).1 (splitT (K s1) key t0).2 := ⟨_, rfl⟩
 have hGm : G s' m = s.1.length := by
  rw [p6 m (fun e => Nat.lt_irrefl _ (hmn s.1.length (.inl e))) (fun e => Nat.lt_irrefl _ (hmn s.1.length (.inr e))) (fun j hj => g5 j hj), G_same _ _ _ g3]
 have hrepu : Rep s' (G s' m) u := by rw [hu]; exact ⟨hGm, by rw [hlen']; exact Nat.lt_succ_self _, p2, p3⟩
 have hrep' := g6 s' u (by rw [hlen', hlen1]) (fun m' hm' hne hsub => by
  have hno : ∀ q, isOf m' q → q < s.1.length := fun q hq => by
   rcases hm' with rfl | ⟨j, hj, hjm⟩
   ·exact absurd hq no_root
   ·rw [isOf_inj hq hjm]; exact hlt j hj
  rw [p6 m' (fun e => Nat.lt_irrefl _ (hno s.1.length (.inl e))) (fun e => Nat.lt_irrefl _ (hno s.1.length (.inr e))) (fun j hj => hsub j hj), G_other _ _ _ _ g3 hne]) hrepu
 -- what order and weights are
 obtain ⟨A, B, q1, q2, q3, q4⟩ := path_spec go (K s1) key t hup1
 rw [← ht0] at q1
 obtain ⟨r1, r2, r3⟩ := split_ins (K s1) key t0 (by rw [ht0]; exact sub_up _ _ _ t hup1)
 have hins : (replT go (K s1) key u t).ins = (A ++ (splitT (K s1) key t0).1.ins) ++ s.1.length :: ((splitT (K s1) key t0).2.ins ++ B) := by
  rw [q2, hu]
  simp [T.ins]
 have htins : t.ins = (A ++ (splitT (K s1) key t0).1.ins) ++ ((splitT (K s1) key t0).2.ins ++ B) := by
  rw [q1, r1]
  simp
 have hA : ∀ i ∈ A ++ (splitT (K s1) key t0).1.ins, K s1 i < key := fun i hi => by
  rcases List.mem_append.1 hi with hi | hi
  ·exact q3 i hi
  ·exact r2 i hi
 have hB : ∀ i ∈ (splitT (K s1) key t0).2.ins ++ B, key < K s1 i := fun i hi => by
  have hle : key ≤ K s1 i := by
   rcases List.mem_append.1 hi with hi | hi
   ·exact r3 i hi
   ·exact q4 i hi
  have hmem : i ∈ t.ins := by rw [htins]; exact List.mem_append.2 (.inr hi)
  have : K s1 i ≠ key := fun e => hin (by rw [← hkmap]; exact List.mem_map.2 ⟨i, hmem, e⟩)
  omega
 have hheap' : Heap (Pr s1) (replT go (K s1) key u t) := by
  have hPn : Pr s1 s.1.length = priOf key := by unfold Pr; rw [hKnew]
  refine repl_heap go (K s1) key (Pr s1) t u hheap1 ?_ (fun j hj => ?_)
  ·rw [hu]
   have hlow : ∀ j ∈ t0.ins, Pr s1 j < Pr s1 s.1.length := by
    have hh0 : Heap (Pr s1) t0 := by rw [ht0]; exact sub_heap _ _ _ _ t hheap1
    cases ht : t0 with
    | leaf => intro j hj; simp [T.ins] at hj
    | node i l r =>
     intro j hj
     have hgi : go i = false := by
      have key2 : ∀ (t : T) (i : Nat) (l r : T), subT go (K s1) key t = .node i l r → go i = false := by
       intro t
       induction t with
       | leaf => intro i l r e; cases e
       | node i0 l0 r0 ihl ihr =>
        intro i l r e
        unfold subT at e
        split at e
        ·rename_i hg; injection e with e; rw [← e]; exact hg
        ·split at e
         ·exact ihr i l r e
         ·exact ihl i l r e
      exact key2 t i l r (by rw [← ht0]; exact ht)
     rw [hgoj, decide_eq_false_iff_not] at hgi
     rw [ht] at hh0
     have hji := heap_top hh0 j hj
     have hin0 := hne i (ht0m i (by rw [ht]; simp [T.ins]))
     rw [hPn]
     omega
   obtain ⟨v1, v2⟩ := split_heap (K s1) key (Pr s1) t0 (by rw [ht0]; exact sub_heap _ _ _ _ t hheap1)
   exact ⟨fun j hj => hlow j ((split_mem (K s1) key t0).1 j hj), fun j hj => hlow j ((split_mem (K s1) key t0).2 j hj), v1, v2⟩
  ·rw [hu] at hj
   simp only [T.ins, List.mem_append, List.mem_cons] at hj
   rcases hj with hj | rfl | hj
   ·exact .inl (by rw [← ht0]; exact (split_mem (K s1) key t0).1 j hj)
   ·right
    intro i _ hi
    rw [hgoj, decide_eq_true_eq] at hi
    rw [hPn]
    exact hi
   ·exact .inl (by rw [← ht0]; exact (split_mem (K s1) key t0).2 j hj)
 refine ⟨s', replT go (K s1) key u t, ?_, hlen', ⟨?_, ?_, ?_, ?_, ?_⟩, (A ++ (splitT (K s1) key t0).1.ins).map (K s1), ((splitT (K s1) key t0).2.ins ++ B).map (K s1), ?_, ?_, ?_, ?_⟩
 ·unfold putF
  rw [if_neg (h.may (Nat.le_of_lt h64) hk), h1]
  simp only
  rw [if_neg (by rw [hl0]; simp), if_neg (by omega)]
  obtain ⟨z1, hz1⟩ : ∃ z, some (m, z) = some (m, depT go (K s1) key t, (visT go (K s1) key t).map (nd s1.1)) := ⟨_, rfl⟩
  rw [← hz1] at g1
  rw [hs1] at g1
  dsimp only at g1
  rw [g1]
  simp only
  have p1' : splitF key (s.1.length + 2) (lset (s.1 ++ [⟨key, -1, -1⟩], s.2) m s.1.length) (lget (s.1 ++ [⟨key, -1, -1⟩]) s.2 m) (.left s.1.length) (.right s.1.length) = some s' := by rw [hs1] at p1; exact p1
  rw [p1']
 ·exact hrep'
 ·rw [hins, hlen']
  have := congrArg List.length htins
  rw [h.len] at this
  simp only [List.length_append, List.length_cons] at this ⊢
  omega
 ·rw [p5, hins, List.map_append, List.map_cons, hKnew, List.pairwise_append, List.pairwise_cons]
  rw [htins, List.map_append, List.pairwise_append] at hup1
  refine ⟨hup1.1, ⟨fun x hx => ?_, hup1.2.1⟩, fun x hx y hy => ?_⟩
  ·obtain ⟨i, hi, rfl⟩ := List.mem_map.1 hx
   exact hB i hi
  ·obtain ⟨i, hi, rfl⟩ := List.mem_map.1 hx
   rcases List.mem_cons.1 hy with rfl | hy
   ·exact hA i hi
   ·exact Int.lt_trans (hA i hi) (by obtain ⟨j, hj, rfl⟩ := List.mem_map.1 hy; exact hB j hj)
 ·intro j hj
  rw [p5]
  rw [hins] at hj
  have : j = s.1.length ∨ j ∈ t.ins := by
   rw [htins]
   simp only [List.mem_append, List.mem_cons] at hj ⊢
   rcases hj with hj | rfl | hj
   ·exact .inr (.inl hj)
   ·exact .inl rfl
   ·exact .inr (.inr hj)
  rcases this with rfl | hj
  ·rw [hKnew]; exact hk
  ·rw [hKold j (hlt j hj)]; exact h.keys j hj
 ·have e : Pr s' = Pr s1 := funext fun j => by unfold Pr; rw [p5]
  rw [e]
  exact hheap'
 ·rw [← List.map_append, ← htins, hkmap]
 ·rw [p5, hins, List.map_append, List.map_cons, hKnew]
 ·intro x hx
  obtain ⟨i, hi, rfl⟩ := List.mem_map.1 hx
  exact hA i hi
 ·intro x hx
  obtain ⟨i, hi, rfl⟩ := List.mem_map.1 hx
  exact hB i hi
end Treap
end Go.Proofs.Ytnjnjajgpkmfhaa

/-
 A key less, told by the rows of keys. No program.
-/
namespace Go.Proofs.Ytnjnjajgpkmfhaa
open Go.RowKit
namespace Treap
def shiftN (at_ j : Nat) : Nat := if at_ < j then j - 1 else j
def T.mapI (f : Nat → Nat) : T → T
 | .leaf => .leaf
 | .node i l r => .node (f i) (l.mapI f) (r.mapI f)
end Treap
end Go.Proofs.Ytnjnjajgpkmfhaa

/-
 How deep keys are, and which comes next, told by the rows of keys: the tree of rising keys is one alone. No program.
-/
namespace Go.Proofs.Ytnjnjajgpkmfhaa
open Go.RowKit
namespace Treap
inductive KT where
 | leaf : KT
 | node : Int → KT → KT → KT
def T.kt (k : Nat → Int) : T → KT
 | .leaf => .leaf
 | .node i l r => .node (k i) (l.kt k) (r.kt k)
namespace KT
def keys : KT → List Int
 | .leaf => []
 | .node k l r => l.keys ++ k :: r.keys
def Heap : KT → Prop
 | .leaf => True
 | .node k l r => (∀ x ∈ l.keys, priOf x < priOf k) ∧ (∀ x ∈ r.keys, priOf x < priOf k) ∧ l.Heap ∧ r.Heap
def dep (key : Int) : KT → Nat
 | .leaf => 0
 | .node k l r => if k = key then 0 else (if k < key then dep key r else dep key l) + 1
end KT
theorem dep_kt (k : Nat → Int) (key : Int) : ∀ t : T, depT (fun j => k j != key) k key t = KT.dep key (t.kt k) := by
 intro t
 induction t with
 | leaf => rfl
 | node i l r ihl ihr =>
  unfold depT T.kt KT.dep
  by_cases he : k i = key
  ·simp [he]
  ·simp [he, ihl, ihr]
/-- Where a key is. -/
theorem find_good {s : List Nd × Int} {t : T} (h : Good s t) (h64 : s.1.length ≤ 64) {key : Int} (hk : isKey key = true) :
  findF s.1 s.2 key = some (if key ∈ t.ins.map (K s) then ((((KT.dep key (t.kt (K s)) : Nat) : Int), (0 : Int)) : Int × Int) else (0, 4)) := by
 obtain ⟨m, h1, h2, _⟩ := seek_spec (goOther key) key s t (s.1.length + 1) .root h.rep h.nodup (by rw [h.len]; omega) trivial (fun _ _ => no_root)
 unfold findF
 rw [if_neg (h.may h64 hk), h1]
 have e : (fun j => goOther key (nd s.1 j)) = fun j => K s j != key := rfl
 rw [e] at h2 ⊢
 simp only
 rcases sub_other key (K s) t h.up with ⟨h4, h3⟩ | ⟨i, l, r, h3, _, h4⟩
 ·rw [h3] at h2
  have e2 : lget s.1 s.2 m = -1 := h2
  rw [if_pos e2, if_neg h4]
 ·rw [h3] at h2
  have e2 : lget s.1 s.2 m = i := h2.1
  rw [if_neg (by rw [e2]; omega), if_pos h4, dep_kt]
theorem vis_next (k : Nat → Int) (key : Int) : ∀ (t : T) (best : Int), (t.ins.map k).Pairwise (· < ·) → (visT (fun j => k j != key) k key t).foldl (fun b j => if key ≤ k j then k j else b) best = ((t.ins.map k).find? (fun x => decide (key ≤ x))).getD best := by
 intro t
 induction t with
 | leaf => exact fun best _ => rfl
 | node i l r ihl ihr =>
  intro best hup
  obtain ⟨u1, u2, u3, u4⟩ := up_node k hup
  have hl : k i ≤ key → (l.ins.map k).find? (fun x => decide (key ≤ x)) = none := fun hle => by
   rw [List.find?_eq_none]
   intro x hx
   obtain ⟨j, hj, rfl⟩ := List.mem_map.1 hx
   have := u3 j hj
   simp
   omega
  unfold visT
  rw [List.foldl_cons, T.ins, List.map_append, List.map_cons, List.find?_append, List.find?_cons]
  by_cases he : k i = key
  ·rw [if_pos (show (k i != key) = false by simp [he]), List.foldl_nil, if_pos (show key ≤ k i by omega), hl (by omega), decide_eq_true (show key ≤ k i by omega)]
   rfl
  ·rw [if_neg (show ¬ (k i != key) = false by simp [he])]
   by_cases hk : k i < key
   ·rw [if_pos hk, if_neg (show ¬ key ≤ k i by omega), ihr best u2, hl (by omega), decide_eq_false (show ¬ key ≤ k i by omega)]
    rfl
   ·rw [if_neg hk, if_pos (show key ≤ k i by omega), ihl (k i) u1, decide_eq_true (show key ≤ k i by omega)]
    cases (l.ins.map k).find? (fun x => decide (key ≤ x)) with
    | none => rfl
    | some y => rfl
/-- Which key comes next. -/
theorem next_good {s : List Nd × Int} {t : T} (h : Good s t) (h64 : s.1.length ≤ 64) {key : Int} (hk : isKey key = true) :
  nextF s.1 s.2 key = some (match (t.ins.map (K s)).find? (fun x => decide (key ≤ x)) with | some x => (x, 0) | none => (0, 4)) := by
 obtain ⟨m, h1, h2, _⟩ := seek_spec (goOther key) key s t (s.1.length + 1) .root h.rep h.nodup (by rw [h.len]; omega) trivial (fun _ _ => no_root)
 unfold nextF
 rw [if_neg (h.may h64 hk), h1]
 have e : (fun j => goOther key (nd s.1 j)) = fun j => K s j != key := rfl
 rw [e] at h2 ⊢
 simp only
 have hv := vis_next (K s) key t (-1) h.up
 have hf : ((visT (fun j => K s j != key) (K s) key t).map (nd s.1)).foldl (stepN key) (-1) = (visT (fun j => K s j != key) (K s) key t).foldl (fun b j => if key ≤ K s j then K s j else b) (-1) := by
  rw [List.foldl_map]
  rfl
 rw [hf, hv]
 cases hfd : (t.ins.map (K s)).find? (fun x => decide (key ≤ x)) with
 | none => rfl
 | some x =>
  have hx := List.find?_some hfd
  have h0 := (isKey_iff.1 hk).1
  simp only [decide_eq_true_eq] at hx
  show (if x = -1 then _ else _) = _
  rw [if_neg (by omega)]
  rfl
theorem find_bad {ns : List Nd} {root key : Int} (h : mayB ns root key = false) : findF ns root key = some (0, 1) ∧ nextF ns root key = some (0, 1) ∧ putF ns root key = some (([], 0), 1) ∧ delF ns root key = some (([], 0), 1) :=
 ⟨by unfold findF; rw [if_pos h], by unfold nextF; rw [if_pos h], by unfold putF; rw [if_pos h], by unfold delF; rw [if_pos h]⟩
end Treap
end Go.Proofs.Ytnjnjajgpkmfhaa
