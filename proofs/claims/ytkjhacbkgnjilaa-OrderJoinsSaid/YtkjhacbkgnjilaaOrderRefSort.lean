/-
  The contract of the reference's Sort: each float is put behind all that it is not ahead of.
-/
import Derived.Test.YtkjhacbkgnjilaaOrderRow
namespace Go.Proofs.Ytkjhacbkgnjilaa
open Go.RowKit
namespace Sorts
theorem insF_at {rk : Nat → Int} (v : Nat) : ∀ (D : List Nat) (j : Nat), j ≤ D.length → (∀ q, q < j → ¬ rk v < rk (D.getD q 0)) → (j < D.length → rk v < rk (D.getD j 0)) → insF rk v D = D.take j ++ v :: D.drop j
  | [], j, hj, _, _ => by
    obtain rfl : j = 0 := by simpa using hj
    rfl
  | x :: D, 0, _, _, h2 => by
    unfold insF
    rw [if_pos (by simpa using h2 (by simp))]
    rfl
  | x :: D, j + 1, hj, h1, h2 => by
    unfold insF
    rw [if_neg (by simpa using h1 0 (by omega))]
    rw [insF_at v D j (by simpa using hj) (fun q hq => by simpa using h1 (q + 1) (by omega)) (fun h => by simpa using h2 (by simpa using h))]
    rfl
theorem sortF_more {rk : Nat → Int} (L : List Nat) (v : Nat) : sortF rk (L ++ [v]) = insF rk v (sortF rk L) := by simp [sortF]
theorem sortF_len {rk : Nat → Int} (L : List Nat) : (sortF rk L).length = L.length := by
  have := (sortF_spec (rk := rk) L [] List.Pairwise.nil).2.length_eq
  simpa [sortF] using this
theorem own_sl {w : World} {B n : Nat} {v : Value} {L : List Nat} (h : w.ownsRow B 22 1 v n (Fs L)) : ∃ A c, v = .slice A n c ∧ n ≤ c ∧ c ≤ maxLen ∧ Reads w w.heap.size 1 A n (Fs L) := by
  have h' := h
  rcases h.2 with ⟨rfl, hx⟩ | ⟨g, cap, cur, rfl, _, _, h1, h2, _⟩
  · have hn : n = 0 := by have := h.1; rw [hx] at this; simp at this; omega
    subst hn
    exact ⟨none, 0, rfl, Nat.le_refl _, by simp [maxLen], Reads.of_own h'⟩
  · exact ⟨_, cap, rfl, h1, h2, Reads.of_own h'⟩
theorem own_ge {w : World} {B n : Nat} {e : TypeId} {size : Nat} {v : Value} {xs : List Value} (h : w.ownsRow B e size v n xs) : ∀ g, v.ownBlock = some g → B ≤ g := by
  rcases h.2 with ⟨rfl, _⟩ | ⟨g', cap, cur, rfl, hb, _⟩
  · intro g hg; simp [Value.ownBlock] at hg
  · intro g hg
    have : g' = g := by simpa [Value.ownBlock] using hg
    omega
theorem own_same {w w' : World} {B n : Nat} {e : TypeId} {size : Nat} {v : Value} {xs : List Value} (h : w.ownsRow B e size v n xs) (hb : Below w.heap.size w w') : w'.ownsRow B e size v n xs :=
  own_kp h (Kp.of_below (own := fun _ => False) hb) (fun _ _ h => h)
theorem add_one {i n : Nat} (h : i + 1 ≤ n) : i < n := h
set_option maxRecDepth 100000 in
set_option maxHeartbeats 2000000 in
theorem rsort_any (A : Option Addr) (n c : Nat) (L : List Nat) (hn : n ≤ 1000) (w : World) (hr : Reads w w.heap.size 1 A n (Fs L)) :
    Calls Try.prog 24 #[.slice A n c] w (OwnF w n (sortF Fl.rank L)) := by
  obtain ⟨i0, hi0, hz0, hz1, hz2⟩ := info_parts infoF
  have hlen := f_len hr
  have HR := Lib.hid hr
  have HE := Lib.hid (own_empty w w.heap.size 22 1 (Nat.le_refl _))
  have HBE := Lib.hid ((Below.refl w.heap.size w).alloc (Nat.le_refl _) (.cells #[] 22))
  clear hr
  go_enter Try.func24, Try.ntmps24
  go_wp2_with fail
  go_loopw [3, 11] (fun v3 v11 wr => ∃ i : Nat, i ≤ n ∧ v11 = .int .i64 i ∧ wr.ownsRow w.heap.size 22 1 v3 i (Fs (sortF Fl.rank (L.take i))) ∧ Below w.heap.size w wr) (fun _ v11 _ => n - (intOf v11).toNat)
  case atStart => exact ⟨0, Nat.zero_le _, rfl, HE.out, HBE.out⟩
  case round =>
    obtain ⟨i, hi, rfl, hown, hb⟩ := hrel
    obtain ⟨A3, c3, rfl, hc3, hm3, hr3⟩ := own_sl hown
    have HOWN := Lib.hid hown
    have HB := Lib.hid hb
    by_cases hlt : i < n
    · have d0 : decide ((i : Int) < n) = true := decide_eq_true (by omega)
      obtain ⟨a1, rfl, hb1, hc1⟩ := f_at (HR.out.below hb) hlt
      obtain ⟨f, hf⟩ : ∃ x, L.getD i 0 = x := ⟨_, rfl⟩
      rw [hf] at hc1
      have HF := Lib.hid hf
      obtain ⟨D, hD⟩ : ∃ D, sortF Fl.rank (L.take i) = D := ⟨_, rfl⟩
      rw [hD] at hr3 HOWN
      have hDl : D.length = i := by rw [← hD, sortF_len, List.length_take]; omega
      have HD := Lib.hid hD
      have HR3 := Lib.hid hr3
      clear hown hb hr3 hD hf hb1
      go_wp2_with fail
      go_loopw [6] (fun v6 wq => ∃ j : Nat, j ≤ i ∧ v6 = .int .i64 j ∧ (∀ q, q < j → Fl.rank (D.getD q 0) ≤ Fl.rank f) ∧ wq = wr) (fun v6 _ => i - (intOf v6).toNat)
      case atStart => exact ⟨0, Nat.zero_le _, rfl, fun q hq => absurd hq (by omega), rfl⟩
      case round =>
        obtain ⟨j, hj, rfl, hall, rfl⟩ := hrel
        have HALL := Lib.hid hall
        clear hall
        have hcase : (j < i ∧ Fl.rank (D.getD j 0) ≤ Fl.rank f) ∨ (j < i ∧ Fl.rank f < Fl.rank (D.getD j 0)) ∨ i = j := by omega
        rcases hcase with ⟨hji, hah⟩ | hstop
        · have d1 : decide ((j : Int) < i) = true := decide_eq_true (by omega)
          obtain ⟨a3, rfl, hb3, hc3'⟩ := f_at HR3.out hji
          obtain ⟨x, hx⟩ : ∃ x, D.getD j 0 = x := ⟨_, rfl⟩
          rw [hx] at hc3' hah
          have HX := Lib.hid hx
          have hA : Hid (Fl.ahead f x = false) := decide_eq_false (by omega)
          have HN := Lib.hid hah
          clear hah hx hb3
          go_wp2_with fail
          refine (OrderRef.ahead_ f x _).mono ?_
          rintro e w' ⟨rfl, rfl⟩
          rw [hA.out]
          go_wp2_with fail
          refine ⟨⟨j + 1, by omega, rfl, fun q hq => ?_, by first | trivial | rfl⟩, by simp only [intOf]; omega⟩
          rcases Nat.lt_or_eq_of_le (Nat.le_of_lt_succ hq) with h | h
          · exact HALL.out q h
          · rw [h, HX.out]; exact HN.out
        · have HINS : Hid (insF Fl.rank f D = D.take j ++ f :: D.drop j) := insF_at f D j (by omega) (fun q hq => by have := HALL.out q hq; omega) (fun h => by
            rcases hstop with ⟨_, h2⟩ | h2
            · exact h2
            · omega)
          have hT : Hid (sortF Fl.rank (L.take (i + 1)) = D.take j ++ f :: D.drop j) := by
            have e1 : L.take (i + 1) = L.take i ++ [f] := by
              have hl : i < L.length := by omega
              rw [List.take_succ_eq_append_getElem hl, ← HF.out, List.getD_eq_getElem?_getD, List.getElem?_eq_getElem hl]
              rfl
            unfold Hid
            rw [e1, sortF_more, HD.out, HINS.out]
          have HEN : Hid (∀ (w3 : World) (v3 : Value), w3.ownsRow wr.heap.size 22 1 v3 (j + 1 + (i - j)) (Fs (D.take j) ++ (Fs [f] ++ Fs (D.drop j))) → w3.ownsRow wr.heap.size 22 1 v3 (i + 1) (Fs (sortF Fl.rank (L.take (i + 1))))) := fun w3 v3 h => by
            have e : Fs (D.take j) ++ (Fs [f] ++ Fs (D.drop j)) = Fs (sortF Fl.rank (L.take (i + 1))) := by rw [hT.out]; simp [Fs]
            rwa [e, show j + 1 + (i - j) = i + 1 by omega] at h
          have HCUT := Lib.hid (run_upto A3 i c3 j (by omega))
          have HCUT2 := Lib.hid (run_from A3 i c3 j hj)
          have HE1 := Lib.hid (own_empty wr wr.heap.size 22 1 (Nat.le_refl _))
          have HR1 := Lib.hid ((f_take HR3.out hj).alloc (Nat.le_refl _) (.cells #[] 22))
          have HB1 := Lib.hid ((Below.refl wr.heap.size wr).alloc (Nat.le_refl _) (.cells #[] 22))
          have HRD := Lib.hid (f_drop HR3.out hj hc3)
          rcases hstop with ⟨hji, hah⟩ | rfl
          case' inl =>
            have d1 : decide ((j : Int) < i) = true := decide_eq_true (by omega)
            obtain ⟨a3, hA3, hb3, hc3'⟩ := f_at HR3.out hji
            subst hA3
            obtain ⟨x, hx⟩ : ∃ x, D.getD j 0 = x := ⟨_, rfl⟩
            rw [hx] at hc3' hah
            have hA : Hid (Fl.ahead f x = true) := decide_eq_true hah
            clear hah hx hb3
            go_wp2_with fail
            refine (OrderRef.ahead_ f x _).mono ?_
            rintro e w' ⟨rfl, rfl⟩
            rw [hA.out]
            clear hc3' d1
          case' inr =>
            have d1 : decide ((i : Int) < i) = false := decide_eq_false (by omega)
            simp only [Nat.sub_self, Nat.add_zero] at HCUT2 HRD HEN
          all_goals
            have hcut := HCUT.out
            have hcut2 := HCUT2.out
            go_wp2_with (first
              | (at_builtin; refine wpList_append_any _ rfl _ _ 29 rfl _ 22 i0 (.float .f64 0) 1 8 Try.underlying29 hi0 hz0 hz1 hz2 rfl (by decide) _ _ _ rfl HE1.out _ _ _ _ _ rfl HR1.out (one_fs _) ?c3 ?c4 ?c5 ?_)
              | go_in)
            case c3 => simp [maxLen]; omega
            case c4 => omega
            case c5 => simp
            intro v1 w1 ho1 hg1 _
            have hb1 : Below wr.heap.size wr w1 := HB1.out.grown hg1 (by simp) (fun g hg => Nat.le_of_eq (Option.some.inj (show some wr.heap.size = some g from hg)))
            have ho1' := own_same ho1 ((Below.refl _ _).alloc (Nat.le_refl _) (.cells #[.float .f64 f] 22))
            have hb1' := hb1.alloc hb1.size (.cells #[.float .f64 f] 22)
            have hRf : Reads (w1.alloc (.cells #[.float .f64 f] 22)) (w1.alloc (.cells #[.float .f64 f] 22)).heap.size 1 (some ⟨w1.heap.size, 0, none⟩) 1 (Fs [f]) := Reads.of_blk (Blk.new w1 22 #[.float .f64 f]) rfl
            have hs1 : wr.heap.size ≤ (w1.alloc (.cells #[.float .f64 f] 22)).heap.size := by have := hb1.size; simp; omega
            have HO1 := Lib.hid ho1'
            have HB1' := Lib.hid hb1'
            have HRF := Lib.hid hRf
            have HS1 := Lib.hid hs1
            clear ho1 hg1 hb1 ho1' hb1' hRf hs1
            go_wp2_with (first
              | (at_builtin; refine wpList_append_any _ rfl _ _ 29 rfl _ 22 i0 (.float .f64 0) 1 8 Try.underlying29 hi0 hz0 hz1 hz2 rfl (by decide) _ _ _ rfl HO1.out _ _ _ _ _ rfl HRF.out (one_fs _) ?c3 ?c4 ?c5 ?_)
              | go_in)
            case c3 => simp [maxLen]; omega
            case c4 => omega
            case c5 => exact HS1.out
            intro v2 w2 ho2 hg2 _
            have hb2 : Below wr.heap.size wr w2 := HB1'.out.grown hg2 HS1.out (own_ge HO1.out)
            have hs2 := hb2.size
            have HO2 := Lib.hid ho2
            have HB2 := Lib.hid hb2
            have HS2 := Lib.hid hs2
            have HRD2 := Lib.hid (HRD.out.below hb2)
            clear ho2 hg2 hb2 hs2
            go_wp2_with (first
              | (at_builtin; refine wpList_append_any _ rfl _ _ 29 rfl _ 22 i0 (.float .f64 0) 1 8 Try.underlying29 hi0 hz0 hz1 hz2 rfl (by decide) _ _ _ rfl HO2.out _ _ _ _ _ rfl HRD2.out (one_fs _) ?c3 ?c4 ?c5 ?_)
              | go_in)
            case c3 => simp [maxLen]; omega
            case c4 => omega
            case c5 => exact HS2.out
            intro v3 w3 ho3 hg3 _
            have hb3 : Below wr.heap.size wr w3 := HB2.out.grown hg3 HS2.out (own_ge HO2.out)
            have ho3' := HEN.out _ _ ho3
            have HO3 := Lib.hid (own_lower ho3' HB.out.size)
            have HB3 := Lib.hid (bthen HB.out hb3)
            clear ho3 ho3' hg3 hb3 hcut hcut2
            go_wp2_with fail
            exact ⟨⟨i + 1, by omega, rfl, HO3.out, HB3.out⟩, by simp only [intOf]; omega⟩
    · have d0 : decide ((i : Int) < n) = false := decide_eq_false (by omega)
      obtain rfl : i = n := by omega
      rw [List.take_of_length_le (Nat.le_of_eq hlen)] at HOWN
      clear hb hown hr3
      go_wp2_with fail
      go_ret
      exact ⟨_, rfl, HOWN.out, HB.out⟩
end Sorts
end Go.Proofs.Ytkjhacbkgnjilaa
