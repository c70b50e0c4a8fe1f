/-
  The walk of OrderIs.
-/
import Derived.Test.YtkjhacbkgnjilaaOrderShare
namespace Go.Proofs.Ytkjhacbkgnjilaa
open Go.RowKit
attribute [local go_sem] Fl.order_lt Fl.order_gt Fl.order_is Fl.order_ne
namespace Fl
theorem cls_rank {a b : Nat} (h : rank a = rank b) : cls a = cls b := by
  have h1 : ahead a b = false := by simp [ahead, h]
  have h2 : ahead b a = false := by simp [ahead, h]
  rw [ahead_eq] at h1 h2
  simp at h1 h2
  omega
theorem cls_lt {a b : Nat} (h : rank a < rank b) : cls a ≤ cls b := by
  have h1 : ahead b a = false := by simp [ahead]; omega
  rw [ahead_eq] at h1
  simp at h1
  omega
theorem nan_rank (a : Nat) : nan a = decide (rank a = 100000000000000000000) := by
  cases h : nan a
  · have := key_bd h
    rw [eq_comm, decide_eq_false_iff_not, rank, h]
    simp
    repeat' split
    all_goals omega
  · simp [rank, h]
theorem rank_top (a : Nat) : rank a ≤ 100000000000000000000 := by
  cases h : nan a
  · have := key_bd h
    rw [rank, h]
    simp
    repeat' split
    all_goals omega
  · simp [rank, h]
theorem lt_ahead {a b : Nat} (h : lt a b = true) : ahead a b = true := by
  simp [lt] at h
  obtain ⟨⟨h1, h2⟩, h3⟩ := h
  simp only [ahead, rank, h1, h2, decide_eq_true_eq, Bool.false_eq_true, if_false]
  repeat' split
  all_goals omega
/-- The seven classes, told apart. -/
theorem cls_cases (a : Nat) : (cls a = 6 ∧ eq a a = false) ∨ (cls a = 1 ∧ eq a a = true ∧ lt a 0 = true) ∨ (cls a = 4 ∧ eq a a = true ∧ lt 0 a = true) ∨ (cls a ≠ 6 ∧ cls a ≠ 1 ∧ cls a ≠ 4 ∧ eq a a = true) := by
  rw [eq_self]
  cases h : nan a
  · rw [lt_zero h, zero_lt h]
    simp only [cls, h, Bool.false_eq_true, if_false]
    repeat' split
    all_goals simp_all
  · left; simp [cls, h]
end Fl
namespace orderIs
set_option maxHeartbeats 8000000 in
theorem walk (a b c : Nat) (w : World) (wa : (Lit.float .f64 a).wf = true) (wb : (Lit.float .f64 b).wf = true) (wc : (Lit.float .f64 c).wf = true) :
    Calls Try.prog 4 #[.float .f64 a, .float .f64 b, .float .f64 c] w fun e w' => e = .returned (.bool true) ∧ Below w.heap.size w w' := by
  have la := Lib.hid (Fl.wf_lt wa)
  have lb := Lib.hid (Fl.wf_lt wb)
  have lc := Lib.hid (Fl.wf_lt wc)
  have haa : Hid (Fl.ahead a a = false) := by unfold Hid; simp [Fl.ahead]
  have hall : Hid ((Fl.ahead a b = true ∧ Fl.ahead b a = false ∧ Fl.cls a ≤ Fl.cls b ∧ Fl.cls a ≠ 6 ∧ (Fl.ahead b c = true → Fl.ahead a c = true)) ∨
      (Fl.ahead a b = false ∧ Fl.ahead b a = true ∧ Fl.lt a b = false ∧ Fl.cls b ≤ Fl.cls a) ∨
      (Fl.ahead a b = false ∧ Fl.ahead b a = false ∧ Fl.lt a b = false ∧ Fl.cls a = Fl.cls b)) := by
    unfold Hid
    rcases Int.lt_trichotomy (Fl.rank a) (Fl.rank b) with h | h | h
    · left
      refine ⟨by simp [Fl.ahead, h], by simp [Fl.ahead]; omega, Fl.cls_lt h, fun h6 => ?_, fun h2 => ?_⟩
      · have hn : Fl.nan a = true := by
          cases hn : Fl.nan a
          · exfalso
            rcases Fl.cls_cases a with ⟨_, k⟩ | ⟨k, _⟩ | ⟨k, _⟩ | ⟨k, _⟩
            · rw [Fl.eq_self, hn] at k; cases k
            all_goals omega
          · rfl
        rw [Fl.nan_rank] at hn
        have := Fl.rank_top b
        simp at hn
        omega
      · simp [Fl.ahead] at h2 ⊢
        omega
    · right; right
      have h1 : Fl.ahead a b = false := by simp [Fl.ahead, h]
      refine ⟨h1, by simp [Fl.ahead, h], ?_, Fl.cls_rank h⟩
      cases hl : Fl.lt a b
      · rfl
      · rw [Fl.lt_ahead hl] at h1; cases h1
    · right; left
      have h1 : Fl.ahead a b = false := by simp [Fl.ahead]; omega
      refine ⟨h1, by simp [Fl.ahead, h], ?_, Fl.cls_lt h⟩
      cases hl : Fl.lt a b
      · rfl
      · rw [Fl.lt_ahead hl] at h1; cases h1
  have hbd := Fl.cls_bd a
  obtain ⟨AB, hAB⟩ : ∃ x, Fl.ahead a b = x := ⟨_, rfl⟩
  obtain ⟨BA, hBA⟩ : ∃ x, Fl.ahead b a = x := ⟨_, rfl⟩
  obtain ⟨BC, hBC⟩ : ∃ x, Fl.ahead b c = x := ⟨_, rfl⟩
  obtain ⟨AC, hAC⟩ : ∃ x, Fl.ahead a c = x := ⟨_, rfl⟩
  obtain ⟨x, hx⟩ : ∃ x, Fl.cls a = x := ⟨_, rfl⟩
  obtain ⟨y, hy⟩ : ∃ x, Fl.cls b = x := ⟨_, rfl⟩
  have hcs := Lib.hid (Fl.cls_cases a)
  rw [hx, hy, hAB, hBA, hBC, hAC] at hall
  rw [hx] at hcs hbd
  have HX := Lib.hid hx
  have HY := Lib.hid hy
  have HAB := Lib.hid hAB
  have HBA := Lib.hid hBA
  have HBC := Lib.hid hBC
  have HAC := Lib.hid hAC
  clear hx hy hAB hBA hBC hAC wa wb wc
  go_enter Try.func4, Try.ntmps4
  go_wp2_with fail
  refine (Order.ahead_ a b la.out lb.out _).mono ?_
  rintro e w1 ⟨rfl, rfl⟩
  rw [HAB.out]
  go_wp2_with fail
  refine (Order.ahead_ b a lb.out la.out _).mono ?_
  rintro e w1 ⟨rfl, rfl⟩
  rw [HBA.out]
  go_wp2_with fail
  refine (Order.ahead_ b c lb.out lc.out _).mono ?_
  rintro e w1 ⟨rfl, rfl⟩
  rw [HBC.out]
  go_wp2_with fail
  refine (Order.ahead_ a c la.out lc.out _).mono ?_
  rintro e w1 ⟨rfl, rfl⟩
  rw [HAC.out]
  go_wp2_with fail
  refine (Order.class_ a la.out _).mono ?_
  rintro e w1 ⟨rfl, rfl⟩
  rw [HX.out]
  go_wp2_with fail
  refine (Order.class_ b lb.out _).mono ?_
  rintro e w1 ⟨rfl, rfl⟩
  rw [HY.out]
  clear HX HY HAB HBA HBC HAC
  obtain ⟨hb0, hb6⟩ := hbd
  rcases hall.out with ⟨rfl, rfl, hxy, h6, hac⟩ | ⟨rfl, rfl, hl, hyx⟩ | ⟨rfl, rfl, hl, rfl⟩
  · have hq : (BC = true ∧ AC = true) ∨ BC = false := by cases BC <;> cases AC <;> simp_all
    clear hall hac
    have hcs2 := hcs.out.resolve_left (fun h => h6 h.1)
    clear hcs
    rcases hq with ⟨rfl, rfl⟩ | rfl
    all_goals
      go_wp2_with fail
      refine (Order.ahead_ a a la.out la.out _).mono ?_
      rintro e w1 ⟨rfl, rfl⟩
      rw [haa.out]
      go_wp2_with fail
      refine (Order.alive _).mono ?_
      rintro e w1 ⟨rfl, hb1⟩
      rcases hcs2 with ⟨rfl, h1, h2⟩ | ⟨rfl, h1, h2⟩ | ⟨k6, k1, k4, h1⟩
      all_goals
        cases he : Fl.eq b b
        · go_wp2_with fail
          go_ret
          first | exact ⟨rfl, hb1⟩ | exact ⟨ret_bool (by simp [k6]), hb1⟩
        · cases hl : Fl.lt a b
          all_goals
            go_wp2_with fail
            go_ret
            first | exact ⟨rfl, hb1⟩ | exact ⟨ret_bool (by simp [k6]), hb1⟩
  · clear hall
    go_wp2_with fail
    refine (Order.ahead_ a a la.out la.out _).mono ?_
    rintro e w1 ⟨rfl, rfl⟩
    rw [haa.out]
    go_wp2_with fail
    refine (Order.alive _).mono ?_
    rintro e w1 ⟨rfl, hb1⟩
    rcases hcs.out with ⟨rfl, h1⟩ | ⟨rfl, h1, h2⟩ | ⟨rfl, h1, h2⟩ | ⟨k6, k1, k4, h1⟩
    all_goals
      cases he : Fl.eq b b
      all_goals
        go_wp2_with fail
        go_ret
        first | exact ⟨rfl, hb1⟩ | exact ⟨ret_bool (by simp [k6]), hb1⟩
  · clear hall
    go_wp2_with fail
    refine (Order.ahead_ a a la.out la.out _).mono ?_
    rintro e w1 ⟨rfl, rfl⟩
    rw [haa.out]
    go_wp2_with fail
    refine (Order.alive _).mono ?_
    rintro e w1 ⟨rfl, hb1⟩
    rcases hcs.out with ⟨rfl, h1⟩ | ⟨rfl, h1, h2⟩ | ⟨rfl, h1, h2⟩ | ⟨k6, k1, k4, h1⟩
    all_goals
      cases he : Fl.eq b b
      all_goals
        go_wp2_with fail
        go_ret
        first | exact ⟨rfl, hb1⟩ | exact ⟨ret_bool (by simp [k6]), hb1⟩
end orderIs
end Go.Proofs.Ytkjhacbkgnjilaa
