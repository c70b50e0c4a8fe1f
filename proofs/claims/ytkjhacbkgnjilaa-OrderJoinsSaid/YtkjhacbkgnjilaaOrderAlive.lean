/-
  law05's alive.
-/
import Derived.Test.YtkjhacbkgnjilaaOrderRef
import Derived.Test.YtkjhacbkgnjilaaOrderShare
namespace Go.Proofs.Ytkjhacbkgnjilaa
open Go.RowKit
namespace Order
theorem alive (w : World) : Calls Try.prog 15 #[] w fun e w' => e = .returned (.bool true) ∧ Below w.heap.size w w' := by
  have h1 : floatBits .quo .f64 (floatOfInt .f64 0) (floatOfInt .f64 (-3)) = some 9223372036854775808 := by decide +kernel
  have h2 : floatBits .quo .f64 (floatOfInt .f64 (-1)) (floatOfInt .f64 0) = some 18442240474082181120 := by decide +kernel
  have c1 : Fl.cls 9223372036854775808 = 2 := by decide
  have c2 : Fl.cls 18442240474082181120 = 0 := by decide
  have H1 := Lib.hid h1
  have H2 := Lib.hid h2
  have C1 := Lib.hid c1
  have C2 := Lib.hid c2
  clear h1 h2 c1 c2
  go_enter Try.func15, Try.ntmps15
  go_wp2_with fail
  refine (share 0 (-3) _).mono ?_
  rintro e w1 ⟨⟨r, rfl, hr⟩, hb1⟩
  rw [hr.2.1 _ H1.out]
  clear hr
  go_wp2_with fail
  refine (class_ _ (by omega) _).mono ?_
  rintro e w2 ⟨rfl, rfl⟩
  rw [C1.out]
  go_wp2_with fail
  refine (share (-1) 0 _).mono ?_
  rintro e w2 ⟨⟨r, rfl, hr⟩, hb2⟩
  rw [hr.2.1 _ H2.out]
  clear hr
  go_wp2_with fail
  refine (class_ _ (by omega) _).mono ?_
  rintro e w3 ⟨rfl, rfl⟩
  rw [C2.out]
  go_wp2_with fail
  go_ret
  exact ⟨rfl, bthen hb1 hb2⟩
end Order
end Go.Proofs.Ytkjhacbkgnjilaa
