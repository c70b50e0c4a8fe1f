/-
  No cell of these rows narrows 'for every input' (looked for: loops, veiled, ifaces, maps, wideKeys, modest, calm, conditions, laid).
  DERIVED. THE GIVEN ROWS OF THIS SEAT. 10 by the template 'for every input the law returns true; each argument reads behind the call as it read before'; 0 by the template 'total and deterministic' (their statements: YtkjhacbkgnjilaaTotals.lean).
  GIVEN WITH THE SEED: the statements are not yours to turn. If you find one false, say at which input.
  Laid BY PROGRAM, IN A SANDBOX (cutbox-rows.mjs): the forced cells as the released guide's own fill.sh prints them over the translation 1df3e9b92648cc44… (all of the seat's roots in one cut). By AI agents, Wed Nov 11 2026. No macro, syntax, notation, axiom, sorry.
-/
import Derived.Test.YtkjhacbkgnjilaaChecked
import GoSem.Claim
import GoSem.ClaimJoined
import GoSem.ClaimMapViews
import Derived.JoinedTies
import Derived.KernelRfl
namespace Go.Proofs.Ytkjhacbkgnjilaa
/- THE CELL 'sum', in the pinned program and in every row, IS THE sha256 OF THE DUMP (.gsa) THAT YtkjhacbkgnjilaaProg.lean LOADS. Nothing in Lean hashes anything: it is a label: what it is worth is what the hold of that sum in a sandbox is worth. -/
noncomputable def Try.pinned : Pinned := { name := "ytkjhacbkgnjilaa", sum := "1df3e9b92648cc447a810ff456d56e4b1e77ff548ef0f3d69b7f677459ebaa3d", checked := Try.checked }
namespace Rows
def none {H : Type} : Left H := { results := [], args := [] }

/-- 'deadboltlaw05.OrderShares': WHATEVER THE INPUT: true; the input reads as it did. -/
def orderSharesSpec : ChangeSpec := { name := "orderShares", fn := fun _ => fun
  | [d1, d2] => { results := [.lit (.bool true)], args := [d1, d2] }
  | _ => none }
def orderSharesRow : OpenClaim := { program := "ytkjhacbkgnjilaa", sum := "1df3e9b92648cc447a810ff456d56e4b1e77ff548ef0f3d69b7f677459ebaa3d", func := "deadbolt/deadboltlaw05.OrderShares", spec := "orderShares", inPlace := ["math.Float64bits", "math.Float64frombits"], apart := false }
def OrderSharesSaid : Prop := orderSharesRow.holds Try.pinned (OpenSpec.ofChange orderSharesSpec)

/-- ITS FALSE NEIGHBOUR: 'it returns false'. Refute it at one input. -/
def orderSharesWrong : ChangeSpec := { name := "orderShares", fn := fun _ => fun
  | [d1, d2] => { results := [.lit (.bool false)], args := [d1, d2] }
  | _ => none }
def OrderSharesWrongFalsely : Prop := orderSharesRow.holds Try.pinned (OpenSpec.ofChange orderSharesWrong)

/-- 'deadboltlaw05.OrderIs': WHATEVER THE INPUT: true; the input reads as it did. -/
def orderIsSpec : ChangeSpec := { name := "orderIs", fn := fun _ => fun
  | [d1, d2, d3] => { results := [.lit (.bool true)], args := [d1, d2, d3] }
  | _ => none }
def orderIsRow : OpenClaim := { program := "ytkjhacbkgnjilaa", sum := "1df3e9b92648cc447a810ff456d56e4b1e77ff548ef0f3d69b7f677459ebaa3d", func := "deadbolt/deadboltlaw05.OrderIs", spec := "orderIs", inPlace := ["math.Float64bits", "math.Float64frombits"], apart := false }
def OrderIsSaid : Prop := orderIsRow.holds Try.pinned (OpenSpec.ofChange orderIsSpec)

/-- ITS FALSE NEIGHBOUR: 'it returns false'. Refute it at one input. -/
def orderIsWrong : ChangeSpec := { name := "orderIs", fn := fun _ => fun
  | [d1, d2, d3] => { results := [.lit (.bool false)], args := [d1, d2, d3] }
  | _ => none }
def OrderIsWrongFalsely : Prop := orderIsRow.holds Try.pinned (OpenSpec.ofChange orderIsWrong)

/-- 'deadboltlaw05.OrderTells': WHATEVER THE INPUT: true; the input reads as it did. -/
def orderTellsSpec : ChangeSpec := { name := "orderTells", fn := fun _ => fun
  | [d1, d2, d3, d4, d5] => { results := [.lit (.bool true)], args := [d1, d2, d3, d4, d5] }
  | _ => none }
def orderTellsRow : OpenClaim := { program := "ytkjhacbkgnjilaa", sum := "1df3e9b92648cc447a810ff456d56e4b1e77ff548ef0f3d69b7f677459ebaa3d", func := "deadbolt/deadboltlaw05.OrderTells", spec := "orderTells", inPlace := ["math.Float64bits", "math.Float64frombits"], unfollowed := true, recurses := true, apart := false }
def OrderTellsSaid : Prop := orderTellsRow.holds Try.pinned (OpenSpec.ofChange orderTellsSpec)

/-- ITS FALSE NEIGHBOUR: 'it returns false'. Refute it at one input. -/
def orderTellsWrong : ChangeSpec := { name := "orderTells", fn := fun _ => fun
  | [d1, d2, d3, d4, d5] => { results := [.lit (.bool false)], args := [d1, d2, d3, d4, d5] }
  | _ => none }
def OrderTellsWrongFalsely : Prop := orderTellsRow.holds Try.pinned (OpenSpec.ofChange orderTellsWrong)

/-- 'deadboltlaw05.OrderSorts': WHATEVER THE INPUT: true; the input reads as it did. -/
def orderSortsSpec : ChangeSpec := { name := "orderSorts", fn := fun _ => fun
  | [d1, d2] => { results := [.lit (.bool true)], args := [d1, d2] }
  | _ => none }
def orderSortsRow : OpenClaim := { program := "ytkjhacbkgnjilaa", sum := "1df3e9b92648cc447a810ff456d56e4b1e77ff548ef0f3d69b7f677459ebaa3d", func := "deadbolt/deadboltlaw05.OrderSorts", spec := "orderSorts", inPlace := ["math.Float64bits", "math.Float64frombits"], unfollowed := true, recurses := true, apart := false }
def OrderSortsSaid : Prop := orderSortsRow.holds Try.pinned (OpenSpec.ofChange orderSortsSpec)

/-- ITS FALSE NEIGHBOUR: 'it returns false'. Refute it at one input. -/
def orderSortsWrong : ChangeSpec := { name := "orderSorts", fn := fun _ => fun
  | [d1, d2] => { results := [.lit (.bool false)], args := [d1, d2] }
  | _ => none }
def OrderSortsWrongFalsely : Prop := orderSortsRow.holds Try.pinned (OpenSpec.ofChange orderSortsWrong)

/-- 'deadboltlaw05.OrderJoins': WHATEVER THE INPUT: true; the input reads as it did. -/
def orderJoinsSpec : ChangeSpec := { name := "orderJoins", fn := fun _ => fun
  | [d1, d2, d3] => { results := [.lit (.bool true)], args := [d1, d2, d3] }
  | _ => none }
def orderJoinsRow : OpenClaim := { program := "ytkjhacbkgnjilaa", sum := "1df3e9b92648cc447a810ff456d56e4b1e77ff548ef0f3d69b7f677459ebaa3d", func := "deadbolt/deadboltlaw05.OrderJoins", spec := "orderJoins", inPlace := ["math.Float64bits", "math.Float64frombits"], unfollowed := true, recurses := true, apart := false }
def OrderJoinsSaid : Prop := orderJoinsRow.holds Try.pinned (OpenSpec.ofChange orderJoinsSpec)

/-- ITS FALSE NEIGHBOUR: 'it returns false'. Refute it at one input. -/
def orderJoinsWrong : ChangeSpec := { name := "orderJoins", fn := fun _ => fun
  | [d1, d2, d3] => { results := [.lit (.bool false)], args := [d1, d2, d3] }
  | _ => none }
def OrderJoinsWrongFalsely : Prop := orderJoinsRow.holds Try.pinned (OpenSpec.ofChange orderJoinsWrong)

/-- 'deadboltlaw14.GrabWants': WHATEVER THE INPUT: true; the input reads as it did. -/
def grabWantsSpec : ChangeSpec := { name := "grabWants", fn := fun _ => fun
  | [d] => { results := [.lit (.bool true)], args := [d] }
  | _ => none }
def grabWantsRow : OpenClaim := { program := "ytkjhacbkgnjilaa", sum := "1df3e9b92648cc447a810ff456d56e4b1e77ff548ef0f3d69b7f677459ebaa3d", func := "deadbolt/deadboltlaw14.GrabWants", spec := "grabWants", unfollowed := true, recurses := true, apart := false }
def GrabWantsSaid : Prop := grabWantsRow.holds Try.pinned (OpenSpec.ofChange grabWantsSpec)

/-- ITS FALSE NEIGHBOUR: 'it returns false'. Refute it at one input. -/
def grabWantsWrong : ChangeSpec := { name := "grabWants", fn := fun _ => fun
  | [d] => { results := [.lit (.bool false)], args := [d] }
  | _ => none }
def GrabWantsWrongFalsely : Prop := grabWantsRow.holds Try.pinned (OpenSpec.ofChange grabWantsWrong)

/-- 'deadboltlaw14.GrabHanded': WHATEVER THE INPUT: true; the input reads as it did. -/
def grabHandedSpec : ChangeSpec := { name := "grabHanded", fn := fun _ => fun
  | [d] => { results := [.lit (.bool true)], args := [d] }
  | _ => none }
def grabHandedRow : OpenClaim := { program := "ytkjhacbkgnjilaa", sum := "1df3e9b92648cc447a810ff456d56e4b1e77ff548ef0f3d69b7f677459ebaa3d", func := "deadbolt/deadboltlaw14.GrabHanded", spec := "grabHanded", unfollowed := true, recurses := true, apart := false }
def GrabHandedSaid : Prop := grabHandedRow.holds Try.pinned (OpenSpec.ofChange grabHandedSpec)

/-- ITS FALSE NEIGHBOUR: 'it returns false'. Refute it at one input. -/
def grabHandedWrong : ChangeSpec := { name := "grabHanded", fn := fun _ => fun
  | [d] => { results := [.lit (.bool false)], args := [d] }
  | _ => none }
def GrabHandedWrongFalsely : Prop := grabHandedRow.holds Try.pinned (OpenSpec.ofChange grabHandedWrong)

/-- 'deadboltlaw14.GrabSees': WHATEVER THE INPUT: true; the input reads as it did. -/
def grabSeesSpec : ChangeSpec := { name := "grabSees", fn := fun _ => fun
  | [d1, d2] => { results := [.lit (.bool true)], args := [d1, d2] }
  | _ => none }
def grabSeesRow : OpenClaim := { program := "ytkjhacbkgnjilaa", sum := "1df3e9b92648cc447a810ff456d56e4b1e77ff548ef0f3d69b7f677459ebaa3d", func := "deadbolt/deadboltlaw14.GrabSees", spec := "grabSees", unfollowed := true, recurses := true, apart := false }
def GrabSeesSaid : Prop := grabSeesRow.holds Try.pinned (OpenSpec.ofChange grabSeesSpec)

/-- ITS FALSE NEIGHBOUR: 'it returns false'. Refute it at one input. -/
def grabSeesWrong : ChangeSpec := { name := "grabSees", fn := fun _ => fun
  | [d1, d2] => { results := [.lit (.bool false)], args := [d1, d2] }
  | _ => none }
def GrabSeesWrongFalsely : Prop := grabSeesRow.holds Try.pinned (OpenSpec.ofChange grabSeesWrong)

/-- 'deadboltlaw14.GrabSleeps': WHATEVER THE INPUT: true; the input reads as it did. -/
def grabSleepsSpec : ChangeSpec := { name := "grabSleeps", fn := fun _ => fun
  | [d1, d2, d3] => { results := [.lit (.bool true)], args := [d1, d2, d3] }
  | _ => none }
def grabSleepsRow : OpenClaim := { program := "ytkjhacbkgnjilaa", sum := "1df3e9b92648cc447a810ff456d56e4b1e77ff548ef0f3d69b7f677459ebaa3d", func := "deadbolt/deadboltlaw14.GrabSleeps", spec := "grabSleeps", unfollowed := true, recurses := true, apart := false }
def GrabSleepsSaid : Prop := grabSleepsRow.holds Try.pinned (OpenSpec.ofChange grabSleepsSpec)

/-- ITS FALSE NEIGHBOUR: 'it returns false'. Refute it at one input. -/
def grabSleepsWrong : ChangeSpec := { name := "grabSleeps", fn := fun _ => fun
  | [d1, d2, d3] => { results := [.lit (.bool false)], args := [d1, d2, d3] }
  | _ => none }
def GrabSleepsWrongFalsely : Prop := grabSleepsRow.holds Try.pinned (OpenSpec.ofChange grabSleepsWrong)

/-- 'deadboltlaw14.GrabWaits': WHATEVER THE INPUT: true; the input reads as it did. -/
def grabWaitsSpec : ChangeSpec := { name := "grabWaits", fn := fun _ => fun
  | [d1, d2, d3, d4] => { results := [.lit (.bool true)], args := [d1, d2, d3, d4] }
  | _ => none }
def grabWaitsRow : OpenClaim := { program := "ytkjhacbkgnjilaa", sum := "1df3e9b92648cc447a810ff456d56e4b1e77ff548ef0f3d69b7f677459ebaa3d", func := "deadbolt/deadboltlaw14.GrabWaits", spec := "grabWaits", unfollowed := true, recurses := true, apart := false }
def GrabWaitsSaid : Prop := grabWaitsRow.holds Try.pinned (OpenSpec.ofChange grabWaitsSpec)

/-- ITS FALSE NEIGHBOUR: 'it returns false'. Refute it at one input. -/
def grabWaitsWrong : ChangeSpec := { name := "grabWaits", fn := fun _ => fun
  | [d1, d2, d3, d4] => { results := [.lit (.bool false)], args := [d1, d2, d3, d4] }
  | _ => none }
def GrabWaitsWrongFalsely : Prop := grabWaitsRow.holds Try.pinned (OpenSpec.ofChange grabWaitsWrong)

/- THE SECOND FORM. 'bulk': how many values and letters a reading holds, each counted each time it is reached (what is shared counts as often as it is met; a slice's spare places count too). A statement '..UptoSaid' is the law's where the arguments, and the package variables that the reading takes, are together of bulk at most 1048576: NARROWER than '..Said'. Prove '..Said' where nothing that the law and all that it calls make is longer than what came in: it says more and counts as full. Else prove '..UptoSaid'. A law counts once. -/
mutual
def uptoBulk {H : Type} : DataW H → Nat
  | .lit (.string bytes) => bytes.length + 1
  | .lit _ => 1
  | .nil => 1
  | .ptr d => uptoBulk d + 1
  | .slice elems spare => uptoBulkAll elems + uptoBulkAll spare + 1
  | .agg parts => uptoBulkAll parts + 1
  | .iface _ d => uptoBulk d + 1
  | .map entries => uptoBulkEntries entries + 1
  | .held _ => 1
def uptoBulkAll {H : Type} : List (DataW H) → Nat
  | [] => 0
  | d :: r => uptoBulk d + uptoBulkAll r
def uptoBulkEntries {H : Type} : List (Lit × DataW H) → Nat
  | [] => 0
  | x :: r => uptoBulkEntry x + uptoBulkEntries r
def uptoBulkEntry {H : Type} : Lit × DataW H → Nat
  | (.string bytes, d) => bytes.length + uptoBulk d + 1
  | (_, d) => uptoBulk d + 1
 end
def uptoSmall : (H : Type) → List (DataW H) → Bool := fun _ ds => decide (uptoBulkAll ds ≤ 1048576)
def OpenSpec.upto (s : _root_.Go.ChangeSpec) : _root_.Go.OpenSpec := { _root_.Go.OpenSpec.ofChange s with cond := some uptoSmall }

/-- 'deadboltlaw05.OrderShares', WHERE WHAT IT READS IS OF BULK AT MOST 1048576: true; the input reads as it did. -/
def orderSharesUptoRow : OpenClaim := { program := "ytkjhacbkgnjilaa", sum := "1df3e9b92648cc447a810ff456d56e4b1e77ff548ef0f3d69b7f677459ebaa3d", func := "deadbolt/deadboltlaw05.OrderShares", spec := "orderShares", inPlace := ["math.Float64bits", "math.Float64frombits"], apart := false, narrowed := true }
def OrderSharesUptoSaid : Prop := orderSharesUptoRow.holds Try.pinned (OpenSpec.upto orderSharesSpec)

/-- 'deadboltlaw05.OrderIs', WHERE WHAT IT READS IS OF BULK AT MOST 1048576: true; the input reads as it did. -/
def orderIsUptoRow : OpenClaim := { program := "ytkjhacbkgnjilaa", sum := "1df3e9b92648cc447a810ff456d56e4b1e77ff548ef0f3d69b7f677459ebaa3d", func := "deadbolt/deadboltlaw05.OrderIs", spec := "orderIs", inPlace := ["math.Float64bits", "math.Float64frombits"], apart := false, narrowed := true }
def OrderIsUptoSaid : Prop := orderIsUptoRow.holds Try.pinned (OpenSpec.upto orderIsSpec)

/-- 'deadboltlaw05.OrderTells', WHERE WHAT IT READS IS OF BULK AT MOST 1048576: true; the input reads as it did. -/
def orderTellsUptoRow : OpenClaim := { program := "ytkjhacbkgnjilaa", sum := "1df3e9b92648cc447a810ff456d56e4b1e77ff548ef0f3d69b7f677459ebaa3d", func := "deadbolt/deadboltlaw05.OrderTells", spec := "orderTells", inPlace := ["math.Float64bits", "math.Float64frombits"], unfollowed := true, recurses := true, apart := false, narrowed := true }
def OrderTellsUptoSaid : Prop := orderTellsUptoRow.holds Try.pinned (OpenSpec.upto orderTellsSpec)

/-- 'deadboltlaw05.OrderSorts', WHERE WHAT IT READS IS OF BULK AT MOST 1048576: true; the input reads as it did. -/
def orderSortsUptoRow : OpenClaim := { program := "ytkjhacbkgnjilaa", sum := "1df3e9b92648cc447a810ff456d56e4b1e77ff548ef0f3d69b7f677459ebaa3d", func := "deadbolt/deadboltlaw05.OrderSorts", spec := "orderSorts", inPlace := ["math.Float64bits", "math.Float64frombits"], unfollowed := true, recurses := true, apart := false, narrowed := true }
def OrderSortsUptoSaid : Prop := orderSortsUptoRow.holds Try.pinned (OpenSpec.upto orderSortsSpec)

/-- 'deadboltlaw05.OrderJoins', WHERE WHAT IT READS IS OF BULK AT MOST 1048576: true; the input reads as it did. -/
def orderJoinsUptoRow : OpenClaim := { program := "ytkjhacbkgnjilaa", sum := "1df3e9b92648cc447a810ff456d56e4b1e77ff548ef0f3d69b7f677459ebaa3d", func := "deadbolt/deadboltlaw05.OrderJoins", spec := "orderJoins", inPlace := ["math.Float64bits", "math.Float64frombits"], unfollowed := true, recurses := true, apart := false, narrowed := true }
def OrderJoinsUptoSaid : Prop := orderJoinsUptoRow.holds Try.pinned (OpenSpec.upto orderJoinsSpec)

/-- 'deadboltlaw14.GrabWants', WHERE WHAT IT READS IS OF BULK AT MOST 1048576: true; the input reads as it did. -/
def grabWantsUptoRow : OpenClaim := { program := "ytkjhacbkgnjilaa", sum := "1df3e9b92648cc447a810ff456d56e4b1e77ff548ef0f3d69b7f677459ebaa3d", func := "deadbolt/deadboltlaw14.GrabWants", spec := "grabWants", unfollowed := true, recurses := true, apart := false, narrowed := true }
def GrabWantsUptoSaid : Prop := grabWantsUptoRow.holds Try.pinned (OpenSpec.upto grabWantsSpec)

/-- 'deadboltlaw14.GrabHanded', WHERE WHAT IT READS IS OF BULK AT MOST 1048576: true; the input reads as it did. -/
def grabHandedUptoRow : OpenClaim := { program := "ytkjhacbkgnjilaa", sum := "1df3e9b92648cc447a810ff456d56e4b1e77ff548ef0f3d69b7f677459ebaa3d", func := "deadbolt/deadboltlaw14.GrabHanded", spec := "grabHanded", unfollowed := true, recurses := true, apart := false, narrowed := true }
def GrabHandedUptoSaid : Prop := grabHandedUptoRow.holds Try.pinned (OpenSpec.upto grabHandedSpec)

/-- 'deadboltlaw14.GrabSees', WHERE WHAT IT READS IS OF BULK AT MOST 1048576: true; the input reads as it did. -/
def grabSeesUptoRow : OpenClaim := { program := "ytkjhacbkgnjilaa", sum := "1df3e9b92648cc447a810ff456d56e4b1e77ff548ef0f3d69b7f677459ebaa3d", func := "deadbolt/deadboltlaw14.GrabSees", spec := "grabSees", unfollowed := true, recurses := true, apart := false, narrowed := true }
def GrabSeesUptoSaid : Prop := grabSeesUptoRow.holds Try.pinned (OpenSpec.upto grabSeesSpec)

/-- 'deadboltlaw14.GrabSleeps', WHERE WHAT IT READS IS OF BULK AT MOST 1048576: true; the input reads as it did. -/
def grabSleepsUptoRow : OpenClaim := { program := "ytkjhacbkgnjilaa", sum := "1df3e9b92648cc447a810ff456d56e4b1e77ff548ef0f3d69b7f677459ebaa3d", func := "deadbolt/deadboltlaw14.GrabSleeps", spec := "grabSleeps", unfollowed := true, recurses := true, apart := false, narrowed := true }
def GrabSleepsUptoSaid : Prop := grabSleepsUptoRow.holds Try.pinned (OpenSpec.upto grabSleepsSpec)

/-- 'deadboltlaw14.GrabWaits', WHERE WHAT IT READS IS OF BULK AT MOST 1048576: true; the input reads as it did. -/
def grabWaitsUptoRow : OpenClaim := { program := "ytkjhacbkgnjilaa", sum := "1df3e9b92648cc447a810ff456d56e4b1e77ff548ef0f3d69b7f677459ebaa3d", func := "deadbolt/deadboltlaw14.GrabWaits", spec := "grabWaits", unfollowed := true, recurses := true, apart := false, narrowed := true }
def GrabWaitsUptoSaid : Prop := grabWaitsUptoRow.holds Try.pinned (OpenSpec.upto grabWaitsSpec)

end Rows
end Go.Proofs.Ytkjhacbkgnjilaa
