/-
  No cell of these rows narrows 'for every input' (looked for: loops, veiled, ifaces, maps, wideKeys, modest, calm, conditions, laid).
  DERIVED. THE GIVEN ROWS OF THIS SEAT. 7 by the template 'for every input the law returns true; each argument reads behind the call as it read before'; 0 by the template 'total and deterministic' (their statements: YtnjnjajgpkmfhaaTotals.lean).
  GIVEN WITH THE SEED: the statements are not yours to turn. If you find one false, say at which input.
  Laid BY PROGRAM, IN A SANDBOX (cutbox-rows.mjs): the forced cells as the released guide's own fill.sh prints them over the translation 3e090a3a88995675… (all of the seat's roots in one cut). By AI agents, Wed Nov 11 2026. No macro, syntax, notation, axiom, sorry.
-/
import Derived.Test.YtnjnjajgpkmfhaaChecked
import GoSem.Claim
import GoSem.ClaimJoined
import GoSem.ClaimMapViews
import Derived.JoinedTies
import Derived.KernelRfl
namespace Go.Proofs.Ytnjnjajgpkmfhaa
/- THE CELL 'sum', in the pinned program and in every row, IS THE sha256 OF THE DUMP (.gsa) THAT YtnjnjajgpkmfhaaProg.lean LOADS. Nothing in Lean hashes anything: it is a label: what it is worth is what the hold of that sum in a sandbox is worth. -/
noncomputable def Try.pinned : Pinned := { name := "ytnjnjajgpkmfhaa", sum := "3e090a3a88995675926fde5376f091f422f07d2a5f219595c5c74c2e7e96cca3", checked := Try.checked }
namespace Rows
def none {H : Type} : Left H := { results := [], args := [] }

/-- 'deadboltlaw09.RootSpots': WHATEVER THE INPUT: true; the input reads as it did. -/
def rootSpotsSpec : ChangeSpec := { name := "rootSpots", fn := fun _ => fun
  | [d] => { results := [.lit (.bool true)], args := [d] }
  | _ => none }
def rootSpotsRow : OpenClaim := { program := "ytnjnjajgpkmfhaa", sum := "3e090a3a88995675926fde5376f091f422f07d2a5f219595c5c74c2e7e96cca3", func := "deadbolt/deadboltlaw09.RootSpots", spec := "rootSpots", inPlace := ["slices.overlaps[deadbolt/api.Spot]"], unfollowed := true, recurses := true, apart := false }
def RootSpotsSaid : Prop := rootSpotsRow.holds Try.pinned (OpenSpec.ofChange rootSpotsSpec)

/-- ITS FALSE NEIGHBOUR: 'it returns false'. Refute it at one input. -/
def rootSpotsWrong : ChangeSpec := { name := "rootSpots", fn := fun _ => fun
  | [d] => { results := [.lit (.bool false)], args := [d] }
  | _ => none }
def RootSpotsWrongFalsely : Prop := rootSpotsRow.holds Try.pinned (OpenSpec.ofChange rootSpotsWrong)

/-- 'deadboltlaw09.RootTells': WHATEVER THE INPUT: true; the input reads as it did. -/
def rootTellsSpec : ChangeSpec := { name := "rootTells", fn := fun _ => fun
  | [d1, d2, d3, d4] => { results := [.lit (.bool true)], args := [d1, d2, d3, d4] }
  | _ => none }
def rootTellsRow : OpenClaim := { program := "ytnjnjajgpkmfhaa", sum := "3e090a3a88995675926fde5376f091f422f07d2a5f219595c5c74c2e7e96cca3", func := "deadbolt/deadboltlaw09.RootTells", spec := "rootTells", inPlace := ["slices.overlaps[deadbolt/api.Spot]"], unfollowed := true, recurses := true, apart := false }
def RootTellsSaid : Prop := rootTellsRow.holds Try.pinned (OpenSpec.ofChange rootTellsSpec)

/-- ITS FALSE NEIGHBOUR: 'it returns false'. Refute it at one input. -/
def rootTellsWrong : ChangeSpec := { name := "rootTells", fn := fun _ => fun
  | [d1, d2, d3, d4] => { results := [.lit (.bool false)], args := [d1, d2, d3, d4] }
  | _ => none }
def RootTellsWrongFalsely : Prop := rootTellsRow.holds Try.pinned (OpenSpec.ofChange rootTellsWrong)

/-- 'deadboltlaw09.RootKeeps': WHATEVER THE INPUT: true; the input reads as it did. -/
def rootKeepsSpec : ChangeSpec := { name := "rootKeeps", fn := fun _ => fun
  | [d1, d2, d3, d4] => { results := [.lit (.bool true)], args := [d1, d2, d3, d4] }
  | _ => none }
def rootKeepsRow : OpenClaim := { program := "ytnjnjajgpkmfhaa", sum := "3e090a3a88995675926fde5376f091f422f07d2a5f219595c5c74c2e7e96cca3", func := "deadbolt/deadboltlaw09.RootKeeps", spec := "rootKeeps", inPlace := ["slices.overlaps[deadbolt/api.Spot]"], unfollowed := true, recurses := true, apart := false }
def RootKeepsSaid : Prop := rootKeepsRow.holds Try.pinned (OpenSpec.ofChange rootKeepsSpec)

/-- ITS FALSE NEIGHBOUR: 'it returns false'. Refute it at one input. -/
def rootKeepsWrong : ChangeSpec := { name := "rootKeeps", fn := fun _ => fun
  | [d1, d2, d3, d4] => { results := [.lit (.bool false)], args := [d1, d2, d3, d4] }
  | _ => none }
def RootKeepsWrongFalsely : Prop := rootKeepsRow.holds Try.pinned (OpenSpec.ofChange rootKeepsWrong)

/-- 'deadboltlaw10.SemaGrants': WHATEVER THE INPUT: true; the input reads as it did. -/
def semaGrantsSpec : ChangeSpec := { name := "semaGrants", fn := fun _ => fun
  | [d] => { results := [.lit (.bool true)], args := [d] }
  | _ => none }
def semaGrantsRow : OpenClaim := { program := "ytnjnjajgpkmfhaa", sum := "3e090a3a88995675926fde5376f091f422f07d2a5f219595c5c74c2e7e96cca3", func := "deadbolt/deadboltlaw10.SemaGrants", spec := "semaGrants", inPlace := ["slices.overlaps[deadbolt/api.Spot]"], unfollowed := true, recurses := true, apart := false }
def SemaGrantsSaid : Prop := semaGrantsRow.holds Try.pinned (OpenSpec.ofChange semaGrantsSpec)

/-- ITS FALSE NEIGHBOUR: 'it returns false'. Refute it at one input. -/
def semaGrantsWrong : ChangeSpec := { name := "semaGrants", fn := fun _ => fun
  | [d] => { results := [.lit (.bool false)], args := [d] }
  | _ => none }
def SemaGrantsWrongFalsely : Prop := semaGrantsRow.holds Try.pinned (OpenSpec.ofChange semaGrantsWrong)

/-- 'deadboltlaw10.SemaOrder': WHATEVER THE INPUT: true; the input reads as it did. -/
def semaOrderSpec : ChangeSpec := { name := "semaOrder", fn := fun _ => fun
  | [d1, d2, d3, d4] => { results := [.lit (.bool true)], args := [d1, d2, d3, d4] }
  | _ => none }
def semaOrderRow : OpenClaim := { program := "ytnjnjajgpkmfhaa", sum := "3e090a3a88995675926fde5376f091f422f07d2a5f219595c5c74c2e7e96cca3", func := "deadbolt/deadboltlaw10.SemaOrder", spec := "semaOrder", inPlace := ["slices.overlaps[deadbolt/api.Spot]"], unfollowed := true, recurses := true, apart := false }
def SemaOrderSaid : Prop := semaOrderRow.holds Try.pinned (OpenSpec.ofChange semaOrderSpec)

/-- ITS FALSE NEIGHBOUR: 'it returns false'. Refute it at one input. -/
def semaOrderWrong : ChangeSpec := { name := "semaOrder", fn := fun _ => fun
  | [d1, d2, d3, d4] => { results := [.lit (.bool false)], args := [d1, d2, d3, d4] }
  | _ => none }
def SemaOrderWrongFalsely : Prop := semaOrderRow.holds Try.pinned (OpenSpec.ofChange semaOrderWrong)

/-- 'deadboltlaw10.SemaTells': WHATEVER THE INPUT: true; the input reads as it did. -/
def semaTellsSpec : ChangeSpec := { name := "semaTells", fn := fun _ => fun
  | [d1, d2, d3, d4] => { results := [.lit (.bool true)], args := [d1, d2, d3, d4] }
  | _ => none }
def semaTellsRow : OpenClaim := { program := "ytnjnjajgpkmfhaa", sum := "3e090a3a88995675926fde5376f091f422f07d2a5f219595c5c74c2e7e96cca3", func := "deadbolt/deadboltlaw10.SemaTells", spec := "semaTells", inPlace := ["slices.overlaps[deadbolt/api.Spot]"], unfollowed := true, recurses := true, apart := false }
def SemaTellsSaid : Prop := semaTellsRow.holds Try.pinned (OpenSpec.ofChange semaTellsSpec)

/-- ITS FALSE NEIGHBOUR: 'it returns false'. Refute it at one input. -/
def semaTellsWrong : ChangeSpec := { name := "semaTells", fn := fun _ => fun
  | [d1, d2, d3, d4] => { results := [.lit (.bool false)], args := [d1, d2, d3, d4] }
  | _ => none }
def SemaTellsWrongFalsely : Prop := semaTellsRow.holds Try.pinned (OpenSpec.ofChange semaTellsWrong)

/-- 'deadboltlaw10.SemaApart': WHATEVER THE INPUT: true; the input reads as it did. -/
def semaApartSpec : ChangeSpec := { name := "semaApart", fn := fun _ => fun
  | [d1, d2, d3, d4, d5] => { results := [.lit (.bool true)], args := [d1, d2, d3, d4, d5] }
  | _ => none }
def semaApartRow : OpenClaim := { program := "ytnjnjajgpkmfhaa", sum := "3e090a3a88995675926fde5376f091f422f07d2a5f219595c5c74c2e7e96cca3", func := "deadbolt/deadboltlaw10.SemaApart", spec := "semaApart", inPlace := ["slices.overlaps[deadbolt/api.Spot]"], unfollowed := true, recurses := true, apart := false }
def SemaApartSaid : Prop := semaApartRow.holds Try.pinned (OpenSpec.ofChange semaApartSpec)

/-- ITS FALSE NEIGHBOUR: 'it returns false'. Refute it at one input. -/
def semaApartWrong : ChangeSpec := { name := "semaApart", fn := fun _ => fun
  | [d1, d2, d3, d4, d5] => { results := [.lit (.bool false)], args := [d1, d2, d3, d4, d5] }
  | _ => none }
def SemaApartWrongFalsely : Prop := semaApartRow.holds Try.pinned (OpenSpec.ofChange semaApartWrong)

/- THE SECOND FORM. 'bulk': how many values and letters a reading holds, each counted each time it is reached (what is shared counts as often as it is met; a slice's spare places count too). A statement '..UptoSaid' is the law's where the arguments, and the package variables that the reading takes, are together of bulk at most 1048576: NARROWER than '..Said'. Prove '..Said' where nothing that the law and all that it calls make is longer than what came in: it says more and counts as full. Else prove '..UptoSaid'. A law counts once. -/
mutual
def uptoBulk {H : Type} : DataW H → Nat
  | .lit (.string bytes) => bytes.length + 1
  | .lit _ => 1
  | .nil => 1
  | .ptr d => uptoBulk d + 1
  | .slice elems spare => uptoBulkAll elems + uptoBulkAll spare + 1
  | .agg parts => uptoBulkAll parts + 1
  | .iface _ d => uptoBulk d + 1
  | .map entries => uptoBulkEntries entries + 1
  | .held _ => 1
def uptoBulkAll {H : Type} : List (DataW H) → Nat
  | [] => 0
  | d :: r => uptoBulk d + uptoBulkAll r
def uptoBulkEntries {H : Type} : List (Lit × DataW H) → Nat
  | [] => 0
  | x :: r => uptoBulkEntry x + uptoBulkEntries r
def uptoBulkEntry {H : Type} : Lit × DataW H → Nat
  | (.string bytes, d) => bytes.length + uptoBulk d + 1
  | (_, d) => uptoBulk d + 1
 end
def uptoSmall : (H : Type) → List (DataW H) → Bool := fun _ ds => decide (uptoBulkAll ds ≤ 1048576)
def OpenSpec.upto (s : _root_.Go.ChangeSpec) : _root_.Go.OpenSpec := { _root_.Go.OpenSpec.ofChange s with cond := some uptoSmall }

/-- 'deadboltlaw09.RootSpots', WHERE WHAT IT READS IS OF BULK AT MOST 1048576: true; the input reads as it did. -/
def rootSpotsUptoRow : OpenClaim := { program := "ytnjnjajgpkmfhaa", sum := "3e090a3a88995675926fde5376f091f422f07d2a5f219595c5c74c2e7e96cca3", func := "deadbolt/deadboltlaw09.RootSpots", spec := "rootSpots", inPlace := ["slices.overlaps[deadbolt/api.Spot]"], unfollowed := true, recurses := true, apart := false, narrowed := true }
def RootSpotsUptoSaid : Prop := rootSpotsUptoRow.holds Try.pinned (OpenSpec.upto rootSpotsSpec)

/-- 'deadboltlaw09.RootTells', WHERE WHAT IT READS IS OF BULK AT MOST 1048576: true; the input reads as it did. -/
def rootTellsUptoRow : OpenClaim := { program := "ytnjnjajgpkmfhaa", sum := "3e090a3a88995675926fde5376f091f422f07d2a5f219595c5c74c2e7e96cca3", func := "deadbolt/deadboltlaw09.RootTells", spec := "rootTells", inPlace := ["slices.overlaps[deadbolt/api.Spot]"], unfollowed := true, recurses := true, apart := false, narrowed := true }
def RootTellsUptoSaid : Prop := rootTellsUptoRow.holds Try.pinned (OpenSpec.upto rootTellsSpec)

/-- 'deadboltlaw09.RootKeeps', WHERE WHAT IT READS IS OF BULK AT MOST 1048576: true; the input reads as it did. -/
def rootKeepsUptoRow : OpenClaim := { program := "ytnjnjajgpkmfhaa", sum := "3e090a3a88995675926fde5376f091f422f07d2a5f219595c5c74c2e7e96cca3", func := "deadbolt/deadboltlaw09.RootKeeps", spec := "rootKeeps", inPlace := ["slices.overlaps[deadbolt/api.Spot]"], unfollowed := true, recurses := true, apart := false, narrowed := true }
def RootKeepsUptoSaid : Prop := rootKeepsUptoRow.holds Try.pinned (OpenSpec.upto rootKeepsSpec)

/-- 'deadboltlaw10.SemaGrants', WHERE WHAT IT READS IS OF BULK AT MOST 1048576: true; the input reads as it did. -/
def semaGrantsUptoRow : OpenClaim := { program := "ytnjnjajgpkmfhaa", sum := "3e090a3a88995675926fde5376f091f422f07d2a5f219595c5c74c2e7e96cca3", func := "deadbolt/deadboltlaw10.SemaGrants", spec := "semaGrants", inPlace := ["slices.overlaps[deadbolt/api.Spot]"], unfollowed := true, recurses := true, apart := false, narrowed := true }
def SemaGrantsUptoSaid : Prop := semaGrantsUptoRow.holds Try.pinned (OpenSpec.upto semaGrantsSpec)

/-- 'deadboltlaw10.SemaOrder', WHERE WHAT IT READS IS OF BULK AT MOST 1048576: true; the input reads as it did. -/
def semaOrderUptoRow : OpenClaim := { program := "ytnjnjajgpkmfhaa", sum := "3e090a3a88995675926fde5376f091f422f07d2a5f219595c5c74c2e7e96cca3", func := "deadbolt/deadboltlaw10.SemaOrder", spec := "semaOrder", inPlace := ["slices.overlaps[deadbolt/api.Spot]"], unfollowed := true, recurses := true, apart := false, narrowed := true }
def SemaOrderUptoSaid : Prop := semaOrderUptoRow.holds Try.pinned (OpenSpec.upto semaOrderSpec)

/-- 'deadboltlaw10.SemaTells', WHERE WHAT IT READS IS OF BULK AT MOST 1048576: true; the input reads as it did. -/
def semaTellsUptoRow : OpenClaim := { program := "ytnjnjajgpkmfhaa", sum := "3e090a3a88995675926fde5376f091f422f07d2a5f219595c5c74c2e7e96cca3", func := "deadbolt/deadboltlaw10.SemaTells", spec := "semaTells", inPlace := ["slices.overlaps[deadbolt/api.Spot]"], unfollowed := true, recurses := true, apart := false, narrowed := true }
def SemaTellsUptoSaid : Prop := semaTellsUptoRow.holds Try.pinned (OpenSpec.upto semaTellsSpec)

/-- 'deadboltlaw10.SemaApart', WHERE WHAT IT READS IS OF BULK AT MOST 1048576: true; the input reads as it did. -/
def semaApartUptoRow : OpenClaim := { program := "ytnjnjajgpkmfhaa", sum := "3e090a3a88995675926fde5376f091f422f07d2a5f219595c5c74c2e7e96cca3", func := "deadbolt/deadboltlaw10.SemaApart", spec := "semaApart", inPlace := ["slices.overlaps[deadbolt/api.Spot]"], unfollowed := true, recurses := true, apart := false, narrowed := true }
def SemaApartUptoSaid : Prop := semaApartUptoRow.holds Try.pinned (OpenSpec.upto semaApartSpec)

end Rows
end Go.Proofs.Ytnjnjajgpkmfhaa
