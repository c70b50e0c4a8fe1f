/-
  No cell of these rows narrows 'for every input' (looked for: loops, veiled, ifaces, maps, wideKeys, modest, calm, conditions, laid).
  DERIVED. THE GIVEN ROWS OF THIS SEAT. 12 by the template 'for every input the law returns true; each argument reads behind the call as it read before'; 0 by the template 'total and deterministic' (their statements: YteejgejeggackaaTotals.lean).
  GIVEN WITH THE SEED: the statements are not yours to turn. If you find one false, say at which input.
  Laid BY PROGRAM, IN A SANDBOX (cutbox-rows.mjs): the forced cells as the released guide's own fill.sh prints them over the translation 3b63d826665b9fa8… (all of the seat's roots in one cut). By AI agents, Wed Nov 11 2026. No macro, syntax, notation, axiom, sorry.
-/
import Derived.Test.YteejgejeggackaaChecked
import GoSem.Claim
import GoSem.ClaimJoined
import GoSem.ClaimMapViews
import Derived.JoinedTies
import Derived.KernelRfl
namespace Go.Proofs.Yteejgejeggackaa
/- THE CELL 'sum', in the pinned program and in every row, IS THE sha256 OF THE DUMP (.gsa) THAT YteejgejeggackaaProg.lean LOADS. Nothing in Lean hashes anything: it is a label: what it is worth is what the hold of that sum in a sandbox is worth. -/
noncomputable def Try.pinned : Pinned := { name := "yteejgejeggackaa", sum := "3b63d826665b9fa86d0bb89cdda54a24396e8d8f9db57adea9047b745f9e5475", checked := Try.checked }
namespace Rows
def none {H : Type} : Left H := { results := [], args := [] }

/-- 'deadboltlaw04.ClockLate': WHATEVER THE INPUT: true; the input reads as it did. -/
def clockLateSpec : ChangeSpec := { name := "clockLate", fn := fun _ => fun
  | [d1, d2, d3] => { results := [.lit (.bool true)], args := [d1, d2, d3] }
  | _ => none }
def clockLateRow : OpenClaim := { program := "yteejgejeggackaa", sum := "3b63d826665b9fa86d0bb89cdda54a24396e8d8f9db57adea9047b745f9e5475", func := "deadbolt/deadboltlaw04.ClockLate", spec := "clockLate", apart := false }
def ClockLateSaid : Prop := clockLateRow.holds Try.pinned (OpenSpec.ofChange clockLateSpec)

/-- ITS FALSE NEIGHBOUR: 'it returns false'. Refute it at one input. -/
def clockLateWrong : ChangeSpec := { name := "clockLate", fn := fun _ => fun
  | [d1, d2, d3] => { results := [.lit (.bool false)], args := [d1, d2, d3] }
  | _ => none }
def ClockLateWrongFalsely : Prop := clockLateRow.holds Try.pinned (OpenSpec.ofChange clockLateWrong)

/-- 'deadboltlaw04.ClockTells': WHATEVER THE INPUT: true; the input reads as it did. -/
def clockTellsSpec : ChangeSpec := { name := "clockTells", fn := fun _ => fun
  | [d1, d2, d3] => { results := [.lit (.bool true)], args := [d1, d2, d3] }
  | _ => none }
def clockTellsRow : OpenClaim := { program := "yteejgejeggackaa", sum := "3b63d826665b9fa86d0bb89cdda54a24396e8d8f9db57adea9047b745f9e5475", func := "deadbolt/deadboltlaw04.ClockTells", spec := "clockTells", unfollowed := true, recurses := true, apart := false }
def ClockTellsSaid : Prop := clockTellsRow.holds Try.pinned (OpenSpec.ofChange clockTellsSpec)

/-- ITS FALSE NEIGHBOUR: 'it returns false'. Refute it at one input. -/
def clockTellsWrong : ChangeSpec := { name := "clockTells", fn := fun _ => fun
  | [d1, d2, d3] => { results := [.lit (.bool false)], args := [d1, d2, d3] }
  | _ => none }
def ClockTellsWrongFalsely : Prop := clockTellsRow.holds Try.pinned (OpenSpec.ofChange clockTellsWrong)

/-- 'deadboltlaw04.ClockGoes': WHATEVER THE INPUT: true; the input reads as it did. -/
def clockGoesSpec : ChangeSpec := { name := "clockGoes", fn := fun _ => fun
  | [d1, d2, d3, d4] => { results := [.lit (.bool true)], args := [d1, d2, d3, d4] }
  | _ => none }
def clockGoesRow : OpenClaim := { program := "yteejgejeggackaa", sum := "3b63d826665b9fa86d0bb89cdda54a24396e8d8f9db57adea9047b745f9e5475", func := "deadbolt/deadboltlaw04.ClockGoes", spec := "clockGoes", unfollowed := true, recurses := true, apart := false }
def ClockGoesSaid : Prop := clockGoesRow.holds Try.pinned (OpenSpec.ofChange clockGoesSpec)

/-- ITS FALSE NEIGHBOUR: 'it returns false'. Refute it at one input. -/
def clockGoesWrong : ChangeSpec := { name := "clockGoes", fn := fun _ => fun
  | [d1, d2, d3, d4] => { results := [.lit (.bool false)], args := [d1, d2, d3, d4] }
  | _ => none }
def ClockGoesWrongFalsely : Prop := clockGoesRow.holds Try.pinned (OpenSpec.ofChange clockGoesWrong)

/-- 'deadboltlaw15.GiveTells': WHATEVER THE INPUT: true; the input reads as it did. -/
def giveTellsSpec : ChangeSpec := { name := "giveTells", fn := fun _ => fun
  | [d] => { results := [.lit (.bool true)], args := [d] }
  | _ => none }
def giveTellsRow : OpenClaim := { program := "yteejgejeggackaa", sum := "3b63d826665b9fa86d0bb89cdda54a24396e8d8f9db57adea9047b745f9e5475", func := "deadbolt/deadboltlaw15.GiveTells", spec := "giveTells", unfollowed := true, recurses := true, apart := false }
def GiveTellsSaid : Prop := giveTellsRow.holds Try.pinned (OpenSpec.ofChange giveTellsSpec)

/-- ITS FALSE NEIGHBOUR: 'it returns false'. Refute it at one input. -/
def giveTellsWrong : ChangeSpec := { name := "giveTells", fn := fun _ => fun
  | [d] => { results := [.lit (.bool false)], args := [d] }
  | _ => none }
def GiveTellsWrongFalsely : Prop := giveTellsRow.holds Try.pinned (OpenSpec.ofChange giveTellsWrong)

/-- 'deadboltlaw15.GiveOnce': WHATEVER THE INPUT: true; the input reads as it did. -/
def giveOnceSpec : ChangeSpec := { name := "giveOnce", fn := fun _ => fun
  | [d] => { results := [.lit (.bool true)], args := [d] }
  | _ => none }
def giveOnceRow : OpenClaim := { program := "yteejgejeggackaa", sum := "3b63d826665b9fa86d0bb89cdda54a24396e8d8f9db57adea9047b745f9e5475", func := "deadbolt/deadboltlaw15.GiveOnce", spec := "giveOnce", unfollowed := true, recurses := true, apart := false }
def GiveOnceSaid : Prop := giveOnceRow.holds Try.pinned (OpenSpec.ofChange giveOnceSpec)

/-- ITS FALSE NEIGHBOUR: 'it returns false'. Refute it at one input. -/
def giveOnceWrong : ChangeSpec := { name := "giveOnce", fn := fun _ => fun
  | [d] => { results := [.lit (.bool false)], args := [d] }
  | _ => none }
def GiveOnceWrongFalsely : Prop := giveOnceRow.holds Try.pinned (OpenSpec.ofChange giveOnceWrong)

/-- 'deadboltlaw11.ParkOnce': WHATEVER THE INPUT: true; the input reads as it did. -/
def parkOnceSpec : ChangeSpec := { name := "parkOnce", fn := fun _ => fun
  | [d1, d2] => { results := [.lit (.bool true)], args := [d1, d2] }
  | _ => none }
def parkOnceRow : OpenClaim := { program := "yteejgejeggackaa", sum := "3b63d826665b9fa86d0bb89cdda54a24396e8d8f9db57adea9047b745f9e5475", func := "deadbolt/deadboltlaw11.ParkOnce", spec := "parkOnce", unfollowed := true, recurses := true, apart := false }
def ParkOnceSaid : Prop := parkOnceRow.holds Try.pinned (OpenSpec.ofChange parkOnceSpec)

/-- ITS FALSE NEIGHBOUR: 'it returns false'. Refute it at one input. -/
def parkOnceWrong : ChangeSpec := { name := "parkOnce", fn := fun _ => fun
  | [d1, d2] => { results := [.lit (.bool false)], args := [d1, d2] }
  | _ => none }
def ParkOnceWrongFalsely : Prop := parkOnceRow.holds Try.pinned (OpenSpec.ofChange parkOnceWrong)

/-- 'deadboltlaw11.ParkEither': WHATEVER THE INPUT: true; the input reads as it did. -/
def parkEitherSpec : ChangeSpec := { name := "parkEither", fn := fun _ => fun
  | [d1, d2] => { results := [.lit (.bool true)], args := [d1, d2] }
  | _ => none }
def parkEitherRow : OpenClaim := { program := "yteejgejeggackaa", sum := "3b63d826665b9fa86d0bb89cdda54a24396e8d8f9db57adea9047b745f9e5475", func := "deadbolt/deadboltlaw11.ParkEither", spec := "parkEither", unfollowed := true, recurses := true, apart := false }
def ParkEitherSaid : Prop := parkEitherRow.holds Try.pinned (OpenSpec.ofChange parkEitherSpec)

/-- ITS FALSE NEIGHBOUR: 'it returns false'. Refute it at one input. -/
def parkEitherWrong : ChangeSpec := { name := "parkEither", fn := fun _ => fun
  | [d1, d2] => { results := [.lit (.bool false)], args := [d1, d2] }
  | _ => none }
def ParkEitherWrongFalsely : Prop := parkEitherRow.holds Try.pinned (OpenSpec.ofChange parkEitherWrong)

/-- 'deadboltlaw11.ParkRuns': WHATEVER THE INPUT: true; the input reads as it did. -/
def parkRunsSpec : ChangeSpec := { name := "parkRuns", fn := fun _ => fun
  | [d1, d2] => { results := [.lit (.bool true)], args := [d1, d2] }
  | _ => none }
def parkRunsRow : OpenClaim := { program := "yteejgejeggackaa", sum := "3b63d826665b9fa86d0bb89cdda54a24396e8d8f9db57adea9047b745f9e5475", func := "deadbolt/deadboltlaw11.ParkRuns", spec := "parkRuns", unfollowed := true, recurses := true, apart := false }
def ParkRunsSaid : Prop := parkRunsRow.holds Try.pinned (OpenSpec.ofChange parkRunsSpec)

/-- ITS FALSE NEIGHBOUR: 'it returns false'. Refute it at one input. -/
def parkRunsWrong : ChangeSpec := { name := "parkRuns", fn := fun _ => fun
  | [d1, d2] => { results := [.lit (.bool false)], args := [d1, d2] }
  | _ => none }
def ParkRunsWrongFalsely : Prop := parkRunsRow.holds Try.pinned (OpenSpec.ofChange parkRunsWrong)

/-- 'deadboltlaw11.ParkTells': WHATEVER THE INPUT: true; the input reads as it did. -/
def parkTellsSpec : ChangeSpec := { name := "parkTells", fn := fun _ => fun
  | [d1, d2] => { results := [.lit (.bool true)], args := [d1, d2] }
  | _ => none }
def parkTellsRow : OpenClaim := { program := "yteejgejeggackaa", sum := "3b63d826665b9fa86d0bb89cdda54a24396e8d8f9db57adea9047b745f9e5475", func := "deadbolt/deadboltlaw11.ParkTells", spec := "parkTells", unfollowed := true, recurses := true, apart := false }
def ParkTellsSaid : Prop := parkTellsRow.holds Try.pinned (OpenSpec.ofChange parkTellsSpec)

/-- ITS FALSE NEIGHBOUR: 'it returns false'. Refute it at one input. -/
def parkTellsWrong : ChangeSpec := { name := "parkTells", fn := fun _ => fun
  | [d1, d2] => { results := [.lit (.bool false)], args := [d1, d2] }
  | _ => none }
def ParkTellsWrongFalsely : Prop := parkTellsRow.holds Try.pinned (OpenSpec.ofChange parkTellsWrong)

/-- 'deadboltlaw13.ScriptTells': WHATEVER THE INPUT: true; the input reads as it did. -/
def scriptTellsSpec : ChangeSpec := { name := "scriptTells", fn := fun _ => fun
  | [d1, d2, d3, d4] => { results := [.lit (.bool true)], args := [d1, d2, d3, d4] }
  | _ => none }
def scriptTellsRow : OpenClaim := { program := "yteejgejeggackaa", sum := "3b63d826665b9fa86d0bb89cdda54a24396e8d8f9db57adea9047b745f9e5475", func := "deadbolt/deadboltlaw13.ScriptTells", spec := "scriptTells", unfollowed := true, recurses := true, apart := false }
def ScriptTellsSaid : Prop := scriptTellsRow.holds Try.pinned (OpenSpec.ofChange scriptTellsSpec)

/-- ITS FALSE NEIGHBOUR: 'it returns false'. Refute it at one input. -/
def scriptTellsWrong : ChangeSpec := { name := "scriptTells", fn := fun _ => fun
  | [d1, d2, d3, d4] => { results := [.lit (.bool false)], args := [d1, d2, d3, d4] }
  | _ => none }
def ScriptTellsWrongFalsely : Prop := scriptTellsRow.holds Try.pinned (OpenSpec.ofChange scriptTellsWrong)

/-- 'deadboltlaw13.ScriptBack': WHATEVER THE INPUT: true; the input reads as it did. -/
def scriptBackSpec : ChangeSpec := { name := "scriptBack", fn := fun _ => fun
  | [d1, d2, d3, d4] => { results := [.lit (.bool true)], args := [d1, d2, d3, d4] }
  | _ => none }
def scriptBackRow : OpenClaim := { program := "yteejgejeggackaa", sum := "3b63d826665b9fa86d0bb89cdda54a24396e8d8f9db57adea9047b745f9e5475", func := "deadbolt/deadboltlaw13.ScriptBack", spec := "scriptBack", unfollowed := true, recurses := true, apart := false }
def ScriptBackSaid : Prop := scriptBackRow.holds Try.pinned (OpenSpec.ofChange scriptBackSpec)

/-- ITS FALSE NEIGHBOUR: 'it returns false'. Refute it at one input. -/
def scriptBackWrong : ChangeSpec := { name := "scriptBack", fn := fun _ => fun
  | [d1, d2, d3, d4] => { results := [.lit (.bool false)], args := [d1, d2, d3, d4] }
  | _ => none }
def ScriptBackWrongFalsely : Prop := scriptBackRow.holds Try.pinned (OpenSpec.ofChange scriptBackWrong)

/-- 'deadboltlaw19.FairMore': WHATEVER THE INPUT: true; the input reads as it did. -/
def fairMoreSpec : ChangeSpec := { name := "fairMore", fn := fun _ => fun
  | [d1, d2, d3, d4, d5, d6] => { results := [.lit (.bool true)], args := [d1, d2, d3, d4, d5, d6] }
  | _ => none }
def fairMoreRow : OpenClaim := { program := "yteejgejeggackaa", sum := "3b63d826665b9fa86d0bb89cdda54a24396e8d8f9db57adea9047b745f9e5475", func := "deadbolt/deadboltlaw19.FairMore", spec := "fairMore", unfollowed := true, recurses := true, apart := false }
def FairMoreSaid : Prop := fairMoreRow.holds Try.pinned (OpenSpec.ofChange fairMoreSpec)

/-- ITS FALSE NEIGHBOUR: 'it returns false'. Refute it at one input. -/
def fairMoreWrong : ChangeSpec := { name := "fairMore", fn := fun _ => fun
  | [d1, d2, d3, d4, d5, d6] => { results := [.lit (.bool false)], args := [d1, d2, d3, d4, d5, d6] }
  | _ => none }
def FairMoreWrongFalsely : Prop := fairMoreRow.holds Try.pinned (OpenSpec.ofChange fairMoreWrong)

/- THE SECOND FORM. 'bulk': how many values and letters a reading holds, each counted each time it is reached (what is shared counts as often as it is met; a slice's spare places count too). A statement '..UptoSaid' is the law's where the arguments, and the package variables that the reading takes, are together of bulk at most 1048576: NARROWER than '..Said'. Prove '..Said' where nothing that the law and all that it calls make is longer than what came in: it says more and counts as full. Else prove '..UptoSaid'. A law counts once. -/
mutual
def uptoBulk {H : Type} : DataW H → Nat
  | .lit (.string bytes) => bytes.length + 1
  | .lit _ => 1
  | .nil => 1
  | .ptr d => uptoBulk d + 1
  | .slice elems spare => uptoBulkAll elems + uptoBulkAll spare + 1
  | .agg parts => uptoBulkAll parts + 1
  | .iface _ d => uptoBulk d + 1
  | .map entries => uptoBulkEntries entries + 1
  | .held _ => 1
def uptoBulkAll {H : Type} : List (DataW H) → Nat
  | [] => 0
  | d :: r => uptoBulk d + uptoBulkAll r
def uptoBulkEntries {H : Type} : List (Lit × DataW H) → Nat
  | [] => 0
  | x :: r => uptoBulkEntry x + uptoBulkEntries r
def uptoBulkEntry {H : Type} : Lit × DataW H → Nat
  | (.string bytes, d) => bytes.length + uptoBulk d + 1
  | (_, d) => uptoBulk d + 1
 end
def uptoSmall : (H : Type) → List (DataW H) → Bool := fun _ ds => decide (uptoBulkAll ds ≤ 1048576)
def OpenSpec.upto (s : _root_.Go.ChangeSpec) : _root_.Go.OpenSpec := { _root_.Go.OpenSpec.ofChange s with cond := some uptoSmall }

/-- 'deadboltlaw04.ClockLate', WHERE WHAT IT READS IS OF BULK AT MOST 1048576: true; the input reads as it did. -/
def clockLateUptoRow : OpenClaim := { program := "yteejgejeggackaa", sum := "3b63d826665b9fa86d0bb89cdda54a24396e8d8f9db57adea9047b745f9e5475", func := "deadbolt/deadboltlaw04.ClockLate", spec := "clockLate", apart := false, narrowed := true }
def ClockLateUptoSaid : Prop := clockLateUptoRow.holds Try.pinned (OpenSpec.upto clockLateSpec)

/-- 'deadboltlaw04.ClockTells', WHERE WHAT IT READS IS OF BULK AT MOST 1048576: true; the input reads as it did. -/
def clockTellsUptoRow : OpenClaim := { program := "yteejgejeggackaa", sum := "3b63d826665b9fa86d0bb89cdda54a24396e8d8f9db57adea9047b745f9e5475", func := "deadbolt/deadboltlaw04.ClockTells", spec := "clockTells", unfollowed := true, recurses := true, apart := false, narrowed := true }
def ClockTellsUptoSaid : Prop := clockTellsUptoRow.holds Try.pinned (OpenSpec.upto clockTellsSpec)

/-- 'deadboltlaw04.ClockGoes', WHERE WHAT IT READS IS OF BULK AT MOST 1048576: true; the input reads as it did. -/
def clockGoesUptoRow : OpenClaim := { program := "yteejgejeggackaa", sum := "3b63d826665b9fa86d0bb89cdda54a24396e8d8f9db57adea9047b745f9e5475", func := "deadbolt/deadboltlaw04.ClockGoes", spec := "clockGoes", unfollowed := true, recurses := true, apart := false, narrowed := true }
def ClockGoesUptoSaid : Prop := clockGoesUptoRow.holds Try.pinned (OpenSpec.upto clockGoesSpec)

/-- 'deadboltlaw15.GiveTells', WHERE WHAT IT READS IS OF BULK AT MOST 1048576: true; the input reads as it did. -/
def giveTellsUptoRow : OpenClaim := { program := "yteejgejeggackaa", sum := "3b63d826665b9fa86d0bb89cdda54a24396e8d8f9db57adea9047b745f9e5475", func := "deadbolt/deadboltlaw15.GiveTells", spec := "giveTells", unfollowed := true, recurses := true, apart := false, narrowed := true }
def GiveTellsUptoSaid : Prop := giveTellsUptoRow.holds Try.pinned (OpenSpec.upto giveTellsSpec)

/-- 'deadboltlaw15.GiveOnce', WHERE WHAT IT READS IS OF BULK AT MOST 1048576: true; the input reads as it did. -/
def giveOnceUptoRow : OpenClaim := { program := "yteejgejeggackaa", sum := "3b63d826665b9fa86d0bb89cdda54a24396e8d8f9db57adea9047b745f9e5475", func := "deadbolt/deadboltlaw15.GiveOnce", spec := "giveOnce", unfollowed := true, recurses := true, apart := false, narrowed := true }
def GiveOnceUptoSaid : Prop := giveOnceUptoRow.holds Try.pinned (OpenSpec.upto giveOnceSpec)

/-- 'deadboltlaw11.ParkOnce', WHERE WHAT IT READS IS OF BULK AT MOST 1048576: true; the input reads as it did. -/
def parkOnceUptoRow : OpenClaim := { program := "yteejgejeggackaa", sum := "3b63d826665b9fa86d0bb89cdda54a24396e8d8f9db57adea9047b745f9e5475", func := "deadbolt/deadboltlaw11.ParkOnce", spec := "parkOnce", unfollowed := true, recurses := true, apart := false, narrowed := true }
def ParkOnceUptoSaid : Prop := parkOnceUptoRow.holds Try.pinned (OpenSpec.upto parkOnceSpec)

/-- 'deadboltlaw11.ParkEither', WHERE WHAT IT READS IS OF BULK AT MOST 1048576: true; the input reads as it did. -/
def parkEitherUptoRow : OpenClaim := { program := "yteejgejeggackaa", sum := "3b63d826665b9fa86d0bb89cdda54a24396e8d8f9db57adea9047b745f9e5475", func := "deadbolt/deadboltlaw11.ParkEither", spec := "parkEither", unfollowed := true, recurses := true, apart := false, narrowed := true }
def ParkEitherUptoSaid : Prop := parkEitherUptoRow.holds Try.pinned (OpenSpec.upto parkEitherSpec)

/-- 'deadboltlaw11.ParkRuns', WHERE WHAT IT READS IS OF BULK AT MOST 1048576: true; the input reads as it did. -/
def parkRunsUptoRow : OpenClaim := { program := "yteejgejeggackaa", sum := "3b63d826665b9fa86d0bb89cdda54a24396e8d8f9db57adea9047b745f9e5475", func := "deadbolt/deadboltlaw11.ParkRuns", spec := "parkRuns", unfollowed := true, recurses := true, apart := false, narrowed := true }
def ParkRunsUptoSaid : Prop := parkRunsUptoRow.holds Try.pinned (OpenSpec.upto parkRunsSpec)

/-- 'deadboltlaw11.ParkTells', WHERE WHAT IT READS IS OF BULK AT MOST 1048576: true; the input reads as it did. -/
def parkTellsUptoRow : OpenClaim := { program := "yteejgejeggackaa", sum := "3b63d826665b9fa86d0bb89cdda54a24396e8d8f9db57adea9047b745f9e5475", func := "deadbolt/deadboltlaw11.ParkTells", spec := "parkTells", unfollowed := true, recurses := true, apart := false, narrowed := true }
def ParkTellsUptoSaid : Prop := parkTellsUptoRow.holds Try.pinned (OpenSpec.upto parkTellsSpec)

/-- 'deadboltlaw13.ScriptTells', WHERE WHAT IT READS IS OF BULK AT MOST 1048576: true; the input reads as it did. -/
def scriptTellsUptoRow : OpenClaim := { program := "yteejgejeggackaa", sum := "3b63d826665b9fa86d0bb89cdda54a24396e8d8f9db57adea9047b745f9e5475", func := "deadbolt/deadboltlaw13.ScriptTells", spec := "scriptTells", unfollowed := true, recurses := true, apart := false, narrowed := true }
def ScriptTellsUptoSaid : Prop := scriptTellsUptoRow.holds Try.pinned (OpenSpec.upto scriptTellsSpec)

/-- 'deadboltlaw13.ScriptBack', WHERE WHAT IT READS IS OF BULK AT MOST 1048576: true; the input reads as it did. -/
def scriptBackUptoRow : OpenClaim := { program := "yteejgejeggackaa", sum := "3b63d826665b9fa86d0bb89cdda54a24396e8d8f9db57adea9047b745f9e5475", func := "deadbolt/deadboltlaw13.ScriptBack", spec := "scriptBack", unfollowed := true, recurses := true, apart := false, narrowed := true }
def ScriptBackUptoSaid : Prop := scriptBackUptoRow.holds Try.pinned (OpenSpec.upto scriptBackSpec)

/-- 'deadboltlaw19.FairMore', WHERE WHAT IT READS IS OF BULK AT MOST 1048576: true; the input reads as it did. -/
def fairMoreUptoRow : OpenClaim := { program := "yteejgejeggackaa", sum := "3b63d826665b9fa86d0bb89cdda54a24396e8d8f9db57adea9047b745f9e5475", func := "deadbolt/deadboltlaw19.FairMore", spec := "fairMore", unfollowed := true, recurses := true, apart := false, narrowed := true }
def FairMoreUptoSaid : Prop := fairMoreUptoRow.holds Try.pinned (OpenSpec.upto fairMoreSpec)

end Rows
end Go.Proofs.Yteejgejeggackaa
