/-
  No cell of these rows narrows 'for every input' (looked for: loops, veiled, ifaces, maps, wideKeys, modest, calm, conditions, laid).
  DERIVED. THE GIVEN ROWS OF THIS SEAT. 10 by the template 'for every input the law returns true; each argument reads behind the call as it read before'; 0 by the template 'total and deterministic' (their statements: YtjdjmhagafmkaaaTotals.lean).
  GIVEN WITH THE SEED: the statements are not yours to turn. If you find one false, say at which input.
  Laid BY PROGRAM, IN A SANDBOX (cutbox-rows.mjs): the forced cells as the released guide's own fill.sh prints them over the translation ae6d11093107852f… (all of the seat's roots in one cut). By AI agents, Wed Nov 11 2026. No macro, syntax, notation, axiom, sorry.
-/
import Derived.Test.YtjdjmhagafmkaaaChecked
import GoSem.Claim
import GoSem.ClaimJoined
import GoSem.ClaimMapViews
import Derived.JoinedTies
import Derived.KernelRfl
namespace Go.Proofs.Ytjdjmhagafmkaaa
/- THE CELL 'sum', in the pinned program and in every row, IS THE sha256 OF THE DUMP (.gsa) THAT YtjdjmhagafmkaaaProg.lean LOADS. Nothing in Lean hashes anything: it is a label: what it is worth is what the hold of that sum in a sandbox is worth. -/
noncomputable def Try.pinned : Pinned := { name := "ytjdjmhagafmkaaa", sum := "ae6d11093107852f86ad77119beffbc9f2c5e613c41944ab76d56020205ded87", checked := Try.checked }
namespace Rows
def none {H : Type} : Left H := { results := [], args := [] }

/-- 'deadboltlaw18.JudgeParts': WHATEVER THE INPUT: true; the input reads as it did. -/
def judgePartsSpec : ChangeSpec := { name := "judgeParts", fn := fun _ => fun
  | [d1, d2, d3, d4] => { results := [.lit (.bool true)], args := [d1, d2, d3, d4] }
  | _ => none }
def judgePartsRow : OpenClaim := { program := "ytjdjmhagafmkaaa", sum := "ae6d11093107852f86ad77119beffbc9f2c5e613c41944ab76d56020205ded87", func := "deadbolt/deadboltlaw18.JudgeParts", spec := "judgeParts", unfollowed := true, recurses := true, apart := false }
def JudgePartsSaid : Prop := judgePartsRow.holds Try.pinned (OpenSpec.ofChange judgePartsSpec)

/-- ITS FALSE NEIGHBOUR: 'it returns false'. Refute it at one input. -/
def judgePartsWrong : ChangeSpec := { name := "judgeParts", fn := fun _ => fun
  | [d1, d2, d3, d4] => { results := [.lit (.bool false)], args := [d1, d2, d3, d4] }
  | _ => none }
def JudgePartsWrongFalsely : Prop := judgePartsRow.holds Try.pinned (OpenSpec.ofChange judgePartsWrong)

/-- 'deadboltlaw18.JudgeTells': WHATEVER THE INPUT: true; the input reads as it did. -/
def judgeTellsSpec : ChangeSpec := { name := "judgeTells", fn := fun _ => fun
  | [d1, d2] => { results := [.lit (.bool true)], args := [d1, d2] }
  | _ => none }
def judgeTellsRow : OpenClaim := { program := "ytjdjmhagafmkaaa", sum := "ae6d11093107852f86ad77119beffbc9f2c5e613c41944ab76d56020205ded87", func := "deadbolt/deadboltlaw18.JudgeTells", spec := "judgeTells", unfollowed := true, recurses := true, apart := false }
def JudgeTellsSaid : Prop := judgeTellsRow.holds Try.pinned (OpenSpec.ofChange judgeTellsSpec)

/-- ITS FALSE NEIGHBOUR: 'it returns false'. Refute it at one input. -/
def judgeTellsWrong : ChangeSpec := { name := "judgeTells", fn := fun _ => fun
  | [d1, d2] => { results := [.lit (.bool false)], args := [d1, d2] }
  | _ => none }
def JudgeTellsWrongFalsely : Prop := judgeTellsRow.holds Try.pinned (OpenSpec.ofChange judgeTellsWrong)

/-- 'deadboltlaw18.JudgeHolds': WHATEVER THE INPUT: true; the input reads as it did. -/
def judgeHoldsSpec : ChangeSpec := { name := "judgeHolds", fn := fun _ => fun
  | [d1, d2] => { results := [.lit (.bool true)], args := [d1, d2] }
  | _ => none }
def judgeHoldsRow : OpenClaim := { program := "ytjdjmhagafmkaaa", sum := "ae6d11093107852f86ad77119beffbc9f2c5e613c41944ab76d56020205ded87", func := "deadbolt/deadboltlaw18.JudgeHolds", spec := "judgeHolds", unfollowed := true, recurses := true, apart := false }
def JudgeHoldsSaid : Prop := judgeHoldsRow.holds Try.pinned (OpenSpec.ofChange judgeHoldsSpec)

/-- ITS FALSE NEIGHBOUR: 'it returns false'. Refute it at one input. -/
def judgeHoldsWrong : ChangeSpec := { name := "judgeHolds", fn := fun _ => fun
  | [d1, d2] => { results := [.lit (.bool false)], args := [d1, d2] }
  | _ => none }
def JudgeHoldsWrongFalsely : Prop := judgeHoldsRow.holds Try.pinned (OpenSpec.ofChange judgeHoldsWrong)

/-- 'deadboltlaw21.GaugeShares': WHATEVER THE INPUT: true; the input reads as it did. -/
def gaugeSharesSpec : ChangeSpec := { name := "gaugeShares", fn := fun _ => fun
  | [d1, d2] => { results := [.lit (.bool true)], args := [d1, d2] }
  | _ => none }
def gaugeSharesRow : OpenClaim := { program := "ytjdjmhagafmkaaa", sum := "ae6d11093107852f86ad77119beffbc9f2c5e613c41944ab76d56020205ded87", func := "deadbolt/deadboltlaw21.GaugeShares", spec := "gaugeShares", inPlace := ["math.Float64bits", "math.Float64frombits"], unfollowed := true, recurses := true, apart := false }
def GaugeSharesSaid : Prop := gaugeSharesRow.holds Try.pinned (OpenSpec.ofChange gaugeSharesSpec)

/-- ITS FALSE NEIGHBOUR: 'it returns false'. Refute it at one input. -/
def gaugeSharesWrong : ChangeSpec := { name := "gaugeShares", fn := fun _ => fun
  | [d1, d2] => { results := [.lit (.bool false)], args := [d1, d2] }
  | _ => none }
def GaugeSharesWrongFalsely : Prop := gaugeSharesRow.holds Try.pinned (OpenSpec.ofChange gaugeSharesWrong)

/-- 'deadboltlaw21.GaugeParts': WHATEVER THE INPUT: true; the input reads as it did. -/
def gaugePartsSpec : ChangeSpec := { name := "gaugeParts", fn := fun _ => fun
  | [d1, d2] => { results := [.lit (.bool true)], args := [d1, d2] }
  | _ => none }
def gaugePartsRow : OpenClaim := { program := "ytjdjmhagafmkaaa", sum := "ae6d11093107852f86ad77119beffbc9f2c5e613c41944ab76d56020205ded87", func := "deadbolt/deadboltlaw21.GaugeParts", spec := "gaugeParts", unfollowed := true, recurses := true, apart := false }
def GaugePartsSaid : Prop := gaugePartsRow.holds Try.pinned (OpenSpec.ofChange gaugePartsSpec)

/-- ITS FALSE NEIGHBOUR: 'it returns false'. Refute it at one input. -/
def gaugePartsWrong : ChangeSpec := { name := "gaugeParts", fn := fun _ => fun
  | [d1, d2] => { results := [.lit (.bool false)], args := [d1, d2] }
  | _ => none }
def GaugePartsWrongFalsely : Prop := gaugePartsRow.holds Try.pinned (OpenSpec.ofChange gaugePartsWrong)

/-- 'deadboltlaw08.TreapNext': WHATEVER THE INPUT: true; the input reads as it did. -/
def treapNextSpec : ChangeSpec := { name := "treapNext", fn := fun _ => fun
  | [d1, d2, d3] => { results := [.lit (.bool true)], args := [d1, d2, d3] }
  | _ => none }
def treapNextRow : OpenClaim := { program := "ytjdjmhagafmkaaa", sum := "ae6d11093107852f86ad77119beffbc9f2c5e613c41944ab76d56020205ded87", func := "deadbolt/deadboltlaw08.TreapNext", spec := "treapNext", unfollowed := true, recurses := true, apart := false }
def TreapNextSaid : Prop := treapNextRow.holds Try.pinned (OpenSpec.ofChange treapNextSpec)

/-- ITS FALSE NEIGHBOUR: 'it returns false'. Refute it at one input. -/
def treapNextWrong : ChangeSpec := { name := "treapNext", fn := fun _ => fun
  | [d1, d2, d3] => { results := [.lit (.bool false)], args := [d1, d2, d3] }
  | _ => none }
def TreapNextWrongFalsely : Prop := treapNextRow.holds Try.pinned (OpenSpec.ofChange treapNextWrong)

/-- 'deadboltlaw08.TreapTells': WHATEVER THE INPUT: true; the input reads as it did. -/
def treapTellsSpec : ChangeSpec := { name := "treapTells", fn := fun _ => fun
  | [d1, d2] => { results := [.lit (.bool true)], args := [d1, d2] }
  | _ => none }
def treapTellsRow : OpenClaim := { program := "ytjdjmhagafmkaaa", sum := "ae6d11093107852f86ad77119beffbc9f2c5e613c41944ab76d56020205ded87", func := "deadbolt/deadboltlaw08.TreapTells", spec := "treapTells", unfollowed := true, recurses := true, apart := false }
def TreapTellsSaid : Prop := treapTellsRow.holds Try.pinned (OpenSpec.ofChange treapTellsSpec)

/-- ITS FALSE NEIGHBOUR: 'it returns false'. Refute it at one input. -/
def treapTellsWrong : ChangeSpec := { name := "treapTells", fn := fun _ => fun
  | [d1, d2] => { results := [.lit (.bool false)], args := [d1, d2] }
  | _ => none }
def TreapTellsWrongFalsely : Prop := treapTellsRow.holds Try.pinned (OpenSpec.ofChange treapTellsWrong)

/-- 'deadboltlaw08.TreapTurns': WHATEVER THE INPUT: true; the input reads as it did. -/
def treapTurnsSpec : ChangeSpec := { name := "treapTurns", fn := fun _ => fun
  | [d1, d2] => { results := [.lit (.bool true)], args := [d1, d2] }
  | _ => none }
def treapTurnsRow : OpenClaim := { program := "ytjdjmhagafmkaaa", sum := "ae6d11093107852f86ad77119beffbc9f2c5e613c41944ab76d56020205ded87", func := "deadbolt/deadboltlaw08.TreapTurns", spec := "treapTurns", unfollowed := true, recurses := true, apart := false }
def TreapTurnsSaid : Prop := treapTurnsRow.holds Try.pinned (OpenSpec.ofChange treapTurnsSpec)

/-- ITS FALSE NEIGHBOUR: 'it returns false'. Refute it at one input. -/
def treapTurnsWrong : ChangeSpec := { name := "treapTurns", fn := fun _ => fun
  | [d1, d2] => { results := [.lit (.bool false)], args := [d1, d2] }
  | _ => none }
def TreapTurnsWrongFalsely : Prop := treapTurnsRow.holds Try.pinned (OpenSpec.ofChange treapTurnsWrong)

/-- 'deadboltlaw08.TreapShape': WHATEVER THE INPUT: true; the input reads as it did. -/
def treapShapeSpec : ChangeSpec := { name := "treapShape", fn := fun _ => fun
  | [d1, d2, d3] => { results := [.lit (.bool true)], args := [d1, d2, d3] }
  | _ => none }
def treapShapeRow : OpenClaim := { program := "ytjdjmhagafmkaaa", sum := "ae6d11093107852f86ad77119beffbc9f2c5e613c41944ab76d56020205ded87", func := "deadbolt/deadboltlaw08.TreapShape", spec := "treapShape", unfollowed := true, recurses := true, apart := false }
def TreapShapeSaid : Prop := treapShapeRow.holds Try.pinned (OpenSpec.ofChange treapShapeSpec)

/-- ITS FALSE NEIGHBOUR: 'it returns false'. Refute it at one input. -/
def treapShapeWrong : ChangeSpec := { name := "treapShape", fn := fun _ => fun
  | [d1, d2, d3] => { results := [.lit (.bool false)], args := [d1, d2, d3] }
  | _ => none }
def TreapShapeWrongFalsely : Prop := treapShapeRow.holds Try.pinned (OpenSpec.ofChange treapShapeWrong)

/-- 'deadboltlaw08.TreapBack': WHATEVER THE INPUT: true; the input reads as it did. -/
def treapBackSpec : ChangeSpec := { name := "treapBack", fn := fun _ => fun
  | [d1, d2] => { results := [.lit (.bool true)], args := [d1, d2] }
  | _ => none }
def treapBackRow : OpenClaim := { program := "ytjdjmhagafmkaaa", sum := "ae6d11093107852f86ad77119beffbc9f2c5e613c41944ab76d56020205ded87", func := "deadbolt/deadboltlaw08.TreapBack", spec := "treapBack", unfollowed := true, recurses := true, apart := false }
def TreapBackSaid : Prop := treapBackRow.holds Try.pinned (OpenSpec.ofChange treapBackSpec)

/-- ITS FALSE NEIGHBOUR: 'it returns false'. Refute it at one input. -/
def treapBackWrong : ChangeSpec := { name := "treapBack", fn := fun _ => fun
  | [d1, d2] => { results := [.lit (.bool false)], args := [d1, d2] }
  | _ => none }
def TreapBackWrongFalsely : Prop := treapBackRow.holds Try.pinned (OpenSpec.ofChange treapBackWrong)

/- THE SECOND FORM. 'bulk': how many values and letters a reading holds, each counted each time it is reached (what is shared counts as often as it is met; a slice's spare places count too). A statement '..UptoSaid' is the law's where the arguments, and the package variables that the reading takes, are together of bulk at most 1048576: NARROWER than '..Said'. Prove '..Said' where nothing that the law and all that it calls make is longer than what came in: it says more and counts as full. Else prove '..UptoSaid'. A law counts once. -/
mutual
def uptoBulk {H : Type} : DataW H → Nat
  | .lit (.string bytes) => bytes.length + 1
  | .lit _ => 1
  | .nil => 1
  | .ptr d => uptoBulk d + 1
  | .slice elems spare => uptoBulkAll elems + uptoBulkAll spare + 1
  | .agg parts => uptoBulkAll parts + 1
  | .iface _ d => uptoBulk d + 1
  | .map entries => uptoBulkEntries entries + 1
  | .held _ => 1
def uptoBulkAll {H : Type} : List (DataW H) → Nat
  | [] => 0
  | d :: r => uptoBulk d + uptoBulkAll r
def uptoBulkEntries {H : Type} : List (Lit × DataW H) → Nat
  | [] => 0
  | x :: r => uptoBulkEntry x + uptoBulkEntries r
def uptoBulkEntry {H : Type} : Lit × DataW H → Nat
  | (.string bytes, d) => bytes.length + uptoBulk d + 1
  | (_, d) => uptoBulk d + 1
 end
def uptoSmall : (H : Type) → List (DataW H) → Bool := fun _ ds => decide (uptoBulkAll ds ≤ 1048576)
def OpenSpec.upto (s : _root_.Go.ChangeSpec) : _root_.Go.OpenSpec := { _root_.Go.OpenSpec.ofChange s with cond := some uptoSmall }

/-- 'deadboltlaw18.JudgeParts', WHERE WHAT IT READS IS OF BULK AT MOST 1048576: true; the input reads as it did. -/
def judgePartsUptoRow : OpenClaim := { program := "ytjdjmhagafmkaaa", sum := "ae6d11093107852f86ad77119beffbc9f2c5e613c41944ab76d56020205ded87", func := "deadbolt/deadboltlaw18.JudgeParts", spec := "judgeParts", unfollowed := true, recurses := true, apart := false, narrowed := true }
def JudgePartsUptoSaid : Prop := judgePartsUptoRow.holds Try.pinned (OpenSpec.upto judgePartsSpec)

/-- 'deadboltlaw18.JudgeTells', WHERE WHAT IT READS IS OF BULK AT MOST 1048576: true; the input reads as it did. -/
def judgeTellsUptoRow : OpenClaim := { program := "ytjdjmhagafmkaaa", sum := "ae6d11093107852f86ad77119beffbc9f2c5e613c41944ab76d56020205ded87", func := "deadbolt/deadboltlaw18.JudgeTells", spec := "judgeTells", unfollowed := true, recurses := true, apart := false, narrowed := true }
def JudgeTellsUptoSaid : Prop := judgeTellsUptoRow.holds Try.pinned (OpenSpec.upto judgeTellsSpec)

/-- 'deadboltlaw18.JudgeHolds', WHERE WHAT IT READS IS OF BULK AT MOST 1048576: true; the input reads as it did. -/
def judgeHoldsUptoRow : OpenClaim := { program := "ytjdjmhagafmkaaa", sum := "ae6d11093107852f86ad77119beffbc9f2c5e613c41944ab76d56020205ded87", func := "deadbolt/deadboltlaw18.JudgeHolds", spec := "judgeHolds", unfollowed := true, recurses := true, apart := false, narrowed := true }
def JudgeHoldsUptoSaid : Prop := judgeHoldsUptoRow.holds Try.pinned (OpenSpec.upto judgeHoldsSpec)

/-- 'deadboltlaw21.GaugeShares', WHERE WHAT IT READS IS OF BULK AT MOST 1048576: true; the input reads as it did. -/
def gaugeSharesUptoRow : OpenClaim := { program := "ytjdjmhagafmkaaa", sum := "ae6d11093107852f86ad77119beffbc9f2c5e613c41944ab76d56020205ded87", func := "deadbolt/deadboltlaw21.GaugeShares", spec := "gaugeShares", inPlace := ["math.Float64bits", "math.Float64frombits"], unfollowed := true, recurses := true, apart := false, narrowed := true }
def GaugeSharesUptoSaid : Prop := gaugeSharesUptoRow.holds Try.pinned (OpenSpec.upto gaugeSharesSpec)

/-- 'deadboltlaw21.GaugeParts', WHERE WHAT IT READS IS OF BULK AT MOST 1048576: true; the input reads as it did. -/
def gaugePartsUptoRow : OpenClaim := { program := "ytjdjmhagafmkaaa", sum := "ae6d11093107852f86ad77119beffbc9f2c5e613c41944ab76d56020205ded87", func := "deadbolt/deadboltlaw21.GaugeParts", spec := "gaugeParts", unfollowed := true, recurses := true, apart := false, narrowed := true }
def GaugePartsUptoSaid : Prop := gaugePartsUptoRow.holds Try.pinned (OpenSpec.upto gaugePartsSpec)

/-- 'deadboltlaw08.TreapNext', WHERE WHAT IT READS IS OF BULK AT MOST 1048576: true; the input reads as it did. -/
def treapNextUptoRow : OpenClaim := { program := "ytjdjmhagafmkaaa", sum := "ae6d11093107852f86ad77119beffbc9f2c5e613c41944ab76d56020205ded87", func := "deadbolt/deadboltlaw08.TreapNext", spec := "treapNext", unfollowed := true, recurses := true, apart := false, narrowed := true }
def TreapNextUptoSaid : Prop := treapNextUptoRow.holds Try.pinned (OpenSpec.upto treapNextSpec)

/-- 'deadboltlaw08.TreapTells', WHERE WHAT IT READS IS OF BULK AT MOST 1048576: true; the input reads as it did. -/
def treapTellsUptoRow : OpenClaim := { program := "ytjdjmhagafmkaaa", sum := "ae6d11093107852f86ad77119beffbc9f2c5e613c41944ab76d56020205ded87", func := "deadbolt/deadboltlaw08.TreapTells", spec := "treapTells", unfollowed := true, recurses := true, apart := false, narrowed := true }
def TreapTellsUptoSaid : Prop := treapTellsUptoRow.holds Try.pinned (OpenSpec.upto treapTellsSpec)

/-- 'deadboltlaw08.TreapTurns', WHERE WHAT IT READS IS OF BULK AT MOST 1048576: true; the input reads as it did. -/
def treapTurnsUptoRow : OpenClaim := { program := "ytjdjmhagafmkaaa", sum := "ae6d11093107852f86ad77119beffbc9f2c5e613c41944ab76d56020205ded87", func := "deadbolt/deadboltlaw08.TreapTurns", spec := "treapTurns", unfollowed := true, recurses := true, apart := false, narrowed := true }
def TreapTurnsUptoSaid : Prop := treapTurnsUptoRow.holds Try.pinned (OpenSpec.upto treapTurnsSpec)

/-- 'deadboltlaw08.TreapShape', WHERE WHAT IT READS IS OF BULK AT MOST 1048576: true; the input reads as it did. -/
def treapShapeUptoRow : OpenClaim := { program := "ytjdjmhagafmkaaa", sum := "ae6d11093107852f86ad77119beffbc9f2c5e613c41944ab76d56020205ded87", func := "deadbolt/deadboltlaw08.TreapShape", spec := "treapShape", unfollowed := true, recurses := true, apart := false, narrowed := true }
def TreapShapeUptoSaid : Prop := treapShapeUptoRow.holds Try.pinned (OpenSpec.upto treapShapeSpec)

/-- 'deadboltlaw08.TreapBack', WHERE WHAT IT READS IS OF BULK AT MOST 1048576: true; the input reads as it did. -/
def treapBackUptoRow : OpenClaim := { program := "ytjdjmhagafmkaaa", sum := "ae6d11093107852f86ad77119beffbc9f2c5e613c41944ab76d56020205ded87", func := "deadbolt/deadboltlaw08.TreapBack", spec := "treapBack", unfollowed := true, recurses := true, apart := false, narrowed := true }
def TreapBackUptoSaid : Prop := treapBackUptoRow.holds Try.pinned (OpenSpec.upto treapBackSpec)

end Rows
end Go.Proofs.Ytjdjmhagafmkaaa
