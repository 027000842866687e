/-
  No cell of these rows narrows 'for every input' (looked for: loops, veiled, ifaces, maps, wideKeys, modest, calm, conditions, laid).
  DERIVED. THE GIVEN ROWS OF THIS SEAT. 4 by the template 'for every input the law returns true; each argument reads behind the call as it read before'; 0 by the template 'total and deterministic' (their statements: YtddfiennoekjpaaTotals.lean).
  GIVEN WITH THE SEED: the statements are not yours to turn. If you find one false, say at which input.
  Laid BY PROGRAM, IN A SANDBOX (cutbox-rows.mjs): the forced cells as the released guide's own fill.sh prints them over the translation 17dd34301d62d7e7… (all of the seat's roots in one cut). By AI agents, Wed Nov 11 2026. No macro, syntax, notation, axiom, sorry.
-/
import Derived.Test.YtddfiennoekjpaaChecked
import GoSem.Claim
import GoSem.ClaimJoined
import GoSem.ClaimMapViews
import Derived.JoinedTies
import Derived.KernelRfl
namespace Go.Proofs.Ytddfiennoekjpaa
/- THE CELL 'sum', in the pinned program and in every row, IS THE sha256 OF THE DUMP (.gsa) THAT YtddfiennoekjpaaProg.lean LOADS. Nothing in Lean hashes anything: it is a label: what it is worth is what the hold of that sum in a sandbox is worth. -/
noncomputable def Try.pinned : Pinned := { name := "ytddfiennoekjpaa", sum := "17dd34301d62d7e7afedd2b9811d1deab0e30cf45e8af9904f34dd12d17a036c", checked := Try.checked }
namespace Rows
def none {H : Type} : Left H := { results := [], args := [] }

/-- 'assayerlaw13.ScoreHolds': WHATEVER THE INPUT: true; the input reads as it did. -/
def scoreHoldsSpec : ChangeSpec := { name := "scoreHolds", fn := fun _ => fun
  | [d1, d2, d3] => { results := [.lit (.bool true)], args := [d1, d2, d3] }
  | _ => none }
def scoreHoldsRow : OpenClaim := { program := "ytddfiennoekjpaa", sum := "17dd34301d62d7e7afedd2b9811d1deab0e30cf45e8af9904f34dd12d17a036c", func := "assayer/assayerlaw13.ScoreHolds", spec := "scoreHolds", unfollowed := true, recurses := true, apart := false }
def ScoreHoldsSaid : Prop := scoreHoldsRow.holds Try.pinned (OpenSpec.ofChange scoreHoldsSpec)

/-- ITS FALSE NEIGHBOUR: 'it returns false'. Refute it at one input. -/
def scoreHoldsWrong : ChangeSpec := { name := "scoreHolds", fn := fun _ => fun
  | [d1, d2, d3] => { results := [.lit (.bool false)], args := [d1, d2, d3] }
  | _ => none }
def ScoreHoldsWrongFalsely : Prop := scoreHoldsRow.holds Try.pinned (OpenSpec.ofChange scoreHoldsWrong)

/-- 'assayerlaw13.ScoreOthers': WHATEVER THE INPUT: true; the input reads as it did. -/
def scoreOthersSpec : ChangeSpec := { name := "scoreOthers", fn := fun _ => fun
  | [d1, d2, d3] => { results := [.lit (.bool true)], args := [d1, d2, d3] }
  | _ => none }
def scoreOthersRow : OpenClaim := { program := "ytddfiennoekjpaa", sum := "17dd34301d62d7e7afedd2b9811d1deab0e30cf45e8af9904f34dd12d17a036c", func := "assayer/assayerlaw13.ScoreOthers", spec := "scoreOthers", unfollowed := true, recurses := true, apart := false }
def ScoreOthersSaid : Prop := scoreOthersRow.holds Try.pinned (OpenSpec.ofChange scoreOthersSpec)

/-- ITS FALSE NEIGHBOUR: 'it returns false'. Refute it at one input. -/
def scoreOthersWrong : ChangeSpec := { name := "scoreOthers", fn := fun _ => fun
  | [d1, d2, d3] => { results := [.lit (.bool false)], args := [d1, d2, d3] }
  | _ => none }
def ScoreOthersWrongFalsely : Prop := scoreOthersRow.holds Try.pinned (OpenSpec.ofChange scoreOthersWrong)

/-- 'assayerlaw13.ScorePlays': WHATEVER THE INPUT: true; the input reads as it did. -/
def scorePlaysSpec : ChangeSpec := { name := "scorePlays", fn := fun _ => fun
  | [d1, d2, d3, d4] => { results := [.lit (.bool true)], args := [d1, d2, d3, d4] }
  | _ => none }
def scorePlaysRow : OpenClaim := { program := "ytddfiennoekjpaa", sum := "17dd34301d62d7e7afedd2b9811d1deab0e30cf45e8af9904f34dd12d17a036c", func := "assayer/assayerlaw13.ScorePlays", spec := "scorePlays", unfollowed := true, recurses := true, apart := false }
def ScorePlaysSaid : Prop := scorePlaysRow.holds Try.pinned (OpenSpec.ofChange scorePlaysSpec)

/-- ITS FALSE NEIGHBOUR: 'it returns false'. Refute it at one input. -/
def scorePlaysWrong : ChangeSpec := { name := "scorePlays", fn := fun _ => fun
  | [d1, d2, d3, d4] => { results := [.lit (.bool false)], args := [d1, d2, d3, d4] }
  | _ => none }
def ScorePlaysWrongFalsely : Prop := scorePlaysRow.holds Try.pinned (OpenSpec.ofChange scorePlaysWrong)

/-- 'assayerlaw13.ScoreSets': WHATEVER THE INPUT: true; the input reads as it did. -/
def scoreSetsSpec : ChangeSpec := { name := "scoreSets", fn := fun _ => fun
  | [d1, d2, d3, d4, d5] => { results := [.lit (.bool true)], args := [d1, d2, d3, d4, d5] }
  | _ => none }
def scoreSetsRow : OpenClaim := { program := "ytddfiennoekjpaa", sum := "17dd34301d62d7e7afedd2b9811d1deab0e30cf45e8af9904f34dd12d17a036c", func := "assayer/assayerlaw13.ScoreSets", spec := "scoreSets", unfollowed := true, recurses := true, apart := false }
def ScoreSetsSaid : Prop := scoreSetsRow.holds Try.pinned (OpenSpec.ofChange scoreSetsSpec)

/-- ITS FALSE NEIGHBOUR: 'it returns false'. Refute it at one input. -/
def scoreSetsWrong : ChangeSpec := { name := "scoreSets", fn := fun _ => fun
  | [d1, d2, d3, d4, d5] => { results := [.lit (.bool false)], args := [d1, d2, d3, d4, d5] }
  | _ => none }
def ScoreSetsWrongFalsely : Prop := scoreSetsRow.holds Try.pinned (OpenSpec.ofChange scoreSetsWrong)

/- THE SECOND FORM. 'bulk': how many values and letters a reading holds, each counted each time it is reached (what is shared counts as often as it is met; a slice's spare places count too). A statement '..UptoSaid' is the law's where the arguments, and the package variables that the reading takes, are together of bulk at most 1048576: NARROWER than '..Said'. Prove '..Said' where nothing that the law and all that it calls make is longer than what came in: it says more and counts as full. Else prove '..UptoSaid'. A law counts once. -/
mutual
def uptoBulk {H : Type} : DataW H → Nat
  | .lit (.string bytes) => bytes.length + 1
  | .lit _ => 1
  | .nil => 1
  | .ptr d => uptoBulk d + 1
  | .slice elems spare => uptoBulkAll elems + uptoBulkAll spare + 1
  | .agg parts => uptoBulkAll parts + 1
  | .iface _ d => uptoBulk d + 1
  | .map entries => uptoBulkEntries entries + 1
  | .held _ => 1
def uptoBulkAll {H : Type} : List (DataW H) → Nat
  | [] => 0
  | d :: r => uptoBulk d + uptoBulkAll r
def uptoBulkEntries {H : Type} : List (Lit × DataW H) → Nat
  | [] => 0
  | x :: r => uptoBulkEntry x + uptoBulkEntries r
def uptoBulkEntry {H : Type} : Lit × DataW H → Nat
  | (.string bytes, d) => bytes.length + uptoBulk d + 1
  | (_, d) => uptoBulk d + 1
 end
def uptoSmall : (H : Type) → List (DataW H) → Bool := fun _ ds => decide (uptoBulkAll ds ≤ 1048576)
def OpenSpec.upto (s : _root_.Go.ChangeSpec) : _root_.Go.OpenSpec := { _root_.Go.OpenSpec.ofChange s with cond := some uptoSmall }

/-- 'assayerlaw13.ScoreHolds', WHERE WHAT IT READS IS OF BULK AT MOST 1048576: true; the input reads as it did. -/
def scoreHoldsUptoRow : OpenClaim := { program := "ytddfiennoekjpaa", sum := "17dd34301d62d7e7afedd2b9811d1deab0e30cf45e8af9904f34dd12d17a036c", func := "assayer/assayerlaw13.ScoreHolds", spec := "scoreHolds", unfollowed := true, recurses := true, apart := false, narrowed := true }
def ScoreHoldsUptoSaid : Prop := scoreHoldsUptoRow.holds Try.pinned (OpenSpec.upto scoreHoldsSpec)

/-- 'assayerlaw13.ScoreOthers', WHERE WHAT IT READS IS OF BULK AT MOST 1048576: true; the input reads as it did. -/
def scoreOthersUptoRow : OpenClaim := { program := "ytddfiennoekjpaa", sum := "17dd34301d62d7e7afedd2b9811d1deab0e30cf45e8af9904f34dd12d17a036c", func := "assayer/assayerlaw13.ScoreOthers", spec := "scoreOthers", unfollowed := true, recurses := true, apart := false, narrowed := true }
def ScoreOthersUptoSaid : Prop := scoreOthersUptoRow.holds Try.pinned (OpenSpec.upto scoreOthersSpec)

/-- 'assayerlaw13.ScorePlays', WHERE WHAT IT READS IS OF BULK AT MOST 1048576: true; the input reads as it did. -/
def scorePlaysUptoRow : OpenClaim := { program := "ytddfiennoekjpaa", sum := "17dd34301d62d7e7afedd2b9811d1deab0e30cf45e8af9904f34dd12d17a036c", func := "assayer/assayerlaw13.ScorePlays", spec := "scorePlays", unfollowed := true, recurses := true, apart := false, narrowed := true }
def ScorePlaysUptoSaid : Prop := scorePlaysUptoRow.holds Try.pinned (OpenSpec.upto scorePlaysSpec)

/-- 'assayerlaw13.ScoreSets', WHERE WHAT IT READS IS OF BULK AT MOST 1048576: true; the input reads as it did. -/
def scoreSetsUptoRow : OpenClaim := { program := "ytddfiennoekjpaa", sum := "17dd34301d62d7e7afedd2b9811d1deab0e30cf45e8af9904f34dd12d17a036c", func := "assayer/assayerlaw13.ScoreSets", spec := "scoreSets", unfollowed := true, recurses := true, apart := false, narrowed := true }
def ScoreSetsUptoSaid : Prop := scoreSetsUptoRow.holds Try.pinned (OpenSpec.upto scoreSetsSpec)

end Rows
end Go.Proofs.Ytddfiennoekjpaa
