/-
  No cell of these rows narrows 'for every input' (looked for: loops, veiled, ifaces, maps, wideKeys, modest, calm, conditions, laid).
  DERIVED. THE GIVEN ROWS OF THIS SEAT. 6 by the template 'for every input the law returns true; each argument reads behind the call as it read before'; 0 by the template 'total and deterministic' (their statements: YtehlegjccghalaaTotals.lean).
  GIVEN WITH THE SEED: the statements are not yours to turn. If you find one false, say at which input.
  Laid BY PROGRAM, IN A SANDBOX (cutbox-rows.mjs): the forced cells as the released guide's own fill.sh prints them over the translation d6e4d04665d5b8b2… (all of the seat's roots in one cut). By AI agents, Wed Nov 11 2026. No macro, syntax, notation, axiom, sorry.
-/
import Derived.Test.YtehlegjccghalaaChecked
import GoSem.Claim
import GoSem.ClaimJoined
import GoSem.ClaimMapViews
import Derived.JoinedTies
import Derived.KernelRfl
namespace Go.Proofs.Ytehlegjccghalaa
/- THE CELL 'sum', in the pinned program and in every row, IS THE sha256 OF THE DUMP (.gsa) THAT YtehlegjccghalaaProg.lean LOADS. Nothing in Lean hashes anything: it is a label: what it is worth is what the hold of that sum in a sandbox is worth. -/
noncomputable def Try.pinned : Pinned := { name := "ytehlegjccghalaa", sum := "d6e4d04665d5b8b2ef067e3938bfd36f988a34917bc6cbcf15b9dfffa499fa52", checked := Try.checked }
namespace Rows
def none {H : Type} : Left H := { results := [], args := [] }

/-- 'mailsacklaw1.TableRoom': WHATEVER THE INPUT: true; the input reads as it did. -/
def tableRoomSpec : ChangeSpec := { name := "tableRoom", fn := fun _ => fun
  | [d1, d2] => { results := [.lit (.bool true)], args := [d1, d2] }
  | _ => none }
def tableRoomRow : OpenClaim := { program := "ytehlegjccghalaa", sum := "d6e4d04665d5b8b2ef067e3938bfd36f988a34917bc6cbcf15b9dfffa499fa52", func := "mailsack/mailsacklaw1.TableRoom", spec := "tableRoom", inPlace := ["slices.overlaps[string]", "slices.overlaps[int]"], apart := false }
def TableRoomSaid : Prop := tableRoomRow.holds Try.pinned (OpenSpec.ofChange tableRoomSpec)

/-- ITS FALSE NEIGHBOUR: 'it returns false'. Refute it at one input. -/
def tableRoomWrong : ChangeSpec := { name := "tableRoom", fn := fun _ => fun
  | [d1, d2] => { results := [.lit (.bool false)], args := [d1, d2] }
  | _ => none }
def TableRoomWrongFalsely : Prop := tableRoomRow.holds Try.pinned (OpenSpec.ofChange tableRoomWrong)

/-- 'mailsacklaw1.TableSteps': WHATEVER THE INPUT: true; the input reads as it did. -/
def tableStepsSpec : ChangeSpec := { name := "tableSteps", fn := fun _ => fun
  | [d] => { results := [.lit (.bool true)], args := [d] }
  | _ => none }
def tableStepsRow : OpenClaim := { program := "ytehlegjccghalaa", sum := "d6e4d04665d5b8b2ef067e3938bfd36f988a34917bc6cbcf15b9dfffa499fa52", func := "mailsack/mailsacklaw1.TableSteps", spec := "tableSteps", inPlace := ["slices.overlaps[string]", "slices.overlaps[int]"], apart := false }
def TableStepsSaid : Prop := tableStepsRow.holds Try.pinned (OpenSpec.ofChange tableStepsSpec)

/-- ITS FALSE NEIGHBOUR: 'it returns false'. Refute it at one input. -/
def tableStepsWrong : ChangeSpec := { name := "tableSteps", fn := fun _ => fun
  | [d] => { results := [.lit (.bool false)], args := [d] }
  | _ => none }
def TableStepsWrongFalsely : Prop := tableStepsRow.holds Try.pinned (OpenSpec.ofChange tableStepsWrong)

/-- 'mailsacklaw1.TableTexts': WHATEVER THE INPUT: true; the input reads as it did. -/
def tableTextsSpec : ChangeSpec := { name := "tableTexts", fn := fun _ => fun
  | [d1, d2] => { results := [.lit (.bool true)], args := [d1, d2] }
  | _ => none }
def tableTextsRow : OpenClaim := { program := "ytehlegjccghalaa", sum := "d6e4d04665d5b8b2ef067e3938bfd36f988a34917bc6cbcf15b9dfffa499fa52", func := "mailsack/mailsacklaw1.TableTexts", spec := "tableTexts", inPlace := ["slices.overlaps[string]", "slices.overlaps[int]"], apart := false }
def TableTextsSaid : Prop := tableTextsRow.holds Try.pinned (OpenSpec.ofChange tableTextsSpec)

/-- ITS FALSE NEIGHBOUR: 'it returns false'. Refute it at one input. -/
def tableTextsWrong : ChangeSpec := { name := "tableTexts", fn := fun _ => fun
  | [d1, d2] => { results := [.lit (.bool false)], args := [d1, d2] }
  | _ => none }
def TableTextsWrongFalsely : Prop := tableTextsRow.holds Try.pinned (OpenSpec.ofChange tableTextsWrong)

/-- 'mailsacklaw1.TablePlays': WHATEVER THE INPUT: true; the input reads as it did. -/
def tablePlaysSpec : ChangeSpec := { name := "tablePlays", fn := fun _ => fun
  | [d1, d2] => { results := [.lit (.bool true)], args := [d1, d2] }
  | _ => none }
def tablePlaysRow : OpenClaim := { program := "ytehlegjccghalaa", sum := "d6e4d04665d5b8b2ef067e3938bfd36f988a34917bc6cbcf15b9dfffa499fa52", func := "mailsack/mailsacklaw1.TablePlays", spec := "tablePlays", inPlace := ["slices.overlaps[string]", "slices.overlaps[int]"], apart := false }
def TablePlaysSaid : Prop := tablePlaysRow.holds Try.pinned (OpenSpec.ofChange tablePlaysSpec)

/-- ITS FALSE NEIGHBOUR: 'it returns false'. Refute it at one input. -/
def tablePlaysWrong : ChangeSpec := { name := "tablePlays", fn := fun _ => fun
  | [d1, d2] => { results := [.lit (.bool false)], args := [d1, d2] }
  | _ => none }
def TablePlaysWrongFalsely : Prop := tablePlaysRow.holds Try.pinned (OpenSpec.ofChange tablePlaysWrong)

/-- 'mailsacklaw1.TableNil': WHATEVER THE INPUT: true; the input reads as it did. -/
def tableNilSpec : ChangeSpec := { name := "tableNil", fn := fun _ => fun
  | [d1, d2] => { results := [.lit (.bool true)], args := [d1, d2] }
  | _ => none }
def tableNilRow : OpenClaim := { program := "ytehlegjccghalaa", sum := "d6e4d04665d5b8b2ef067e3938bfd36f988a34917bc6cbcf15b9dfffa499fa52", func := "mailsack/mailsacklaw1.TableNil", spec := "tableNil", inPlace := ["slices.overlaps[int]", "slices.overlaps[string]"], apart := false }
def TableNilSaid : Prop := tableNilRow.holds Try.pinned (OpenSpec.ofChange tableNilSpec)

/-- ITS FALSE NEIGHBOUR: 'it returns false'. Refute it at one input. -/
def tableNilWrong : ChangeSpec := { name := "tableNil", fn := fun _ => fun
  | [d1, d2] => { results := [.lit (.bool false)], args := [d1, d2] }
  | _ => none }
def TableNilWrongFalsely : Prop := tableNilRow.holds Try.pinned (OpenSpec.ofChange tableNilWrong)

/-- 'mailsacklaw1.TableCuts': WHATEVER THE INPUT: true; the input reads as it did. -/
def tableCutsSpec : ChangeSpec := { name := "tableCuts", fn := fun _ => fun
  | [d1, d2] => { results := [.lit (.bool true)], args := [d1, d2] }
  | _ => none }
def tableCutsRow : OpenClaim := { program := "ytehlegjccghalaa", sum := "d6e4d04665d5b8b2ef067e3938bfd36f988a34917bc6cbcf15b9dfffa499fa52", func := "mailsack/mailsacklaw1.TableCuts", spec := "tableCuts", inPlace := ["slices.overlaps[string]", "slices.overlaps[int]"], apart := false }
def TableCutsSaid : Prop := tableCutsRow.holds Try.pinned (OpenSpec.ofChange tableCutsSpec)

/-- ITS FALSE NEIGHBOUR: 'it returns false'. Refute it at one input. -/
def tableCutsWrong : ChangeSpec := { name := "tableCuts", fn := fun _ => fun
  | [d1, d2] => { results := [.lit (.bool false)], args := [d1, d2] }
  | _ => none }
def TableCutsWrongFalsely : Prop := tableCutsRow.holds Try.pinned (OpenSpec.ofChange tableCutsWrong)

/- THE SECOND FORM. 'bulk': how many values and letters a reading holds, each counted each time it is reached (what is shared counts as often as it is met; a slice's spare places count too). A statement '..UptoSaid' is the law's where the arguments, and the package variables that the reading takes, are together of bulk at most 1048576: NARROWER than '..Said'. Prove '..Said' where nothing that the law and all that it calls make is longer than what came in: it says more and counts as full. Else prove '..UptoSaid'. A law counts once. -/
mutual
def uptoBulk {H : Type} : DataW H → Nat
  | .lit (.string bytes) => bytes.length + 1
  | .lit _ => 1
  | .nil => 1
  | .ptr d => uptoBulk d + 1
  | .slice elems spare => uptoBulkAll elems + uptoBulkAll spare + 1
  | .agg parts => uptoBulkAll parts + 1
  | .iface _ d => uptoBulk d + 1
  | .map entries => uptoBulkEntries entries + 1
  | .held _ => 1
def uptoBulkAll {H : Type} : List (DataW H) → Nat
  | [] => 0
  | d :: r => uptoBulk d + uptoBulkAll r
def uptoBulkEntries {H : Type} : List (Lit × DataW H) → Nat
  | [] => 0
  | x :: r => uptoBulkEntry x + uptoBulkEntries r
def uptoBulkEntry {H : Type} : Lit × DataW H → Nat
  | (.string bytes, d) => bytes.length + uptoBulk d + 1
  | (_, d) => uptoBulk d + 1
 end
def uptoSmall : (H : Type) → List (DataW H) → Bool := fun _ ds => decide (uptoBulkAll ds ≤ 1048576)
def OpenSpec.upto (s : _root_.Go.ChangeSpec) : _root_.Go.OpenSpec := { _root_.Go.OpenSpec.ofChange s with cond := some uptoSmall }

/-- 'mailsacklaw1.TableRoom', WHERE WHAT IT READS IS OF BULK AT MOST 1048576: true; the input reads as it did. -/
def tableRoomUptoRow : OpenClaim := { program := "ytehlegjccghalaa", sum := "d6e4d04665d5b8b2ef067e3938bfd36f988a34917bc6cbcf15b9dfffa499fa52", func := "mailsack/mailsacklaw1.TableRoom", spec := "tableRoom", inPlace := ["slices.overlaps[string]", "slices.overlaps[int]"], apart := false, narrowed := true }
def TableRoomUptoSaid : Prop := tableRoomUptoRow.holds Try.pinned (OpenSpec.upto tableRoomSpec)

/-- 'mailsacklaw1.TableSteps', WHERE WHAT IT READS IS OF BULK AT MOST 1048576: true; the input reads as it did. -/
def tableStepsUptoRow : OpenClaim := { program := "ytehlegjccghalaa", sum := "d6e4d04665d5b8b2ef067e3938bfd36f988a34917bc6cbcf15b9dfffa499fa52", func := "mailsack/mailsacklaw1.TableSteps", spec := "tableSteps", inPlace := ["slices.overlaps[string]", "slices.overlaps[int]"], apart := false, narrowed := true }
def TableStepsUptoSaid : Prop := tableStepsUptoRow.holds Try.pinned (OpenSpec.upto tableStepsSpec)

/-- 'mailsacklaw1.TableTexts', WHERE WHAT IT READS IS OF BULK AT MOST 1048576: true; the input reads as it did. -/
def tableTextsUptoRow : OpenClaim := { program := "ytehlegjccghalaa", sum := "d6e4d04665d5b8b2ef067e3938bfd36f988a34917bc6cbcf15b9dfffa499fa52", func := "mailsack/mailsacklaw1.TableTexts", spec := "tableTexts", inPlace := ["slices.overlaps[string]", "slices.overlaps[int]"], apart := false, narrowed := true }
def TableTextsUptoSaid : Prop := tableTextsUptoRow.holds Try.pinned (OpenSpec.upto tableTextsSpec)

/-- 'mailsacklaw1.TablePlays', WHERE WHAT IT READS IS OF BULK AT MOST 1048576: true; the input reads as it did. -/
def tablePlaysUptoRow : OpenClaim := { program := "ytehlegjccghalaa", sum := "d6e4d04665d5b8b2ef067e3938bfd36f988a34917bc6cbcf15b9dfffa499fa52", func := "mailsack/mailsacklaw1.TablePlays", spec := "tablePlays", inPlace := ["slices.overlaps[string]", "slices.overlaps[int]"], apart := false, narrowed := true }
def TablePlaysUptoSaid : Prop := tablePlaysUptoRow.holds Try.pinned (OpenSpec.upto tablePlaysSpec)

/-- 'mailsacklaw1.TableNil', WHERE WHAT IT READS IS OF BULK AT MOST 1048576: true; the input reads as it did. -/
def tableNilUptoRow : OpenClaim := { program := "ytehlegjccghalaa", sum := "d6e4d04665d5b8b2ef067e3938bfd36f988a34917bc6cbcf15b9dfffa499fa52", func := "mailsack/mailsacklaw1.TableNil", spec := "tableNil", inPlace := ["slices.overlaps[int]", "slices.overlaps[string]"], apart := false, narrowed := true }
def TableNilUptoSaid : Prop := tableNilUptoRow.holds Try.pinned (OpenSpec.upto tableNilSpec)

/-- 'mailsacklaw1.TableCuts', WHERE WHAT IT READS IS OF BULK AT MOST 1048576: true; the input reads as it did. -/
def tableCutsUptoRow : OpenClaim := { program := "ytehlegjccghalaa", sum := "d6e4d04665d5b8b2ef067e3938bfd36f988a34917bc6cbcf15b9dfffa499fa52", func := "mailsack/mailsacklaw1.TableCuts", spec := "tableCuts", inPlace := ["slices.overlaps[string]", "slices.overlaps[int]"], apart := false, narrowed := true }
def TableCutsUptoSaid : Prop := tableCutsUptoRow.holds Try.pinned (OpenSpec.upto tableCutsSpec)

end Rows
end Go.Proofs.Ytehlegjccghalaa
