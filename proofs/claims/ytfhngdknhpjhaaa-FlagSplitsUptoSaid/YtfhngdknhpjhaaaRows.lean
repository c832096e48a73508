/-
  No cell of these rows narrows 'for every input' (looked for: loops, veiled, ifaces, maps, wideKeys, modest, calm, conditions, laid).
  DERIVED. THE GIVEN ROWS OF THIS SEAT. 9 by the template 'for every input the law returns true; each argument reads behind the call as it read before'; 0 by the template 'total and deterministic' (their statements: YtfhngdknhpjhaaaTotals.lean).
  GIVEN WITH THE SEED: the statements are not yours to turn. If you find one false, say at which input.
  Laid BY PROGRAM, IN A SANDBOX (cutbox-rows.mjs): the forced cells as the released guide's own fill.sh prints them over the translation 5213f7c7988e8b5f… (all of the seat's roots in one cut). By AI agents, Wed Nov 11 2026. No macro, syntax, notation, axiom, sorry.
-/
import Derived.Test.YtfhngdknhpjhaaaChecked
import GoSem.Claim
import GoSem.ClaimJoined
import GoSem.ClaimMapViews
import Derived.JoinedTies
import Derived.KernelRfl
namespace Go.Proofs.Ytfhngdknhpjhaaa
/- THE CELL 'sum', in the pinned program and in every row, IS THE sha256 OF THE DUMP (.gsa) THAT YtfhngdknhpjhaaaProg.lean LOADS. Nothing in Lean hashes anything: it is a label: what it is worth is what the hold of that sum in a sandbox is worth. -/
noncomputable def Try.pinned : Pinned := { name := "ytfhngdknhpjhaaa", sum := "5213f7c7988e8b5f2b2d72a383ff2e83fe43efd384ac275c42d81cd498223163", checked := Try.checked }
namespace Rows
def none {H : Type} : Left H := { results := [], args := [] }

/-- 'mailsacklaw5.PackBack': WHATEVER THE INPUT: true; the input reads as it did. -/
def packBackSpec : ChangeSpec := { name := "packBack", fn := fun _ => fun
  | [d1, d2, d3] => { results := [.lit (.bool true)], args := [d1, d2, d3] }
  | _ => none }
def packBackRow : OpenClaim := { program := "ytfhngdknhpjhaaa", sum := "5213f7c7988e8b5f2b2d72a383ff2e83fe43efd384ac275c42d81cd498223163", func := "mailsack/mailsacklaw5.PackBack", spec := "packBack", apart := false }
def PackBackSaid : Prop := packBackRow.holds Try.pinned (OpenSpec.ofChange packBackSpec)

/-- ITS FALSE NEIGHBOUR: 'it returns false'. Refute it at one input. -/
def packBackWrong : ChangeSpec := { name := "packBack", fn := fun _ => fun
  | [d1, d2, d3] => { results := [.lit (.bool false)], args := [d1, d2, d3] }
  | _ => none }
def PackBackWrongFalsely : Prop := packBackRow.holds Try.pinned (OpenSpec.ofChange packBackWrong)

/-- 'mailsacklaw5.PackOne': WHATEVER THE INPUT: true; the input reads as it did. -/
def packOneSpec : ChangeSpec := { name := "packOne", fn := fun _ => fun
  | [d] => { results := [.lit (.bool true)], args := [d] }
  | _ => none }
def packOneRow : OpenClaim := { program := "ytfhngdknhpjhaaa", sum := "5213f7c7988e8b5f2b2d72a383ff2e83fe43efd384ac275c42d81cd498223163", func := "mailsack/mailsacklaw5.PackOne", spec := "packOne", apart := false }
def PackOneSaid : Prop := packOneRow.holds Try.pinned (OpenSpec.ofChange packOneSpec)

/-- ITS FALSE NEIGHBOUR: 'it returns false'. Refute it at one input. -/
def packOneWrong : ChangeSpec := { name := "packOne", fn := fun _ => fun
  | [d] => { results := [.lit (.bool false)], args := [d] }
  | _ => none }
def PackOneWrongFalsely : Prop := packOneRow.holds Try.pinned (OpenSpec.ofChange packOneWrong)

/-- 'mailsacklaw5.PackForms': WHATEVER THE INPUT: true; the input reads as it did. -/
def packFormsSpec : ChangeSpec := { name := "packForms", fn := fun _ => fun
  | [d1, d2, d3] => { results := [.lit (.bool true)], args := [d1, d2, d3] }
  | _ => none }
def packFormsRow : OpenClaim := { program := "ytfhngdknhpjhaaa", sum := "5213f7c7988e8b5f2b2d72a383ff2e83fe43efd384ac275c42d81cd498223163", func := "mailsack/mailsacklaw5.PackForms", spec := "packForms", apart := false }
def PackFormsSaid : Prop := packFormsRow.holds Try.pinned (OpenSpec.ofChange packFormsSpec)

/-- ITS FALSE NEIGHBOUR: 'it returns false'. Refute it at one input. -/
def packFormsWrong : ChangeSpec := { name := "packForms", fn := fun _ => fun
  | [d1, d2, d3] => { results := [.lit (.bool false)], args := [d1, d2, d3] }
  | _ => none }
def PackFormsWrongFalsely : Prop := packFormsRow.holds Try.pinned (OpenSpec.ofChange packFormsWrong)

/-- 'mailsacklaw5.PackNil': WHATEVER THE INPUT: true; the input reads as it did. -/
def packNilSpec : ChangeSpec := { name := "packNil", fn := fun _ => fun
  | [d] => { results := [.lit (.bool true)], args := [d] }
  | _ => none }
def packNilRow : OpenClaim := { program := "ytfhngdknhpjhaaa", sum := "5213f7c7988e8b5f2b2d72a383ff2e83fe43efd384ac275c42d81cd498223163", func := "mailsack/mailsacklaw5.PackNil", spec := "packNil", apart := false }
def PackNilSaid : Prop := packNilRow.holds Try.pinned (OpenSpec.ofChange packNilSpec)

/-- ITS FALSE NEIGHBOUR: 'it returns false'. Refute it at one input. -/
def packNilWrong : ChangeSpec := { name := "packNil", fn := fun _ => fun
  | [d] => { results := [.lit (.bool false)], args := [d] }
  | _ => none }
def PackNilWrongFalsely : Prop := packNilRow.holds Try.pinned (OpenSpec.ofChange packNilWrong)

/-- 'mailsacklaw5.PackFixes': WHATEVER THE INPUT: true; the input reads as it did. -/
def packFixesSpec : ChangeSpec := { name := "packFixes", fn := fun _ => fun
  | [d1, d2] => { results := [.lit (.bool true)], args := [d1, d2] }
  | _ => none }
def packFixesRow : OpenClaim := { program := "ytfhngdknhpjhaaa", sum := "5213f7c7988e8b5f2b2d72a383ff2e83fe43efd384ac275c42d81cd498223163", func := "mailsack/mailsacklaw5.PackFixes", spec := "packFixes", apart := false }
def PackFixesSaid : Prop := packFixesRow.holds Try.pinned (OpenSpec.ofChange packFixesSpec)

/-- ITS FALSE NEIGHBOUR: 'it returns false'. Refute it at one input. -/
def packFixesWrong : ChangeSpec := { name := "packFixes", fn := fun _ => fun
  | [d1, d2] => { results := [.lit (.bool false)], args := [d1, d2] }
  | _ => none }
def PackFixesWrongFalsely : Prop := packFixesRow.holds Try.pinned (OpenSpec.ofChange packFixesWrong)

/-- 'mailsacklaw3.FlagSplits': WHATEVER THE INPUT: true; the input reads as it did. -/
def flagSplitsSpec : ChangeSpec := { name := "flagSplits", fn := fun _ => fun
  | [d1, d2, d3] => { results := [.lit (.bool true)], args := [d1, d2, d3] }
  | _ => none }
def flagSplitsRow : OpenClaim := { program := "ytfhngdknhpjhaaa", sum := "5213f7c7988e8b5f2b2d72a383ff2e83fe43efd384ac275c42d81cd498223163", func := "mailsack/mailsacklaw3.FlagSplits", spec := "flagSplits", inPlace := ["internal/bytealg.IndexByteString", "internal/abi.NoEscape", "internal/bytealg.MakeNoZero"], unfollowed := true, recurses := true, apart := false }
def FlagSplitsSaid : Prop := flagSplitsRow.holds Try.pinned (OpenSpec.ofChange flagSplitsSpec)

/-- ITS FALSE NEIGHBOUR: 'it returns false'. Refute it at one input. -/
def flagSplitsWrong : ChangeSpec := { name := "flagSplits", fn := fun _ => fun
  | [d1, d2, d3] => { results := [.lit (.bool false)], args := [d1, d2, d3] }
  | _ => none }
def FlagSplitsWrongFalsely : Prop := flagSplitsRow.holds Try.pinned (OpenSpec.ofChange flagSplitsWrong)

/-- 'mailsacklaw3.FlagBits': WHATEVER THE INPUT: true; the input reads as it did. -/
def flagBitsSpec : ChangeSpec := { name := "flagBits", fn := fun _ => fun
  | [d1, d2] => { results := [.lit (.bool true)], args := [d1, d2] }
  | _ => none }
def flagBitsRow : OpenClaim := { program := "ytfhngdknhpjhaaa", sum := "5213f7c7988e8b5f2b2d72a383ff2e83fe43efd384ac275c42d81cd498223163", func := "mailsack/mailsacklaw3.FlagBits", spec := "flagBits", inPlace := ["internal/bytealg.IndexByteString", "internal/abi.NoEscape", "internal/bytealg.MakeNoZero"], unfollowed := true, recurses := true, apart := false }
def FlagBitsSaid : Prop := flagBitsRow.holds Try.pinned (OpenSpec.ofChange flagBitsSpec)

/-- ITS FALSE NEIGHBOUR: 'it returns false'. Refute it at one input. -/
def flagBitsWrong : ChangeSpec := { name := "flagBits", fn := fun _ => fun
  | [d1, d2] => { results := [.lit (.bool false)], args := [d1, d2] }
  | _ => none }
def FlagBitsWrongFalsely : Prop := flagBitsRow.holds Try.pinned (OpenSpec.ofChange flagBitsWrong)

/-- 'mailsacklaw3.FlagTexts': WHATEVER THE INPUT: true; the input reads as it did. -/
def flagTextsSpec : ChangeSpec := { name := "flagTexts", fn := fun _ => fun
  | [d1, d2, d3] => { results := [.lit (.bool true)], args := [d1, d2, d3] }
  | _ => none }
def flagTextsRow : OpenClaim := { program := "ytfhngdknhpjhaaa", sum := "5213f7c7988e8b5f2b2d72a383ff2e83fe43efd384ac275c42d81cd498223163", func := "mailsack/mailsacklaw3.FlagTexts", spec := "flagTexts", inPlace := ["internal/bytealg.IndexByteString", "internal/abi.NoEscape", "internal/bytealg.MakeNoZero"], unfollowed := true, recurses := true, apart := false }
def FlagTextsSaid : Prop := flagTextsRow.holds Try.pinned (OpenSpec.ofChange flagTextsSpec)

/-- ITS FALSE NEIGHBOUR: 'it returns false'. Refute it at one input. -/
def flagTextsWrong : ChangeSpec := { name := "flagTexts", fn := fun _ => fun
  | [d1, d2, d3] => { results := [.lit (.bool false)], args := [d1, d2, d3] }
  | _ => none }
def FlagTextsWrongFalsely : Prop := flagTextsRow.holds Try.pinned (OpenSpec.ofChange flagTextsWrong)

/-- 'mailsacklaw3.FlagAtoms': WHATEVER THE INPUT: true; the input reads as it did. -/
def flagAtomsSpec : ChangeSpec := { name := "flagAtoms", fn := fun _ => fun
  | [d1, d2, d3] => { results := [.lit (.bool true)], args := [d1, d2, d3] }
  | _ => none }
def flagAtomsRow : OpenClaim := { program := "ytfhngdknhpjhaaa", sum := "5213f7c7988e8b5f2b2d72a383ff2e83fe43efd384ac275c42d81cd498223163", func := "mailsack/mailsacklaw3.FlagAtoms", spec := "flagAtoms", inPlace := ["internal/bytealg.IndexByteString", "internal/abi.NoEscape", "internal/bytealg.MakeNoZero"], unfollowed := true, recurses := true, apart := false }
def FlagAtomsSaid : Prop := flagAtomsRow.holds Try.pinned (OpenSpec.ofChange flagAtomsSpec)

/-- ITS FALSE NEIGHBOUR: 'it returns false'. Refute it at one input. -/
def flagAtomsWrong : ChangeSpec := { name := "flagAtoms", fn := fun _ => fun
  | [d1, d2, d3] => { results := [.lit (.bool false)], args := [d1, d2, d3] }
  | _ => none }
def FlagAtomsWrongFalsely : Prop := flagAtomsRow.holds Try.pinned (OpenSpec.ofChange flagAtomsWrong)

/- THE SECOND FORM. 'bulk': how many values and letters a reading holds, each counted each time it is reached (what is shared counts as often as it is met; a slice's spare places count too). A statement '..UptoSaid' is the law's where the arguments, and the package variables that the reading takes, are together of bulk at most 1048576: NARROWER than '..Said'. Prove '..Said' where nothing that the law and all that it calls make is longer than what came in: it says more and counts as full. Else prove '..UptoSaid'. A law counts once. -/
mutual
def uptoBulk {H : Type} : DataW H → Nat
  | .lit (.string bytes) => bytes.length + 1
  | .lit _ => 1
  | .nil => 1
  | .ptr d => uptoBulk d + 1
  | .slice elems spare => uptoBulkAll elems + uptoBulkAll spare + 1
  | .agg parts => uptoBulkAll parts + 1
  | .iface _ d => uptoBulk d + 1
  | .map entries => uptoBulkEntries entries + 1
  | .held _ => 1
def uptoBulkAll {H : Type} : List (DataW H) → Nat
  | [] => 0
  | d :: r => uptoBulk d + uptoBulkAll r
def uptoBulkEntries {H : Type} : List (Lit × DataW H) → Nat
  | [] => 0
  | x :: r => uptoBulkEntry x + uptoBulkEntries r
def uptoBulkEntry {H : Type} : Lit × DataW H → Nat
  | (.string bytes, d) => bytes.length + uptoBulk d + 1
  | (_, d) => uptoBulk d + 1
 end
def uptoSmall : (H : Type) → List (DataW H) → Bool := fun _ ds => decide (uptoBulkAll ds ≤ 1048576)
def OpenSpec.upto (s : _root_.Go.ChangeSpec) : _root_.Go.OpenSpec := { _root_.Go.OpenSpec.ofChange s with cond := some uptoSmall }

/-- 'mailsacklaw5.PackBack', WHERE WHAT IT READS IS OF BULK AT MOST 1048576: true; the input reads as it did. -/
def packBackUptoRow : OpenClaim := { program := "ytfhngdknhpjhaaa", sum := "5213f7c7988e8b5f2b2d72a383ff2e83fe43efd384ac275c42d81cd498223163", func := "mailsack/mailsacklaw5.PackBack", spec := "packBack", apart := false, narrowed := true }
def PackBackUptoSaid : Prop := packBackUptoRow.holds Try.pinned (OpenSpec.upto packBackSpec)

/-- 'mailsacklaw5.PackOne', WHERE WHAT IT READS IS OF BULK AT MOST 1048576: true; the input reads as it did. -/
def packOneUptoRow : OpenClaim := { program := "ytfhngdknhpjhaaa", sum := "5213f7c7988e8b5f2b2d72a383ff2e83fe43efd384ac275c42d81cd498223163", func := "mailsack/mailsacklaw5.PackOne", spec := "packOne", apart := false, narrowed := true }
def PackOneUptoSaid : Prop := packOneUptoRow.holds Try.pinned (OpenSpec.upto packOneSpec)

/-- 'mailsacklaw5.PackForms', WHERE WHAT IT READS IS OF BULK AT MOST 1048576: true; the input reads as it did. -/
def packFormsUptoRow : OpenClaim := { program := "ytfhngdknhpjhaaa", sum := "5213f7c7988e8b5f2b2d72a383ff2e83fe43efd384ac275c42d81cd498223163", func := "mailsack/mailsacklaw5.PackForms", spec := "packForms", apart := false, narrowed := true }
def PackFormsUptoSaid : Prop := packFormsUptoRow.holds Try.pinned (OpenSpec.upto packFormsSpec)

/-- 'mailsacklaw5.PackNil', WHERE WHAT IT READS IS OF BULK AT MOST 1048576: true; the input reads as it did. -/
def packNilUptoRow : OpenClaim := { program := "ytfhngdknhpjhaaa", sum := "5213f7c7988e8b5f2b2d72a383ff2e83fe43efd384ac275c42d81cd498223163", func := "mailsack/mailsacklaw5.PackNil", spec := "packNil", apart := false, narrowed := true }
def PackNilUptoSaid : Prop := packNilUptoRow.holds Try.pinned (OpenSpec.upto packNilSpec)

/-- 'mailsacklaw5.PackFixes', WHERE WHAT IT READS IS OF BULK AT MOST 1048576: true; the input reads as it did. -/
def packFixesUptoRow : OpenClaim := { program := "ytfhngdknhpjhaaa", sum := "5213f7c7988e8b5f2b2d72a383ff2e83fe43efd384ac275c42d81cd498223163", func := "mailsack/mailsacklaw5.PackFixes", spec := "packFixes", apart := false, narrowed := true }
def PackFixesUptoSaid : Prop := packFixesUptoRow.holds Try.pinned (OpenSpec.upto packFixesSpec)

/-- 'mailsacklaw3.FlagSplits', WHERE WHAT IT READS IS OF BULK AT MOST 1048576: true; the input reads as it did. -/
def flagSplitsUptoRow : OpenClaim := { program := "ytfhngdknhpjhaaa", sum := "5213f7c7988e8b5f2b2d72a383ff2e83fe43efd384ac275c42d81cd498223163", func := "mailsack/mailsacklaw3.FlagSplits", spec := "flagSplits", inPlace := ["internal/bytealg.IndexByteString", "internal/abi.NoEscape", "internal/bytealg.MakeNoZero"], unfollowed := true, recurses := true, apart := false, narrowed := true }
def FlagSplitsUptoSaid : Prop := flagSplitsUptoRow.holds Try.pinned (OpenSpec.upto flagSplitsSpec)

/-- 'mailsacklaw3.FlagBits', WHERE WHAT IT READS IS OF BULK AT MOST 1048576: true; the input reads as it did. -/
def flagBitsUptoRow : OpenClaim := { program := "ytfhngdknhpjhaaa", sum := "5213f7c7988e8b5f2b2d72a383ff2e83fe43efd384ac275c42d81cd498223163", func := "mailsack/mailsacklaw3.FlagBits", spec := "flagBits", inPlace := ["internal/bytealg.IndexByteString", "internal/abi.NoEscape", "internal/bytealg.MakeNoZero"], unfollowed := true, recurses := true, apart := false, narrowed := true }
def FlagBitsUptoSaid : Prop := flagBitsUptoRow.holds Try.pinned (OpenSpec.upto flagBitsSpec)

/-- 'mailsacklaw3.FlagTexts', WHERE WHAT IT READS IS OF BULK AT MOST 1048576: true; the input reads as it did. -/
def flagTextsUptoRow : OpenClaim := { program := "ytfhngdknhpjhaaa", sum := "5213f7c7988e8b5f2b2d72a383ff2e83fe43efd384ac275c42d81cd498223163", func := "mailsack/mailsacklaw3.FlagTexts", spec := "flagTexts", inPlace := ["internal/bytealg.IndexByteString", "internal/abi.NoEscape", "internal/bytealg.MakeNoZero"], unfollowed := true, recurses := true, apart := false, narrowed := true }
def FlagTextsUptoSaid : Prop := flagTextsUptoRow.holds Try.pinned (OpenSpec.upto flagTextsSpec)

/-- 'mailsacklaw3.FlagAtoms', WHERE WHAT IT READS IS OF BULK AT MOST 1048576: true; the input reads as it did. -/
def flagAtomsUptoRow : OpenClaim := { program := "ytfhngdknhpjhaaa", sum := "5213f7c7988e8b5f2b2d72a383ff2e83fe43efd384ac275c42d81cd498223163", func := "mailsack/mailsacklaw3.FlagAtoms", spec := "flagAtoms", inPlace := ["internal/bytealg.IndexByteString", "internal/abi.NoEscape", "internal/bytealg.MakeNoZero"], unfollowed := true, recurses := true, apart := false, narrowed := true }
def FlagAtomsUptoSaid : Prop := flagAtomsUptoRow.holds Try.pinned (OpenSpec.upto flagAtomsSpec)

end Rows
end Go.Proofs.Ytfhngdknhpjhaaa
