/-
  No cell of these rows narrows 'for every input' (looked for: loops, veiled, ifaces, maps, wideKeys, modest, calm, conditions, laid).
  DERIVED. THE GIVEN ROWS OF THIS SEAT. 4 by the template 'for every input the law returns true; each argument reads behind the call as it read before'; 0 by the template 'total and deterministic' (their statements: YtjlabkibpknkpaaTotals.lean).
  GIVEN WITH THE SEED: the statements are not yours to turn. If you find one false, say at which input.
  Laid BY PROGRAM, IN A SANDBOX (cutbox-rows.mjs): the forced cells as the released guide's own fill.sh prints them over the translation 2e171f135bfd145c… (all of the seat's roots in one cut). By AI agents, Wed Nov 11 2026. No macro, syntax, notation, axiom, sorry.
-/
import Derived.Test.YtjlabkibpknkpaaChecked
import GoSem.Claim
import GoSem.ClaimJoined
import GoSem.ClaimMapViews
import Derived.JoinedTies
import Derived.KernelRfl
namespace Go.Proofs.Ytjlabkibpknkpaa
/- THE CELL 'sum', in the pinned program and in every row, IS THE sha256 OF THE DUMP (.gsa) THAT YtjlabkibpknkpaaProg.lean LOADS. Nothing in Lean hashes anything: it is a label: what it is worth is what the hold of that sum in a sandbox is worth. -/
noncomputable def Try.pinned : Pinned := { name := "ytjlabkibpknkpaa", sum := "2e171f135bfd145c26e2110d2785e8c47be07c58209ffd94abbaaa4ab8946692", checked := Try.checked }
namespace Rows
def none {H : Type} : Left H := { results := [], args := [] }

/-- 'mailsacklaw10.Form3Msgs': WHATEVER THE INPUT: true; the input reads as it did. -/
def form3MsgsSpec : ChangeSpec := { name := "form3Msgs", fn := fun _ => fun
  | [d] => { results := [.lit (.bool true)], args := [d] }
  | _ => none }
def form3MsgsRow : OpenClaim := { program := "ytjlabkibpknkpaa", sum := "2e171f135bfd145c26e2110d2785e8c47be07c58209ffd94abbaaa4ab8946692", func := "mailsack/mailsacklaw10.Form3Msgs", spec := "form3Msgs", inPlace := ["internal/bytealg.IndexByteString"], apart := false }
def Form3MsgsSaid : Prop := form3MsgsRow.holds Try.pinned (OpenSpec.ofChange form3MsgsSpec)

/-- ITS FALSE NEIGHBOUR: 'it returns false'. Refute it at one input. -/
def form3MsgsWrong : ChangeSpec := { name := "form3Msgs", fn := fun _ => fun
  | [d] => { results := [.lit (.bool false)], args := [d] }
  | _ => none }
def Form3MsgsWrongFalsely : Prop := form3MsgsRow.holds Try.pinned (OpenSpec.ofChange form3MsgsWrong)

/-- 'mailsacklaw10.Form3Back': WHATEVER THE INPUT: true; the input reads as it did. -/
def form3BackSpec : ChangeSpec := { name := "form3Back", fn := fun _ => fun
  | [d1, d2] => { results := [.lit (.bool true)], args := [d1, d2] }
  | _ => none }
def form3BackRow : OpenClaim := { program := "ytjlabkibpknkpaa", sum := "2e171f135bfd145c26e2110d2785e8c47be07c58209ffd94abbaaa4ab8946692", func := "mailsack/mailsacklaw10.Form3Back", spec := "form3Back", inPlace := ["internal/bytealg.IndexByteString"], apart := false }
def Form3BackSaid : Prop := form3BackRow.holds Try.pinned (OpenSpec.ofChange form3BackSpec)

/-- ITS FALSE NEIGHBOUR: 'it returns false'. Refute it at one input. -/
def form3BackWrong : ChangeSpec := { name := "form3Back", fn := fun _ => fun
  | [d1, d2] => { results := [.lit (.bool false)], args := [d1, d2] }
  | _ => none }
def Form3BackWrongFalsely : Prop := form3BackRow.holds Try.pinned (OpenSpec.ofChange form3BackWrong)

/-- 'mailsacklaw10.Form3Raw': WHATEVER THE INPUT: true; the input reads as it did. -/
def form3RawSpec : ChangeSpec := { name := "form3Raw", fn := fun _ => fun
  | [d1, d2] => { results := [.lit (.bool true)], args := [d1, d2] }
  | _ => none }
def form3RawRow : OpenClaim := { program := "ytjlabkibpknkpaa", sum := "2e171f135bfd145c26e2110d2785e8c47be07c58209ffd94abbaaa4ab8946692", func := "mailsack/mailsacklaw10.Form3Raw", spec := "form3Raw", inPlace := ["internal/bytealg.IndexByteString"], apart := false }
def Form3RawSaid : Prop := form3RawRow.holds Try.pinned (OpenSpec.ofChange form3RawSpec)

/-- ITS FALSE NEIGHBOUR: 'it returns false'. Refute it at one input. -/
def form3RawWrong : ChangeSpec := { name := "form3Raw", fn := fun _ => fun
  | [d1, d2] => { results := [.lit (.bool false)], args := [d1, d2] }
  | _ => none }
def Form3RawWrongFalsely : Prop := form3RawRow.holds Try.pinned (OpenSpec.ofChange form3RawWrong)

/-- 'mailsacklaw10.Form3Cut': WHATEVER THE INPUT: true; the input reads as it did. -/
def form3CutSpec : ChangeSpec := { name := "form3Cut", fn := fun _ => fun
  | [d1, d2, d3] => { results := [.lit (.bool true)], args := [d1, d2, d3] }
  | _ => none }
def form3CutRow : OpenClaim := { program := "ytjlabkibpknkpaa", sum := "2e171f135bfd145c26e2110d2785e8c47be07c58209ffd94abbaaa4ab8946692", func := "mailsack/mailsacklaw10.Form3Cut", spec := "form3Cut", inPlace := ["internal/bytealg.IndexByteString"], apart := false }
def Form3CutSaid : Prop := form3CutRow.holds Try.pinned (OpenSpec.ofChange form3CutSpec)

/-- ITS FALSE NEIGHBOUR: 'it returns false'. Refute it at one input. -/
def form3CutWrong : ChangeSpec := { name := "form3Cut", fn := fun _ => fun
  | [d1, d2, d3] => { results := [.lit (.bool false)], args := [d1, d2, d3] }
  | _ => none }
def Form3CutWrongFalsely : Prop := form3CutRow.holds Try.pinned (OpenSpec.ofChange form3CutWrong)

/- THE SECOND FORM. 'bulk': how many values and letters a reading holds, each counted each time it is reached (what is shared counts as often as it is met; a slice's spare places count too). A statement '..UptoSaid' is the law's where the arguments, and the package variables that the reading takes, are together of bulk at most 1048576: NARROWER than '..Said'. Prove '..Said' where nothing that the law and all that it calls make is longer than what came in: it says more and counts as full. Else prove '..UptoSaid'. A law counts once. -/
mutual
def uptoBulk {H : Type} : DataW H → Nat
  | .lit (.string bytes) => bytes.length + 1
  | .lit _ => 1
  | .nil => 1
  | .ptr d => uptoBulk d + 1
  | .slice elems spare => uptoBulkAll elems + uptoBulkAll spare + 1
  | .agg parts => uptoBulkAll parts + 1
  | .iface _ d => uptoBulk d + 1
  | .map entries => uptoBulkEntries entries + 1
  | .held _ => 1
def uptoBulkAll {H : Type} : List (DataW H) → Nat
  | [] => 0
  | d :: r => uptoBulk d + uptoBulkAll r
def uptoBulkEntries {H : Type} : List (Lit × DataW H) → Nat
  | [] => 0
  | x :: r => uptoBulkEntry x + uptoBulkEntries r
def uptoBulkEntry {H : Type} : Lit × DataW H → Nat
  | (.string bytes, d) => bytes.length + uptoBulk d + 1
  | (_, d) => uptoBulk d + 1
 end
def uptoSmall : (H : Type) → List (DataW H) → Bool := fun _ ds => decide (uptoBulkAll ds ≤ 1048576)
def OpenSpec.upto (s : _root_.Go.ChangeSpec) : _root_.Go.OpenSpec := { _root_.Go.OpenSpec.ofChange s with cond := some uptoSmall }

/-- 'mailsacklaw10.Form3Msgs', WHERE WHAT IT READS IS OF BULK AT MOST 1048576: true; the input reads as it did. -/
def form3MsgsUptoRow : OpenClaim := { program := "ytjlabkibpknkpaa", sum := "2e171f135bfd145c26e2110d2785e8c47be07c58209ffd94abbaaa4ab8946692", func := "mailsack/mailsacklaw10.Form3Msgs", spec := "form3Msgs", inPlace := ["internal/bytealg.IndexByteString"], apart := false, narrowed := true }
def Form3MsgsUptoSaid : Prop := form3MsgsUptoRow.holds Try.pinned (OpenSpec.upto form3MsgsSpec)

/-- 'mailsacklaw10.Form3Back', WHERE WHAT IT READS IS OF BULK AT MOST 1048576: true; the input reads as it did. -/
def form3BackUptoRow : OpenClaim := { program := "ytjlabkibpknkpaa", sum := "2e171f135bfd145c26e2110d2785e8c47be07c58209ffd94abbaaa4ab8946692", func := "mailsack/mailsacklaw10.Form3Back", spec := "form3Back", inPlace := ["internal/bytealg.IndexByteString"], apart := false, narrowed := true }
def Form3BackUptoSaid : Prop := form3BackUptoRow.holds Try.pinned (OpenSpec.upto form3BackSpec)

/-- 'mailsacklaw10.Form3Raw', WHERE WHAT IT READS IS OF BULK AT MOST 1048576: true; the input reads as it did. -/
def form3RawUptoRow : OpenClaim := { program := "ytjlabkibpknkpaa", sum := "2e171f135bfd145c26e2110d2785e8c47be07c58209ffd94abbaaa4ab8946692", func := "mailsack/mailsacklaw10.Form3Raw", spec := "form3Raw", inPlace := ["internal/bytealg.IndexByteString"], apart := false, narrowed := true }
def Form3RawUptoSaid : Prop := form3RawUptoRow.holds Try.pinned (OpenSpec.upto form3RawSpec)

/-- 'mailsacklaw10.Form3Cut', WHERE WHAT IT READS IS OF BULK AT MOST 1048576: true; the input reads as it did. -/
def form3CutUptoRow : OpenClaim := { program := "ytjlabkibpknkpaa", sum := "2e171f135bfd145c26e2110d2785e8c47be07c58209ffd94abbaaa4ab8946692", func := "mailsack/mailsacklaw10.Form3Cut", spec := "form3Cut", inPlace := ["internal/bytealg.IndexByteString"], apart := false, narrowed := true }
def Form3CutUptoSaid : Prop := form3CutUptoRow.holds Try.pinned (OpenSpec.upto form3CutSpec)

end Rows
end Go.Proofs.Ytjlabkibpknkpaa
