/-
  No cell of these rows narrows 'for every input' (looked for: loops, veiled, ifaces, maps, wideKeys, modest, calm, conditions, laid).
  DERIVED. THE GIVEN ROWS OF THIS SEAT. 11 by the template 'for every input the law returns true; each argument reads behind the call as it read before'; 0 by the template 'total and deterministic' (their statements: YtjljgcceapkdcaaTotals.lean).
  GIVEN WITH THE SEED: the statements are not yours to turn. If you find one false, say at which input.
  Laid BY PROGRAM, IN A SANDBOX (cutbox-rows.mjs): the forced cells as the released guide's own fill.sh prints them over the translation 05858efeedb0a22e… (all of the seat's roots in one cut). By AI agents, Wed Nov 11 2026. No macro, syntax, notation, axiom, sorry.
-/
import Derived.Test.YtjljgcceapkdcaaChecked
import GoSem.Claim
import GoSem.ClaimJoined
import GoSem.ClaimMapViews
import Derived.JoinedTies
import Derived.KernelRfl
namespace Go.Proofs.Ytjljgcceapkdcaa
/- THE CELL 'sum', in the pinned program and in every row, IS THE sha256 OF THE DUMP (.gsa) THAT YtjljgcceapkdcaaProg.lean LOADS. Nothing in Lean hashes anything: it is a label: what it is worth is what the hold of that sum in a sandbox is worth. -/
noncomputable def Try.pinned : Pinned := { name := "ytjljgcceapkdcaa", sum := "05858efeedb0a22ece6cbeead6df015de0eddb177b478cb6d5b1202cf5c348e4", checked := Try.checked }
namespace Rows
def none {H : Type} : Left H := { results := [], args := [] }

/-- 'mailsacklaw13.RackSubset': WHATEVER THE INPUT: true; the input reads as it did. -/
def rackSubsetSpec : ChangeSpec := { name := "rackSubset", fn := fun _ => fun
  | [d1, d2] => { results := [.lit (.bool true)], args := [d1, d2] }
  | _ => none }
def rackSubsetRow : OpenClaim := { program := "ytjljgcceapkdcaa", sum := "05858efeedb0a22ece6cbeead6df015de0eddb177b478cb6d5b1202cf5c348e4", func := "mailsack/mailsacklaw13.RackSubset", spec := "rackSubset", inPlace := ["maps.clone"], unfollowed := true, recurses := true, apart := false }
def RackSubsetSaid : Prop := rackSubsetRow.holds Try.pinned (OpenSpec.ofChange rackSubsetSpec)

/-- ITS FALSE NEIGHBOUR: 'it returns false'. Refute it at one input. -/
def rackSubsetWrong : ChangeSpec := { name := "rackSubset", fn := fun _ => fun
  | [d1, d2] => { results := [.lit (.bool false)], args := [d1, d2] }
  | _ => none }
def RackSubsetWrongFalsely : Prop := rackSubsetRow.holds Try.pinned (OpenSpec.ofChange rackSubsetWrong)

/-- 'mailsacklaw13.RackFuse': WHATEVER THE INPUT: true; the input reads as it did. -/
def rackFuseSpec : ChangeSpec := { name := "rackFuse", fn := fun _ => fun
  | [d1, d2] => { results := [.lit (.bool true)], args := [d1, d2] }
  | _ => none }
def rackFuseRow : OpenClaim := { program := "ytjljgcceapkdcaa", sum := "05858efeedb0a22ece6cbeead6df015de0eddb177b478cb6d5b1202cf5c348e4", func := "mailsack/mailsacklaw13.RackFuse", spec := "rackFuse", inPlace := ["maps.clone"], unfollowed := true, recurses := true, apart := false }
def RackFuseSaid : Prop := rackFuseRow.holds Try.pinned (OpenSpec.ofChange rackFuseSpec)

/-- ITS FALSE NEIGHBOUR: 'it returns false'. Refute it at one input. -/
def rackFuseWrong : ChangeSpec := { name := "rackFuse", fn := fun _ => fun
  | [d1, d2] => { results := [.lit (.bool false)], args := [d1, d2] }
  | _ => none }
def RackFuseWrongFalsely : Prop := rackFuseRow.holds Try.pinned (OpenSpec.ofChange rackFuseWrong)

/-- 'mailsacklaw13.RackKeeps': WHATEVER THE INPUT: true; the input reads as it did. -/
def rackKeepsSpec : ChangeSpec := { name := "rackKeeps", fn := fun _ => fun
  | [d1, d2] => { results := [.lit (.bool true)], args := [d1, d2] }
  | _ => none }
def rackKeepsRow : OpenClaim := { program := "ytjljgcceapkdcaa", sum := "05858efeedb0a22ece6cbeead6df015de0eddb177b478cb6d5b1202cf5c348e4", func := "mailsack/mailsacklaw13.RackKeeps", spec := "rackKeeps", inPlace := ["maps.clone"], unfollowed := true, recurses := true, apart := false }
def RackKeepsSaid : Prop := rackKeepsRow.holds Try.pinned (OpenSpec.ofChange rackKeepsSpec)

/-- ITS FALSE NEIGHBOUR: 'it returns false'. Refute it at one input. -/
def rackKeepsWrong : ChangeSpec := { name := "rackKeeps", fn := fun _ => fun
  | [d1, d2] => { results := [.lit (.bool false)], args := [d1, d2] }
  | _ => none }
def RackKeepsWrongFalsely : Prop := rackKeepsRow.holds Try.pinned (OpenSpec.ofChange rackKeepsWrong)

/-- 'mailsacklaw13.RackPlays': WHATEVER THE INPUT: true; the input reads as it did. -/
def rackPlaysSpec : ChangeSpec := { name := "rackPlays", fn := fun _ => fun
  | [d1, d2] => { results := [.lit (.bool true)], args := [d1, d2] }
  | _ => none }
def rackPlaysRow : OpenClaim := { program := "ytjljgcceapkdcaa", sum := "05858efeedb0a22ece6cbeead6df015de0eddb177b478cb6d5b1202cf5c348e4", func := "mailsack/mailsacklaw13.RackPlays", spec := "rackPlays", inPlace := ["maps.clone"], unfollowed := true, recurses := true, apart := false }
def RackPlaysSaid : Prop := rackPlaysRow.holds Try.pinned (OpenSpec.ofChange rackPlaysSpec)

/-- ITS FALSE NEIGHBOUR: 'it returns false'. Refute it at one input. -/
def rackPlaysWrong : ChangeSpec := { name := "rackPlays", fn := fun _ => fun
  | [d1, d2] => { results := [.lit (.bool false)], args := [d1, d2] }
  | _ => none }
def RackPlaysWrongFalsely : Prop := rackPlaysRow.holds Try.pinned (OpenSpec.ofChange rackPlaysWrong)

/-- 'mailsacklaw13.RackNil': WHATEVER THE INPUT: true; the input reads as it did. -/
def rackNilSpec : ChangeSpec := { name := "rackNil", fn := fun _ => fun
  | [d] => { results := [.lit (.bool true)], args := [d] }
  | _ => none }
def rackNilRow : OpenClaim := { program := "ytjljgcceapkdcaa", sum := "05858efeedb0a22ece6cbeead6df015de0eddb177b478cb6d5b1202cf5c348e4", func := "mailsack/mailsacklaw13.RackNil", spec := "rackNil", inPlace := ["maps.clone"], unfollowed := true, recurses := true, apart := false }
def RackNilSaid : Prop := rackNilRow.holds Try.pinned (OpenSpec.ofChange rackNilSpec)

/-- ITS FALSE NEIGHBOUR: 'it returns false'. Refute it at one input. -/
def rackNilWrong : ChangeSpec := { name := "rackNil", fn := fun _ => fun
  | [d] => { results := [.lit (.bool false)], args := [d] }
  | _ => none }
def RackNilWrongFalsely : Prop := rackNilRow.holds Try.pinned (OpenSpec.ofChange rackNilWrong)

/-- 'mailsacklaw14.SafeForms': WHATEVER THE INPUT: true; the input reads as it did. -/
def safeFormsSpec : ChangeSpec := { name := "safeForms", fn := fun _ => fun
  | [d1, d2] => { results := [.lit (.bool true)], args := [d1, d2] }
  | _ => none }
def safeFormsRow : OpenClaim := { program := "ytjljgcceapkdcaa", sum := "05858efeedb0a22ece6cbeead6df015de0eddb177b478cb6d5b1202cf5c348e4", func := "mailsack/mailsacklaw14.SafeForms", spec := "safeForms", inPlace := ["maps.clone"], unfollowed := true, recurses := true, apart := false }
def SafeFormsSaid : Prop := safeFormsRow.holds Try.pinned (OpenSpec.ofChange safeFormsSpec)

/-- ITS FALSE NEIGHBOUR: 'it returns false'. Refute it at one input. -/
def safeFormsWrong : ChangeSpec := { name := "safeForms", fn := fun _ => fun
  | [d1, d2] => { results := [.lit (.bool false)], args := [d1, d2] }
  | _ => none }
def SafeFormsWrongFalsely : Prop := safeFormsRow.holds Try.pinned (OpenSpec.ofChange safeFormsWrong)

/-- 'mailsacklaw14.SafeBytes': WHATEVER THE INPUT: true; the input reads as it did. -/
def safeBytesSpec : ChangeSpec := { name := "safeBytes", fn := fun _ => fun
  | [d1, d2] => { results := [.lit (.bool true)], args := [d1, d2] }
  | _ => none }
def safeBytesRow : OpenClaim := { program := "ytjljgcceapkdcaa", sum := "05858efeedb0a22ece6cbeead6df015de0eddb177b478cb6d5b1202cf5c348e4", func := "mailsack/mailsacklaw14.SafeBytes", spec := "safeBytes", inPlace := ["maps.clone"], unfollowed := true, recurses := true, apart := false }
def SafeBytesSaid : Prop := safeBytesRow.holds Try.pinned (OpenSpec.ofChange safeBytesSpec)

/-- ITS FALSE NEIGHBOUR: 'it returns false'. Refute it at one input. -/
def safeBytesWrong : ChangeSpec := { name := "safeBytes", fn := fun _ => fun
  | [d1, d2] => { results := [.lit (.bool false)], args := [d1, d2] }
  | _ => none }
def SafeBytesWrongFalsely : Prop := safeBytesRow.holds Try.pinned (OpenSpec.ofChange safeBytesWrong)

/-- 'mailsacklaw14.SafeNil': WHATEVER THE INPUT: true; the input reads as it did. -/
def safeNilSpec : ChangeSpec := { name := "safeNil", fn := fun _ => fun
  | [d] => { results := [.lit (.bool true)], args := [d] }
  | _ => none }
def safeNilRow : OpenClaim := { program := "ytjljgcceapkdcaa", sum := "05858efeedb0a22ece6cbeead6df015de0eddb177b478cb6d5b1202cf5c348e4", func := "mailsack/mailsacklaw14.SafeNil", spec := "safeNil", inPlace := ["maps.clone"], unfollowed := true, recurses := true, apart := false }
def SafeNilSaid : Prop := safeNilRow.holds Try.pinned (OpenSpec.ofChange safeNilSpec)

/-- ITS FALSE NEIGHBOUR: 'it returns false'. Refute it at one input. -/
def safeNilWrong : ChangeSpec := { name := "safeNil", fn := fun _ => fun
  | [d] => { results := [.lit (.bool false)], args := [d] }
  | _ => none }
def SafeNilWrongFalsely : Prop := safeNilRow.holds Try.pinned (OpenSpec.ofChange safeNilWrong)

/-- 'mailsacklaw14.SafeAll': WHATEVER THE INPUT: true; the input reads as it did. -/
def safeAllSpec : ChangeSpec := { name := "safeAll", fn := fun _ => fun
  | [d1, d2, d3, d4, d5, d6] => { results := [.lit (.bool true)], args := [d1, d2, d3, d4, d5, d6] }
  | _ => none }
def safeAllRow : OpenClaim := { program := "ytjljgcceapkdcaa", sum := "05858efeedb0a22ece6cbeead6df015de0eddb177b478cb6d5b1202cf5c348e4", func := "mailsack/mailsacklaw14.SafeAll", spec := "safeAll", inPlace := ["maps.clone"], unfollowed := true, recurses := true, apart := false }
def SafeAllSaid : Prop := safeAllRow.holds Try.pinned (OpenSpec.ofChange safeAllSpec)

/-- ITS FALSE NEIGHBOUR: 'it returns false'. Refute it at one input. -/
def safeAllWrong : ChangeSpec := { name := "safeAll", fn := fun _ => fun
  | [d1, d2, d3, d4, d5, d6] => { results := [.lit (.bool false)], args := [d1, d2, d3, d4, d5, d6] }
  | _ => none }
def SafeAllWrongFalsely : Prop := safeAllRow.holds Try.pinned (OpenSpec.ofChange safeAllWrong)

/-- 'mailsacklaw14.SafeFits': WHATEVER THE INPUT: true; the input reads as it did. -/
def safeFitsSpec : ChangeSpec := { name := "safeFits", fn := fun _ => fun
  | [d1, d2] => { results := [.lit (.bool true)], args := [d1, d2] }
  | _ => none }
def safeFitsRow : OpenClaim := { program := "ytjljgcceapkdcaa", sum := "05858efeedb0a22ece6cbeead6df015de0eddb177b478cb6d5b1202cf5c348e4", func := "mailsack/mailsacklaw14.SafeFits", spec := "safeFits", inPlace := ["maps.clone"], unfollowed := true, recurses := true, apart := false }
def SafeFitsSaid : Prop := safeFitsRow.holds Try.pinned (OpenSpec.ofChange safeFitsSpec)

/-- ITS FALSE NEIGHBOUR: 'it returns false'. Refute it at one input. -/
def safeFitsWrong : ChangeSpec := { name := "safeFits", fn := fun _ => fun
  | [d1, d2] => { results := [.lit (.bool false)], args := [d1, d2] }
  | _ => none }
def SafeFitsWrongFalsely : Prop := safeFitsRow.holds Try.pinned (OpenSpec.ofChange safeFitsWrong)

/-- 'mailsacklaw14.SafeTwice': WHATEVER THE INPUT: true; the input reads as it did. -/
def safeTwiceSpec : ChangeSpec := { name := "safeTwice", fn := fun _ => fun
  | [d1, d2, d3] => { results := [.lit (.bool true)], args := [d1, d2, d3] }
  | _ => none }
def safeTwiceRow : OpenClaim := { program := "ytjljgcceapkdcaa", sum := "05858efeedb0a22ece6cbeead6df015de0eddb177b478cb6d5b1202cf5c348e4", func := "mailsack/mailsacklaw14.SafeTwice", spec := "safeTwice", inPlace := ["maps.clone"], unfollowed := true, recurses := true, apart := false }
def SafeTwiceSaid : Prop := safeTwiceRow.holds Try.pinned (OpenSpec.ofChange safeTwiceSpec)

/-- ITS FALSE NEIGHBOUR: 'it returns false'. Refute it at one input. -/
def safeTwiceWrong : ChangeSpec := { name := "safeTwice", fn := fun _ => fun
  | [d1, d2, d3] => { results := [.lit (.bool false)], args := [d1, d2, d3] }
  | _ => none }
def SafeTwiceWrongFalsely : Prop := safeTwiceRow.holds Try.pinned (OpenSpec.ofChange safeTwiceWrong)

/- THE SECOND FORM. 'bulk': how many values and letters a reading holds, each counted each time it is reached (what is shared counts as often as it is met; a slice's spare places count too). A statement '..UptoSaid' is the law's where the arguments, and the package variables that the reading takes, are together of bulk at most 1048576: NARROWER than '..Said'. Prove '..Said' where nothing that the law and all that it calls make is longer than what came in: it says more and counts as full. Else prove '..UptoSaid'. A law counts once. -/
mutual
def uptoBulk {H : Type} : DataW H → Nat
  | .lit (.string bytes) => bytes.length + 1
  | .lit _ => 1
  | .nil => 1
  | .ptr d => uptoBulk d + 1
  | .slice elems spare => uptoBulkAll elems + uptoBulkAll spare + 1
  | .agg parts => uptoBulkAll parts + 1
  | .iface _ d => uptoBulk d + 1
  | .map entries => uptoBulkEntries entries + 1
  | .held _ => 1
def uptoBulkAll {H : Type} : List (DataW H) → Nat
  | [] => 0
  | d :: r => uptoBulk d + uptoBulkAll r
def uptoBulkEntries {H : Type} : List (Lit × DataW H) → Nat
  | [] => 0
  | x :: r => uptoBulkEntry x + uptoBulkEntries r
def uptoBulkEntry {H : Type} : Lit × DataW H → Nat
  | (.string bytes, d) => bytes.length + uptoBulk d + 1
  | (_, d) => uptoBulk d + 1
 end
def uptoSmall : (H : Type) → List (DataW H) → Bool := fun _ ds => decide (uptoBulkAll ds ≤ 1048576)
def OpenSpec.upto (s : _root_.Go.ChangeSpec) : _root_.Go.OpenSpec := { _root_.Go.OpenSpec.ofChange s with cond := some uptoSmall }

/-- 'mailsacklaw13.RackSubset', WHERE WHAT IT READS IS OF BULK AT MOST 1048576: true; the input reads as it did. -/
def rackSubsetUptoRow : OpenClaim := { program := "ytjljgcceapkdcaa", sum := "05858efeedb0a22ece6cbeead6df015de0eddb177b478cb6d5b1202cf5c348e4", func := "mailsack/mailsacklaw13.RackSubset", spec := "rackSubset", inPlace := ["maps.clone"], unfollowed := true, recurses := true, apart := false, narrowed := true }
def RackSubsetUptoSaid : Prop := rackSubsetUptoRow.holds Try.pinned (OpenSpec.upto rackSubsetSpec)

/-- 'mailsacklaw13.RackFuse', WHERE WHAT IT READS IS OF BULK AT MOST 1048576: true; the input reads as it did. -/
def rackFuseUptoRow : OpenClaim := { program := "ytjljgcceapkdcaa", sum := "05858efeedb0a22ece6cbeead6df015de0eddb177b478cb6d5b1202cf5c348e4", func := "mailsack/mailsacklaw13.RackFuse", spec := "rackFuse", inPlace := ["maps.clone"], unfollowed := true, recurses := true, apart := false, narrowed := true }
def RackFuseUptoSaid : Prop := rackFuseUptoRow.holds Try.pinned (OpenSpec.upto rackFuseSpec)

/-- 'mailsacklaw13.RackKeeps', WHERE WHAT IT READS IS OF BULK AT MOST 1048576: true; the input reads as it did. -/
def rackKeepsUptoRow : OpenClaim := { program := "ytjljgcceapkdcaa", sum := "05858efeedb0a22ece6cbeead6df015de0eddb177b478cb6d5b1202cf5c348e4", func := "mailsack/mailsacklaw13.RackKeeps", spec := "rackKeeps", inPlace := ["maps.clone"], unfollowed := true, recurses := true, apart := false, narrowed := true }
def RackKeepsUptoSaid : Prop := rackKeepsUptoRow.holds Try.pinned (OpenSpec.upto rackKeepsSpec)

/-- 'mailsacklaw13.RackPlays', WHERE WHAT IT READS IS OF BULK AT MOST 1048576: true; the input reads as it did. -/
def rackPlaysUptoRow : OpenClaim := { program := "ytjljgcceapkdcaa", sum := "05858efeedb0a22ece6cbeead6df015de0eddb177b478cb6d5b1202cf5c348e4", func := "mailsack/mailsacklaw13.RackPlays", spec := "rackPlays", inPlace := ["maps.clone"], unfollowed := true, recurses := true, apart := false, narrowed := true }
def RackPlaysUptoSaid : Prop := rackPlaysUptoRow.holds Try.pinned (OpenSpec.upto rackPlaysSpec)

/-- 'mailsacklaw13.RackNil', WHERE WHAT IT READS IS OF BULK AT MOST 1048576: true; the input reads as it did. -/
def rackNilUptoRow : OpenClaim := { program := "ytjljgcceapkdcaa", sum := "05858efeedb0a22ece6cbeead6df015de0eddb177b478cb6d5b1202cf5c348e4", func := "mailsack/mailsacklaw13.RackNil", spec := "rackNil", inPlace := ["maps.clone"], unfollowed := true, recurses := true, apart := false, narrowed := true }
def RackNilUptoSaid : Prop := rackNilUptoRow.holds Try.pinned (OpenSpec.upto rackNilSpec)

/-- 'mailsacklaw14.SafeForms', WHERE WHAT IT READS IS OF BULK AT MOST 1048576: true; the input reads as it did. -/
def safeFormsUptoRow : OpenClaim := { program := "ytjljgcceapkdcaa", sum := "05858efeedb0a22ece6cbeead6df015de0eddb177b478cb6d5b1202cf5c348e4", func := "mailsack/mailsacklaw14.SafeForms", spec := "safeForms", inPlace := ["maps.clone"], unfollowed := true, recurses := true, apart := false, narrowed := true }
def SafeFormsUptoSaid : Prop := safeFormsUptoRow.holds Try.pinned (OpenSpec.upto safeFormsSpec)

/-- 'mailsacklaw14.SafeBytes', WHERE WHAT IT READS IS OF BULK AT MOST 1048576: true; the input reads as it did. -/
def safeBytesUptoRow : OpenClaim := { program := "ytjljgcceapkdcaa", sum := "05858efeedb0a22ece6cbeead6df015de0eddb177b478cb6d5b1202cf5c348e4", func := "mailsack/mailsacklaw14.SafeBytes", spec := "safeBytes", inPlace := ["maps.clone"], unfollowed := true, recurses := true, apart := false, narrowed := true }
def SafeBytesUptoSaid : Prop := safeBytesUptoRow.holds Try.pinned (OpenSpec.upto safeBytesSpec)

/-- 'mailsacklaw14.SafeNil', WHERE WHAT IT READS IS OF BULK AT MOST 1048576: true; the input reads as it did. -/
def safeNilUptoRow : OpenClaim := { program := "ytjljgcceapkdcaa", sum := "05858efeedb0a22ece6cbeead6df015de0eddb177b478cb6d5b1202cf5c348e4", func := "mailsack/mailsacklaw14.SafeNil", spec := "safeNil", inPlace := ["maps.clone"], unfollowed := true, recurses := true, apart := false, narrowed := true }
def SafeNilUptoSaid : Prop := safeNilUptoRow.holds Try.pinned (OpenSpec.upto safeNilSpec)

/-- 'mailsacklaw14.SafeAll', WHERE WHAT IT READS IS OF BULK AT MOST 1048576: true; the input reads as it did. -/
def safeAllUptoRow : OpenClaim := { program := "ytjljgcceapkdcaa", sum := "05858efeedb0a22ece6cbeead6df015de0eddb177b478cb6d5b1202cf5c348e4", func := "mailsack/mailsacklaw14.SafeAll", spec := "safeAll", inPlace := ["maps.clone"], unfollowed := true, recurses := true, apart := false, narrowed := true }
def SafeAllUptoSaid : Prop := safeAllUptoRow.holds Try.pinned (OpenSpec.upto safeAllSpec)

/-- 'mailsacklaw14.SafeFits', WHERE WHAT IT READS IS OF BULK AT MOST 1048576: true; the input reads as it did. -/
def safeFitsUptoRow : OpenClaim := { program := "ytjljgcceapkdcaa", sum := "05858efeedb0a22ece6cbeead6df015de0eddb177b478cb6d5b1202cf5c348e4", func := "mailsack/mailsacklaw14.SafeFits", spec := "safeFits", inPlace := ["maps.clone"], unfollowed := true, recurses := true, apart := false, narrowed := true }
def SafeFitsUptoSaid : Prop := safeFitsUptoRow.holds Try.pinned (OpenSpec.upto safeFitsSpec)

/-- 'mailsacklaw14.SafeTwice', WHERE WHAT IT READS IS OF BULK AT MOST 1048576: true; the input reads as it did. -/
def safeTwiceUptoRow : OpenClaim := { program := "ytjljgcceapkdcaa", sum := "05858efeedb0a22ece6cbeead6df015de0eddb177b478cb6d5b1202cf5c348e4", func := "mailsack/mailsacklaw14.SafeTwice", spec := "safeTwice", inPlace := ["maps.clone"], unfollowed := true, recurses := true, apart := false, narrowed := true }
def SafeTwiceUptoSaid : Prop := safeTwiceUptoRow.holds Try.pinned (OpenSpec.upto safeTwiceSpec)

end Rows
end Go.Proofs.Ytjljgcceapkdcaa
