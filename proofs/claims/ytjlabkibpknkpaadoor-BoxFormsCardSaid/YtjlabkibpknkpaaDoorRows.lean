/-
  NARROWER THAN 'FOR EVERY INPUT', by the rows' own cells (each row's printed sentence says how): BoxBounds: laid · BoxNames: laid · BoxOnce: laid · BoxWords: laid · BoxCopies: laid · BoxForms: laid · Form3Apart: laid.
  DERIVED. THE GIVEN ROWS OF THIS SEAT. 7 by the template 'for every input the law returns true; each argument reads behind the call as it read before'; 0 by the template 'total and deterministic' (their statements: YtjlabkibpknkpaaDoorTotals.lean).
  GIVEN WITH THE SEED: the statements are not yours to turn. If you find one false, say at which input.
  Laid BY PROGRAM, IN A SANDBOX (cutbox-rows.mjs): the forced cells as the released guide's own fill.sh prints them over the translation 20d136afc47e1088… (all of the seat's roots in one cut). By AI agents, Wed Nov 11 2026. No macro, syntax, notation, axiom, sorry.
-/
import Derived.Test.YtjlabkibpknkpaaDoorChecked
import GoSem.Claim
import GoSem.ClaimJoined
import GoSem.ClaimMapViews
import Derived.JoinedTies
import Derived.KernelRfl
namespace Go.Proofs.YtjlabkibpknkpaaDoor
/- THE CELL 'sum', in the pinned program and in every row, IS THE sha256 OF THE DUMP (.gsa) THAT YtjlabkibpknkpaaDoorProg.lean LOADS. Nothing in Lean hashes anything: it is a label: what it is worth is what the hold of that sum in a sandbox is worth. -/
noncomputable def Tryd.pinned : Pinned := { name := "ytjlabkibpknkpaadoor", sum := "20d136afc47e10882b3082f3cff4fb825b0a32b6bd4e549d86fdc5f7b20c4437", checked := Tryd.checked }
namespace Rows
def none {H : Type} : Left H := { results := [], args := [] }

/- WHAT THE LISTED PACKAGE-LEVEL VARIABLES READ AS WHEN THE CALL BEGINS. Each datum BY PROGRAM (the guide's laid-datum.mjs) off the statement by which the dump's own 'gosem.cut.vars' lays the variable. In a bare row this is a premise. The card (YtjlabkibpknkpaaDoorCards.lean) ties it to the program's text. -/
def laid_math_bits_deBruijn32tab {H : Type} : DataW H := .agg [.lit (.int .u8 0), .lit (.int .u8 1), .lit (.int .u8 28), .lit (.int .u8 2), .lit (.int .u8 29), .lit (.int .u8 14), .lit (.int .u8 24), .lit (.int .u8 3), .lit (.int .u8 30), .lit (.int .u8 22), .lit (.int .u8 20), .lit (.int .u8 15), .lit (.int .u8 25), .lit (.int .u8 17), .lit (.int .u8 4), .lit (.int .u8 8), .lit (.int .u8 31), .lit (.int .u8 27), .lit (.int .u8 13), .lit (.int .u8 23), .lit (.int .u8 21), .lit (.int .u8 19), .lit (.int .u8 16), .lit (.int .u8 7), .lit (.int .u8 26), .lit (.int .u8 12), .lit (.int .u8 18), .lit (.int .u8 6), .lit (.int .u8 11), .lit (.int .u8 5), .lit (.int .u8 10), .lit (.int .u8 9)]
def laid_math_bits_deBruijn64tab {H : Type} : DataW H := .agg [.lit (.int .u8 0), .lit (.int .u8 1), .lit (.int .u8 56), .lit (.int .u8 2), .lit (.int .u8 57), .lit (.int .u8 49), .lit (.int .u8 28), .lit (.int .u8 3), .lit (.int .u8 61), .lit (.int .u8 58), .lit (.int .u8 42), .lit (.int .u8 50), .lit (.int .u8 38), .lit (.int .u8 29), .lit (.int .u8 17), .lit (.int .u8 4), .lit (.int .u8 62), .lit (.int .u8 47), .lit (.int .u8 59), .lit (.int .u8 36), .lit (.int .u8 45), .lit (.int .u8 43), .lit (.int .u8 51), .lit (.int .u8 22), .lit (.int .u8 53), .lit (.int .u8 39), .lit (.int .u8 33), .lit (.int .u8 30), .lit (.int .u8 24), .lit (.int .u8 18), .lit (.int .u8 12), .lit (.int .u8 5), .lit (.int .u8 63), .lit (.int .u8 55), .lit (.int .u8 48), .lit (.int .u8 27), .lit (.int .u8 60), .lit (.int .u8 41), .lit (.int .u8 37), .lit (.int .u8 16), .lit (.int .u8 46), .lit (.int .u8 35), .lit (.int .u8 44), .lit (.int .u8 21), .lit (.int .u8 52), .lit (.int .u8 32), .lit (.int .u8 23), .lit (.int .u8 11), .lit (.int .u8 54), .lit (.int .u8 26), .lit (.int .u8 40), .lit (.int .u8 15), .lit (.int .u8 34), .lit (.int .u8 20), .lit (.int .u8 31), .lit (.int .u8 10), .lit (.int .u8 25), .lit (.int .u8 14), .lit (.int .u8 19), .lit (.int .u8 9), .lit (.int .u8 13), .lit (.int .u8 8), .lit (.int .u8 7), .lit (.int .u8 6)]
def laid_internal_strconv_uint64pow10 {H : Type} : DataW H := .agg [.lit (.int .u64 1), .lit (.int .u64 10), .lit (.int .u64 100), .lit (.int .u64 1000), .lit (.int .u64 10000), .lit (.int .u64 100000), .lit (.int .u64 1000000), .lit (.int .u64 10000000), .lit (.int .u64 100000000), .lit (.int .u64 1000000000), .lit (.int .u64 10000000000), .lit (.int .u64 100000000000), .lit (.int .u64 1000000000000), .lit (.int .u64 10000000000000), .lit (.int .u64 100000000000000), .lit (.int .u64 1000000000000000), .lit (.int .u64 10000000000000000), .lit (.int .u64 100000000000000000), .lit (.int .u64 1000000000000000000), .lit (.int .u64 10000000000000000000)]

/-- 'mailsacklaw6.BoxBounds': WHATEVER THE INPUT: true; the input reads as it did. -/
def boxBoundsSpec : ChangeSpec := { name := "boxBounds", fn := fun _ => fun
  | [d1, d2] => { results := [.lit (.bool true)], args := [d1, d2] }
  | _ => none }
def boxBoundsRow : OpenClaim := { program := "ytjlabkibpknkpaadoor", sum := "20d136afc47e10882b3082f3cff4fb825b0a32b6bd4e549d86fdc5f7b20c4437", func := "mailsack/mailsacklaw6.BoxBounds", spec := "boxBounds", inPlace := ["internal/bytealg.IndexByteString"], unfollowed := true, recurses := true, named := ["internal/strconv.uint64pow10", "math/bits.deBruijn32tab", "math/bits.deBruijn64tab"], apart := false, laid := [("math/bits.deBruijn32tab", laid_math_bits_deBruijn32tab), ("math/bits.deBruijn64tab", laid_math_bits_deBruijn64tab), ("internal/strconv.uint64pow10", laid_internal_strconv_uint64pow10)] }
def BoxBoundsSaid : Prop := boxBoundsRow.holds Tryd.pinned (OpenSpec.ofChange boxBoundsSpec)

/-- ITS FALSE NEIGHBOUR: 'it returns false'. Refute it at one input. -/
def boxBoundsWrong : ChangeSpec := { name := "boxBounds", fn := fun _ => fun
  | [d1, d2] => { results := [.lit (.bool false)], args := [d1, d2] }
  | _ => none }
def BoxBoundsWrongFalsely : Prop := boxBoundsRow.holds Tryd.pinned (OpenSpec.ofChange boxBoundsWrong)

/-- 'mailsacklaw6.BoxNames': WHATEVER THE INPUT: true; the input reads as it did. -/
def boxNamesSpec : ChangeSpec := { name := "boxNames", fn := fun _ => fun
  | [d1, d2, d3, d4] => { results := [.lit (.bool true)], args := [d1, d2, d3, d4] }
  | _ => none }
def boxNamesRow : OpenClaim := { program := "ytjlabkibpknkpaadoor", sum := "20d136afc47e10882b3082f3cff4fb825b0a32b6bd4e549d86fdc5f7b20c4437", func := "mailsack/mailsacklaw6.BoxNames", spec := "boxNames", inPlace := ["internal/bytealg.IndexByteString"], unfollowed := true, recurses := true, named := ["internal/strconv.uint64pow10", "math/bits.deBruijn32tab", "math/bits.deBruijn64tab"], apart := false, laid := [("math/bits.deBruijn32tab", laid_math_bits_deBruijn32tab), ("math/bits.deBruijn64tab", laid_math_bits_deBruijn64tab), ("internal/strconv.uint64pow10", laid_internal_strconv_uint64pow10)] }
def BoxNamesSaid : Prop := boxNamesRow.holds Tryd.pinned (OpenSpec.ofChange boxNamesSpec)

/-- ITS FALSE NEIGHBOUR: 'it returns false'. Refute it at one input. -/
def boxNamesWrong : ChangeSpec := { name := "boxNames", fn := fun _ => fun
  | [d1, d2, d3, d4] => { results := [.lit (.bool false)], args := [d1, d2, d3, d4] }
  | _ => none }
def BoxNamesWrongFalsely : Prop := boxNamesRow.holds Tryd.pinned (OpenSpec.ofChange boxNamesWrong)

/-- 'mailsacklaw6.BoxOnce': WHATEVER THE INPUT: true; the input reads as it did. -/
def boxOnceSpec : ChangeSpec := { name := "boxOnce", fn := fun _ => fun
  | [d1, d2] => { results := [.lit (.bool true)], args := [d1, d2] }
  | _ => none }
def boxOnceRow : OpenClaim := { program := "ytjlabkibpknkpaadoor", sum := "20d136afc47e10882b3082f3cff4fb825b0a32b6bd4e549d86fdc5f7b20c4437", func := "mailsack/mailsacklaw6.BoxOnce", spec := "boxOnce", inPlace := ["internal/bytealg.IndexByteString"], unfollowed := true, recurses := true, named := ["internal/strconv.uint64pow10", "math/bits.deBruijn32tab", "math/bits.deBruijn64tab"], apart := false, laid := [("math/bits.deBruijn32tab", laid_math_bits_deBruijn32tab), ("math/bits.deBruijn64tab", laid_math_bits_deBruijn64tab), ("internal/strconv.uint64pow10", laid_internal_strconv_uint64pow10)] }
def BoxOnceSaid : Prop := boxOnceRow.holds Tryd.pinned (OpenSpec.ofChange boxOnceSpec)

/-- ITS FALSE NEIGHBOUR: 'it returns false'. Refute it at one input. -/
def boxOnceWrong : ChangeSpec := { name := "boxOnce", fn := fun _ => fun
  | [d1, d2] => { results := [.lit (.bool false)], args := [d1, d2] }
  | _ => none }
def BoxOnceWrongFalsely : Prop := boxOnceRow.holds Tryd.pinned (OpenSpec.ofChange boxOnceWrong)

/-- 'mailsacklaw6.BoxWords': WHATEVER THE INPUT: true; the input reads as it did. -/
def boxWordsSpec : ChangeSpec := { name := "boxWords", fn := fun _ => fun
  | [d1, d2] => { results := [.lit (.bool true)], args := [d1, d2] }
  | _ => none }
def boxWordsRow : OpenClaim := { program := "ytjlabkibpknkpaadoor", sum := "20d136afc47e10882b3082f3cff4fb825b0a32b6bd4e549d86fdc5f7b20c4437", func := "mailsack/mailsacklaw6.BoxWords", spec := "boxWords", inPlace := ["internal/bytealg.IndexByteString"], unfollowed := true, recurses := true, named := ["internal/strconv.uint64pow10", "math/bits.deBruijn32tab", "math/bits.deBruijn64tab"], apart := false, laid := [("math/bits.deBruijn32tab", laid_math_bits_deBruijn32tab), ("math/bits.deBruijn64tab", laid_math_bits_deBruijn64tab), ("internal/strconv.uint64pow10", laid_internal_strconv_uint64pow10)] }
def BoxWordsSaid : Prop := boxWordsRow.holds Tryd.pinned (OpenSpec.ofChange boxWordsSpec)

/-- ITS FALSE NEIGHBOUR: 'it returns false'. Refute it at one input. -/
def boxWordsWrong : ChangeSpec := { name := "boxWords", fn := fun _ => fun
  | [d1, d2] => { results := [.lit (.bool false)], args := [d1, d2] }
  | _ => none }
def BoxWordsWrongFalsely : Prop := boxWordsRow.holds Tryd.pinned (OpenSpec.ofChange boxWordsWrong)

/-- 'mailsacklaw6.BoxCopies': WHATEVER THE INPUT: true; the input reads as it did. -/
def boxCopiesSpec : ChangeSpec := { name := "boxCopies", fn := fun _ => fun
  | [d1, d2] => { results := [.lit (.bool true)], args := [d1, d2] }
  | _ => none }
def boxCopiesRow : OpenClaim := { program := "ytjlabkibpknkpaadoor", sum := "20d136afc47e10882b3082f3cff4fb825b0a32b6bd4e549d86fdc5f7b20c4437", func := "mailsack/mailsacklaw6.BoxCopies", spec := "boxCopies", inPlace := ["internal/bytealg.IndexByteString"], unfollowed := true, recurses := true, named := ["internal/strconv.uint64pow10", "math/bits.deBruijn32tab", "math/bits.deBruijn64tab"], apart := false, laid := [("math/bits.deBruijn32tab", laid_math_bits_deBruijn32tab), ("math/bits.deBruijn64tab", laid_math_bits_deBruijn64tab), ("internal/strconv.uint64pow10", laid_internal_strconv_uint64pow10)] }
def BoxCopiesSaid : Prop := boxCopiesRow.holds Tryd.pinned (OpenSpec.ofChange boxCopiesSpec)

/-- ITS FALSE NEIGHBOUR: 'it returns false'. Refute it at one input. -/
def boxCopiesWrong : ChangeSpec := { name := "boxCopies", fn := fun _ => fun
  | [d1, d2] => { results := [.lit (.bool false)], args := [d1, d2] }
  | _ => none }
def BoxCopiesWrongFalsely : Prop := boxCopiesRow.holds Tryd.pinned (OpenSpec.ofChange boxCopiesWrong)

/-- 'mailsacklaw6.BoxForms': WHATEVER THE INPUT: true; the input reads as it did. -/
def boxFormsSpec : ChangeSpec := { name := "boxForms", fn := fun _ => fun
  | [d1, d2, d3, d4, d5] => { results := [.lit (.bool true)], args := [d1, d2, d3, d4, d5] }
  | _ => none }
def boxFormsRow : OpenClaim := { program := "ytjlabkibpknkpaadoor", sum := "20d136afc47e10882b3082f3cff4fb825b0a32b6bd4e549d86fdc5f7b20c4437", func := "mailsack/mailsacklaw6.BoxForms", spec := "boxForms", inPlace := ["internal/bytealg.IndexByteString"], unfollowed := true, recurses := true, named := ["internal/strconv.uint64pow10", "math/bits.deBruijn32tab", "math/bits.deBruijn64tab"], apart := false, laid := [("math/bits.deBruijn32tab", laid_math_bits_deBruijn32tab), ("math/bits.deBruijn64tab", laid_math_bits_deBruijn64tab), ("internal/strconv.uint64pow10", laid_internal_strconv_uint64pow10)] }
def BoxFormsSaid : Prop := boxFormsRow.holds Tryd.pinned (OpenSpec.ofChange boxFormsSpec)

/-- ITS FALSE NEIGHBOUR: 'it returns false'. Refute it at one input. -/
def boxFormsWrong : ChangeSpec := { name := "boxForms", fn := fun _ => fun
  | [d1, d2, d3, d4, d5] => { results := [.lit (.bool false)], args := [d1, d2, d3, d4, d5] }
  | _ => none }
def BoxFormsWrongFalsely : Prop := boxFormsRow.holds Tryd.pinned (OpenSpec.ofChange boxFormsWrong)

/-- 'mailsacklaw10.Form3Apart': WHATEVER THE INPUT: true; the input reads as it did. -/
def form3ApartSpec : ChangeSpec := { name := "form3Apart", fn := fun _ => fun
  | [d1, d2] => { results := [.lit (.bool true)], args := [d1, d2] }
  | _ => none }
def form3ApartRow : OpenClaim := { program := "ytjlabkibpknkpaadoor", sum := "20d136afc47e10882b3082f3cff4fb825b0a32b6bd4e549d86fdc5f7b20c4437", func := "mailsack/mailsacklaw10.Form3Apart", spec := "form3Apart", inPlace := ["internal/bytealg.IndexByteString"], named := ["internal/strconv.uint64pow10", "math/bits.deBruijn32tab", "math/bits.deBruijn64tab"], apart := false, laid := [("math/bits.deBruijn32tab", laid_math_bits_deBruijn32tab), ("math/bits.deBruijn64tab", laid_math_bits_deBruijn64tab), ("internal/strconv.uint64pow10", laid_internal_strconv_uint64pow10)] }
def Form3ApartSaid : Prop := form3ApartRow.holds Tryd.pinned (OpenSpec.ofChange form3ApartSpec)

/-- ITS FALSE NEIGHBOUR: 'it returns false'. Refute it at one input. -/
def form3ApartWrong : ChangeSpec := { name := "form3Apart", fn := fun _ => fun
  | [d1, d2] => { results := [.lit (.bool false)], args := [d1, d2] }
  | _ => none }
def Form3ApartWrongFalsely : Prop := form3ApartRow.holds Tryd.pinned (OpenSpec.ofChange form3ApartWrong)

/- THE SECOND FORM. 'bulk': how many values and letters a reading holds, each counted each time it is reached (what is shared counts as often as it is met; a slice's spare places count too). A statement '..UptoSaid' is the law's where the arguments, and the package variables that the reading takes, are together of bulk at most 1048576: NARROWER than '..Said'. Prove '..Said' where nothing that the law and all that it calls make is longer than what came in: it says more and counts as full. Else prove '..UptoSaid'. A law counts once. -/
mutual
def uptoBulk {H : Type} : DataW H → Nat
  | .lit (.string bytes) => bytes.length + 1
  | .lit _ => 1
  | .nil => 1
  | .ptr d => uptoBulk d + 1
  | .slice elems spare => uptoBulkAll elems + uptoBulkAll spare + 1
  | .agg parts => uptoBulkAll parts + 1
  | .iface _ d => uptoBulk d + 1
  | .map entries => uptoBulkEntries entries + 1
  | .held _ => 1
def uptoBulkAll {H : Type} : List (DataW H) → Nat
  | [] => 0
  | d :: r => uptoBulk d + uptoBulkAll r
def uptoBulkEntries {H : Type} : List (Lit × DataW H) → Nat
  | [] => 0
  | x :: r => uptoBulkEntry x + uptoBulkEntries r
def uptoBulkEntry {H : Type} : Lit × DataW H → Nat
  | (.string bytes, d) => bytes.length + uptoBulk d + 1
  | (_, d) => uptoBulk d + 1
 end
def uptoSmall : (H : Type) → List (DataW H) → Bool := fun _ ds => decide (uptoBulkAll ds ≤ 1048576)
def OpenSpec.upto (s : _root_.Go.ChangeSpec) : _root_.Go.OpenSpec := { _root_.Go.OpenSpec.ofChange s with cond := some uptoSmall }

/-- 'mailsacklaw6.BoxBounds', WHERE WHAT IT READS IS OF BULK AT MOST 1048576: true; the input reads as it did. -/
def boxBoundsUptoRow : OpenClaim := { program := "ytjlabkibpknkpaadoor", sum := "20d136afc47e10882b3082f3cff4fb825b0a32b6bd4e549d86fdc5f7b20c4437", func := "mailsack/mailsacklaw6.BoxBounds", spec := "boxBounds", inPlace := ["internal/bytealg.IndexByteString"], unfollowed := true, recurses := true, named := ["internal/strconv.uint64pow10", "math/bits.deBruijn32tab", "math/bits.deBruijn64tab"], apart := false, laid := [("math/bits.deBruijn32tab", laid_math_bits_deBruijn32tab), ("math/bits.deBruijn64tab", laid_math_bits_deBruijn64tab), ("internal/strconv.uint64pow10", laid_internal_strconv_uint64pow10)], narrowed := true }
def BoxBoundsUptoSaid : Prop := boxBoundsUptoRow.holds Tryd.pinned (OpenSpec.upto boxBoundsSpec)

/-- 'mailsacklaw6.BoxNames', WHERE WHAT IT READS IS OF BULK AT MOST 1048576: true; the input reads as it did. -/
def boxNamesUptoRow : OpenClaim := { program := "ytjlabkibpknkpaadoor", sum := "20d136afc47e10882b3082f3cff4fb825b0a32b6bd4e549d86fdc5f7b20c4437", func := "mailsack/mailsacklaw6.BoxNames", spec := "boxNames", inPlace := ["internal/bytealg.IndexByteString"], unfollowed := true, recurses := true, named := ["internal/strconv.uint64pow10", "math/bits.deBruijn32tab", "math/bits.deBruijn64tab"], apart := false, laid := [("math/bits.deBruijn32tab", laid_math_bits_deBruijn32tab), ("math/bits.deBruijn64tab", laid_math_bits_deBruijn64tab), ("internal/strconv.uint64pow10", laid_internal_strconv_uint64pow10)], narrowed := true }
def BoxNamesUptoSaid : Prop := boxNamesUptoRow.holds Tryd.pinned (OpenSpec.upto boxNamesSpec)

/-- 'mailsacklaw6.BoxOnce', WHERE WHAT IT READS IS OF BULK AT MOST 1048576: true; the input reads as it did. -/
def boxOnceUptoRow : OpenClaim := { program := "ytjlabkibpknkpaadoor", sum := "20d136afc47e10882b3082f3cff4fb825b0a32b6bd4e549d86fdc5f7b20c4437", func := "mailsack/mailsacklaw6.BoxOnce", spec := "boxOnce", inPlace := ["internal/bytealg.IndexByteString"], unfollowed := true, recurses := true, named := ["internal/strconv.uint64pow10", "math/bits.deBruijn32tab", "math/bits.deBruijn64tab"], apart := false, laid := [("math/bits.deBruijn32tab", laid_math_bits_deBruijn32tab), ("math/bits.deBruijn64tab", laid_math_bits_deBruijn64tab), ("internal/strconv.uint64pow10", laid_internal_strconv_uint64pow10)], narrowed := true }
def BoxOnceUptoSaid : Prop := boxOnceUptoRow.holds Tryd.pinned (OpenSpec.upto boxOnceSpec)

/-- 'mailsacklaw6.BoxWords', WHERE WHAT IT READS IS OF BULK AT MOST 1048576: true; the input reads as it did. -/
def boxWordsUptoRow : OpenClaim := { program := "ytjlabkibpknkpaadoor", sum := "20d136afc47e10882b3082f3cff4fb825b0a32b6bd4e549d86fdc5f7b20c4437", func := "mailsack/mailsacklaw6.BoxWords", spec := "boxWords", inPlace := ["internal/bytealg.IndexByteString"], unfollowed := true, recurses := true, named := ["internal/strconv.uint64pow10", "math/bits.deBruijn32tab", "math/bits.deBruijn64tab"], apart := false, laid := [("math/bits.deBruijn32tab", laid_math_bits_deBruijn32tab), ("math/bits.deBruijn64tab", laid_math_bits_deBruijn64tab), ("internal/strconv.uint64pow10", laid_internal_strconv_uint64pow10)], narrowed := true }
def BoxWordsUptoSaid : Prop := boxWordsUptoRow.holds Tryd.pinned (OpenSpec.upto boxWordsSpec)

/-- 'mailsacklaw6.BoxCopies', WHERE WHAT IT READS IS OF BULK AT MOST 1048576: true; the input reads as it did. -/
def boxCopiesUptoRow : OpenClaim := { program := "ytjlabkibpknkpaadoor", sum := "20d136afc47e10882b3082f3cff4fb825b0a32b6bd4e549d86fdc5f7b20c4437", func := "mailsack/mailsacklaw6.BoxCopies", spec := "boxCopies", inPlace := ["internal/bytealg.IndexByteString"], unfollowed := true, recurses := true, named := ["internal/strconv.uint64pow10", "math/bits.deBruijn32tab", "math/bits.deBruijn64tab"], apart := false, laid := [("math/bits.deBruijn32tab", laid_math_bits_deBruijn32tab), ("math/bits.deBruijn64tab", laid_math_bits_deBruijn64tab), ("internal/strconv.uint64pow10", laid_internal_strconv_uint64pow10)], narrowed := true }
def BoxCopiesUptoSaid : Prop := boxCopiesUptoRow.holds Tryd.pinned (OpenSpec.upto boxCopiesSpec)

/-- 'mailsacklaw6.BoxForms', WHERE WHAT IT READS IS OF BULK AT MOST 1048576: true; the input reads as it did. -/
def boxFormsUptoRow : OpenClaim := { program := "ytjlabkibpknkpaadoor", sum := "20d136afc47e10882b3082f3cff4fb825b0a32b6bd4e549d86fdc5f7b20c4437", func := "mailsack/mailsacklaw6.BoxForms", spec := "boxForms", inPlace := ["internal/bytealg.IndexByteString"], unfollowed := true, recurses := true, named := ["internal/strconv.uint64pow10", "math/bits.deBruijn32tab", "math/bits.deBruijn64tab"], apart := false, laid := [("math/bits.deBruijn32tab", laid_math_bits_deBruijn32tab), ("math/bits.deBruijn64tab", laid_math_bits_deBruijn64tab), ("internal/strconv.uint64pow10", laid_internal_strconv_uint64pow10)], narrowed := true }
def BoxFormsUptoSaid : Prop := boxFormsUptoRow.holds Tryd.pinned (OpenSpec.upto boxFormsSpec)

/-- 'mailsacklaw10.Form3Apart', WHERE WHAT IT READS IS OF BULK AT MOST 1048576: true; the input reads as it did. -/
def form3ApartUptoRow : OpenClaim := { program := "ytjlabkibpknkpaadoor", sum := "20d136afc47e10882b3082f3cff4fb825b0a32b6bd4e549d86fdc5f7b20c4437", func := "mailsack/mailsacklaw10.Form3Apart", spec := "form3Apart", inPlace := ["internal/bytealg.IndexByteString"], named := ["internal/strconv.uint64pow10", "math/bits.deBruijn32tab", "math/bits.deBruijn64tab"], apart := false, laid := [("math/bits.deBruijn32tab", laid_math_bits_deBruijn32tab), ("math/bits.deBruijn64tab", laid_math_bits_deBruijn64tab), ("internal/strconv.uint64pow10", laid_internal_strconv_uint64pow10)], narrowed := true }
def Form3ApartUptoSaid : Prop := form3ApartUptoRow.holds Tryd.pinned (OpenSpec.upto form3ApartSpec)

end Rows
end Go.Proofs.YtjlabkibpknkpaaDoor
