/-
  NARROWER THAN 'FOR EVERY INPUT', by the rows' own cells (each row's printed sentence says how): ToldNew: laid · ToldStays: laid · ToldCuts: laid · ToldNotes: laid · ToldPicks: laid · ItemBack: laid · ItemTells: laid · ItemAlone: laid · ItemBodies: laid.
  DERIVED. THE GIVEN ROWS OF THIS SEAT. 9 by the template 'for every input the law returns true; each argument reads behind the call as it read before'; 0 by the template 'total and deterministic' (their statements: YtplfpbfmnogckaaDoorTotals.lean).
  GIVEN WITH THE SEED: the statements are not yours to turn. If you find one false, say at which input.
  Laid BY PROGRAM, IN A SANDBOX (cutbox-rows.mjs): the forced cells as the released guide's own fill.sh prints them over the translation 8c89de1238d1d2b4… (all of the seat's roots in one cut). By AI agents, Wed Nov 11 2026. No macro, syntax, notation, axiom, sorry.
-/
import Derived.Test.YtplfpbfmnogckaaDoorChecked
import GoSem.Claim
import GoSem.ClaimJoined
import GoSem.ClaimMapViews
import Derived.JoinedTies
import Derived.KernelRfl
namespace Go.Proofs.YtplfpbfmnogckaaDoor
/- THE CELL 'sum', in the pinned program and in every row, IS THE sha256 OF THE DUMP (.gsa) THAT YtplfpbfmnogckaaDoorProg.lean LOADS. Nothing in Lean hashes anything: it is a label: what it is worth is what the hold of that sum in a sandbox is worth. -/
noncomputable def Tryd.pinned : Pinned := { name := "ytplfpbfmnogckaadoor", sum := "8c89de1238d1d2b459dc9b512d5ec973aafaba59162d35f7880b9a27d25a7922", checked := Tryd.checked }
namespace Rows
def none {H : Type} : Left H := { results := [], args := [] }

/- WHAT THE LISTED PACKAGE-LEVEL VARIABLES READ AS WHEN THE CALL BEGINS. Each datum BY PROGRAM (the guide's laid-datum.mjs) off the statement by which the dump's own 'gosem.cut.vars' lays the variable. In a bare row this is a premise. The card (YtplfpbfmnogckaaDoorCards.lean) ties it to the program's text. -/
def laid_math_bits_deBruijn32tab {H : Type} : DataW H := .agg [.lit (.int .u8 0), .lit (.int .u8 1), .lit (.int .u8 28), .lit (.int .u8 2), .lit (.int .u8 29), .lit (.int .u8 14), .lit (.int .u8 24), .lit (.int .u8 3), .lit (.int .u8 30), .lit (.int .u8 22), .lit (.int .u8 20), .lit (.int .u8 15), .lit (.int .u8 25), .lit (.int .u8 17), .lit (.int .u8 4), .lit (.int .u8 8), .lit (.int .u8 31), .lit (.int .u8 27), .lit (.int .u8 13), .lit (.int .u8 23), .lit (.int .u8 21), .lit (.int .u8 19), .lit (.int .u8 16), .lit (.int .u8 7), .lit (.int .u8 26), .lit (.int .u8 12), .lit (.int .u8 18), .lit (.int .u8 6), .lit (.int .u8 11), .lit (.int .u8 5), .lit (.int .u8 10), .lit (.int .u8 9)]
def laid_math_bits_deBruijn64tab {H : Type} : DataW H := .agg [.lit (.int .u8 0), .lit (.int .u8 1), .lit (.int .u8 56), .lit (.int .u8 2), .lit (.int .u8 57), .lit (.int .u8 49), .lit (.int .u8 28), .lit (.int .u8 3), .lit (.int .u8 61), .lit (.int .u8 58), .lit (.int .u8 42), .lit (.int .u8 50), .lit (.int .u8 38), .lit (.int .u8 29), .lit (.int .u8 17), .lit (.int .u8 4), .lit (.int .u8 62), .lit (.int .u8 47), .lit (.int .u8 59), .lit (.int .u8 36), .lit (.int .u8 45), .lit (.int .u8 43), .lit (.int .u8 51), .lit (.int .u8 22), .lit (.int .u8 53), .lit (.int .u8 39), .lit (.int .u8 33), .lit (.int .u8 30), .lit (.int .u8 24), .lit (.int .u8 18), .lit (.int .u8 12), .lit (.int .u8 5), .lit (.int .u8 63), .lit (.int .u8 55), .lit (.int .u8 48), .lit (.int .u8 27), .lit (.int .u8 60), .lit (.int .u8 41), .lit (.int .u8 37), .lit (.int .u8 16), .lit (.int .u8 46), .lit (.int .u8 35), .lit (.int .u8 44), .lit (.int .u8 21), .lit (.int .u8 52), .lit (.int .u8 32), .lit (.int .u8 23), .lit (.int .u8 11), .lit (.int .u8 54), .lit (.int .u8 26), .lit (.int .u8 40), .lit (.int .u8 15), .lit (.int .u8 34), .lit (.int .u8 20), .lit (.int .u8 31), .lit (.int .u8 10), .lit (.int .u8 25), .lit (.int .u8 14), .lit (.int .u8 19), .lit (.int .u8 9), .lit (.int .u8 13), .lit (.int .u8 8), .lit (.int .u8 7), .lit (.int .u8 6)]
def laid_internal_strconv_uint64pow10 {H : Type} : DataW H := .agg [.lit (.int .u64 1), .lit (.int .u64 10), .lit (.int .u64 100), .lit (.int .u64 1000), .lit (.int .u64 10000), .lit (.int .u64 100000), .lit (.int .u64 1000000), .lit (.int .u64 10000000), .lit (.int .u64 100000000), .lit (.int .u64 1000000000), .lit (.int .u64 10000000000), .lit (.int .u64 100000000000), .lit (.int .u64 1000000000000), .lit (.int .u64 10000000000000), .lit (.int .u64 100000000000000), .lit (.int .u64 1000000000000000), .lit (.int .u64 10000000000000000), .lit (.int .u64 100000000000000000), .lit (.int .u64 1000000000000000000), .lit (.int .u64 10000000000000000000)]

/-- 'mailsacklaw23.ToldNew': WHATEVER THE INPUT: true; the input reads as it did. -/
def toldNewSpec : ChangeSpec := { name := "toldNew", fn := fun _ => fun
  | [d1, d2, d3] => { results := [.lit (.bool true)], args := [d1, d2, d3] }
  | _ => none }
def toldNewRow : OpenClaim := { program := "ytplfpbfmnogckaadoor", sum := "8c89de1238d1d2b459dc9b512d5ec973aafaba59162d35f7880b9a27d25a7922", func := "mailsack/mailsacklaw23.ToldNew", spec := "toldNew", inPlace := ["internal/abi.NoEscape", "internal/bytealg.MakeNoZero"], unfollowed := true, recurses := true, named := ["internal/strconv.uint64pow10", "math/bits.deBruijn32tab", "math/bits.deBruijn64tab"], apart := false, laid := [("math/bits.deBruijn32tab", laid_math_bits_deBruijn32tab), ("math/bits.deBruijn64tab", laid_math_bits_deBruijn64tab), ("internal/strconv.uint64pow10", laid_internal_strconv_uint64pow10)] }
def ToldNewSaid : Prop := toldNewRow.holds Tryd.pinned (OpenSpec.ofChange toldNewSpec)

/-- ITS FALSE NEIGHBOUR: 'it returns false'. Refute it at one input. -/
def toldNewWrong : ChangeSpec := { name := "toldNew", fn := fun _ => fun
  | [d1, d2, d3] => { results := [.lit (.bool false)], args := [d1, d2, d3] }
  | _ => none }
def ToldNewWrongFalsely : Prop := toldNewRow.holds Tryd.pinned (OpenSpec.ofChange toldNewWrong)

/-- 'mailsacklaw23.ToldStays': WHATEVER THE INPUT: true; the input reads as it did. -/
def toldStaysSpec : ChangeSpec := { name := "toldStays", fn := fun _ => fun
  | [d1, d2] => { results := [.lit (.bool true)], args := [d1, d2] }
  | _ => none }
def toldStaysRow : OpenClaim := { program := "ytplfpbfmnogckaadoor", sum := "8c89de1238d1d2b459dc9b512d5ec973aafaba59162d35f7880b9a27d25a7922", func := "mailsack/mailsacklaw23.ToldStays", spec := "toldStays", inPlace := ["internal/abi.NoEscape", "internal/bytealg.MakeNoZero"], unfollowed := true, recurses := true, named := ["internal/strconv.uint64pow10", "math/bits.deBruijn32tab", "math/bits.deBruijn64tab"], apart := false, laid := [("math/bits.deBruijn32tab", laid_math_bits_deBruijn32tab), ("math/bits.deBruijn64tab", laid_math_bits_deBruijn64tab), ("internal/strconv.uint64pow10", laid_internal_strconv_uint64pow10)] }
def ToldStaysSaid : Prop := toldStaysRow.holds Tryd.pinned (OpenSpec.ofChange toldStaysSpec)

/-- ITS FALSE NEIGHBOUR: 'it returns false'. Refute it at one input. -/
def toldStaysWrong : ChangeSpec := { name := "toldStays", fn := fun _ => fun
  | [d1, d2] => { results := [.lit (.bool false)], args := [d1, d2] }
  | _ => none }
def ToldStaysWrongFalsely : Prop := toldStaysRow.holds Tryd.pinned (OpenSpec.ofChange toldStaysWrong)

/-- 'mailsacklaw23.ToldCuts': WHATEVER THE INPUT: true; the input reads as it did. -/
def toldCutsSpec : ChangeSpec := { name := "toldCuts", fn := fun _ => fun
  | [d1, d2] => { results := [.lit (.bool true)], args := [d1, d2] }
  | _ => none }
def toldCutsRow : OpenClaim := { program := "ytplfpbfmnogckaadoor", sum := "8c89de1238d1d2b459dc9b512d5ec973aafaba59162d35f7880b9a27d25a7922", func := "mailsack/mailsacklaw23.ToldCuts", spec := "toldCuts", inPlace := ["internal/abi.NoEscape", "internal/bytealg.MakeNoZero"], unfollowed := true, recurses := true, named := ["internal/strconv.uint64pow10", "math/bits.deBruijn32tab", "math/bits.deBruijn64tab"], apart := false, laid := [("math/bits.deBruijn32tab", laid_math_bits_deBruijn32tab), ("math/bits.deBruijn64tab", laid_math_bits_deBruijn64tab), ("internal/strconv.uint64pow10", laid_internal_strconv_uint64pow10)] }
def ToldCutsSaid : Prop := toldCutsRow.holds Tryd.pinned (OpenSpec.ofChange toldCutsSpec)

/-- ITS FALSE NEIGHBOUR: 'it returns false'. Refute it at one input. -/
def toldCutsWrong : ChangeSpec := { name := "toldCuts", fn := fun _ => fun
  | [d1, d2] => { results := [.lit (.bool false)], args := [d1, d2] }
  | _ => none }
def ToldCutsWrongFalsely : Prop := toldCutsRow.holds Tryd.pinned (OpenSpec.ofChange toldCutsWrong)

/-- 'mailsacklaw23.ToldNotes': WHATEVER THE INPUT: true; the input reads as it did. -/
def toldNotesSpec : ChangeSpec := { name := "toldNotes", fn := fun _ => fun
  | [d1, d2, d3] => { results := [.lit (.bool true)], args := [d1, d2, d3] }
  | _ => none }
def toldNotesRow : OpenClaim := { program := "ytplfpbfmnogckaadoor", sum := "8c89de1238d1d2b459dc9b512d5ec973aafaba59162d35f7880b9a27d25a7922", func := "mailsack/mailsacklaw23.ToldNotes", spec := "toldNotes", inPlace := ["internal/abi.NoEscape", "internal/bytealg.MakeNoZero"], unfollowed := true, recurses := true, named := ["internal/strconv.uint64pow10", "math/bits.deBruijn32tab", "math/bits.deBruijn64tab"], apart := false, laid := [("math/bits.deBruijn32tab", laid_math_bits_deBruijn32tab), ("math/bits.deBruijn64tab", laid_math_bits_deBruijn64tab), ("internal/strconv.uint64pow10", laid_internal_strconv_uint64pow10)] }
def ToldNotesSaid : Prop := toldNotesRow.holds Tryd.pinned (OpenSpec.ofChange toldNotesSpec)

/-- ITS FALSE NEIGHBOUR: 'it returns false'. Refute it at one input. -/
def toldNotesWrong : ChangeSpec := { name := "toldNotes", fn := fun _ => fun
  | [d1, d2, d3] => { results := [.lit (.bool false)], args := [d1, d2, d3] }
  | _ => none }
def ToldNotesWrongFalsely : Prop := toldNotesRow.holds Tryd.pinned (OpenSpec.ofChange toldNotesWrong)

/-- 'mailsacklaw23.ToldPicks': WHATEVER THE INPUT: true; the input reads as it did. -/
def toldPicksSpec : ChangeSpec := { name := "toldPicks", fn := fun _ => fun
  | [d1, d2] => { results := [.lit (.bool true)], args := [d1, d2] }
  | _ => none }
def toldPicksRow : OpenClaim := { program := "ytplfpbfmnogckaadoor", sum := "8c89de1238d1d2b459dc9b512d5ec973aafaba59162d35f7880b9a27d25a7922", func := "mailsack/mailsacklaw23.ToldPicks", spec := "toldPicks", inPlace := ["internal/abi.NoEscape", "internal/bytealg.MakeNoZero"], unfollowed := true, recurses := true, named := ["internal/strconv.uint64pow10", "math/bits.deBruijn32tab", "math/bits.deBruijn64tab"], apart := false, laid := [("math/bits.deBruijn32tab", laid_math_bits_deBruijn32tab), ("math/bits.deBruijn64tab", laid_math_bits_deBruijn64tab), ("internal/strconv.uint64pow10", laid_internal_strconv_uint64pow10)] }
def ToldPicksSaid : Prop := toldPicksRow.holds Tryd.pinned (OpenSpec.ofChange toldPicksSpec)

/-- ITS FALSE NEIGHBOUR: 'it returns false'. Refute it at one input. -/
def toldPicksWrong : ChangeSpec := { name := "toldPicks", fn := fun _ => fun
  | [d1, d2] => { results := [.lit (.bool false)], args := [d1, d2] }
  | _ => none }
def ToldPicksWrongFalsely : Prop := toldPicksRow.holds Tryd.pinned (OpenSpec.ofChange toldPicksWrong)

/-- 'mailsacklaw21.ItemBack': WHATEVER THE INPUT: true; the input reads as it did. -/
def itemBackSpec : ChangeSpec := { name := "itemBack", fn := fun _ => fun
  | [d1, d2] => { results := [.lit (.bool true)], args := [d1, d2] }
  | _ => none }
def itemBackRow : OpenClaim := { program := "ytplfpbfmnogckaadoor", sum := "8c89de1238d1d2b459dc9b512d5ec973aafaba59162d35f7880b9a27d25a7922", func := "mailsack/mailsacklaw21.ItemBack", spec := "itemBack", inPlace := ["internal/abi.NoEscape", "internal/bytealg.MakeNoZero", "internal/bytealg.IndexByteString", "internal/bytealg.IndexString"], unfollowed := true, recurses := true, named := ["internal/bytealg.MaxLen", "internal/strconv.uint64pow10", "math/bits.deBruijn32tab", "math/bits.deBruijn64tab"], apart := false, laid := [("math/bits.deBruijn32tab", laid_math_bits_deBruijn32tab), ("math/bits.deBruijn64tab", laid_math_bits_deBruijn64tab), ("internal/strconv.uint64pow10", laid_internal_strconv_uint64pow10)] }
def ItemBackSaid : Prop := itemBackRow.holds Tryd.pinned (OpenSpec.ofChange itemBackSpec)

/-- ITS FALSE NEIGHBOUR: 'it returns false'. Refute it at one input. -/
def itemBackWrong : ChangeSpec := { name := "itemBack", fn := fun _ => fun
  | [d1, d2] => { results := [.lit (.bool false)], args := [d1, d2] }
  | _ => none }
def ItemBackWrongFalsely : Prop := itemBackRow.holds Tryd.pinned (OpenSpec.ofChange itemBackWrong)

/-- 'mailsacklaw21.ItemTells': WHATEVER THE INPUT: true; the input reads as it did. -/
def itemTellsSpec : ChangeSpec := { name := "itemTells", fn := fun _ => fun
  | [d1, d2, d3] => { results := [.lit (.bool true)], args := [d1, d2, d3] }
  | _ => none }
def itemTellsRow : OpenClaim := { program := "ytplfpbfmnogckaadoor", sum := "8c89de1238d1d2b459dc9b512d5ec973aafaba59162d35f7880b9a27d25a7922", func := "mailsack/mailsacklaw21.ItemTells", spec := "itemTells", inPlace := ["internal/abi.NoEscape", "internal/bytealg.IndexByteString", "internal/bytealg.IndexString", "internal/bytealg.MakeNoZero"], unfollowed := true, recurses := true, named := ["internal/bytealg.MaxLen", "internal/strconv.uint64pow10", "math/bits.deBruijn32tab", "math/bits.deBruijn64tab"], apart := false, laid := [("math/bits.deBruijn32tab", laid_math_bits_deBruijn32tab), ("math/bits.deBruijn64tab", laid_math_bits_deBruijn64tab), ("internal/strconv.uint64pow10", laid_internal_strconv_uint64pow10)] }
def ItemTellsSaid : Prop := itemTellsRow.holds Tryd.pinned (OpenSpec.ofChange itemTellsSpec)

/-- ITS FALSE NEIGHBOUR: 'it returns false'. Refute it at one input. -/
def itemTellsWrong : ChangeSpec := { name := "itemTells", fn := fun _ => fun
  | [d1, d2, d3] => { results := [.lit (.bool false)], args := [d1, d2, d3] }
  | _ => none }
def ItemTellsWrongFalsely : Prop := itemTellsRow.holds Tryd.pinned (OpenSpec.ofChange itemTellsWrong)

/-- 'mailsacklaw21.ItemAlone': WHATEVER THE INPUT: true; the input reads as it did. -/
def itemAloneSpec : ChangeSpec := { name := "itemAlone", fn := fun _ => fun
  | [d1, d2] => { results := [.lit (.bool true)], args := [d1, d2] }
  | _ => none }
def itemAloneRow : OpenClaim := { program := "ytplfpbfmnogckaadoor", sum := "8c89de1238d1d2b459dc9b512d5ec973aafaba59162d35f7880b9a27d25a7922", func := "mailsack/mailsacklaw21.ItemAlone", spec := "itemAlone", inPlace := ["internal/abi.NoEscape", "internal/bytealg.MakeNoZero", "internal/bytealg.IndexByteString", "internal/bytealg.IndexString"], unfollowed := true, recurses := true, named := ["internal/bytealg.MaxLen", "internal/strconv.uint64pow10", "math/bits.deBruijn32tab", "math/bits.deBruijn64tab"], apart := false, laid := [("math/bits.deBruijn32tab", laid_math_bits_deBruijn32tab), ("math/bits.deBruijn64tab", laid_math_bits_deBruijn64tab), ("internal/strconv.uint64pow10", laid_internal_strconv_uint64pow10)] }
def ItemAloneSaid : Prop := itemAloneRow.holds Tryd.pinned (OpenSpec.ofChange itemAloneSpec)

/-- ITS FALSE NEIGHBOUR: 'it returns false'. Refute it at one input. -/
def itemAloneWrong : ChangeSpec := { name := "itemAlone", fn := fun _ => fun
  | [d1, d2] => { results := [.lit (.bool false)], args := [d1, d2] }
  | _ => none }
def ItemAloneWrongFalsely : Prop := itemAloneRow.holds Tryd.pinned (OpenSpec.ofChange itemAloneWrong)

/-- 'mailsacklaw21.ItemBodies': WHATEVER THE INPUT: true; the input reads as it did. -/
def itemBodiesSpec : ChangeSpec := { name := "itemBodies", fn := fun _ => fun
  | [d1, d2] => { results := [.lit (.bool true)], args := [d1, d2] }
  | _ => none }
def itemBodiesRow : OpenClaim := { program := "ytplfpbfmnogckaadoor", sum := "8c89de1238d1d2b459dc9b512d5ec973aafaba59162d35f7880b9a27d25a7922", func := "mailsack/mailsacklaw21.ItemBodies", spec := "itemBodies", inPlace := ["internal/abi.NoEscape", "internal/bytealg.IndexByteString", "internal/bytealg.IndexString", "internal/bytealg.MakeNoZero"], unfollowed := true, recurses := true, named := ["internal/bytealg.MaxLen", "internal/strconv.uint64pow10", "math/bits.deBruijn32tab", "math/bits.deBruijn64tab"], apart := false, laid := [("math/bits.deBruijn32tab", laid_math_bits_deBruijn32tab), ("math/bits.deBruijn64tab", laid_math_bits_deBruijn64tab), ("internal/strconv.uint64pow10", laid_internal_strconv_uint64pow10)] }
def ItemBodiesSaid : Prop := itemBodiesRow.holds Tryd.pinned (OpenSpec.ofChange itemBodiesSpec)

/-- ITS FALSE NEIGHBOUR: 'it returns false'. Refute it at one input. -/
def itemBodiesWrong : ChangeSpec := { name := "itemBodies", fn := fun _ => fun
  | [d1, d2] => { results := [.lit (.bool false)], args := [d1, d2] }
  | _ => none }
def ItemBodiesWrongFalsely : Prop := itemBodiesRow.holds Tryd.pinned (OpenSpec.ofChange itemBodiesWrong)

/- THE SECOND FORM. 'bulk': how many values and letters a reading holds, each counted each time it is reached (what is shared counts as often as it is met; a slice's spare places count too). A statement '..UptoSaid' is the law's where the arguments, and the package variables that the reading takes, are together of bulk at most 1048576: NARROWER than '..Said'. Prove '..Said' where nothing that the law and all that it calls make is longer than what came in: it says more and counts as full. Else prove '..UptoSaid'. A law counts once. -/
mutual
def uptoBulk {H : Type} : DataW H → Nat
  | .lit (.string bytes) => bytes.length + 1
  | .lit _ => 1
  | .nil => 1
  | .ptr d => uptoBulk d + 1
  | .slice elems spare => uptoBulkAll elems + uptoBulkAll spare + 1
  | .agg parts => uptoBulkAll parts + 1
  | .iface _ d => uptoBulk d + 1
  | .map entries => uptoBulkEntries entries + 1
  | .held _ => 1
def uptoBulkAll {H : Type} : List (DataW H) → Nat
  | [] => 0
  | d :: r => uptoBulk d + uptoBulkAll r
def uptoBulkEntries {H : Type} : List (Lit × DataW H) → Nat
  | [] => 0
  | x :: r => uptoBulkEntry x + uptoBulkEntries r
def uptoBulkEntry {H : Type} : Lit × DataW H → Nat
  | (.string bytes, d) => bytes.length + uptoBulk d + 1
  | (_, d) => uptoBulk d + 1
 end
def uptoSmall : (H : Type) → List (DataW H) → Bool := fun _ ds => decide (uptoBulkAll ds ≤ 1048576)
def OpenSpec.upto (s : _root_.Go.ChangeSpec) : _root_.Go.OpenSpec := { _root_.Go.OpenSpec.ofChange s with cond := some uptoSmall }

/-- 'mailsacklaw23.ToldNew', WHERE WHAT IT READS IS OF BULK AT MOST 1048576: true; the input reads as it did. -/
def toldNewUptoRow : OpenClaim := { program := "ytplfpbfmnogckaadoor", sum := "8c89de1238d1d2b459dc9b512d5ec973aafaba59162d35f7880b9a27d25a7922", func := "mailsack/mailsacklaw23.ToldNew", spec := "toldNew", inPlace := ["internal/abi.NoEscape", "internal/bytealg.MakeNoZero"], unfollowed := true, recurses := true, named := ["internal/strconv.uint64pow10", "math/bits.deBruijn32tab", "math/bits.deBruijn64tab"], apart := false, laid := [("math/bits.deBruijn32tab", laid_math_bits_deBruijn32tab), ("math/bits.deBruijn64tab", laid_math_bits_deBruijn64tab), ("internal/strconv.uint64pow10", laid_internal_strconv_uint64pow10)], narrowed := true }
def ToldNewUptoSaid : Prop := toldNewUptoRow.holds Tryd.pinned (OpenSpec.upto toldNewSpec)

/-- 'mailsacklaw23.ToldStays', WHERE WHAT IT READS IS OF BULK AT MOST 1048576: true; the input reads as it did. -/
def toldStaysUptoRow : OpenClaim := { program := "ytplfpbfmnogckaadoor", sum := "8c89de1238d1d2b459dc9b512d5ec973aafaba59162d35f7880b9a27d25a7922", func := "mailsack/mailsacklaw23.ToldStays", spec := "toldStays", inPlace := ["internal/abi.NoEscape", "internal/bytealg.MakeNoZero"], unfollowed := true, recurses := true, named := ["internal/strconv.uint64pow10", "math/bits.deBruijn32tab", "math/bits.deBruijn64tab"], apart := false, laid := [("math/bits.deBruijn32tab", laid_math_bits_deBruijn32tab), ("math/bits.deBruijn64tab", laid_math_bits_deBruijn64tab), ("internal/strconv.uint64pow10", laid_internal_strconv_uint64pow10)], narrowed := true }
def ToldStaysUptoSaid : Prop := toldStaysUptoRow.holds Tryd.pinned (OpenSpec.upto toldStaysSpec)

/-- 'mailsacklaw23.ToldCuts', WHERE WHAT IT READS IS OF BULK AT MOST 1048576: true; the input reads as it did. -/
def toldCutsUptoRow : OpenClaim := { program := "ytplfpbfmnogckaadoor", sum := "8c89de1238d1d2b459dc9b512d5ec973aafaba59162d35f7880b9a27d25a7922", func := "mailsack/mailsacklaw23.ToldCuts", spec := "toldCuts", inPlace := ["internal/abi.NoEscape", "internal/bytealg.MakeNoZero"], unfollowed := true, recurses := true, named := ["internal/strconv.uint64pow10", "math/bits.deBruijn32tab", "math/bits.deBruijn64tab"], apart := false, laid := [("math/bits.deBruijn32tab", laid_math_bits_deBruijn32tab), ("math/bits.deBruijn64tab", laid_math_bits_deBruijn64tab), ("internal/strconv.uint64pow10", laid_internal_strconv_uint64pow10)], narrowed := true }
def ToldCutsUptoSaid : Prop := toldCutsUptoRow.holds Tryd.pinned (OpenSpec.upto toldCutsSpec)

/-- 'mailsacklaw23.ToldNotes', WHERE WHAT IT READS IS OF BULK AT MOST 1048576: true; the input reads as it did. -/
def toldNotesUptoRow : OpenClaim := { program := "ytplfpbfmnogckaadoor", sum := "8c89de1238d1d2b459dc9b512d5ec973aafaba59162d35f7880b9a27d25a7922", func := "mailsack/mailsacklaw23.ToldNotes", spec := "toldNotes", inPlace := ["internal/abi.NoEscape", "internal/bytealg.MakeNoZero"], unfollowed := true, recurses := true, named := ["internal/strconv.uint64pow10", "math/bits.deBruijn32tab", "math/bits.deBruijn64tab"], apart := false, laid := [("math/bits.deBruijn32tab", laid_math_bits_deBruijn32tab), ("math/bits.deBruijn64tab", laid_math_bits_deBruijn64tab), ("internal/strconv.uint64pow10", laid_internal_strconv_uint64pow10)], narrowed := true }
def ToldNotesUptoSaid : Prop := toldNotesUptoRow.holds Tryd.pinned (OpenSpec.upto toldNotesSpec)

/-- 'mailsacklaw23.ToldPicks', WHERE WHAT IT READS IS OF BULK AT MOST 1048576: true; the input reads as it did. -/
def toldPicksUptoRow : OpenClaim := { program := "ytplfpbfmnogckaadoor", sum := "8c89de1238d1d2b459dc9b512d5ec973aafaba59162d35f7880b9a27d25a7922", func := "mailsack/mailsacklaw23.ToldPicks", spec := "toldPicks", inPlace := ["internal/abi.NoEscape", "internal/bytealg.MakeNoZero"], unfollowed := true, recurses := true, named := ["internal/strconv.uint64pow10", "math/bits.deBruijn32tab", "math/bits.deBruijn64tab"], apart := false, laid := [("math/bits.deBruijn32tab", laid_math_bits_deBruijn32tab), ("math/bits.deBruijn64tab", laid_math_bits_deBruijn64tab), ("internal/strconv.uint64pow10", laid_internal_strconv_uint64pow10)], narrowed := true }
def ToldPicksUptoSaid : Prop := toldPicksUptoRow.holds Tryd.pinned (OpenSpec.upto toldPicksSpec)

/-- 'mailsacklaw21.ItemBack', WHERE WHAT IT READS IS OF BULK AT MOST 1048576: true; the input reads as it did. -/
def itemBackUptoRow : OpenClaim := { program := "ytplfpbfmnogckaadoor", sum := "8c89de1238d1d2b459dc9b512d5ec973aafaba59162d35f7880b9a27d25a7922", func := "mailsack/mailsacklaw21.ItemBack", spec := "itemBack", inPlace := ["internal/abi.NoEscape", "internal/bytealg.MakeNoZero", "internal/bytealg.IndexByteString", "internal/bytealg.IndexString"], unfollowed := true, recurses := true, named := ["internal/bytealg.MaxLen", "internal/strconv.uint64pow10", "math/bits.deBruijn32tab", "math/bits.deBruijn64tab"], apart := false, laid := [("math/bits.deBruijn32tab", laid_math_bits_deBruijn32tab), ("math/bits.deBruijn64tab", laid_math_bits_deBruijn64tab), ("internal/strconv.uint64pow10", laid_internal_strconv_uint64pow10)], narrowed := true }
def ItemBackUptoSaid : Prop := itemBackUptoRow.holds Tryd.pinned (OpenSpec.upto itemBackSpec)

/-- 'mailsacklaw21.ItemTells', WHERE WHAT IT READS IS OF BULK AT MOST 1048576: true; the input reads as it did. -/
def itemTellsUptoRow : OpenClaim := { program := "ytplfpbfmnogckaadoor", sum := "8c89de1238d1d2b459dc9b512d5ec973aafaba59162d35f7880b9a27d25a7922", func := "mailsack/mailsacklaw21.ItemTells", spec := "itemTells", inPlace := ["internal/abi.NoEscape", "internal/bytealg.IndexByteString", "internal/bytealg.IndexString", "internal/bytealg.MakeNoZero"], unfollowed := true, recurses := true, named := ["internal/bytealg.MaxLen", "internal/strconv.uint64pow10", "math/bits.deBruijn32tab", "math/bits.deBruijn64tab"], apart := false, laid := [("math/bits.deBruijn32tab", laid_math_bits_deBruijn32tab), ("math/bits.deBruijn64tab", laid_math_bits_deBruijn64tab), ("internal/strconv.uint64pow10", laid_internal_strconv_uint64pow10)], narrowed := true }
def ItemTellsUptoSaid : Prop := itemTellsUptoRow.holds Tryd.pinned (OpenSpec.upto itemTellsSpec)

/-- 'mailsacklaw21.ItemAlone', WHERE WHAT IT READS IS OF BULK AT MOST 1048576: true; the input reads as it did. -/
def itemAloneUptoRow : OpenClaim := { program := "ytplfpbfmnogckaadoor", sum := "8c89de1238d1d2b459dc9b512d5ec973aafaba59162d35f7880b9a27d25a7922", func := "mailsack/mailsacklaw21.ItemAlone", spec := "itemAlone", inPlace := ["internal/abi.NoEscape", "internal/bytealg.MakeNoZero", "internal/bytealg.IndexByteString", "internal/bytealg.IndexString"], unfollowed := true, recurses := true, named := ["internal/bytealg.MaxLen", "internal/strconv.uint64pow10", "math/bits.deBruijn32tab", "math/bits.deBruijn64tab"], apart := false, laid := [("math/bits.deBruijn32tab", laid_math_bits_deBruijn32tab), ("math/bits.deBruijn64tab", laid_math_bits_deBruijn64tab), ("internal/strconv.uint64pow10", laid_internal_strconv_uint64pow10)], narrowed := true }
def ItemAloneUptoSaid : Prop := itemAloneUptoRow.holds Tryd.pinned (OpenSpec.upto itemAloneSpec)

/-- 'mailsacklaw21.ItemBodies', WHERE WHAT IT READS IS OF BULK AT MOST 1048576: true; the input reads as it did. -/
def itemBodiesUptoRow : OpenClaim := { program := "ytplfpbfmnogckaadoor", sum := "8c89de1238d1d2b459dc9b512d5ec973aafaba59162d35f7880b9a27d25a7922", func := "mailsack/mailsacklaw21.ItemBodies", spec := "itemBodies", inPlace := ["internal/abi.NoEscape", "internal/bytealg.IndexByteString", "internal/bytealg.IndexString", "internal/bytealg.MakeNoZero"], unfollowed := true, recurses := true, named := ["internal/bytealg.MaxLen", "internal/strconv.uint64pow10", "math/bits.deBruijn32tab", "math/bits.deBruijn64tab"], apart := false, laid := [("math/bits.deBruijn32tab", laid_math_bits_deBruijn32tab), ("math/bits.deBruijn64tab", laid_math_bits_deBruijn64tab), ("internal/strconv.uint64pow10", laid_internal_strconv_uint64pow10)], narrowed := true }
def ItemBodiesUptoSaid : Prop := itemBodiesUptoRow.holds Tryd.pinned (OpenSpec.upto itemBodiesSpec)

end Rows
end Go.Proofs.YtplfpbfmnogckaaDoor
