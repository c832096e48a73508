/-
  DERIVED. GIVEN WITH THE SEED: THE CARDS: each row of YtjlabkibpknkpaaDoorRows.lean that lists a variable, with what it lists TIED to the program's text (the seventh form; the later family's looks); each row that meets fmt, with fmt's text TOLD by the authors' own Lean function (tested against real Go, not proved from fmt's source: count such statements apart). THE CARD IS WHAT COUNTS. Prove the row's statement (the work); the ties are given (YtjlabkibpknkpaaDoorTie.lean); close each card by the builder's one call (the guide's Derived/Test/ToyasCard.lean, 'card_holds'). Laid BY PROGRAM, IN A SANDBOX (cutbox-door.mjs). By AI agents, Wed Nov 11 2026. No macro, syntax, notation, axiom, sorry.
-/
import Derived.Test.YtjlabkibpknkpaaDoorRows
import GoSem.ClaimSeven
namespace Go.Proofs.YtjlabkibpknkpaaDoor
namespace Rows

/-- THE TIED CARD OF 'mailsacklaw6.BoxBounds'. -/
def boxBoundsCard : Claim7 := { stood := { row := boxBoundsRow, standIns := [], harness := (true, "c42f595aa243e42f5a2e0430f0b83310084681e55122ede2366d00c2fe41f02c"), looks := false }, kinds := [], alts := [], laidByText := true, laidKinds := [.data, .data, .data], laidTests := true, laidLooks := .later }
def BoxBoundsCardSaid : Prop := Claim7.holds Tryd.pinned (.plain (OpenSpec.ofChange boxBoundsSpec)) boxBoundsCard

/-- THE TIED CARD OF 'mailsacklaw6.BoxNames'. -/
def boxNamesCard : Claim7 := { stood := { row := boxNamesRow, standIns := [], harness := (true, "c42f595aa243e42f5a2e0430f0b83310084681e55122ede2366d00c2fe41f02c"), looks := false }, kinds := [], alts := [], laidByText := true, laidKinds := [.data, .data, .data], laidTests := true, laidLooks := .later }
def BoxNamesCardSaid : Prop := Claim7.holds Tryd.pinned (.plain (OpenSpec.ofChange boxNamesSpec)) boxNamesCard

/-- THE TIED CARD OF 'mailsacklaw6.BoxOnce'. -/
def boxOnceCard : Claim7 := { stood := { row := boxOnceRow, standIns := [], harness := (true, "c42f595aa243e42f5a2e0430f0b83310084681e55122ede2366d00c2fe41f02c"), looks := false }, kinds := [], alts := [], laidByText := true, laidKinds := [.data, .data, .data], laidTests := true, laidLooks := .later }
def BoxOnceCardSaid : Prop := Claim7.holds Tryd.pinned (.plain (OpenSpec.ofChange boxOnceSpec)) boxOnceCard

/-- THE TIED CARD OF 'mailsacklaw6.BoxWords'. -/
def boxWordsCard : Claim7 := { stood := { row := boxWordsRow, standIns := [], harness := (true, "c42f595aa243e42f5a2e0430f0b83310084681e55122ede2366d00c2fe41f02c"), looks := false }, kinds := [], alts := [], laidByText := true, laidKinds := [.data, .data, .data], laidTests := true, laidLooks := .later }
def BoxWordsCardSaid : Prop := Claim7.holds Tryd.pinned (.plain (OpenSpec.ofChange boxWordsSpec)) boxWordsCard

/-- THE TIED CARD OF 'mailsacklaw6.BoxCopies'. -/
def boxCopiesCard : Claim7 := { stood := { row := boxCopiesRow, standIns := [], harness := (true, "c42f595aa243e42f5a2e0430f0b83310084681e55122ede2366d00c2fe41f02c"), looks := false }, kinds := [], alts := [], laidByText := true, laidKinds := [.data, .data, .data], laidTests := true, laidLooks := .later }
def BoxCopiesCardSaid : Prop := Claim7.holds Tryd.pinned (.plain (OpenSpec.ofChange boxCopiesSpec)) boxCopiesCard

/-- THE TIED CARD OF 'mailsacklaw6.BoxForms'. -/
def boxFormsCard : Claim7 := { stood := { row := boxFormsRow, standIns := [], harness := (true, "c42f595aa243e42f5a2e0430f0b83310084681e55122ede2366d00c2fe41f02c"), looks := false }, kinds := [], alts := [], laidByText := true, laidKinds := [.data, .data, .data], laidTests := true, laidLooks := .later }
def BoxFormsCardSaid : Prop := Claim7.holds Tryd.pinned (.plain (OpenSpec.ofChange boxFormsSpec)) boxFormsCard

/-- THE TIED CARD OF 'mailsacklaw10.Form3Apart'. -/
def form3ApartCard : Claim7 := { stood := { row := form3ApartRow, standIns := [], harness := (true, "c42f595aa243e42f5a2e0430f0b83310084681e55122ede2366d00c2fe41f02c"), looks := false }, kinds := [], alts := [], laidByText := true, laidKinds := [.data, .data, .data], laidTests := true, laidLooks := .later }
def Form3ApartCardSaid : Prop := Claim7.holds Tryd.pinned (.plain (OpenSpec.ofChange form3ApartSpec)) form3ApartCard

/-- THE SECOND FORM's CARD OF 'mailsacklaw6.BoxBounds'. -/
def boxBoundsUptoCard : Claim7 := { stood := { row := boxBoundsUptoRow, standIns := [], harness := (true, "c42f595aa243e42f5a2e0430f0b83310084681e55122ede2366d00c2fe41f02c"), looks := false }, kinds := [], alts := [], laidByText := true, laidKinds := [.data, .data, .data], laidTests := true, laidLooks := .later }
def BoxBoundsUptoCardSaid : Prop := Claim7.holds Tryd.pinned (.plain (OpenSpec.upto boxBoundsSpec)) boxBoundsUptoCard

/-- THE SECOND FORM's CARD OF 'mailsacklaw6.BoxNames'. -/
def boxNamesUptoCard : Claim7 := { stood := { row := boxNamesUptoRow, standIns := [], harness := (true, "c42f595aa243e42f5a2e0430f0b83310084681e55122ede2366d00c2fe41f02c"), looks := false }, kinds := [], alts := [], laidByText := true, laidKinds := [.data, .data, .data], laidTests := true, laidLooks := .later }
def BoxNamesUptoCardSaid : Prop := Claim7.holds Tryd.pinned (.plain (OpenSpec.upto boxNamesSpec)) boxNamesUptoCard

/-- THE SECOND FORM's CARD OF 'mailsacklaw6.BoxOnce'. -/
def boxOnceUptoCard : Claim7 := { stood := { row := boxOnceUptoRow, standIns := [], harness := (true, "c42f595aa243e42f5a2e0430f0b83310084681e55122ede2366d00c2fe41f02c"), looks := false }, kinds := [], alts := [], laidByText := true, laidKinds := [.data, .data, .data], laidTests := true, laidLooks := .later }
def BoxOnceUptoCardSaid : Prop := Claim7.holds Tryd.pinned (.plain (OpenSpec.upto boxOnceSpec)) boxOnceUptoCard

/-- THE SECOND FORM's CARD OF 'mailsacklaw6.BoxWords'. -/
def boxWordsUptoCard : Claim7 := { stood := { row := boxWordsUptoRow, standIns := [], harness := (true, "c42f595aa243e42f5a2e0430f0b83310084681e55122ede2366d00c2fe41f02c"), looks := false }, kinds := [], alts := [], laidByText := true, laidKinds := [.data, .data, .data], laidTests := true, laidLooks := .later }
def BoxWordsUptoCardSaid : Prop := Claim7.holds Tryd.pinned (.plain (OpenSpec.upto boxWordsSpec)) boxWordsUptoCard

/-- THE SECOND FORM's CARD OF 'mailsacklaw6.BoxCopies'. -/
def boxCopiesUptoCard : Claim7 := { stood := { row := boxCopiesUptoRow, standIns := [], harness := (true, "c42f595aa243e42f5a2e0430f0b83310084681e55122ede2366d00c2fe41f02c"), looks := false }, kinds := [], alts := [], laidByText := true, laidKinds := [.data, .data, .data], laidTests := true, laidLooks := .later }
def BoxCopiesUptoCardSaid : Prop := Claim7.holds Tryd.pinned (.plain (OpenSpec.upto boxCopiesSpec)) boxCopiesUptoCard

/-- THE SECOND FORM's CARD OF 'mailsacklaw6.BoxForms'. -/
def boxFormsUptoCard : Claim7 := { stood := { row := boxFormsUptoRow, standIns := [], harness := (true, "c42f595aa243e42f5a2e0430f0b83310084681e55122ede2366d00c2fe41f02c"), looks := false }, kinds := [], alts := [], laidByText := true, laidKinds := [.data, .data, .data], laidTests := true, laidLooks := .later }
def BoxFormsUptoCardSaid : Prop := Claim7.holds Tryd.pinned (.plain (OpenSpec.upto boxFormsSpec)) boxFormsUptoCard

/-- THE SECOND FORM's CARD OF 'mailsacklaw10.Form3Apart'. -/
def form3ApartUptoCard : Claim7 := { stood := { row := form3ApartUptoRow, standIns := [], harness := (true, "c42f595aa243e42f5a2e0430f0b83310084681e55122ede2366d00c2fe41f02c"), looks := false }, kinds := [], alts := [], laidByText := true, laidKinds := [.data, .data, .data], laidTests := true, laidLooks := .later }
def Form3ApartUptoCardSaid : Prop := Claim7.holds Tryd.pinned (.plain (OpenSpec.upto form3ApartSpec)) form3ApartUptoCard
end Rows
end Go.Proofs.YtjlabkibpknkpaaDoor
