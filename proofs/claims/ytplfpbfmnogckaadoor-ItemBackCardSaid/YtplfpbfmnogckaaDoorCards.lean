/-
  DERIVED. GIVEN WITH THE SEED: THE CARDS: each row of YtplfpbfmnogckaaDoorRows.lean that lists a variable, with what it lists TIED to the program's text (the seventh form; the later family's looks); each row that meets fmt, with fmt's text TOLD by the authors' own Lean function (tested against real Go, not proved from fmt's source: count such statements apart). THE CARD IS WHAT COUNTS. Prove the row's statement (the work); the ties are given (YtplfpbfmnogckaaDoorTie.lean); close each card by the builder's one call (the guide's Derived/Test/ToyasCard.lean, 'card_holds'). Laid BY PROGRAM, IN A SANDBOX (cutbox-door.mjs). By AI agents, Wed Nov 11 2026. No macro, syntax, notation, axiom, sorry.
-/
import Derived.Test.YtplfpbfmnogckaaDoorRows
import GoSem.ClaimSeven
namespace Go.Proofs.YtplfpbfmnogckaaDoor
namespace Rows

/-- THE TIED CARD OF 'mailsacklaw23.ToldNew'. -/
def toldNewCard : Claim7 := { stood := { row := toldNewRow, standIns := [], harness := (true, "e7ed06394cdcd8fa171756e4e6e4c502bd991eb1093e838c03d128ada88d0bf5"), looks := false }, kinds := [], alts := [], laidByText := true, laidKinds := [.data, .data, .data], laidTests := true, laidLooks := .later }
def ToldNewCardSaid : Prop := Claim7.holds Tryd.pinned (.plain (OpenSpec.ofChange toldNewSpec)) toldNewCard

/-- THE TIED CARD OF 'mailsacklaw23.ToldStays'. -/
def toldStaysCard : Claim7 := { stood := { row := toldStaysRow, standIns := [], harness := (true, "e7ed06394cdcd8fa171756e4e6e4c502bd991eb1093e838c03d128ada88d0bf5"), looks := false }, kinds := [], alts := [], laidByText := true, laidKinds := [.data, .data, .data], laidTests := true, laidLooks := .later }
def ToldStaysCardSaid : Prop := Claim7.holds Tryd.pinned (.plain (OpenSpec.ofChange toldStaysSpec)) toldStaysCard

/-- THE TIED CARD OF 'mailsacklaw23.ToldCuts'. -/
def toldCutsCard : Claim7 := { stood := { row := toldCutsRow, standIns := [], harness := (true, "e7ed06394cdcd8fa171756e4e6e4c502bd991eb1093e838c03d128ada88d0bf5"), looks := false }, kinds := [], alts := [], laidByText := true, laidKinds := [.data, .data, .data], laidTests := true, laidLooks := .later }
def ToldCutsCardSaid : Prop := Claim7.holds Tryd.pinned (.plain (OpenSpec.ofChange toldCutsSpec)) toldCutsCard

/-- THE TIED CARD OF 'mailsacklaw23.ToldNotes'. -/
def toldNotesCard : Claim7 := { stood := { row := toldNotesRow, standIns := [], harness := (true, "e7ed06394cdcd8fa171756e4e6e4c502bd991eb1093e838c03d128ada88d0bf5"), looks := false }, kinds := [], alts := [], laidByText := true, laidKinds := [.data, .data, .data], laidTests := true, laidLooks := .later }
def ToldNotesCardSaid : Prop := Claim7.holds Tryd.pinned (.plain (OpenSpec.ofChange toldNotesSpec)) toldNotesCard

/-- THE TIED CARD OF 'mailsacklaw23.ToldPicks'. -/
def toldPicksCard : Claim7 := { stood := { row := toldPicksRow, standIns := [], harness := (true, "e7ed06394cdcd8fa171756e4e6e4c502bd991eb1093e838c03d128ada88d0bf5"), looks := false }, kinds := [], alts := [], laidByText := true, laidKinds := [.data, .data, .data], laidTests := true, laidLooks := .later }
def ToldPicksCardSaid : Prop := Claim7.holds Tryd.pinned (.plain (OpenSpec.ofChange toldPicksSpec)) toldPicksCard

/-- THE TIED CARD OF 'mailsacklaw21.ItemBack'. -/
def itemBackCard : Claim7 := { stood := { row := itemBackRow, standIns := [], harness := (true, "e7ed06394cdcd8fa171756e4e6e4c502bd991eb1093e838c03d128ada88d0bf5"), looks := false }, kinds := [], alts := [], laidByText := true, laidKinds := [.data, .data, .data], laidTests := true, laidLooks := .later }
def ItemBackCardSaid : Prop := Claim7.holds Tryd.pinned (.plain (OpenSpec.ofChange itemBackSpec)) itemBackCard

/-- THE TIED CARD OF 'mailsacklaw21.ItemTells'. -/
def itemTellsCard : Claim7 := { stood := { row := itemTellsRow, standIns := [], harness := (true, "e7ed06394cdcd8fa171756e4e6e4c502bd991eb1093e838c03d128ada88d0bf5"), looks := false }, kinds := [], alts := [], laidByText := true, laidKinds := [.data, .data, .data], laidTests := true, laidLooks := .later }
def ItemTellsCardSaid : Prop := Claim7.holds Tryd.pinned (.plain (OpenSpec.ofChange itemTellsSpec)) itemTellsCard

/-- THE TIED CARD OF 'mailsacklaw21.ItemAlone'. -/
def itemAloneCard : Claim7 := { stood := { row := itemAloneRow, standIns := [], harness := (true, "e7ed06394cdcd8fa171756e4e6e4c502bd991eb1093e838c03d128ada88d0bf5"), looks := false }, kinds := [], alts := [], laidByText := true, laidKinds := [.data, .data, .data], laidTests := true, laidLooks := .later }
def ItemAloneCardSaid : Prop := Claim7.holds Tryd.pinned (.plain (OpenSpec.ofChange itemAloneSpec)) itemAloneCard

/-- THE TIED CARD OF 'mailsacklaw21.ItemBodies'. -/
def itemBodiesCard : Claim7 := { stood := { row := itemBodiesRow, standIns := [], harness := (true, "e7ed06394cdcd8fa171756e4e6e4c502bd991eb1093e838c03d128ada88d0bf5"), looks := false }, kinds := [], alts := [], laidByText := true, laidKinds := [.data, .data, .data], laidTests := true, laidLooks := .later }
def ItemBodiesCardSaid : Prop := Claim7.holds Tryd.pinned (.plain (OpenSpec.ofChange itemBodiesSpec)) itemBodiesCard

/-- THE SECOND FORM's CARD OF 'mailsacklaw23.ToldNew'. -/
def toldNewUptoCard : Claim7 := { stood := { row := toldNewUptoRow, standIns := [], harness := (true, "e7ed06394cdcd8fa171756e4e6e4c502bd991eb1093e838c03d128ada88d0bf5"), looks := false }, kinds := [], alts := [], laidByText := true, laidKinds := [.data, .data, .data], laidTests := true, laidLooks := .later }
def ToldNewUptoCardSaid : Prop := Claim7.holds Tryd.pinned (.plain (OpenSpec.upto toldNewSpec)) toldNewUptoCard

/-- THE SECOND FORM's CARD OF 'mailsacklaw23.ToldStays'. -/
def toldStaysUptoCard : Claim7 := { stood := { row := toldStaysUptoRow, standIns := [], harness := (true, "e7ed06394cdcd8fa171756e4e6e4c502bd991eb1093e838c03d128ada88d0bf5"), looks := false }, kinds := [], alts := [], laidByText := true, laidKinds := [.data, .data, .data], laidTests := true, laidLooks := .later }
def ToldStaysUptoCardSaid : Prop := Claim7.holds Tryd.pinned (.plain (OpenSpec.upto toldStaysSpec)) toldStaysUptoCard

/-- THE SECOND FORM's CARD OF 'mailsacklaw23.ToldCuts'. -/
def toldCutsUptoCard : Claim7 := { stood := { row := toldCutsUptoRow, standIns := [], harness := (true, "e7ed06394cdcd8fa171756e4e6e4c502bd991eb1093e838c03d128ada88d0bf5"), looks := false }, kinds := [], alts := [], laidByText := true, laidKinds := [.data, .data, .data], laidTests := true, laidLooks := .later }
def ToldCutsUptoCardSaid : Prop := Claim7.holds Tryd.pinned (.plain (OpenSpec.upto toldCutsSpec)) toldCutsUptoCard

/-- THE SECOND FORM's CARD OF 'mailsacklaw23.ToldNotes'. -/
def toldNotesUptoCard : Claim7 := { stood := { row := toldNotesUptoRow, standIns := [], harness := (true, "e7ed06394cdcd8fa171756e4e6e4c502bd991eb1093e838c03d128ada88d0bf5"), looks := false }, kinds := [], alts := [], laidByText := true, laidKinds := [.data, .data, .data], laidTests := true, laidLooks := .later }
def ToldNotesUptoCardSaid : Prop := Claim7.holds Tryd.pinned (.plain (OpenSpec.upto toldNotesSpec)) toldNotesUptoCard

/-- THE SECOND FORM's CARD OF 'mailsacklaw23.ToldPicks'. -/
def toldPicksUptoCard : Claim7 := { stood := { row := toldPicksUptoRow, standIns := [], harness := (true, "e7ed06394cdcd8fa171756e4e6e4c502bd991eb1093e838c03d128ada88d0bf5"), looks := false }, kinds := [], alts := [], laidByText := true, laidKinds := [.data, .data, .data], laidTests := true, laidLooks := .later }
def ToldPicksUptoCardSaid : Prop := Claim7.holds Tryd.pinned (.plain (OpenSpec.upto toldPicksSpec)) toldPicksUptoCard

/-- THE SECOND FORM's CARD OF 'mailsacklaw21.ItemBack'. -/
def itemBackUptoCard : Claim7 := { stood := { row := itemBackUptoRow, standIns := [], harness := (true, "e7ed06394cdcd8fa171756e4e6e4c502bd991eb1093e838c03d128ada88d0bf5"), looks := false }, kinds := [], alts := [], laidByText := true, laidKinds := [.data, .data, .data], laidTests := true, laidLooks := .later }
def ItemBackUptoCardSaid : Prop := Claim7.holds Tryd.pinned (.plain (OpenSpec.upto itemBackSpec)) itemBackUptoCard

/-- THE SECOND FORM's CARD OF 'mailsacklaw21.ItemTells'. -/
def itemTellsUptoCard : Claim7 := { stood := { row := itemTellsUptoRow, standIns := [], harness := (true, "e7ed06394cdcd8fa171756e4e6e4c502bd991eb1093e838c03d128ada88d0bf5"), looks := false }, kinds := [], alts := [], laidByText := true, laidKinds := [.data, .data, .data], laidTests := true, laidLooks := .later }
def ItemTellsUptoCardSaid : Prop := Claim7.holds Tryd.pinned (.plain (OpenSpec.upto itemTellsSpec)) itemTellsUptoCard

/-- THE SECOND FORM's CARD OF 'mailsacklaw21.ItemAlone'. -/
def itemAloneUptoCard : Claim7 := { stood := { row := itemAloneUptoRow, standIns := [], harness := (true, "e7ed06394cdcd8fa171756e4e6e4c502bd991eb1093e838c03d128ada88d0bf5"), looks := false }, kinds := [], alts := [], laidByText := true, laidKinds := [.data, .data, .data], laidTests := true, laidLooks := .later }
def ItemAloneUptoCardSaid : Prop := Claim7.holds Tryd.pinned (.plain (OpenSpec.upto itemAloneSpec)) itemAloneUptoCard

/-- THE SECOND FORM's CARD OF 'mailsacklaw21.ItemBodies'. -/
def itemBodiesUptoCard : Claim7 := { stood := { row := itemBodiesUptoRow, standIns := [], harness := (true, "e7ed06394cdcd8fa171756e4e6e4c502bd991eb1093e838c03d128ada88d0bf5"), looks := false }, kinds := [], alts := [], laidByText := true, laidKinds := [.data, .data, .data], laidTests := true, laidLooks := .later }
def ItemBodiesUptoCardSaid : Prop := Claim7.holds Tryd.pinned (.plain (OpenSpec.upto itemBodiesSpec)) itemBodiesUptoCard
end Rows
end Go.Proofs.YtplfpbfmnogckaaDoor
