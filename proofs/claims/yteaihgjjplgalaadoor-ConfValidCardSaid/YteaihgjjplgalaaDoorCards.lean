/-
  DERIVED. GIVEN WITH THE SEED: THE CARDS: each row of YteaihgjjplgalaaDoorRows.lean that lists a variable, with what it lists TIED to the program's text (the seventh form; the later family's looks); each row that meets fmt, with fmt's text TOLD by the authors' own Lean function (tested against real Go, not proved from fmt's source: count such statements apart). THE CARD IS WHAT COUNTS. Prove the row's statement (the work); the ties are given (YteaihgjjplgalaaDoorTie.lean); close each card by the builder's one call (the guide's Derived/Test/ToyasCard.lean, 'card_holds'). Laid BY PROGRAM, IN A SANDBOX (cutbox-door.mjs). By AI agents, Wed Nov 11 2026. No macro, syntax, notation, axiom, sorry.
-/
import Derived.Test.YteaihgjjplgalaaDoorRows
import GoSem.ClaimSeven
namespace Go.Proofs.YteaihgjjplgalaaDoor
namespace Rows

/-- THE TIED CARD OF 'overfalllaw13.ConfOrders'. -/
def confOrdersCard : Claim7 := { stood := { row := confOrdersRow, standIns := [], harness := (true, "0fe92dbd8ad3cba97a577522fdcaa23c4084933de92faffdee0bdedda47ef60a"), looks := true }, kinds := [], alts := [], laidByText := true, laidKinds := [.data, .data, .data, .sentinel, .sentinel, .listed, .data], laidTests := true, laidLooks := .later }
def ConfOrdersCardSaid : Prop := Claim7.holds Tryd.pinned (.plain (OpenSpec.ofChange confOrdersSpec)) confOrdersCard

/-- THE TIED CARD OF 'overfalllaw13.ConfLong'. -/
def confLongCard : Claim7 := { stood := { row := confLongRow, standIns := [], harness := (true, "0fe92dbd8ad3cba97a577522fdcaa23c4084933de92faffdee0bdedda47ef60a"), looks := true }, kinds := [], alts := [], laidByText := true, laidKinds := [.data, .data, .data, .sentinel, .sentinel, .listed, .data], laidTests := true, laidLooks := .later }
def ConfLongCardSaid : Prop := Claim7.holds Tryd.pinned (.plain (OpenSpec.ofChange confLongSpec)) confLongCard

/-- THE TIED CARD OF 'overfalllaw13.ConfValid'. -/
def confValidCard : Claim7 := { stood := { row := confValidRow, standIns := [], harness := (true, "0fe92dbd8ad3cba97a577522fdcaa23c4084933de92faffdee0bdedda47ef60a"), looks := true }, kinds := [], alts := [], laidByText := true, laidKinds := [.data, .data, .data, .sentinel, .sentinel, .listed, .data], laidTests := true, laidLooks := .later }
def ConfValidCardSaid : Prop := Claim7.holds Tryd.pinned (.plain (OpenSpec.ofChange confValidSpec)) confValidCard

/-- THE TIED CARD OF 'overfalllaw13.ConfTexts'. -/
def confTextsCard : Claim7 := { stood := { row := confTextsRow, standIns := [], harness := (true, "0fe92dbd8ad3cba97a577522fdcaa23c4084933de92faffdee0bdedda47ef60a"), looks := true }, kinds := [], alts := [], laidByText := true, laidKinds := [.data, .data, .data, .sentinel, .sentinel, .listed, .data], laidTests := true, laidLooks := .later }
def ConfTextsCardSaid : Prop := Claim7.holds Tryd.pinned (.plain (OpenSpec.ofChange confTextsSpec)) confTextsCard

/-- THE SECOND FORM's CARD OF 'overfalllaw13.ConfOrders'. -/
def confOrdersUptoCard : Claim7 := { stood := { row := confOrdersUptoRow, standIns := [], harness := (true, "0fe92dbd8ad3cba97a577522fdcaa23c4084933de92faffdee0bdedda47ef60a"), looks := true }, kinds := [], alts := [], laidByText := true, laidKinds := [.data, .data, .data, .sentinel, .sentinel, .listed, .data], laidTests := true, laidLooks := .later }
def ConfOrdersUptoCardSaid : Prop := Claim7.holds Tryd.pinned (.plain (OpenSpec.upto confOrdersSpec)) confOrdersUptoCard

/-- THE SECOND FORM's CARD OF 'overfalllaw13.ConfLong'. -/
def confLongUptoCard : Claim7 := { stood := { row := confLongUptoRow, standIns := [], harness := (true, "0fe92dbd8ad3cba97a577522fdcaa23c4084933de92faffdee0bdedda47ef60a"), looks := true }, kinds := [], alts := [], laidByText := true, laidKinds := [.data, .data, .data, .sentinel, .sentinel, .listed, .data], laidTests := true, laidLooks := .later }
def ConfLongUptoCardSaid : Prop := Claim7.holds Tryd.pinned (.plain (OpenSpec.upto confLongSpec)) confLongUptoCard

/-- THE SECOND FORM's CARD OF 'overfalllaw13.ConfValid'. -/
def confValidUptoCard : Claim7 := { stood := { row := confValidUptoRow, standIns := [], harness := (true, "0fe92dbd8ad3cba97a577522fdcaa23c4084933de92faffdee0bdedda47ef60a"), looks := true }, kinds := [], alts := [], laidByText := true, laidKinds := [.data, .data, .data, .sentinel, .sentinel, .listed, .data], laidTests := true, laidLooks := .later }
def ConfValidUptoCardSaid : Prop := Claim7.holds Tryd.pinned (.plain (OpenSpec.upto confValidSpec)) confValidUptoCard

/-- THE SECOND FORM's CARD OF 'overfalllaw13.ConfTexts'. -/
def confTextsUptoCard : Claim7 := { stood := { row := confTextsUptoRow, standIns := [], harness := (true, "0fe92dbd8ad3cba97a577522fdcaa23c4084933de92faffdee0bdedda47ef60a"), looks := true }, kinds := [], alts := [], laidByText := true, laidKinds := [.data, .data, .data, .sentinel, .sentinel, .listed, .data], laidTests := true, laidLooks := .later }
def ConfTextsUptoCardSaid : Prop := Claim7.holds Tryd.pinned (.plain (OpenSpec.upto confTextsSpec)) confTextsUptoCard
end Rows
end Go.Proofs.YteaihgjjplgalaaDoor
