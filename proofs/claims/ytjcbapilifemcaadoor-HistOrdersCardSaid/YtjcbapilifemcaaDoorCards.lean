/-
  DERIVED. GIVEN WITH THE SEED: THE CARDS: each row of YtjcbapilifemcaaDoorRows.lean that lists a variable, with what it lists TIED to the program's text (the seventh form; the later family's looks); each row that meets fmt, with fmt's text TOLD by the authors' own Lean function (tested against real Go, not proved from fmt's source: count such statements apart). THE CARD IS WHAT COUNTS. Prove the row's statement (the work); the ties are given (YtjcbapilifemcaaDoorTie.lean); close each card by the builder's one call (the guide's Derived/Test/ToyasCard.lean, 'card_holds'). Laid BY PROGRAM, IN A SANDBOX (cutbox-door.mjs). By AI agents, Wed Nov 11 2026. No macro, syntax, notation, axiom, sorry.
-/
import Derived.Test.YtjcbapilifemcaaDoorRows
import GoSem.ClaimSeven
namespace Go.Proofs.YtjcbapilifemcaaDoor
namespace Rows

/-- THE TIED CARD OF 'cotterlaw13.HistOrders'. -/
def histOrdersCard : Claim7 := { stood := { row := histOrdersRow, standIns := [], harness := (true, "03b70a9fba5ef9ff6e7a8622f3253fb2464d6afc973098adf47449cc01dc9daf"), looks := false }, kinds := [], alts := [], laidByText := true, laidKinds := [.data, .data, .data], laidTests := true, laidLooks := .later }
def HistOrdersCardSaid : Prop := Claim7.holds Tryd.pinned (.plain (OpenSpec.ofChange histOrdersSpec)) histOrdersCard

/-- THE TIED CARD OF 'cotterlaw13.HistAlone'. -/
def histAloneCard : Claim7 := { stood := { row := histAloneRow, standIns := [], harness := (true, "03b70a9fba5ef9ff6e7a8622f3253fb2464d6afc973098adf47449cc01dc9daf"), looks := false }, kinds := [], alts := [], laidByText := true, laidKinds := [.data, .data, .data], laidTests := true, laidLooks := .later }
def HistAloneCardSaid : Prop := Claim7.holds Tryd.pinned (.plain (OpenSpec.ofChange histAloneSpec)) histAloneCard

/-- THE TIED CARD OF 'cotterlaw13.HistCut'. -/
def histCutCard : Claim7 := { stood := { row := histCutRow, standIns := [], harness := (true, "03b70a9fba5ef9ff6e7a8622f3253fb2464d6afc973098adf47449cc01dc9daf"), looks := false }, kinds := [], alts := [], laidByText := true, laidKinds := [.data, .data, .data], laidTests := true, laidLooks := .later }
def HistCutCardSaid : Prop := Claim7.holds Tryd.pinned (.plain (OpenSpec.ofChange histCutSpec)) histCutCard

/-- THE TIED CARD OF 'cotterlaw13.HistPending'. -/
def histPendingCard : Claim7 := { stood := { row := histPendingRow, standIns := [], harness := (true, "03b70a9fba5ef9ff6e7a8622f3253fb2464d6afc973098adf47449cc01dc9daf"), looks := false }, kinds := [], alts := [], laidByText := true, laidKinds := [.data, .data, .data], laidTests := true, laidLooks := .later }
def HistPendingCardSaid : Prop := Claim7.holds Tryd.pinned (.plain (OpenSpec.ofChange histPendingSpec)) histPendingCard

/-- THE TIED CARD OF 'cotterlaw13.HistAfter'. -/
def histAfterCard : Claim7 := { stood := { row := histAfterRow, standIns := [], harness := (true, "03b70a9fba5ef9ff6e7a8622f3253fb2464d6afc973098adf47449cc01dc9daf"), looks := false }, kinds := [], alts := [], laidByText := true, laidKinds := [.data, .data, .data], laidTests := true, laidLooks := .later }
def HistAfterCardSaid : Prop := Claim7.holds Tryd.pinned (.plain (OpenSpec.ofChange histAfterSpec)) histAfterCard

/-- THE SECOND FORM's CARD OF 'cotterlaw13.HistOrders'. -/
def histOrdersUptoCard : Claim7 := { stood := { row := histOrdersUptoRow, standIns := [], harness := (true, "03b70a9fba5ef9ff6e7a8622f3253fb2464d6afc973098adf47449cc01dc9daf"), looks := false }, kinds := [], alts := [], laidByText := true, laidKinds := [.data, .data, .data], laidTests := true, laidLooks := .later }
def HistOrdersUptoCardSaid : Prop := Claim7.holds Tryd.pinned (.plain (OpenSpec.upto histOrdersSpec)) histOrdersUptoCard

/-- THE SECOND FORM's CARD OF 'cotterlaw13.HistAlone'. -/
def histAloneUptoCard : Claim7 := { stood := { row := histAloneUptoRow, standIns := [], harness := (true, "03b70a9fba5ef9ff6e7a8622f3253fb2464d6afc973098adf47449cc01dc9daf"), looks := false }, kinds := [], alts := [], laidByText := true, laidKinds := [.data, .data, .data], laidTests := true, laidLooks := .later }
def HistAloneUptoCardSaid : Prop := Claim7.holds Tryd.pinned (.plain (OpenSpec.upto histAloneSpec)) histAloneUptoCard

/-- THE SECOND FORM's CARD OF 'cotterlaw13.HistCut'. -/
def histCutUptoCard : Claim7 := { stood := { row := histCutUptoRow, standIns := [], harness := (true, "03b70a9fba5ef9ff6e7a8622f3253fb2464d6afc973098adf47449cc01dc9daf"), looks := false }, kinds := [], alts := [], laidByText := true, laidKinds := [.data, .data, .data], laidTests := true, laidLooks := .later }
def HistCutUptoCardSaid : Prop := Claim7.holds Tryd.pinned (.plain (OpenSpec.upto histCutSpec)) histCutUptoCard

/-- THE SECOND FORM's CARD OF 'cotterlaw13.HistPending'. -/
def histPendingUptoCard : Claim7 := { stood := { row := histPendingUptoRow, standIns := [], harness := (true, "03b70a9fba5ef9ff6e7a8622f3253fb2464d6afc973098adf47449cc01dc9daf"), looks := false }, kinds := [], alts := [], laidByText := true, laidKinds := [.data, .data, .data], laidTests := true, laidLooks := .later }
def HistPendingUptoCardSaid : Prop := Claim7.holds Tryd.pinned (.plain (OpenSpec.upto histPendingSpec)) histPendingUptoCard

/-- THE SECOND FORM's CARD OF 'cotterlaw13.HistAfter'. -/
def histAfterUptoCard : Claim7 := { stood := { row := histAfterUptoRow, standIns := [], harness := (true, "03b70a9fba5ef9ff6e7a8622f3253fb2464d6afc973098adf47449cc01dc9daf"), looks := false }, kinds := [], alts := [], laidByText := true, laidKinds := [.data, .data, .data], laidTests := true, laidLooks := .later }
def HistAfterUptoCardSaid : Prop := Claim7.holds Tryd.pinned (.plain (OpenSpec.upto histAfterSpec)) histAfterUptoCard
end Rows
end Go.Proofs.YtjcbapilifemcaaDoor
