/-
  DERIVED. GIVEN WITH THE SEED: THE CARDS: each row of YtjlchnmpebdggaaDoorRows.lean that lists a variable, with what it lists TIED to the program's text (the seventh form; the later family's looks); each row that meets fmt, with fmt's text TOLD by the authors' own Lean function (tested against real Go, not proved from fmt's source: count such statements apart). THE CARD IS WHAT COUNTS. Prove the row's statement (the work); the ties are given (YtjlchnmpebdggaaDoorTie.lean); close each card by the builder's one call (the guide's Derived/Test/ToyasCard.lean, 'card_holds'). Laid BY PROGRAM, IN A SANDBOX (cutbox-door.mjs). By AI agents, Wed Nov 11 2026. No macro, syntax, notation, axiom, sorry.
-/
import Derived.Test.YtjlchnmpebdggaaDoorRows
import GoSem.ClaimSeven
namespace Go.Proofs.YtjlchnmpebdggaaDoor
namespace Rows

/-- THE TIED CARD OF 'postbaglaw2.MomentInternals'. -/
def momentInternalsCard : Claim7 := { stood := { row := momentInternalsRow, standIns := [], harness := (true, "1af0d6b0c71ada5c949cf7c1759351fa77ac8f912e484e5567975fe39b370f43"), looks := false }, kinds := [], alts := [], laidByText := true, laidKinds := [.data], laidTests := true, laidLooks := .later }
def MomentInternalsCardSaid : Prop := Claim7.holds Tryd.pinned (.plain (OpenSpec.ofChange momentInternalsSpec)) momentInternalsCard

/-- THE TIED CARD OF 'postbaglaw2.MomentCounts'. -/
def momentCountsCard : Claim7 := { stood := { row := momentCountsRow, standIns := [], harness := (true, "1af0d6b0c71ada5c949cf7c1759351fa77ac8f912e484e5567975fe39b370f43"), looks := false }, kinds := [], alts := [], laidByText := true, laidKinds := [.data], laidTests := true, laidLooks := .later }
def MomentCountsCardSaid : Prop := Claim7.holds Tryd.pinned (.plain (OpenSpec.ofChange momentCountsSpec)) momentCountsCard

/-- THE TIED CARD OF 'postbaglaw2.MomentHeaders'. -/
def momentHeadersCard : Claim7 := { stood := { row := momentHeadersRow, standIns := [], harness := (true, "1af0d6b0c71ada5c949cf7c1759351fa77ac8f912e484e5567975fe39b370f43"), looks := false }, kinds := [], alts := [], laidByText := true, laidKinds := [.data], laidTests := true, laidLooks := .later }
def MomentHeadersCardSaid : Prop := Claim7.holds Tryd.pinned (.plain (OpenSpec.ofChange momentHeadersSpec)) momentHeadersCard

/-- THE TIED CARD OF 'postbaglaw2.MomentTomorrow'. -/
def momentTomorrowCard : Claim7 := { stood := { row := momentTomorrowRow, standIns := [], harness := (true, "1af0d6b0c71ada5c949cf7c1759351fa77ac8f912e484e5567975fe39b370f43"), looks := false }, kinds := [], alts := [], laidByText := true, laidKinds := [.data], laidTests := true, laidLooks := .later }
def MomentTomorrowCardSaid : Prop := Claim7.holds Tryd.pinned (.plain (OpenSpec.ofChange momentTomorrowSpec)) momentTomorrowCard

/-- THE TIED CARD OF 'postbaglaw2.MomentGaps'. -/
def momentGapsCard : Claim7 := { stood := { row := momentGapsRow, standIns := [], harness := (true, "1af0d6b0c71ada5c949cf7c1759351fa77ac8f912e484e5567975fe39b370f43"), looks := false }, kinds := [], alts := [], laidByText := true, laidKinds := [.data], laidTests := true, laidLooks := .later }
def MomentGapsCardSaid : Prop := Claim7.holds Tryd.pinned (.plain (OpenSpec.ofChange momentGapsSpec)) momentGapsCard

/-- THE TIED CARD OF 'postbaglaw2.MomentDays'. -/
def momentDaysCard : Claim7 := { stood := { row := momentDaysRow, standIns := [], harness := (true, "1af0d6b0c71ada5c949cf7c1759351fa77ac8f912e484e5567975fe39b370f43"), looks := false }, kinds := [], alts := [], laidByText := true, laidKinds := [.data], laidTests := true, laidLooks := .later }
def MomentDaysCardSaid : Prop := Claim7.holds Tryd.pinned (.plain (OpenSpec.ofChange momentDaysSpec)) momentDaysCard

/-- THE TIED CARD OF 'postbaglaw2.MomentPrinted'. -/
def momentPrintedCard : Claim7 := { stood := { row := momentPrintedRow, standIns := [], harness := (true, "1af0d6b0c71ada5c949cf7c1759351fa77ac8f912e484e5567975fe39b370f43"), looks := false }, kinds := [], alts := [], laidByText := true, laidKinds := [.data], laidTests := true, laidLooks := .later }
def MomentPrintedCardSaid : Prop := Claim7.holds Tryd.pinned (.plain (OpenSpec.ofChange momentPrintedSpec)) momentPrintedCard

/-- THE TIED CARD OF 'postbaglaw2.MomentOrders'. -/
def momentOrdersCard : Claim7 := { stood := { row := momentOrdersRow, standIns := [], harness := (true, "1af0d6b0c71ada5c949cf7c1759351fa77ac8f912e484e5567975fe39b370f43"), looks := false }, kinds := [], alts := [], laidByText := true, laidKinds := [.data], laidTests := true, laidLooks := .later }
def MomentOrdersCardSaid : Prop := Claim7.holds Tryd.pinned (.plain (OpenSpec.ofChange momentOrdersSpec)) momentOrdersCard

/-- THE TIED CARD OF 'postbaglaw2.MomentRead'. -/
def momentReadCard : Claim7 := { stood := { row := momentReadRow, standIns := [], harness := (true, "1af0d6b0c71ada5c949cf7c1759351fa77ac8f912e484e5567975fe39b370f43"), looks := false }, kinds := [], alts := [], laidByText := true, laidKinds := [.data], laidTests := true, laidLooks := .later }
def MomentReadCardSaid : Prop := Claim7.holds Tryd.pinned (.plain (OpenSpec.ofChange momentReadSpec)) momentReadCard

/-- THE TIED CARD OF 'postbaglaw2.MomentAts'. -/
def momentAtsCard : Claim7 := { stood := { row := momentAtsRow, standIns := [], harness := (true, "1af0d6b0c71ada5c949cf7c1759351fa77ac8f912e484e5567975fe39b370f43"), looks := false }, kinds := [], alts := [], laidByText := true, laidKinds := [.data], laidTests := true, laidLooks := .later }
def MomentAtsCardSaid : Prop := Claim7.holds Tryd.pinned (.plain (OpenSpec.ofChange momentAtsSpec)) momentAtsCard

/-- THE TIED CARD OF 'postbaglaw2.MomentReturns'. -/
def momentReturnsCard : Claim7 := { stood := { row := momentReturnsRow, standIns := [], harness := (true, "1af0d6b0c71ada5c949cf7c1759351fa77ac8f912e484e5567975fe39b370f43"), looks := false }, kinds := [], alts := [], laidByText := true, laidKinds := [.data], laidTests := true, laidLooks := .later }
def MomentReturnsCardSaid : Prop := Claim7.holds Tryd.pinned (.plain (OpenSpec.ofChange momentReturnsSpec)) momentReturnsCard

/-- THE TIED CARD OF 'postbaglaw2.MomentOrdered'. -/
def momentOrderedCard : Claim7 := { stood := { row := momentOrderedRow, standIns := [], harness := (true, "1af0d6b0c71ada5c949cf7c1759351fa77ac8f912e484e5567975fe39b370f43"), looks := false }, kinds := [], alts := [], laidByText := true, laidKinds := [.data], laidTests := true, laidLooks := .later }
def MomentOrderedCardSaid : Prop := Claim7.holds Tryd.pinned (.plain (OpenSpec.ofChange momentOrderedSpec)) momentOrderedCard

/-- THE SECOND FORM's CARD OF 'postbaglaw2.MomentInternals'. -/
def momentInternalsUptoCard : Claim7 := { stood := { row := momentInternalsUptoRow, standIns := [], harness := (true, "1af0d6b0c71ada5c949cf7c1759351fa77ac8f912e484e5567975fe39b370f43"), looks := false }, kinds := [], alts := [], laidByText := true, laidKinds := [.data], laidTests := true, laidLooks := .later }
def MomentInternalsUptoCardSaid : Prop := Claim7.holds Tryd.pinned (.plain (OpenSpec.upto momentInternalsSpec)) momentInternalsUptoCard

/-- THE SECOND FORM's CARD OF 'postbaglaw2.MomentCounts'. -/
def momentCountsUptoCard : Claim7 := { stood := { row := momentCountsUptoRow, standIns := [], harness := (true, "1af0d6b0c71ada5c949cf7c1759351fa77ac8f912e484e5567975fe39b370f43"), looks := false }, kinds := [], alts := [], laidByText := true, laidKinds := [.data], laidTests := true, laidLooks := .later }
def MomentCountsUptoCardSaid : Prop := Claim7.holds Tryd.pinned (.plain (OpenSpec.upto momentCountsSpec)) momentCountsUptoCard

/-- THE SECOND FORM's CARD OF 'postbaglaw2.MomentHeaders'. -/
def momentHeadersUptoCard : Claim7 := { stood := { row := momentHeadersUptoRow, standIns := [], harness := (true, "1af0d6b0c71ada5c949cf7c1759351fa77ac8f912e484e5567975fe39b370f43"), looks := false }, kinds := [], alts := [], laidByText := true, laidKinds := [.data], laidTests := true, laidLooks := .later }
def MomentHeadersUptoCardSaid : Prop := Claim7.holds Tryd.pinned (.plain (OpenSpec.upto momentHeadersSpec)) momentHeadersUptoCard

/-- THE SECOND FORM's CARD OF 'postbaglaw2.MomentTomorrow'. -/
def momentTomorrowUptoCard : Claim7 := { stood := { row := momentTomorrowUptoRow, standIns := [], harness := (true, "1af0d6b0c71ada5c949cf7c1759351fa77ac8f912e484e5567975fe39b370f43"), looks := false }, kinds := [], alts := [], laidByText := true, laidKinds := [.data], laidTests := true, laidLooks := .later }
def MomentTomorrowUptoCardSaid : Prop := Claim7.holds Tryd.pinned (.plain (OpenSpec.upto momentTomorrowSpec)) momentTomorrowUptoCard

/-- THE SECOND FORM's CARD OF 'postbaglaw2.MomentGaps'. -/
def momentGapsUptoCard : Claim7 := { stood := { row := momentGapsUptoRow, standIns := [], harness := (true, "1af0d6b0c71ada5c949cf7c1759351fa77ac8f912e484e5567975fe39b370f43"), looks := false }, kinds := [], alts := [], laidByText := true, laidKinds := [.data], laidTests := true, laidLooks := .later }
def MomentGapsUptoCardSaid : Prop := Claim7.holds Tryd.pinned (.plain (OpenSpec.upto momentGapsSpec)) momentGapsUptoCard

/-- THE SECOND FORM's CARD OF 'postbaglaw2.MomentDays'. -/
def momentDaysUptoCard : Claim7 := { stood := { row := momentDaysUptoRow, standIns := [], harness := (true, "1af0d6b0c71ada5c949cf7c1759351fa77ac8f912e484e5567975fe39b370f43"), looks := false }, kinds := [], alts := [], laidByText := true, laidKinds := [.data], laidTests := true, laidLooks := .later }
def MomentDaysUptoCardSaid : Prop := Claim7.holds Tryd.pinned (.plain (OpenSpec.upto momentDaysSpec)) momentDaysUptoCard

/-- THE SECOND FORM's CARD OF 'postbaglaw2.MomentPrinted'. -/
def momentPrintedUptoCard : Claim7 := { stood := { row := momentPrintedUptoRow, standIns := [], harness := (true, "1af0d6b0c71ada5c949cf7c1759351fa77ac8f912e484e5567975fe39b370f43"), looks := false }, kinds := [], alts := [], laidByText := true, laidKinds := [.data], laidTests := true, laidLooks := .later }
def MomentPrintedUptoCardSaid : Prop := Claim7.holds Tryd.pinned (.plain (OpenSpec.upto momentPrintedSpec)) momentPrintedUptoCard

/-- THE SECOND FORM's CARD OF 'postbaglaw2.MomentOrders'. -/
def momentOrdersUptoCard : Claim7 := { stood := { row := momentOrdersUptoRow, standIns := [], harness := (true, "1af0d6b0c71ada5c949cf7c1759351fa77ac8f912e484e5567975fe39b370f43"), looks := false }, kinds := [], alts := [], laidByText := true, laidKinds := [.data], laidTests := true, laidLooks := .later }
def MomentOrdersUptoCardSaid : Prop := Claim7.holds Tryd.pinned (.plain (OpenSpec.upto momentOrdersSpec)) momentOrdersUptoCard

/-- THE SECOND FORM's CARD OF 'postbaglaw2.MomentRead'. -/
def momentReadUptoCard : Claim7 := { stood := { row := momentReadUptoRow, standIns := [], harness := (true, "1af0d6b0c71ada5c949cf7c1759351fa77ac8f912e484e5567975fe39b370f43"), looks := false }, kinds := [], alts := [], laidByText := true, laidKinds := [.data], laidTests := true, laidLooks := .later }
def MomentReadUptoCardSaid : Prop := Claim7.holds Tryd.pinned (.plain (OpenSpec.upto momentReadSpec)) momentReadUptoCard

/-- THE SECOND FORM's CARD OF 'postbaglaw2.MomentAts'. -/
def momentAtsUptoCard : Claim7 := { stood := { row := momentAtsUptoRow, standIns := [], harness := (true, "1af0d6b0c71ada5c949cf7c1759351fa77ac8f912e484e5567975fe39b370f43"), looks := false }, kinds := [], alts := [], laidByText := true, laidKinds := [.data], laidTests := true, laidLooks := .later }
def MomentAtsUptoCardSaid : Prop := Claim7.holds Tryd.pinned (.plain (OpenSpec.upto momentAtsSpec)) momentAtsUptoCard

/-- THE SECOND FORM's CARD OF 'postbaglaw2.MomentReturns'. -/
def momentReturnsUptoCard : Claim7 := { stood := { row := momentReturnsUptoRow, standIns := [], harness := (true, "1af0d6b0c71ada5c949cf7c1759351fa77ac8f912e484e5567975fe39b370f43"), looks := false }, kinds := [], alts := [], laidByText := true, laidKinds := [.data], laidTests := true, laidLooks := .later }
def MomentReturnsUptoCardSaid : Prop := Claim7.holds Tryd.pinned (.plain (OpenSpec.upto momentReturnsSpec)) momentReturnsUptoCard

/-- THE SECOND FORM's CARD OF 'postbaglaw2.MomentOrdered'. -/
def momentOrderedUptoCard : Claim7 := { stood := { row := momentOrderedUptoRow, standIns := [], harness := (true, "1af0d6b0c71ada5c949cf7c1759351fa77ac8f912e484e5567975fe39b370f43"), looks := false }, kinds := [], alts := [], laidByText := true, laidKinds := [.data], laidTests := true, laidLooks := .later }
def MomentOrderedUptoCardSaid : Prop := Claim7.holds Tryd.pinned (.plain (OpenSpec.upto momentOrderedSpec)) momentOrderedUptoCard
end Rows
end Go.Proofs.YtjlchnmpebdggaaDoor
