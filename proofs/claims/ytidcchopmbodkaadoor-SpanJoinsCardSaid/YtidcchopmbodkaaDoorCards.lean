/-
  DERIVED. GIVEN WITH THE SEED: THE CARDS: each row of YtidcchopmbodkaaDoorRows.lean that lists a variable, with what it lists TIED to the program's text (the seventh form; the later family's looks); each row that meets fmt, with fmt's text TOLD by the authors' own Lean function (tested against real Go, not proved from fmt's source: count such statements apart). THE CARD IS WHAT COUNTS. Prove the row's statement (the work); the ties are given (YtidcchopmbodkaaDoorTie.lean); close each card by the builder's one call (the guide's Derived/Test/ToyasCard.lean, 'card_holds'). Laid BY PROGRAM, IN A SANDBOX (cutbox-door.mjs). By AI agents, Wed Nov 11 2026. No macro, syntax, notation, axiom, sorry.
-/
import Derived.Test.YtidcchopmbodkaaDoorRows
import GoSem.ClaimSeven
namespace Go.Proofs.YtidcchopmbodkaaDoor
namespace Rows

/-- THE TIED CARD OF 'postbaglaw4.SpanCounts'. -/
def spanCountsCard : Claim7 := { stood := { row := spanCountsRow, standIns := [], harness := (true, "1085c60597c3cedac7dee0f3e7d1982280ffea4ecf98505ac42c408dd6b07b69"), looks := false }, kinds := [], alts := [], laidByText := true, laidKinds := [.data, .data, .data], laidTests := true, laidLooks := .later }
def SpanCountsCardSaid : Prop := Claim7.holds Tryd.pinned (.plain (OpenSpec.ofChange spanCountsSpec)) spanCountsCard

/-- THE TIED CARD OF 'postbaglaw4.SpanOwn'. -/
def spanOwnCard : Claim7 := { stood := { row := spanOwnRow, standIns := [], harness := (true, "1085c60597c3cedac7dee0f3e7d1982280ffea4ecf98505ac42c408dd6b07b69"), looks := false }, kinds := [], alts := [], laidByText := true, laidKinds := [.data, .data, .data], laidTests := true, laidLooks := .later }
def SpanOwnCardSaid : Prop := Claim7.holds Tryd.pinned (.plain (OpenSpec.ofChange spanOwnSpec)) spanOwnCard

/-- THE TIED CARD OF 'postbaglaw4.SpanParses'. -/
def spanParsesCard : Claim7 := { stood := { row := spanParsesRow, standIns := [], harness := (true, "1085c60597c3cedac7dee0f3e7d1982280ffea4ecf98505ac42c408dd6b07b69"), looks := false }, kinds := [], alts := [], laidByText := true, laidKinds := [.data, .data, .data], laidTests := true, laidLooks := .later }
def SpanParsesCardSaid : Prop := Claim7.holds Tryd.pinned (.plain (OpenSpec.ofChange spanParsesSpec)) spanParsesCard

/-- THE TIED CARD OF 'postbaglaw4.SpanPrints'. -/
def spanPrintsCard : Claim7 := { stood := { row := spanPrintsRow, standIns := [], harness := (true, "1085c60597c3cedac7dee0f3e7d1982280ffea4ecf98505ac42c408dd6b07b69"), looks := false }, kinds := [], alts := [], laidByText := true, laidKinds := [.data, .data, .data], laidTests := true, laidLooks := .later }
def SpanPrintsCardSaid : Prop := Claim7.holds Tryd.pinned (.plain (OpenSpec.ofChange spanPrintsSpec)) spanPrintsCard

/-- THE TIED CARD OF 'postbaglaw4.SpanHolds'. -/
def spanHoldsCard : Claim7 := { stood := { row := spanHoldsRow, standIns := [], harness := (true, "1085c60597c3cedac7dee0f3e7d1982280ffea4ecf98505ac42c408dd6b07b69"), looks := false }, kinds := [], alts := [], laidByText := true, laidKinds := [.data, .data, .data], laidTests := true, laidLooks := .later }
def SpanHoldsCardSaid : Prop := Claim7.holds Tryd.pinned (.plain (OpenSpec.ofChange spanHoldsSpec)) spanHoldsCard

/-- THE TIED CARD OF 'postbaglaw4.SpanPicks'. -/
def spanPicksCard : Claim7 := { stood := { row := spanPicksRow, standIns := [], harness := (true, "1085c60597c3cedac7dee0f3e7d1982280ffea4ecf98505ac42c408dd6b07b69"), looks := false }, kinds := [], alts := [], laidByText := true, laidKinds := [.data, .data, .data], laidTests := true, laidLooks := .later }
def SpanPicksCardSaid : Prop := Claim7.holds Tryd.pinned (.plain (OpenSpec.ofChange spanPicksSpec)) spanPicksCard

/-- THE TIED CARD OF 'postbaglaw4.SpanLeasts'. -/
def spanLeastsCard : Claim7 := { stood := { row := spanLeastsRow, standIns := [], harness := (true, "1085c60597c3cedac7dee0f3e7d1982280ffea4ecf98505ac42c408dd6b07b69"), looks := false }, kinds := [], alts := [], laidByText := true, laidKinds := [.data, .data, .data], laidTests := true, laidLooks := .later }
def SpanLeastsCardSaid : Prop := Claim7.holds Tryd.pinned (.plain (OpenSpec.ofChange spanLeastsSpec)) spanLeastsCard

/-- THE TIED CARD OF 'postbaglaw4.SpanJoins'. -/
def spanJoinsCard : Claim7 := { stood := { row := spanJoinsRow, standIns := [], harness := (true, "1085c60597c3cedac7dee0f3e7d1982280ffea4ecf98505ac42c408dd6b07b69"), looks := false }, kinds := [], alts := [], laidByText := true, laidKinds := [.data, .data, .data], laidTests := true, laidLooks := .later }
def SpanJoinsCardSaid : Prop := Claim7.holds Tryd.pinned (.plain (OpenSpec.ofChange spanJoinsSpec)) spanJoinsCard

/-- THE TIED CARD OF 'postbaglaw4.SpanBack'. -/
def spanBackCard : Claim7 := { stood := { row := spanBackRow, standIns := [], harness := (true, "1085c60597c3cedac7dee0f3e7d1982280ffea4ecf98505ac42c408dd6b07b69"), looks := false }, kinds := [], alts := [], laidByText := true, laidKinds := [.data, .data, .data], laidTests := true, laidLooks := .later }
def SpanBackCardSaid : Prop := Claim7.holds Tryd.pinned (.plain (OpenSpec.ofChange spanBackSpec)) spanBackCard

/-- THE TIED CARD OF 'postbaglaw4.SpanEither'. -/
def spanEitherCard : Claim7 := { stood := { row := spanEitherRow, standIns := [], harness := (true, "1085c60597c3cedac7dee0f3e7d1982280ffea4ecf98505ac42c408dd6b07b69"), looks := false }, kinds := [], alts := [], laidByText := true, laidKinds := [.data, .data, .data], laidTests := true, laidLooks := .later }
def SpanEitherCardSaid : Prop := Claim7.holds Tryd.pinned (.plain (OpenSpec.ofChange spanEitherSpec)) spanEitherCard

/-- THE TIED CARD OF 'postbaglaw4.SpanMeans'. -/
def spanMeansCard : Claim7 := { stood := { row := spanMeansRow, standIns := [], harness := (true, "1085c60597c3cedac7dee0f3e7d1982280ffea4ecf98505ac42c408dd6b07b69"), looks := false }, kinds := [], alts := [], laidByText := true, laidKinds := [.data, .data, .data], laidTests := true, laidLooks := .later }
def SpanMeansCardSaid : Prop := Claim7.holds Tryd.pinned (.plain (OpenSpec.ofChange spanMeansSpec)) spanMeansCard

/-- THE TIED CARD OF 'postbaglaw4.SpanForm'. -/
def spanFormCard : Claim7 := { stood := { row := spanFormRow, standIns := [], harness := (true, "1085c60597c3cedac7dee0f3e7d1982280ffea4ecf98505ac42c408dd6b07b69"), looks := false }, kinds := [], alts := [], laidByText := true, laidKinds := [.data, .data, .data], laidTests := true, laidLooks := .later }
def SpanFormCardSaid : Prop := Claim7.holds Tryd.pinned (.plain (OpenSpec.ofChange spanFormSpec)) spanFormCard

/-- THE SECOND FORM's CARD OF 'postbaglaw4.SpanCounts'. -/
def spanCountsUptoCard : Claim7 := { stood := { row := spanCountsUptoRow, standIns := [], harness := (true, "1085c60597c3cedac7dee0f3e7d1982280ffea4ecf98505ac42c408dd6b07b69"), looks := false }, kinds := [], alts := [], laidByText := true, laidKinds := [.data, .data, .data], laidTests := true, laidLooks := .later }
def SpanCountsUptoCardSaid : Prop := Claim7.holds Tryd.pinned (.plain (OpenSpec.upto spanCountsSpec)) spanCountsUptoCard

/-- THE SECOND FORM's CARD OF 'postbaglaw4.SpanOwn'. -/
def spanOwnUptoCard : Claim7 := { stood := { row := spanOwnUptoRow, standIns := [], harness := (true, "1085c60597c3cedac7dee0f3e7d1982280ffea4ecf98505ac42c408dd6b07b69"), looks := false }, kinds := [], alts := [], laidByText := true, laidKinds := [.data, .data, .data], laidTests := true, laidLooks := .later }
def SpanOwnUptoCardSaid : Prop := Claim7.holds Tryd.pinned (.plain (OpenSpec.upto spanOwnSpec)) spanOwnUptoCard

/-- THE SECOND FORM's CARD OF 'postbaglaw4.SpanParses'. -/
def spanParsesUptoCard : Claim7 := { stood := { row := spanParsesUptoRow, standIns := [], harness := (true, "1085c60597c3cedac7dee0f3e7d1982280ffea4ecf98505ac42c408dd6b07b69"), looks := false }, kinds := [], alts := [], laidByText := true, laidKinds := [.data, .data, .data], laidTests := true, laidLooks := .later }
def SpanParsesUptoCardSaid : Prop := Claim7.holds Tryd.pinned (.plain (OpenSpec.upto spanParsesSpec)) spanParsesUptoCard

/-- THE SECOND FORM's CARD OF 'postbaglaw4.SpanPrints'. -/
def spanPrintsUptoCard : Claim7 := { stood := { row := spanPrintsUptoRow, standIns := [], harness := (true, "1085c60597c3cedac7dee0f3e7d1982280ffea4ecf98505ac42c408dd6b07b69"), looks := false }, kinds := [], alts := [], laidByText := true, laidKinds := [.data, .data, .data], laidTests := true, laidLooks := .later }
def SpanPrintsUptoCardSaid : Prop := Claim7.holds Tryd.pinned (.plain (OpenSpec.upto spanPrintsSpec)) spanPrintsUptoCard

/-- THE SECOND FORM's CARD OF 'postbaglaw4.SpanHolds'. -/
def spanHoldsUptoCard : Claim7 := { stood := { row := spanHoldsUptoRow, standIns := [], harness := (true, "1085c60597c3cedac7dee0f3e7d1982280ffea4ecf98505ac42c408dd6b07b69"), looks := false }, kinds := [], alts := [], laidByText := true, laidKinds := [.data, .data, .data], laidTests := true, laidLooks := .later }
def SpanHoldsUptoCardSaid : Prop := Claim7.holds Tryd.pinned (.plain (OpenSpec.upto spanHoldsSpec)) spanHoldsUptoCard

/-- THE SECOND FORM's CARD OF 'postbaglaw4.SpanPicks'. -/
def spanPicksUptoCard : Claim7 := { stood := { row := spanPicksUptoRow, standIns := [], harness := (true, "1085c60597c3cedac7dee0f3e7d1982280ffea4ecf98505ac42c408dd6b07b69"), looks := false }, kinds := [], alts := [], laidByText := true, laidKinds := [.data, .data, .data], laidTests := true, laidLooks := .later }
def SpanPicksUptoCardSaid : Prop := Claim7.holds Tryd.pinned (.plain (OpenSpec.upto spanPicksSpec)) spanPicksUptoCard

/-- THE SECOND FORM's CARD OF 'postbaglaw4.SpanLeasts'. -/
def spanLeastsUptoCard : Claim7 := { stood := { row := spanLeastsUptoRow, standIns := [], harness := (true, "1085c60597c3cedac7dee0f3e7d1982280ffea4ecf98505ac42c408dd6b07b69"), looks := false }, kinds := [], alts := [], laidByText := true, laidKinds := [.data, .data, .data], laidTests := true, laidLooks := .later }
def SpanLeastsUptoCardSaid : Prop := Claim7.holds Tryd.pinned (.plain (OpenSpec.upto spanLeastsSpec)) spanLeastsUptoCard

/-- THE SECOND FORM's CARD OF 'postbaglaw4.SpanJoins'. -/
def spanJoinsUptoCard : Claim7 := { stood := { row := spanJoinsUptoRow, standIns := [], harness := (true, "1085c60597c3cedac7dee0f3e7d1982280ffea4ecf98505ac42c408dd6b07b69"), looks := false }, kinds := [], alts := [], laidByText := true, laidKinds := [.data, .data, .data], laidTests := true, laidLooks := .later }
def SpanJoinsUptoCardSaid : Prop := Claim7.holds Tryd.pinned (.plain (OpenSpec.upto spanJoinsSpec)) spanJoinsUptoCard

/-- THE SECOND FORM's CARD OF 'postbaglaw4.SpanBack'. -/
def spanBackUptoCard : Claim7 := { stood := { row := spanBackUptoRow, standIns := [], harness := (true, "1085c60597c3cedac7dee0f3e7d1982280ffea4ecf98505ac42c408dd6b07b69"), looks := false }, kinds := [], alts := [], laidByText := true, laidKinds := [.data, .data, .data], laidTests := true, laidLooks := .later }
def SpanBackUptoCardSaid : Prop := Claim7.holds Tryd.pinned (.plain (OpenSpec.upto spanBackSpec)) spanBackUptoCard

/-- THE SECOND FORM's CARD OF 'postbaglaw4.SpanEither'. -/
def spanEitherUptoCard : Claim7 := { stood := { row := spanEitherUptoRow, standIns := [], harness := (true, "1085c60597c3cedac7dee0f3e7d1982280ffea4ecf98505ac42c408dd6b07b69"), looks := false }, kinds := [], alts := [], laidByText := true, laidKinds := [.data, .data, .data], laidTests := true, laidLooks := .later }
def SpanEitherUptoCardSaid : Prop := Claim7.holds Tryd.pinned (.plain (OpenSpec.upto spanEitherSpec)) spanEitherUptoCard

/-- THE SECOND FORM's CARD OF 'postbaglaw4.SpanMeans'. -/
def spanMeansUptoCard : Claim7 := { stood := { row := spanMeansUptoRow, standIns := [], harness := (true, "1085c60597c3cedac7dee0f3e7d1982280ffea4ecf98505ac42c408dd6b07b69"), looks := false }, kinds := [], alts := [], laidByText := true, laidKinds := [.data, .data, .data], laidTests := true, laidLooks := .later }
def SpanMeansUptoCardSaid : Prop := Claim7.holds Tryd.pinned (.plain (OpenSpec.upto spanMeansSpec)) spanMeansUptoCard

/-- THE SECOND FORM's CARD OF 'postbaglaw4.SpanForm'. -/
def spanFormUptoCard : Claim7 := { stood := { row := spanFormUptoRow, standIns := [], harness := (true, "1085c60597c3cedac7dee0f3e7d1982280ffea4ecf98505ac42c408dd6b07b69"), looks := false }, kinds := [], alts := [], laidByText := true, laidKinds := [.data, .data, .data], laidTests := true, laidLooks := .later }
def SpanFormUptoCardSaid : Prop := Claim7.holds Tryd.pinned (.plain (OpenSpec.upto spanFormSpec)) spanFormUptoCard
end Rows
end Go.Proofs.YtidcchopmbodkaaDoor
