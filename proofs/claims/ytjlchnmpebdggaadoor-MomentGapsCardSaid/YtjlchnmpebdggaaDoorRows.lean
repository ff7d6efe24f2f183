/-
  NARROWER THAN 'FOR EVERY INPUT', by the rows' own cells (each row's printed sentence says how): MomentInternals: laid · MomentCounts: laid · MomentHeaders: laid · MomentTomorrow: laid · MomentGaps: laid · MomentDays: laid · MomentPrinted: laid · MomentOrders: laid · MomentRead: laid · MomentAts: laid · MomentReturns: laid · MomentOrdered: laid.
  DERIVED. THE GIVEN ROWS OF THIS SEAT. 12 by the template 'for every input the law returns true; each argument reads behind the call as it read before'; 0 by the template 'total and deterministic' (their statements: YtjlchnmpebdggaaDoorTotals.lean).
  GIVEN WITH THE SEED: the statements are not yours to turn. If you find one false, say at which input.
  Laid BY PROGRAM, IN A SANDBOX (cutbox-rows.mjs): the forced cells as the released guide's own fill.sh prints them over the translation de9a69eaf322beba… (all of the seat's roots in one cut). By AI agents, Wed Nov 11 2026. No macro, syntax, notation, axiom, sorry.
-/
import Derived.Test.YtjlchnmpebdggaaDoorChecked
import GoSem.Claim
import GoSem.ClaimJoined
import GoSem.ClaimMapViews
import Derived.JoinedTies
import Derived.KernelRfl
namespace Go.Proofs.YtjlchnmpebdggaaDoor
/- THE CELL 'sum', in the pinned program and in every row, IS THE sha256 OF THE DUMP (.gsa) THAT YtjlchnmpebdggaaDoorProg.lean LOADS. Nothing in Lean hashes anything: it is a label: what it is worth is what the hold of that sum in a sandbox is worth. -/
noncomputable def Tryd.pinned : Pinned := { name := "ytjlchnmpebdggaadoor", sum := "de9a69eaf322beba0ca2d2de272838d8ba9d17fec75257cd6d3211e629fc89cf", checked := Tryd.checked }
namespace Rows
def none {H : Type} : Left H := { results := [], args := [] }

/- WHAT THE LISTED PACKAGE-LEVEL VARIABLES READ AS WHEN THE CALL BEGINS. Each datum BY PROGRAM (the guide's laid-datum.mjs) off the statement by which the dump's own 'gosem.cut.vars' lays the variable. In a bare row this is a premise. The card (YtjlchnmpebdggaaDoorCards.lean) ties it to the program's text. -/
def laid_postbag_moment_lengths {H : Type} : DataW H := .agg [.lit (.int .i64 31), .lit (.int .i64 28), .lit (.int .i64 31), .lit (.int .i64 30), .lit (.int .i64 31), .lit (.int .i64 30), .lit (.int .i64 31), .lit (.int .i64 31), .lit (.int .i64 30), .lit (.int .i64 31), .lit (.int .i64 30), .lit (.int .i64 31)]

/-- 'postbaglaw2.MomentInternals': WHATEVER THE INPUT: true; the input reads as it did. -/
def momentInternalsSpec : ChangeSpec := { name := "momentInternals", fn := fun _ => fun
  | [d1, d2, d3] => { results := [.lit (.bool true)], args := [d1, d2, d3] }
  | _ => none }
def momentInternalsRow : OpenClaim := { program := "ytjlchnmpebdggaadoor", sum := "de9a69eaf322beba0ca2d2de272838d8ba9d17fec75257cd6d3211e629fc89cf", func := "postbag/postbaglaw2.MomentInternals", spec := "momentInternals", unfollowed := true, recurses := true, named := ["postbag/moment.lengths"], apart := false, laid := [("postbag/moment.lengths", laid_postbag_moment_lengths)] }
def MomentInternalsSaid : Prop := momentInternalsRow.holds Tryd.pinned (OpenSpec.ofChange momentInternalsSpec)

/-- ITS FALSE NEIGHBOUR: 'it returns false'. Refute it at one input. -/
def momentInternalsWrong : ChangeSpec := { name := "momentInternals", fn := fun _ => fun
  | [d1, d2, d3] => { results := [.lit (.bool false)], args := [d1, d2, d3] }
  | _ => none }
def MomentInternalsWrongFalsely : Prop := momentInternalsRow.holds Tryd.pinned (OpenSpec.ofChange momentInternalsWrong)

/-- 'postbaglaw2.MomentCounts': WHATEVER THE INPUT: true; the input reads as it did. -/
def momentCountsSpec : ChangeSpec := { name := "momentCounts", fn := fun _ => fun
  | [d1, d2] => { results := [.lit (.bool true)], args := [d1, d2] }
  | _ => none }
def momentCountsRow : OpenClaim := { program := "ytjlchnmpebdggaadoor", sum := "de9a69eaf322beba0ca2d2de272838d8ba9d17fec75257cd6d3211e629fc89cf", func := "postbag/postbaglaw2.MomentCounts", spec := "momentCounts", unfollowed := true, recurses := true, named := ["postbag/moment.lengths"], apart := false, laid := [("postbag/moment.lengths", laid_postbag_moment_lengths)] }
def MomentCountsSaid : Prop := momentCountsRow.holds Tryd.pinned (OpenSpec.ofChange momentCountsSpec)

/-- ITS FALSE NEIGHBOUR: 'it returns false'. Refute it at one input. -/
def momentCountsWrong : ChangeSpec := { name := "momentCounts", fn := fun _ => fun
  | [d1, d2] => { results := [.lit (.bool false)], args := [d1, d2] }
  | _ => none }
def MomentCountsWrongFalsely : Prop := momentCountsRow.holds Tryd.pinned (OpenSpec.ofChange momentCountsWrong)

/-- 'postbaglaw2.MomentHeaders': WHATEVER THE INPUT: true; the input reads as it did. -/
def momentHeadersSpec : ChangeSpec := { name := "momentHeaders", fn := fun _ => fun
  | [d1, d2, d3] => { results := [.lit (.bool true)], args := [d1, d2, d3] }
  | _ => none }
def momentHeadersRow : OpenClaim := { program := "ytjlchnmpebdggaadoor", sum := "de9a69eaf322beba0ca2d2de272838d8ba9d17fec75257cd6d3211e629fc89cf", func := "postbag/postbaglaw2.MomentHeaders", spec := "momentHeaders", unfollowed := true, recurses := true, named := ["postbag/moment.lengths"], apart := false, laid := [("postbag/moment.lengths", laid_postbag_moment_lengths)] }
def MomentHeadersSaid : Prop := momentHeadersRow.holds Tryd.pinned (OpenSpec.ofChange momentHeadersSpec)

/-- ITS FALSE NEIGHBOUR: 'it returns false'. Refute it at one input. -/
def momentHeadersWrong : ChangeSpec := { name := "momentHeaders", fn := fun _ => fun
  | [d1, d2, d3] => { results := [.lit (.bool false)], args := [d1, d2, d3] }
  | _ => none }
def MomentHeadersWrongFalsely : Prop := momentHeadersRow.holds Tryd.pinned (OpenSpec.ofChange momentHeadersWrong)

/-- 'postbaglaw2.MomentTomorrow': WHATEVER THE INPUT: true; the input reads as it did. -/
def momentTomorrowSpec : ChangeSpec := { name := "momentTomorrow", fn := fun _ => fun
  | [d] => { results := [.lit (.bool true)], args := [d] }
  | _ => none }
def momentTomorrowRow : OpenClaim := { program := "ytjlchnmpebdggaadoor", sum := "de9a69eaf322beba0ca2d2de272838d8ba9d17fec75257cd6d3211e629fc89cf", func := "postbag/postbaglaw2.MomentTomorrow", spec := "momentTomorrow", unfollowed := true, recurses := true, named := ["postbag/moment.lengths"], apart := false, laid := [("postbag/moment.lengths", laid_postbag_moment_lengths)] }
def MomentTomorrowSaid : Prop := momentTomorrowRow.holds Tryd.pinned (OpenSpec.ofChange momentTomorrowSpec)

/-- ITS FALSE NEIGHBOUR: 'it returns false'. Refute it at one input. -/
def momentTomorrowWrong : ChangeSpec := { name := "momentTomorrow", fn := fun _ => fun
  | [d] => { results := [.lit (.bool false)], args := [d] }
  | _ => none }
def MomentTomorrowWrongFalsely : Prop := momentTomorrowRow.holds Tryd.pinned (OpenSpec.ofChange momentTomorrowWrong)

/-- 'postbaglaw2.MomentGaps': WHATEVER THE INPUT: true; the input reads as it did. -/
def momentGapsSpec : ChangeSpec := { name := "momentGaps", fn := fun _ => fun
  | [d1, d2, d3, d4] => { results := [.lit (.bool true)], args := [d1, d2, d3, d4] }
  | _ => none }
def momentGapsRow : OpenClaim := { program := "ytjlchnmpebdggaadoor", sum := "de9a69eaf322beba0ca2d2de272838d8ba9d17fec75257cd6d3211e629fc89cf", func := "postbag/postbaglaw2.MomentGaps", spec := "momentGaps", unfollowed := true, recurses := true, named := ["postbag/moment.lengths"], apart := false, laid := [("postbag/moment.lengths", laid_postbag_moment_lengths)] }
def MomentGapsSaid : Prop := momentGapsRow.holds Tryd.pinned (OpenSpec.ofChange momentGapsSpec)

/-- ITS FALSE NEIGHBOUR: 'it returns false'. Refute it at one input. -/
def momentGapsWrong : ChangeSpec := { name := "momentGaps", fn := fun _ => fun
  | [d1, d2, d3, d4] => { results := [.lit (.bool false)], args := [d1, d2, d3, d4] }
  | _ => none }
def MomentGapsWrongFalsely : Prop := momentGapsRow.holds Tryd.pinned (OpenSpec.ofChange momentGapsWrong)

/-- 'postbaglaw2.MomentDays': WHATEVER THE INPUT: true; the input reads as it did. -/
def momentDaysSpec : ChangeSpec := { name := "momentDays", fn := fun _ => fun
  | [d1, d2, d3] => { results := [.lit (.bool true)], args := [d1, d2, d3] }
  | _ => none }
def momentDaysRow : OpenClaim := { program := "ytjlchnmpebdggaadoor", sum := "de9a69eaf322beba0ca2d2de272838d8ba9d17fec75257cd6d3211e629fc89cf", func := "postbag/postbaglaw2.MomentDays", spec := "momentDays", unfollowed := true, recurses := true, named := ["postbag/moment.lengths"], apart := false, laid := [("postbag/moment.lengths", laid_postbag_moment_lengths)] }
def MomentDaysSaid : Prop := momentDaysRow.holds Tryd.pinned (OpenSpec.ofChange momentDaysSpec)

/-- ITS FALSE NEIGHBOUR: 'it returns false'. Refute it at one input. -/
def momentDaysWrong : ChangeSpec := { name := "momentDays", fn := fun _ => fun
  | [d1, d2, d3] => { results := [.lit (.bool false)], args := [d1, d2, d3] }
  | _ => none }
def MomentDaysWrongFalsely : Prop := momentDaysRow.holds Tryd.pinned (OpenSpec.ofChange momentDaysWrong)

/-- 'postbaglaw2.MomentPrinted': WHATEVER THE INPUT: true; the input reads as it did. -/
def momentPrintedSpec : ChangeSpec := { name := "momentPrinted", fn := fun _ => fun
  | [d] => { results := [.lit (.bool true)], args := [d] }
  | _ => none }
def momentPrintedRow : OpenClaim := { program := "ytjlchnmpebdggaadoor", sum := "de9a69eaf322beba0ca2d2de272838d8ba9d17fec75257cd6d3211e629fc89cf", func := "postbag/postbaglaw2.MomentPrinted", spec := "momentPrinted", unfollowed := true, recurses := true, named := ["postbag/moment.lengths"], apart := false, laid := [("postbag/moment.lengths", laid_postbag_moment_lengths)] }
def MomentPrintedSaid : Prop := momentPrintedRow.holds Tryd.pinned (OpenSpec.ofChange momentPrintedSpec)

/-- ITS FALSE NEIGHBOUR: 'it returns false'. Refute it at one input. -/
def momentPrintedWrong : ChangeSpec := { name := "momentPrinted", fn := fun _ => fun
  | [d] => { results := [.lit (.bool false)], args := [d] }
  | _ => none }
def MomentPrintedWrongFalsely : Prop := momentPrintedRow.holds Tryd.pinned (OpenSpec.ofChange momentPrintedWrong)

/-- 'postbaglaw2.MomentOrders': WHATEVER THE INPUT: true; the input reads as it did. -/
def momentOrdersSpec : ChangeSpec := { name := "momentOrders", fn := fun _ => fun
  | [d1, d2] => { results := [.lit (.bool true)], args := [d1, d2] }
  | _ => none }
def momentOrdersRow : OpenClaim := { program := "ytjlchnmpebdggaadoor", sum := "de9a69eaf322beba0ca2d2de272838d8ba9d17fec75257cd6d3211e629fc89cf", func := "postbag/postbaglaw2.MomentOrders", spec := "momentOrders", unfollowed := true, recurses := true, named := ["postbag/moment.lengths"], apart := false, laid := [("postbag/moment.lengths", laid_postbag_moment_lengths)] }
def MomentOrdersSaid : Prop := momentOrdersRow.holds Tryd.pinned (OpenSpec.ofChange momentOrdersSpec)

/-- ITS FALSE NEIGHBOUR: 'it returns false'. Refute it at one input. -/
def momentOrdersWrong : ChangeSpec := { name := "momentOrders", fn := fun _ => fun
  | [d1, d2] => { results := [.lit (.bool false)], args := [d1, d2] }
  | _ => none }
def MomentOrdersWrongFalsely : Prop := momentOrdersRow.holds Tryd.pinned (OpenSpec.ofChange momentOrdersWrong)

/-- 'postbaglaw2.MomentRead': WHATEVER THE INPUT: true; the input reads as it did. -/
def momentReadSpec : ChangeSpec := { name := "momentRead", fn := fun _ => fun
  | [d] => { results := [.lit (.bool true)], args := [d] }
  | _ => none }
def momentReadRow : OpenClaim := { program := "ytjlchnmpebdggaadoor", sum := "de9a69eaf322beba0ca2d2de272838d8ba9d17fec75257cd6d3211e629fc89cf", func := "postbag/postbaglaw2.MomentRead", spec := "momentRead", unfollowed := true, recurses := true, named := ["postbag/moment.lengths"], apart := false, laid := [("postbag/moment.lengths", laid_postbag_moment_lengths)] }
def MomentReadSaid : Prop := momentReadRow.holds Tryd.pinned (OpenSpec.ofChange momentReadSpec)

/-- ITS FALSE NEIGHBOUR: 'it returns false'. Refute it at one input. -/
def momentReadWrong : ChangeSpec := { name := "momentRead", fn := fun _ => fun
  | [d] => { results := [.lit (.bool false)], args := [d] }
  | _ => none }
def MomentReadWrongFalsely : Prop := momentReadRow.holds Tryd.pinned (OpenSpec.ofChange momentReadWrong)

/-- 'postbaglaw2.MomentAts': WHATEVER THE INPUT: true; the input reads as it did. -/
def momentAtsSpec : ChangeSpec := { name := "momentAts", fn := fun _ => fun
  | [d1, d2, d3] => { results := [.lit (.bool true)], args := [d1, d2, d3] }
  | _ => none }
def momentAtsRow : OpenClaim := { program := "ytjlchnmpebdggaadoor", sum := "de9a69eaf322beba0ca2d2de272838d8ba9d17fec75257cd6d3211e629fc89cf", func := "postbag/postbaglaw2.MomentAts", spec := "momentAts", unfollowed := true, recurses := true, named := ["postbag/moment.lengths"], apart := false, laid := [("postbag/moment.lengths", laid_postbag_moment_lengths)] }
def MomentAtsSaid : Prop := momentAtsRow.holds Tryd.pinned (OpenSpec.ofChange momentAtsSpec)

/-- ITS FALSE NEIGHBOUR: 'it returns false'. Refute it at one input. -/
def momentAtsWrong : ChangeSpec := { name := "momentAts", fn := fun _ => fun
  | [d1, d2, d3] => { results := [.lit (.bool false)], args := [d1, d2, d3] }
  | _ => none }
def MomentAtsWrongFalsely : Prop := momentAtsRow.holds Tryd.pinned (OpenSpec.ofChange momentAtsWrong)

/-- 'postbaglaw2.MomentReturns': WHATEVER THE INPUT: true; the input reads as it did. -/
def momentReturnsSpec : ChangeSpec := { name := "momentReturns", fn := fun _ => fun
  | [d1, d2, d3] => { results := [.lit (.bool true)], args := [d1, d2, d3] }
  | _ => none }
def momentReturnsRow : OpenClaim := { program := "ytjlchnmpebdggaadoor", sum := "de9a69eaf322beba0ca2d2de272838d8ba9d17fec75257cd6d3211e629fc89cf", func := "postbag/postbaglaw2.MomentReturns", spec := "momentReturns", unfollowed := true, recurses := true, named := ["postbag/moment.lengths"], apart := false, laid := [("postbag/moment.lengths", laid_postbag_moment_lengths)] }
def MomentReturnsSaid : Prop := momentReturnsRow.holds Tryd.pinned (OpenSpec.ofChange momentReturnsSpec)

/-- ITS FALSE NEIGHBOUR: 'it returns false'. Refute it at one input. -/
def momentReturnsWrong : ChangeSpec := { name := "momentReturns", fn := fun _ => fun
  | [d1, d2, d3] => { results := [.lit (.bool false)], args := [d1, d2, d3] }
  | _ => none }
def MomentReturnsWrongFalsely : Prop := momentReturnsRow.holds Tryd.pinned (OpenSpec.ofChange momentReturnsWrong)

/-- 'postbaglaw2.MomentOrdered': WHATEVER THE INPUT: true; the input reads as it did. -/
def momentOrderedSpec : ChangeSpec := { name := "momentOrdered", fn := fun _ => fun
  | [d1, d2, d3, d4, d5, d6] => { results := [.lit (.bool true)], args := [d1, d2, d3, d4, d5, d6] }
  | _ => none }
def momentOrderedRow : OpenClaim := { program := "ytjlchnmpebdggaadoor", sum := "de9a69eaf322beba0ca2d2de272838d8ba9d17fec75257cd6d3211e629fc89cf", func := "postbag/postbaglaw2.MomentOrdered", spec := "momentOrdered", unfollowed := true, recurses := true, named := ["postbag/moment.lengths"], apart := false, laid := [("postbag/moment.lengths", laid_postbag_moment_lengths)] }
def MomentOrderedSaid : Prop := momentOrderedRow.holds Tryd.pinned (OpenSpec.ofChange momentOrderedSpec)

/-- ITS FALSE NEIGHBOUR: 'it returns false'. Refute it at one input. -/
def momentOrderedWrong : ChangeSpec := { name := "momentOrdered", fn := fun _ => fun
  | [d1, d2, d3, d4, d5, d6] => { results := [.lit (.bool false)], args := [d1, d2, d3, d4, d5, d6] }
  | _ => none }
def MomentOrderedWrongFalsely : Prop := momentOrderedRow.holds Tryd.pinned (OpenSpec.ofChange momentOrderedWrong)

/- THE SECOND FORM. 'bulk': how many values and letters a reading holds, each counted each time it is reached (what is shared counts as often as it is met; a slice's spare places count too). A statement '..UptoSaid' is the law's where the arguments, and the package variables that the reading takes, are together of bulk at most 1048576: NARROWER than '..Said'. Prove '..Said' where nothing that the law and all that it calls make is longer than what came in: it says more and counts as full. Else prove '..UptoSaid'. A law counts once. -/
mutual
def uptoBulk {H : Type} : DataW H → Nat
  | .lit (.string bytes) => bytes.length + 1
  | .lit _ => 1
  | .nil => 1
  | .ptr d => uptoBulk d + 1
  | .slice elems spare => uptoBulkAll elems + uptoBulkAll spare + 1
  | .agg parts => uptoBulkAll parts + 1
  | .iface _ d => uptoBulk d + 1
  | .map entries => uptoBulkEntries entries + 1
  | .held _ => 1
def uptoBulkAll {H : Type} : List (DataW H) → Nat
  | [] => 0
  | d :: r => uptoBulk d + uptoBulkAll r
def uptoBulkEntries {H : Type} : List (Lit × DataW H) → Nat
  | [] => 0
  | x :: r => uptoBulkEntry x + uptoBulkEntries r
def uptoBulkEntry {H : Type} : Lit × DataW H → Nat
  | (.string bytes, d) => bytes.length + uptoBulk d + 1
  | (_, d) => uptoBulk d + 1
 end
def uptoSmall : (H : Type) → List (DataW H) → Bool := fun _ ds => decide (uptoBulkAll ds ≤ 1048576)
def OpenSpec.upto (s : _root_.Go.ChangeSpec) : _root_.Go.OpenSpec := { _root_.Go.OpenSpec.ofChange s with cond := some uptoSmall }

/-- 'postbaglaw2.MomentInternals', WHERE WHAT IT READS IS OF BULK AT MOST 1048576: true; the input reads as it did. -/
def momentInternalsUptoRow : OpenClaim := { program := "ytjlchnmpebdggaadoor", sum := "de9a69eaf322beba0ca2d2de272838d8ba9d17fec75257cd6d3211e629fc89cf", func := "postbag/postbaglaw2.MomentInternals", spec := "momentInternals", unfollowed := true, recurses := true, named := ["postbag/moment.lengths"], apart := false, laid := [("postbag/moment.lengths", laid_postbag_moment_lengths)], narrowed := true }
def MomentInternalsUptoSaid : Prop := momentInternalsUptoRow.holds Tryd.pinned (OpenSpec.upto momentInternalsSpec)

/-- 'postbaglaw2.MomentCounts', WHERE WHAT IT READS IS OF BULK AT MOST 1048576: true; the input reads as it did. -/
def momentCountsUptoRow : OpenClaim := { program := "ytjlchnmpebdggaadoor", sum := "de9a69eaf322beba0ca2d2de272838d8ba9d17fec75257cd6d3211e629fc89cf", func := "postbag/postbaglaw2.MomentCounts", spec := "momentCounts", unfollowed := true, recurses := true, named := ["postbag/moment.lengths"], apart := false, laid := [("postbag/moment.lengths", laid_postbag_moment_lengths)], narrowed := true }
def MomentCountsUptoSaid : Prop := momentCountsUptoRow.holds Tryd.pinned (OpenSpec.upto momentCountsSpec)

/-- 'postbaglaw2.MomentHeaders', WHERE WHAT IT READS IS OF BULK AT MOST 1048576: true; the input reads as it did. -/
def momentHeadersUptoRow : OpenClaim := { program := "ytjlchnmpebdggaadoor", sum := "de9a69eaf322beba0ca2d2de272838d8ba9d17fec75257cd6d3211e629fc89cf", func := "postbag/postbaglaw2.MomentHeaders", spec := "momentHeaders", unfollowed := true, recurses := true, named := ["postbag/moment.lengths"], apart := false, laid := [("postbag/moment.lengths", laid_postbag_moment_lengths)], narrowed := true }
def MomentHeadersUptoSaid : Prop := momentHeadersUptoRow.holds Tryd.pinned (OpenSpec.upto momentHeadersSpec)

/-- 'postbaglaw2.MomentTomorrow', WHERE WHAT IT READS IS OF BULK AT MOST 1048576: true; the input reads as it did. -/
def momentTomorrowUptoRow : OpenClaim := { program := "ytjlchnmpebdggaadoor", sum := "de9a69eaf322beba0ca2d2de272838d8ba9d17fec75257cd6d3211e629fc89cf", func := "postbag/postbaglaw2.MomentTomorrow", spec := "momentTomorrow", unfollowed := true, recurses := true, named := ["postbag/moment.lengths"], apart := false, laid := [("postbag/moment.lengths", laid_postbag_moment_lengths)], narrowed := true }
def MomentTomorrowUptoSaid : Prop := momentTomorrowUptoRow.holds Tryd.pinned (OpenSpec.upto momentTomorrowSpec)

/-- 'postbaglaw2.MomentGaps', WHERE WHAT IT READS IS OF BULK AT MOST 1048576: true; the input reads as it did. -/
def momentGapsUptoRow : OpenClaim := { program := "ytjlchnmpebdggaadoor", sum := "de9a69eaf322beba0ca2d2de272838d8ba9d17fec75257cd6d3211e629fc89cf", func := "postbag/postbaglaw2.MomentGaps", spec := "momentGaps", unfollowed := true, recurses := true, named := ["postbag/moment.lengths"], apart := false, laid := [("postbag/moment.lengths", laid_postbag_moment_lengths)], narrowed := true }
def MomentGapsUptoSaid : Prop := momentGapsUptoRow.holds Tryd.pinned (OpenSpec.upto momentGapsSpec)

/-- 'postbaglaw2.MomentDays', WHERE WHAT IT READS IS OF BULK AT MOST 1048576: true; the input reads as it did. -/
def momentDaysUptoRow : OpenClaim := { program := "ytjlchnmpebdggaadoor", sum := "de9a69eaf322beba0ca2d2de272838d8ba9d17fec75257cd6d3211e629fc89cf", func := "postbag/postbaglaw2.MomentDays", spec := "momentDays", unfollowed := true, recurses := true, named := ["postbag/moment.lengths"], apart := false, laid := [("postbag/moment.lengths", laid_postbag_moment_lengths)], narrowed := true }
def MomentDaysUptoSaid : Prop := momentDaysUptoRow.holds Tryd.pinned (OpenSpec.upto momentDaysSpec)

/-- 'postbaglaw2.MomentPrinted', WHERE WHAT IT READS IS OF BULK AT MOST 1048576: true; the input reads as it did. -/
def momentPrintedUptoRow : OpenClaim := { program := "ytjlchnmpebdggaadoor", sum := "de9a69eaf322beba0ca2d2de272838d8ba9d17fec75257cd6d3211e629fc89cf", func := "postbag/postbaglaw2.MomentPrinted", spec := "momentPrinted", unfollowed := true, recurses := true, named := ["postbag/moment.lengths"], apart := false, laid := [("postbag/moment.lengths", laid_postbag_moment_lengths)], narrowed := true }
def MomentPrintedUptoSaid : Prop := momentPrintedUptoRow.holds Tryd.pinned (OpenSpec.upto momentPrintedSpec)

/-- 'postbaglaw2.MomentOrders', WHERE WHAT IT READS IS OF BULK AT MOST 1048576: true; the input reads as it did. -/
def momentOrdersUptoRow : OpenClaim := { program := "ytjlchnmpebdggaadoor", sum := "de9a69eaf322beba0ca2d2de272838d8ba9d17fec75257cd6d3211e629fc89cf", func := "postbag/postbaglaw2.MomentOrders", spec := "momentOrders", unfollowed := true, recurses := true, named := ["postbag/moment.lengths"], apart := false, laid := [("postbag/moment.lengths", laid_postbag_moment_lengths)], narrowed := true }
def MomentOrdersUptoSaid : Prop := momentOrdersUptoRow.holds Tryd.pinned (OpenSpec.upto momentOrdersSpec)

/-- 'postbaglaw2.MomentRead', WHERE WHAT IT READS IS OF BULK AT MOST 1048576: true; the input reads as it did. -/
def momentReadUptoRow : OpenClaim := { program := "ytjlchnmpebdggaadoor", sum := "de9a69eaf322beba0ca2d2de272838d8ba9d17fec75257cd6d3211e629fc89cf", func := "postbag/postbaglaw2.MomentRead", spec := "momentRead", unfollowed := true, recurses := true, named := ["postbag/moment.lengths"], apart := false, laid := [("postbag/moment.lengths", laid_postbag_moment_lengths)], narrowed := true }
def MomentReadUptoSaid : Prop := momentReadUptoRow.holds Tryd.pinned (OpenSpec.upto momentReadSpec)

/-- 'postbaglaw2.MomentAts', WHERE WHAT IT READS IS OF BULK AT MOST 1048576: true; the input reads as it did. -/
def momentAtsUptoRow : OpenClaim := { program := "ytjlchnmpebdggaadoor", sum := "de9a69eaf322beba0ca2d2de272838d8ba9d17fec75257cd6d3211e629fc89cf", func := "postbag/postbaglaw2.MomentAts", spec := "momentAts", unfollowed := true, recurses := true, named := ["postbag/moment.lengths"], apart := false, laid := [("postbag/moment.lengths", laid_postbag_moment_lengths)], narrowed := true }
def MomentAtsUptoSaid : Prop := momentAtsUptoRow.holds Tryd.pinned (OpenSpec.upto momentAtsSpec)

/-- 'postbaglaw2.MomentReturns', WHERE WHAT IT READS IS OF BULK AT MOST 1048576: true; the input reads as it did. -/
def momentReturnsUptoRow : OpenClaim := { program := "ytjlchnmpebdggaadoor", sum := "de9a69eaf322beba0ca2d2de272838d8ba9d17fec75257cd6d3211e629fc89cf", func := "postbag/postbaglaw2.MomentReturns", spec := "momentReturns", unfollowed := true, recurses := true, named := ["postbag/moment.lengths"], apart := false, laid := [("postbag/moment.lengths", laid_postbag_moment_lengths)], narrowed := true }
def MomentReturnsUptoSaid : Prop := momentReturnsUptoRow.holds Tryd.pinned (OpenSpec.upto momentReturnsSpec)

/-- 'postbaglaw2.MomentOrdered', WHERE WHAT IT READS IS OF BULK AT MOST 1048576: true; the input reads as it did. -/
def momentOrderedUptoRow : OpenClaim := { program := "ytjlchnmpebdggaadoor", sum := "de9a69eaf322beba0ca2d2de272838d8ba9d17fec75257cd6d3211e629fc89cf", func := "postbag/postbaglaw2.MomentOrdered", spec := "momentOrdered", unfollowed := true, recurses := true, named := ["postbag/moment.lengths"], apart := false, laid := [("postbag/moment.lengths", laid_postbag_moment_lengths)], narrowed := true }
def MomentOrderedUptoSaid : Prop := momentOrderedUptoRow.holds Tryd.pinned (OpenSpec.upto momentOrderedSpec)

end Rows
end Go.Proofs.YtjlchnmpebdggaaDoor
