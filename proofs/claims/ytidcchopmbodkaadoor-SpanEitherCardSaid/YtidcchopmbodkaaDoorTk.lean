/- postbaglaw4.known: it answers true. -/
import Derived.Test.YtidcchopmbodkaaDoorPPostbaglaw4Known
import Derived.Test.YtidcchopmbodkaaDoorTa
namespace Go.Proofs.YtidcchopmbodkaaDoor.Sp
open Go.RowKit Go.Proofs.YtidcchopmbodkaaDoorW.PrintWords Go.Proofs.YtidcchopmbodkaaDoorW.PrintLast Go.Proofs.YtidcchopmbodkaaDoorW.PrintMore
theorem known_parse : span_Parse.f (⟨#[50, 58, 52, 44, 42]⟩ : ByteArray) = some ([(⟨2, 4⟩ : S28), ⟨0, 0⟩], 0) := by kernel_rfl
theorem itoa4 : Lib.itoa 4 = [52] := by kernel_rfl
theorem known_print : span_Print.f 9 [(⟨4, 2⟩ : S28), ⟨0, 9⟩] = some (⟨#[52, 58, 50, 44, 42, 58, 57]⟩, 0) := by kernel_rfl
theorem known_has : hasB [(⟨2, 4⟩ : S28), ⟨0, 0⟩] 3 9 = true := by kernel_rfl
theorem known_j0 : postbaglaw4_known.j0 30 [(⟨2, 4⟩ : S28), ⟨0, 0⟩] false = some true := by kernel_rfl
theorem known_50 : postbaglaw4_known.f 50 = some true := by kernel_rfl
end Go.Proofs.YtidcchopmbodkaaDoor.Sp
