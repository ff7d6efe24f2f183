/- postbaglaw10.known in the print's form: it answers true. -/
import Derived.Test.YtcndhgpaoihblaaKnown
namespace Go.Proofs.Ytcndhgpaoihblaa.Fr
open Go.RowKit

def postbaglaw10_known.f : Option Bool := some true
theorem postbaglaw10_known.calls (r : Bool) (w : World) (h : postbaglaw10_known.f = some r) :
    Calls Try.prog 14 #[] w fun e w' => e = .returned (.bool r) ∧ Below w.heap.size w w' := by
  obtain rfl : true = r := Option.some.inj h
  exact known_calls w
end Go.Proofs.Ytcndhgpaoihblaa.Fr
