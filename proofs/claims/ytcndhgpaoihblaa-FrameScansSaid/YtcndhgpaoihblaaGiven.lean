/- frame.Sum in the print's form: of a string that a Go string can be, it answers the plain check sum. -/
import Derived.Test.YtcndhgpaoihblaaSum
namespace Go.Proofs.Ytcndhgpaoihblaa.Fr
open Go.RowKit

def frame_Sum.f (a0 : ByteArray) : Option Int := if a0.size ≤ 9223372036854775807 then some (Crc.sum a0) else none
theorem frame_Sum.calls (a0 : ByteArray) (r : Int) (w : World) (h : frame_Sum.f a0 = some r) :
    Calls Try.prog 12 #[.string a0] w fun e w' => e = .returned (.int .i64 r) ∧ Below w.heap.size w w' := by
  unfold frame_Sum.f at h
  split at h
  · injection h with h
    subst h
    exact sum_calls a0 w ‹_›
  · exact absurd h (by simp)
end Go.Proofs.Ytcndhgpaoihblaa.Fr
