/- FrameScans: its pure statement. -/
import Derived.Test.YtcndhgpaoihblaaGv
namespace Go.Proofs.Ytcndhgpaoihblaa.Pure
open Go.Proofs.Ytcndhgpaoihblaa.Fr
theorem FrameScans (l : List ByteArray) (a : Int) {Z Q : Prop} (h : (∀ x ∈ l, x.size ≤ 140737488351232) ∧ Z) (_ : Q) : postbaglaw10_FrameScans.f l a = some true :=
  if_pos (List.all_eq_true.2 fun x hx => decide_eq_true (h.1 x hx))
end Go.Proofs.Ytcndhgpaoihblaa.Pure
