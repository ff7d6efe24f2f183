/- FrameBegins: its pure statement. -/
import Derived.Test.YtcndhgpaoihblaaBegins
namespace Go.Proofs.Ytcndhgpaoihblaa.Pure
open Go.Proofs.Ytcndhgpaoihblaa.Fr
theorem FrameBegins (a : ByteArray) (h0 : a.size ≤ 140737488351232) : postbaglaw10_FrameBegins.f a = some true := if_pos h0
end Go.Proofs.Ytcndhgpaoihblaa.Pure
