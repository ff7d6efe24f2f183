/- What told and known come to. -/
import Derived.Test.YtcndhgpaoihblaaRowF
import Derived.Test.YtcndhgpaoihblaaGivenK
import Derived.DataShut
namespace Go.Proofs.Ytcndhgpaoihblaa.Fr
open Go.RowKit Go.Proofs.YtcndhgpaoihblaaW.PrintWords
open Plain Crc
theorem told_f (s : ByteArray) (h : s.size ≤ 1099511627776) : postbaglaw10_told.f s = some ((scanT s.data.toList 0 none).map s49, (scanT s.data.toList 0 none).map nx) := by
  unfold postbaglaw10_told.f
  rw [if_pos h]
theorem ext_data0 (s : ByteArray) (b : Nat) : (s.extract 0 b).data.toList = s.data.toList.take b := by rw [ext_data, List.drop_zero]
theorem known_some : postbaglaw10_known.f = some true := rfl
end Go.Proofs.Ytcndhgpaoihblaa.Fr
