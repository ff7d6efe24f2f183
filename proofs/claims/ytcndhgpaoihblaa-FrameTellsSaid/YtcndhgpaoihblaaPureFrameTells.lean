/- FrameTells: its pure statement. -/
import Derived.Test.YtcndhgpaoihblaaTells
namespace Go.Proofs.Ytcndhgpaoihblaa.Pure
open Go.Proofs.Ytcndhgpaoihblaa.Fr
theorem FrameTells (a : ByteArray) (i t : Int) (h0 : a.size ≤ 140737488351232) (h1 : (Lit.int .i64 i).wf = true) (h2 : (Lit.int .i64 t).wf = true) : postbaglaw10_FrameTells.f a i t = some true :=
  if_pos ⟨h0, h1, h2⟩
end Go.Proofs.Ytcndhgpaoihblaa.Pure
