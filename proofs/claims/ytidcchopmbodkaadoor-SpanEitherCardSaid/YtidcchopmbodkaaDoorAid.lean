/- Short names that long printed proofs use: rows of Bools by their number, and names of laws. -/
import Derived.Orders
import Derived.Tactics
import Derived.Test.YtidcchopmbodkaaDoorWLast
namespace Go.Proofs.YtidcchopmbodkaaDoor
open Go.Proofs.YtidcchopmbodkaaDoorW.PrintLast
theorem pu_ {P : Program} {md : Region.Mode} {ops : Array Oper} {Q : Exit → Act → World → Prop} {S : World → Prop} {ds : List Nat} {oi : Oper} {fuel : Nat} {l : Array Bool} {a : Act} {w : World} (i : Nat) (N : Option Tmp) (v : Value) (l' : Array Bool) (hi : ops[i]? = some oi) (hN : oi.dst = N) (hc : anyB md ops l l' i = true)
    (hQ : ∀ c a w, Q (.panic c) (a.put oi.dst v) w → Q (.panic c) a w) (hy : Yields P ops oi v a) (a' : Act) (ha : a.put N v = a')
    (h : wpAnyLast P md ops Q S ds fuel l' a' w) : wpAnyLast P md ops Q S ds (fuel + 1) l a w := pure_ l' hi hN hc hQ hy ha h
/-- k times true, n times false. -/
def bs_ (k n : Nat) : Array Bool := (List.replicate k true ++ List.replicate n false).toArray
section
variable {P : Program} {ops : Array Oper}
theorem y_ {o : Oper} {v : Value} {a : Act} (h : Region.wanted o (yielded ops a.tmps) = true) (h2 : ∀ w, (execOp a.eval o).run P w = .ok (.value v) w) : Yields P ops o v a := Or.inl ⟨h, h2⟩
theorem n_ {o : Oper} {a : Act} (h : Region.wanted o (yielded ops a.tmps) = false) : Yields P ops o undef a := Or.inr ⟨h, rfl⟩
end
theorem s1_ {α : Type _} {l : List α} {i : Nat} {a : α} : l.toArray.setIfInBounds i a = (l.set i a).toArray := List.setIfInBounds_toArray _ _ _
theorem s2_ {α : Type _} {a b : α} {l : List α} : (a :: l).set 0 b = b :: l := List.set_cons_zero
theorem s3_ {α : Type _} {a b : α} {l : List α} {i : Nat} : (a :: l).set (i + 1) b = a :: l.set i b := List.set_cons_succ
end Go.Proofs.YtidcchopmbodkaaDoor
