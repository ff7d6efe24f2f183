import Derived.Test.YtjlchnmpebdggaaDoorRows
import Derived.Test.YtjlchnmpebdggaaDoorRds0
import Derived.ChangeArms
import Derived.SizedLaws
import Derived.Orders
import Derived.Tactics
import Derived.Test.YtjlchnmpebdggaaDoorProg
import Derived.Below
import Derived.Deep.Draws
import Derived.Deep.AppendLies
import Derived.Maps.AppendAt
import Derived.OwnWalk
import Derived.Laws.BytesArg
import Derived.Laws.MakeOwn
import Derived.Laws.OwnMore
import Derived.Deep.OwnRows
import Derived.Lib.ConvBytes
import Derived.Laws.Slices
import Derived.WalkKit
import Derived.KernelRfl
import Derived.RowKit3
import Derived.Deep.LoopGhost
import Derived.Deep.QuietTactic
import Derived.BigQuiet
import Derived.WideLaws
import Derived.Deep.DeepCutAuto
import Derived.Deep.CutBlock
import Derived.Deep.RegionHeld3
import Derived.Laws.Rows
import Derived.Lib.AppendStr
import Derived.ArgAppend
import Derived.Laws.IdiomCopy
import Derived.OrdersHeld
import Derived.Laws.BitsLemmas
import Derived.RowKit
import Derived.Lib.Hide
section
namespace Go.Proofs.YtjlchnmpebdggaaDoor.Op
open Go.Proofs.YtjlchnmpebdggaaDoorW.PrintWords
open Go.Proofs.YtjlchnmpebdggaaDoor.Rows (uptoBulk uptoBulkAll)
theorem mem_each {H : Type} {P : Program} : ∀ {ts : List TypeId} {ds : List (DataW H)} {j : Nat} {t : TypeId} {d : DataW H} {n : Nat}, ts[j]? = some t → ds[j]? = some d → n ∈ d.weights P t → n ∈ DataW.weightsEach P ts ds :=
  fun ht hd hn => DataW.weights_mem_each ht hd _ hn
def Opens (P : Program) (t : TypeId) {α : Type} (d : Kd α) (good : α → Prop) (bulk : α → Nat) : Prop :=
  ∀ (H : Type) (enc : TypeId × Value → H) (w : World) (base : Nat) (spare : Nat → Bool) (held : Bool) (fuel : Nat) (cs : List Value) (x : DataW H × List MemPlace),
    DataW.trod enc P w base spare held fuel t cs = some x → (∀ n ∈ x.1.weights P t, n ≤ reachBytes) → ∃ y : α, d.K w y cs ∧ good y ∧ bulk y ≤ uptoBulk x.1
theorem op_string {P : Program} {t : TypeId} (ht : P.underlying t = some .string) : Opens P t Kd.string (fun s => s.size ≤ 140737488351232) (fun s => s.size + 1) := by
  intro H enc w base spare held fuel cs x h hr
  obtain ⟨s, rfl, rfl, hw⟩ := DataW.trod_string ht h
  refine ⟨s, rfl, ?_, by simp [uptoBulk]⟩
  have := hr s.data.toList.length (by simp [DataW.weights])
  have e : reachBytes = 140737488351232 := rfl
  rw [e] at this
  simpa using this
end Go.Proofs.YtjlchnmpebdggaaDoor.Op
end
section
namespace Go.Proofs.YtjlchnmpebdggaaDoor
open Go.Proofs.YtjlchnmpebdggaaDoorW.PrintLast
theorem pu_ {P : Program} {md : Region.Mode} {ops : Array Oper} {Q : Exit → Act → World → Prop} {S : World → Prop} {ds : List Nat} {oi : Oper} {fuel : Nat} {l : Array Bool} {a : Act} {w : World} (i : Nat) (N : Option Tmp) (v : Value) (l' : Array Bool) (hi : ops[i]? = some oi) (hN : oi.dst = N) (hc : anyB md ops l l' i = true)
    (hQ : ∀ c a w, Q (.panic c) (a.put oi.dst v) w → Q (.panic c) a w) (hy : Yields P ops oi v a) (a' : Act) (ha : a.put N v = a')
    (h : wpAnyLast P md ops Q S ds fuel l' a' w) : wpAnyLast P md ops Q S ds (fuel + 1) l a w := pure_ l' hi hN hc hQ hy ha h
def bs_ (k n : Nat) : Array Bool := (List.replicate k true ++ List.replicate n false).toArray
section
variable {P : Program} {ops : Array Oper}
theorem y_ {o : Oper} {v : Value} {a : Act} (h : Region.wanted o (yielded ops a.tmps) = true) (h2 : ∀ w, (execOp a.eval o).run P w = .ok (.value v) w) : Yields P ops o v a := Or.inl ⟨h, h2⟩
end
theorem s1_ {α : Type _} {l : List α} {i : Nat} {a : α} : l.toArray.setIfInBounds i a = (l.set i a).toArray := List.setIfInBounds_toArray _ _ _
theorem s2_ {α : Type _} {a b : α} {l : List α} : (a :: l).set 0 b = b :: l := List.set_cons_zero
theorem s3_ {α : Type _} {a b : α} {l : List α} {i : Nat} : (a :: l).set (i + 1) b = a :: l.set i b := List.set_cons_succ
end Go.Proofs.YtjlchnmpebdggaaDoor
end
section
namespace Go.Proofs.YtjlchnmpebdggaaDoor.Mo
open Go.RowKit Go.Proofs.YtjlchnmpebdggaaDoorW.PrintWords Go.Proofs.YtjlchnmpebdggaaDoorW.PrintLast Go.Proofs.YtjlchnmpebdggaaDoorW.PrintMore
attribute [local go_sem] max2_int min2_int max_two min_two max_three min_three max_four min_four   -- for this text's walks alone
set_option linter.unusedVariables false
set_option linter.unusedSimpArgs false
def errW : Option Int → Value
  | none => .nilIface
  | some c => .iface 0 (.int .i64 c)
theorem errW_none : errW none = .nilIface := rfl
theorem errW_some (c : Int) : errW (some c) = .iface 0 (.int .i64 c) := rfl
structure S23 where
  f0 : Int
  f1 : Int
  f2 : Int
  f3 : Int
  f4 : Int
  f5 : Int
  f6 : Int
structure S95 where
  f0 : Int
  f1 : ByteArray
end Go.Proofs.YtjlchnmpebdggaaDoor.Mo
end
section
namespace Go.Proofs.YtjlchnmpebdggaaDoor.Mo
open Go.RowKit Go.Proofs.YtjlchnmpebdggaaDoorW.PrintWords Go.Proofs.YtjlchnmpebdggaaDoorW.PrintLast Go.Proofs.YtjlchnmpebdggaaDoorW.PrintMore
attribute [local go_sem] max2_int min2_int max_two min_two max_three min_three max_four min_four   -- for this text's walks alone
set_option linter.unusedVariables false
set_option linter.unusedSimpArgs false
def moment_leap.f (a0 : Int) : Option (Bool) := if (Int.tmod a0 4) = 0 then (if (Int.tmod a0 100) = 0 then (some ((Int.tmod a0 400) == 0)) else (some true)) else (some false)
set_option maxHeartbeats 8000000 in
set_option maxRecDepth 100000 in
theorem moment_leap.calls (a0 : Int) (r : Bool) (w : World) (h : moment_leap.f a0 = some r) :
  Calls Tryd.prog 86 #[.int .i64 a0] w fun e w' => e = .returned (.bool r) ∧ Drawn0 w w' := by
 have H : (if (Int.tmod a0 4) = 0 then (if (Int.tmod a0 100) = 0 then (some ((Int.tmod a0 400) == 0)) else (some true)) else (some false)) = some r := h
 clear h
 by_cases c2 : (Int.tmod a0 4) = 0
 ·rw [if_pos c2] at H
  have c2b0 : ((Int.tmod a0 4) == 0) = true := beq_iff_eq.mpr c2
  have c2b1 : ((Int.tmod a0 4) != 0) = false := bne_eq_false_iff_eq.mpr c2
  clear c2
  by_cases c3 : (Int.tmod a0 100) = 0
  ·rw [if_pos c3] at H
   have c3b0 : ((Int.tmod a0 100) == 0) = true := beq_iff_eq.mpr c3
   have c3b1 : ((Int.tmod a0 100) != 0) = false := bne_eq_false_iff_eq.mpr c3
   clear c3
   obtain rfl := Option.some.inj H
   go_enter Tryd.func86, Tryd.ntmps86
   go_wp2
   go_ret
   exact ⟨by first | rfl | (simp; done) | (simp [*]; done), by repeat (first | exact Drawn0.refl _ | apply Drawn0.step)⟩
  ·rw [if_neg c3] at H
   have c3b0 : ((Int.tmod a0 100) == 0) = false := beq_eq_false_iff_ne.mpr c3
   have c3b1 : ((Int.tmod a0 100) != 0) = true := bne_iff_ne.mpr c3
   obtain rfl := Option.some.inj H
   go_enter Tryd.func86, Tryd.ntmps86
   go_wp2
   go_ret
   exact ⟨by first | rfl | (simp; done) | (simp [*]; done), by repeat (first | exact Drawn0.refl _ | apply Drawn0.step)⟩
 ·rw [if_neg c2] at H
  have c2b0 : ((Int.tmod a0 4) == 0) = false := beq_eq_false_iff_ne.mpr c2
  have c2b1 : ((Int.tmod a0 4) != 0) = true := bne_iff_ne.mpr c2
  obtain rfl := Option.some.inj H
  go_enter Tryd.func86, Tryd.ntmps86
  go_wp2
  go_ret
  exact ⟨by first | rfl | (simp; done) | (simp [*]; done), by repeat (first | exact Drawn0.refl _ | apply Drawn0.step)⟩
end Go.Proofs.YtjlchnmpebdggaaDoor.Mo
end
section
namespace Go.Proofs.YtjlchnmpebdggaaDoor.Mo
open Go.RowKit Go.Proofs.YtjlchnmpebdggaaDoorW.PrintWords
def monthDays : List Int := [31, 28, 31, 30, 31, 30, 31, 31, 30, 31, 30, 31]
structure Laid (w : World) : Prop where
  lt : 0 < w.heap.size
  cell : ∀ j, j < 12 → w.cell? ⟨0, j, none⟩ = some (.int .i64 (monthDays.getD j 0))
theorem laid_below {w w1 : World} (h : Laid w) (hb : Below w.heap.size w w1) : Laid w1 :=
  ⟨Nat.lt_of_lt_of_le h.lt hb.size, fun j hj => (hb.cell (p := ⟨0, j, none⟩) h.lt).trans (h.cell j hj)⟩
theorem laid_drawn {w w1 : World} (h : Laid w) (hd : Drawn0 w w1) : Laid w1 := laid_below h hd.below
def leapB (y : Int) : Bool := y.tmod 4 == 0 && (y.tmod 100 != 0 || y.tmod 400 == 0)
theorem leap_f (y : Int) : moment_leap.f y = some (leapB y) := by
  unfold moment_leap.f leapB
  by_cases h1 : y.tmod 4 = 0
  · by_cases h2 : y.tmod 100 = 0 <;> simp [h1, h2]
  · simp [h1]
def lengthP (y m : Int) : Int := if m = 2 ∧ leapB y = true then 29 else monthDays.getD (m - 1).toNat 0
def moment_length.f (a0 a1 : Int) : Option Int := if 1 ≤ a1 ∧ a1 ≤ 12 then some (lengthP a0 a1) else none
set_option maxHeartbeats 1000000 in
theorem moment_length.calls (a0 a1 r : Int) (w : World) (h : moment_length.f a0 a1 = some r) (hL : Laid w) :
    Calls Tryd.prog 47 #[.int .i64 a0, .int .i64 a1] w fun e w' => e = .returned (.int .i64 r) ∧ Drawn0 w w' := by
  unfold moment_length.f at h
  by_cases hm : 1 ≤ a1 ∧ a1 ≤ 12
  · rw [if_pos hm] at h
    obtain rfl := Option.some.inj h
    obtain ⟨h1, h2⟩ := hm
    by_cases e2 : a1 = 2
    · subst e2
      have hl := leap_f a0
      cases hb : leapB a0 with
      | true =>
        have he : Hid (lengthP a0 2 = 29) := by show lengthP a0 2 = 29; unfold lengthP; rw [if_pos ⟨rfl, hb⟩]
        rw [hb] at hl
        have HL := Lib.hid hl
        clear hl hb h
        go_enter Tryd.func47, Tryd.ntmps47
        go_wp2_with (go_at_call 86; refine (moment_leap.calls _ _ _ HL.out).mono ?_; rintro e w' ⟨rfl, ⟨nd, rfl⟩⟩)
        go_ret
        exact ⟨by rw [he.out]; rfl, ⟨_, rfl⟩⟩
      | false =>
        have he : Hid (lengthP a0 2 = 28) := by show lengthP a0 2 = 28; unfold lengthP; rw [if_neg (by simp [hb])]; rfl
        rw [hb] at hl
        have HL := Lib.hid hl
        have hc : w.cell? ⟨0, 1, none⟩ = some (.int .i64 28) := hL.cell 1 (by decide)
        clear hl hb h hL
        go_enter Tryd.func47, Tryd.ntmps47
        go_wp2_with (go_at_call 86; refine (moment_leap.calls _ _ _ HL.out).mono ?_; rintro e w' ⟨rfl, ⟨nd, rfl⟩⟩)
        go_ret
        exact ⟨by rw [he.out]; rfl, ⟨_, rfl⟩⟩
    · have he : Hid (lengthP a0 a1 = monthDays.getD (a1 - 1).toNat 0) := by show lengthP a0 a1 = _; unfold lengthP; rw [if_neg (by simp [e2])]
      have hb : (a1 == 2) = false := by simp [e2]
      obtain ⟨n, rfl⟩ : ∃ n : Nat, a1 = n + 1 := ⟨(a1 - 1).toNat, by omega⟩
      have hc : w.cell? ⟨0, n, none⟩ = some (.int .i64 (monthDays.getD n 0)) := hL.cell n (by omega)
      have hn : n < 12 := by omega
      clear e2 h hL
      go_enter Tryd.func47, Tryd.ntmps47
      go_wp2
      go_ret
      exact ⟨by rw [he.out]; simp, ⟨0, rfl⟩⟩
  · rw [if_neg hm] at h
    exact absurd h (by simp)
end Go.Proofs.YtjlchnmpebdggaaDoor.Mo
end
