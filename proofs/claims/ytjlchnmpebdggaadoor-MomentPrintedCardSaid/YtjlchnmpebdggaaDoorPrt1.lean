import Derived.Test.YtjlchnmpebdggaaDoorRows
import Derived.Test.YtjlchnmpebdggaaDoorPrt0
import Derived.ChangeArms
import Derived.SizedLaws
import Derived.Orders
import Derived.Tactics
import Derived.Test.YtjlchnmpebdggaaDoorProg
import Derived.Below
import Derived.Deep.Draws
import Derived.Deep.AppendLies
import Derived.Maps.AppendAt
import Derived.OwnWalk
import Derived.Laws.BytesArg
import Derived.Laws.MakeOwn
import Derived.Laws.OwnMore
import Derived.Deep.OwnRows
import Derived.Lib.ConvBytes
import Derived.Laws.Slices
import Derived.WalkKit
import Derived.KernelRfl
import Derived.RowKit3
import Derived.Deep.LoopGhost
import Derived.Deep.QuietTactic
import Derived.BigQuiet
import Derived.WideLaws
import Derived.Deep.DeepCutAuto
import Derived.Deep.CutBlock
import Derived.Deep.RegionHeld3
import Derived.Laws.Rows
import Derived.Lib.AppendStr
import Derived.ArgAppend
import Derived.Laws.IdiomCopy
import Derived.OrdersHeld
import Derived.Laws.BitsLemmas
import Derived.RowKit
import Derived.Lib.Hide
import Derived.IntWalk
import Derived.Laws.IdiomStrings
import Derived.DataShut
section
namespace Go.Proofs.YtjlchnmpebdggaaDoor.Op
open Go.Proofs.YtjlchnmpebdggaaDoorW.PrintWords
open Go.Proofs.YtjlchnmpebdggaaDoor.Rows (uptoBulk uptoBulkAll)
theorem mem_each {H : Type} {P : Program} : ∀ {ts : List TypeId} {ds : List (DataW H)} {j : Nat} {t : TypeId} {d : DataW H} {n : Nat}, ts[j]? = some t → ds[j]? = some d → n ∈ d.weights P t → n ∈ DataW.weightsEach P ts ds :=
  fun ht hd hn => DataW.weights_mem_each ht hd _ hn
def Opens (P : Program) (t : TypeId) {α : Type} (d : Kd α) (good : α → Prop) (bulk : α → Nat) : Prop :=
  ∀ (H : Type) (enc : TypeId × Value → H) (w : World) (base : Nat) (spare : Nat → Bool) (held : Bool) (fuel : Nat) (cs : List Value) (x : DataW H × List MemPlace),
    DataW.trod enc P w base spare held fuel t cs = some x → (∀ n ∈ x.1.weights P t, n ≤ reachBytes) → ∃ y : α, d.K w y cs ∧ good y ∧ bulk y ≤ uptoBulk x.1
theorem op_int {P : Program} {t : TypeId} {k : IntKind} (ht : P.underlying t = some (.int k)) : Opens P t (Kd.int k) (fun n => (Lit.int k n).wf = true) (fun _ => 1) := by
  intro H enc w base spare held fuel cs x h _
  obtain ⟨n, rfl, rfl, hw⟩ := DataW.trod_int ht h
  exact ⟨n, rfl, hw, by simp [uptoBulk]⟩
def OpensF (P : Program) (fs : List Field) (off : Nat) {α : Type} (d : Kd α) (good : α → Prop) (bulk : α → Nat) : Prop :=
  ∀ (H : Type) (enc : TypeId × Value → H) (w : World) (base : Nat) (spare : Nat → Bool) (held : Bool) (fuel : Nat) (cs : List Value) (xs : List (DataW H × List MemPlace)), off + d.sz ≤ cs.length →
    xs.length = fs.length → (∀ (i : Nat) (f : Field), fs[i]? = some f → DataW.trod enc P w base spare held fuel f.type ((cs.drop f.offset).take (P.cellsOf f.type)) = xs[i]?) →
    (∀ (i : Nat) (f : Field) y, fs[i]? = some f → xs[i]? = some y → ∀ n ∈ y.1.weights P f.type, n ≤ reachBytes) → ∃ y : α, d.K w y ((cs.drop off).take d.sz) ∧ good y ∧ bulk y ≤ uptoBulkAll (xs.map (·.1))
theorem op_last {P : Program} {f : Field} {off : Nat} {α : Type} {d : Kd α} {good : α → Prop} {bulk : α → Nat} (hf : f.offset = off) (hc : P.cellsOf f.type = d.sz) (ho : Opens P f.type d good bulk) : OpensF P [f] off d good bulk := by
  intro H enc w base spare held fuel cs xs _ hl hx hr
  match xs, hl with
  | [x], _ =>
    have h := hx 0 f rfl
    rw [hf, hc] at h
    obtain ⟨y, h1, h2, h3⟩ := ho H enc w base spare held fuel _ x h (hr 0 f x rfl rfl)
    refine ⟨y, h1, h2, ?_⟩
    simp only [List.map_cons, List.map_nil, uptoBulkAll]
    omega
theorem op_more {P : Program} {f : Field} {fs : List Field} {off : Nat} {α β : Type} {a : Kd α} {b : Kd β} {ga : α → Prop} {gb : β → Prop} {ba : α → Nat} {bb : β → Nat} (hf : f.offset = off) (hc : P.cellsOf f.type = a.sz)
    (ho : Opens P f.type a ga ba) (hm : OpensF P fs (off + a.sz) b gb bb) : OpensF P (f :: fs) off (Kd.pair a b) (fun z => ga z.1 ∧ gb z.2) (fun z => ba z.1 + bb z.2) := by
  intro H enc w base spare held fuel cs xs hcs hl hx hr
  have hsz : (Kd.pair a b).sz = a.sz + b.sz := rfl
  rw [hsz] at hcs
  match xs, hl with
  | x :: xr, hl =>
    have h := hx 0 f rfl
    rw [hf, hc] at h
    obtain ⟨y, h1, h2, h3⟩ := ho H enc w base spare held fuel _ x h (hr 0 f x rfl rfl)
    obtain ⟨z, k1, k2, k3⟩ := hm H enc w base spare held fuel cs xr (by omega) (by simpa using hl) (fun i g hg => by simpa using hx (i + 1) g (by simpa using hg)) (fun i g y hg hy => hr (i + 1) g y (by simpa using hg) (by simpa using hy))
    refine ⟨(y, z), ⟨_, _, ?_, h1, k1⟩, ⟨h2, k2⟩, ?_⟩
    · rw [hsz, List.take_add, List.drop_drop]
    · simp only [List.map_cons, uptoBulkAll]
      omega
theorem op_struct {P : Program} {t : TypeId} {fs : Array Field} {α β : Type} {d : Kd α} {good : α → Prop} {bulk : α → Nat} (f : β → α) (g : α → β) (hfg : ∀ y, f (g y) = y) (ht : P.underlying t = some (.struct fs)) (hc : P.cellsOf t = d.sz)
    (ho : OpensF P fs.toList 0 d good bulk) : Opens P t (Kd.iso d f) (fun x => good (f x)) (fun x => bulk (f x) + 1) := by
  intro H enc w base spare held fuel cs x h hr
  obtain ⟨xs, n, _, rfl, hcl, hxl, hx⟩ := DataW.trod_struct ht h
  obtain ⟨y, h1, h2, h3⟩ := ho H enc w base spare held n cs xs (by omega) (by rw [hxl]; simp) (fun i q hq => hx i q (by simpa using hq)) (fun i q y hq hy m hm => hr m (by
    simp only [DataW.weights, ht]
    refine mem_each (j := i) (t := q.type) (d := y.1) ?_ ?_ hm
    · rw [List.getElem?_map, hq]; rfl
    · rw [List.getElem?_map, hy]; rfl))
  refine ⟨g y, ?_, by show good (f (g y)); rw [hfg]; exact h2, ?_⟩
  · show d.K w (f (g y)) cs
    rw [hfg]
    have e : (cs.drop 0).take d.sz = cs := by rw [List.drop_zero, List.take_of_length_le (by omega)]
    rw [e] at h1
    exact h1
  · show bulk (f (g y)) + 1 ≤ _
    rw [hfg]
    simp only [uptoBulk]
    omega
end Go.Proofs.YtjlchnmpebdggaaDoor.Op
end
section
namespace Go.Proofs.YtjlchnmpebdggaaDoor
open Go.Proofs.YtjlchnmpebdggaaDoorW.PrintLast
theorem pu_ {P : Program} {md : Region.Mode} {ops : Array Oper} {Q : Exit → Act → World → Prop} {S : World → Prop} {ds : List Nat} {oi : Oper} {fuel : Nat} {l : Array Bool} {a : Act} {w : World} (i : Nat) (N : Option Tmp) (v : Value) (l' : Array Bool) (hi : ops[i]? = some oi) (hN : oi.dst = N) (hc : anyB md ops l l' i = true)
    (hQ : ∀ c a w, Q (.panic c) (a.put oi.dst v) w → Q (.panic c) a w) (hy : Yields P ops oi v a) (a' : Act) (ha : a.put N v = a')
    (h : wpAnyLast P md ops Q S ds fuel l' a' w) : wpAnyLast P md ops Q S ds (fuel + 1) l a w := pure_ l' hi hN hc hQ hy ha h
def bs_ (k n : Nat) : Array Bool := (List.replicate k true ++ List.replicate n false).toArray
section
variable {P : Program} {ops : Array Oper}
theorem y_ {o : Oper} {v : Value} {a : Act} (h : Region.wanted o (yielded ops a.tmps) = true) (h2 : ∀ w, (execOp a.eval o).run P w = .ok (.value v) w) : Yields P ops o v a := Or.inl ⟨h, h2⟩
end
theorem s1_ {α : Type _} {l : List α} {i : Nat} {a : α} : l.toArray.setIfInBounds i a = (l.set i a).toArray := List.setIfInBounds_toArray _ _ _
theorem s2_ {α : Type _} {a b : α} {l : List α} : (a :: l).set 0 b = b :: l := List.set_cons_zero
theorem s3_ {α : Type _} {a b : α} {l : List α} {i : Nat} : (a :: l).set (i + 1) b = a :: l.set i b := List.set_cons_succ
end Go.Proofs.YtjlchnmpebdggaaDoor
end
section
namespace Go.Proofs.YtjlchnmpebdggaaDoor.Mo
open Go.RowKit Go.Proofs.YtjlchnmpebdggaaDoorW.PrintWords Go.Proofs.YtjlchnmpebdggaaDoorW.PrintLast Go.Proofs.YtjlchnmpebdggaaDoorW.PrintMore
attribute [local go_sem] max2_int min2_int max_two min_two max_three min_three max_four min_four   -- for this text's walks alone
set_option linter.unusedVariables false
set_option linter.unusedSimpArgs false
def errW : Option Int → Value
  | none => .nilIface
  | some c => .iface 0 (.int .i64 c)
theorem errW_none : errW none = .nilIface := rfl
theorem errW_some (c : Int) : errW (some c) = .iface 0 (.int .i64 c) := rfl
structure S23 where
  f0 : Int
  f1 : Int
  f2 : Int
  f3 : Int
  f4 : Int
  f5 : Int
  f6 : Int
def k23 : Kd S23 := Kd.iso (Kd.pair (Kd.int .i64) (Kd.pair (Kd.int .i64) (Kd.pair (Kd.int .i64) (Kd.pair (Kd.int .i64) (Kd.pair (Kd.int .i64) (Kd.pair (Kd.int .i64) (Kd.int .i64))))))) (fun x : S23 => (x.f0, x.f1, x.f2, x.f3, x.f4, x.f5, x.f6))
theorem k23_open {w : World} {x : S23} {cs : List Value} (h : k23.K w x cs) : cs = [.int .i64 x.f0, .int .i64 x.f1, .int .i64 x.f2, .int .i64 x.f3, .int .i64 x.f4, .int .i64 x.f5, .int .i64 x.f6] := by
  obtain ⟨_, _, rfl, rfl, ⟨_, _, rfl, rfl, ⟨_, _, rfl, rfl, ⟨_, _, rfl, rfl, ⟨_, _, rfl, rfl, ⟨_, _, rfl, rfl, rfl⟩⟩⟩⟩⟩⟩ := h
  exact rfl
structure S95 where
  f0 : Int
  f1 : ByteArray
end Go.Proofs.YtjlchnmpebdggaaDoor.Mo
end
section
namespace Go.Proofs.YtjlchnmpebdggaaDoor.Mo
open Go.RowKit Go.Proofs.YtjlchnmpebdggaaDoorW.PrintWords Go.Proofs.YtjlchnmpebdggaaDoorW.PrintLast Go.Proofs.YtjlchnmpebdggaaDoorW.PrintMore
attribute [local go_sem] max2_int min2_int max_two min_two max_three min_three max_four min_four   -- for this text's walks alone
set_option linter.unusedVariables false
set_option linter.unusedSimpArgs false
end Go.Proofs.YtjlchnmpebdggaaDoor.Mo
end
section
namespace Go.Proofs.YtjlchnmpebdggaaDoor.Mo
open Go.RowKit Go.Proofs.YtjlchnmpebdggaaDoorW.PrintWords
theorem eqA23 (d : Nat) (w : World) (x0 y0 : Int) (x1 y1 : Int) (x2 y2 : Int) (x3 y3 : Int) (x4 y4 : Int) (x5 y5 : Int) (x6 y6 : Int) :
    (Op.equalIn (d + 2) 23 (.agg #[.int .i64 x0, .int .i64 x1, .int .i64 x2, .int .i64 x3, .int .i64 x4, .int .i64 x5, .int .i64 x6]) (.agg #[.int .i64 y0, .int .i64 y1, .int .i64 y2, .int .i64 y3, .int .i64 y4, .int .i64 y5, .int .i64 y6])).run Tryd.prog w = .ok (x0 == y0 && (x1 == y1 && (x2 == y2 && (x3 == y3 && (x4 == y4 && (x5 == y5 && (x6 == y6))))))) w := by
  refine eqA_of Tryd.underlying23 (by kernel_rfl) ?_
  refine eqf_cons (by rfl) (by go_simp; rfl) (by go_simp; rfl) (by go_simp) ?_
  refine eqf_cons (by rfl) (by go_simp; rfl) (by go_simp; rfl) (by go_simp) ?_
  refine eqf_cons (by rfl) (by go_simp; rfl) (by go_simp; rfl) (by go_simp) ?_
  refine eqf_cons (by rfl) (by go_simp; rfl) (by go_simp; rfl) (by go_simp) ?_
  refine eqf_cons (by rfl) (by go_simp; rfl) (by go_simp; rfl) (by go_simp) ?_
  refine eqf_cons (by rfl) (by go_simp; rfl) (by go_simp; rfl) (by go_simp) ?_
  exact eqf_last (by rfl) (by go_simp; rfl) (by go_simp; rfl) (by go_simp)
end Go.Proofs.YtjlchnmpebdggaaDoor.Mo
end
section
namespace Go.Proofs.YtjlchnmpebdggaaDoor.Mo
open Go.RowKit Go.Proofs.YtjlchnmpebdggaaDoorW.PrintWords Go.Proofs.YtjlchnmpebdggaaDoorW.PrintLast Go.Proofs.YtjlchnmpebdggaaDoorW.PrintMore
attribute [local go_sem] max2_int min2_int max_two min_two max_three min_three max_four min_four   -- for this text's walks alone
set_option linter.unusedVariables false
set_option linter.unusedSimpArgs false
def moment_two.f (a0 : Int) : Option (ByteArray) := some (strOfNums (([(wrap64 (48 + (wrap64 (Int.tdiv a0 10)))) % 256, (wrap64 (48 + (Int.tmod a0 10))) % 256] : List Int)))
set_option maxHeartbeats 8000000 in
set_option maxRecDepth 100000 in
theorem moment_two.calls (a0 : Int) (r : ByteArray) (w : World) (h : moment_two.f a0 = some r) :
  Calls Tryd.prog 87 #[.int .i64 a0] w fun e w' => e = .returned (.string r) ∧ Below w.heap.size w w' := by
 have HB := Aside0.mk (Below.refl w.heap.size w)
 have H : (some (strOfNums (([(wrap64 (48 + (wrap64 (Int.tdiv a0 10)))) % 256, (wrap64 (48 + (Int.tmod a0 10))) % 256] : List Int)))) = some r := h
 clear h
 obtain ⟨y128, hy128⟩ : ∃ y_ : List Int, y_ = (([(wrap64 (48 + (wrap64 (Int.tdiv a0 10)))) % 256, (wrap64 (48 + (Int.tmod a0 10))) % 256] : List Int)) := ⟨_, rfl⟩
 replace H : (some (strOfNums y128)) = some r := by first | (rw [hy128]; with_reducible exact H) | (have H2_ := (Option.bind_some _ _).symm.trans H; rw [hy128]; with_reducible exact H2_) | (have H2_ := (Option.bind_some _ _).symm.trans H; with_reducible exact H2_) | with_reducible exact H | (rw [hy128]; exact H) | exact H
 have Ny128 := Aside0.mk hy128
 clear hy128
 obtain rfl := Option.some.inj H
 go_enter Tryd.func87, Tryd.ntmps87
 go_wp2_with (first | ((with_reducible refine gate_dst (N := 11) rfl ?_); refine Kd.R_lit (Kd.int .u8) _ 5 ?hg (N := 11) ?hd (xs := ([(wrap64 (48 + (wrap64 (Int.tdiv a0 10)))) % 256, (wrap64 (48 + (Int.tmod a0 10))) % 256] : List Int)) (inner := [.int .u8 ((wrap64 (48 + (wrap64 (Int.tdiv a0 10)))) % 256), .int .u8 ((wrap64 (48 + (Int.tmod a0 10))) % 256)]) (ok := fun _ => True) (okp := fun _ => True) ?hr ?hp (fun _ hk => hk) trivial (Below.refl _ _) (Nat.le_refl _) (by simp) ?_; (case hd => rfl); (case hg => rfl); (case hr => first | (go_simp; done) | (go_simp; rfl)); (case hp => exact (Reps.one (show Kd.M (Kd.int .u8) _ _ _ ((wrap64 (48 + (wrap64 (Int.tdiv a0 10)))) % 256) [.int .u8 ((wrap64 (48 + (wrap64 (Int.tdiv a0 10)))) % 256)] from rfl) (Reps.one (show Kd.M (Kd.int .u8) _ _ _ ((wrap64 (48 + (Int.tmod a0 10))) % 256) [.int .u8 ((wrap64 (48 + (Int.tmod a0 10))) % 256)] from rfl) (Reps.none _ _)))); intro v129 w2 ho3 hb hg_ hnew_; clear hg_ hnew_; (first | rw [← Ny128.out] at ho3 | (simp only [Int.reduceToNat] at ho3; rw [← Ny128.out] at ho3)); have n0_ := Aside0.mk (Kd.R_lower ho3 (below_size (by repeat (first | (with_reducible first | exact HB.out | apply below_alloc | apply pw_below_drewN | apply below_drew1) | exact HB.out)))); have n1_ := Aside0.mk (below_step (by repeat (first | (with_reducible first | exact HB.out | apply below_alloc | apply pw_below_drewN | apply below_drew1) | exact HB.out)) hb); clear HB; have HO130 := n0_; have HB := n1_; clear n0_ n1_; clear hb ho3; have hcv4 := own_string (P := Tryd.prog) Tryd.underlying58 Tryd.underlying5 Tryd.underlying9 (Kd.own_of_R HO130.out)))
 go_ret
 exact ⟨by first | rfl | (simp [errW_none, errW_some] <;> rfl) | (simp [*, errW_none, errW_some] <;> rfl), by repeat (first | (with_reducible first | exact HB.out | apply below_alloc | apply pw_below_drewN | apply below_drew1) | exact HB.out)⟩
def moment_plain.f (a0 : Int) : Option (ByteArray) := (moment_two.f a0).bind fun t131 => (if 0 < (t131.size : Int) then (if (bt t131 0) = 48 then (if 1 ≤ (t131.size : Int) then (some (t131.extract 1 t131.size)) else (none)) else (some t131)) else (none))
set_option maxHeartbeats 8000000 in
set_option maxRecDepth 100000 in
theorem moment_plain.calls (a0 : Int) (r : ByteArray) (w : World) (h : moment_plain.f a0 = some r) :
  Calls Tryd.prog 49 #[.int .i64 a0] w fun e w' => e = .returned (.string r) ∧ Below w.heap.size w w' := by
 have HB := Aside0.mk (Below.refl w.heap.size w)
 have H : ((moment_two.f a0).bind fun t131 => (if 0 < (t131.size : Int) then (if (bt t131 0) = 48 then (if 1 ≤ (t131.size : Int) then (some (t131.extract 1 t131.size)) else (none)) else (some t131)) else (none))) = some r := h
 clear h
 replace H := Option.bind_eq_some_iff.mp H
 obtain ⟨t131, A20, H⟩ := H
 replace H : (if 0 < (t131.size : Int) then (if (bt t131 0) = 48 then (if 1 ≤ (t131.size : Int) then (some (t131.extract 1 t131.size)) else (none)) else (some t131)) else (none)) = some r := H
 have A2 := Aside0.mk A20
 clear A20
 by_cases c3 : 0 < (t131.size : Int)
 ·rw [if_pos c3] at H
  have c3b0 : decide (0 < (t131.size : Int)) = true := decide_eq_true c3
  have c3b1 : decide (0 < t131.size) = true := decide_eq_true (by omega)
  clear c3
  by_cases c5 : (bt t131 0) = 48
  ·rw [if_pos c5] at H
   have c5b0 : ((bt t131 0) == 48) = true := beq_iff_eq.mpr c5
   have c5b1 : ((bt t131 0) != 48) = false := bne_eq_false_iff_eq.mpr c5
   clear c5
   by_cases c6 : 1 ≤ (t131.size : Int)
   ·rw [if_pos c6] at H
    have c6b0 := eq_true c6
    have c6b1 : decide (1 ≤ (t131.size : Int)) = true := decide_eq_true c6
    clear c6
    obtain rfl := Option.some.inj H
    go_enter Tryd.func49, Tryd.ntmps49
    go_wp2_with (first | ((with_reducible refine gate_callee (f := 87) rfl ?_); refine goesL_ (some 5) rfl rfl Tryd.func87 (by kernel_rfl) rfl #[.int .i64 a0] rfl (by (try simp only [List.map_toArray, List.map_cons, List.map_nil]); first | done | rfl | (simp only [List.length_drop, List.length_take]; rfl)) ?_; (with_reducible refine (moment_two.calls a0 t131 _ A2.out).mono ?_); rintro e w7 ⟨rfl, hb⟩; refine ⟨_, rfl, ?_⟩; have n0_ := Aside0.mk (below_step (by repeat (first | (with_reducible first | exact HB.out | apply below_alloc | apply pw_below_drewN | apply below_drew1) | exact HB.out)) hb); clear HB; have HB := n0_; clear n0_; (try clear hb); (try clear hb2); (try clear hk); (try clear hi); have p4 : 0 ≤ (0 : Int) := (by omega); have q4 : 0 < t131.size := (by have : (0 : Int) < (t131.size : Int) := of_decide_eq_true (by first | (with_reducible assumption) | assumption); omega); have hx4 : ∀ h : 0 < t131.size, ((t131[0]'h).toNat : Int) = bt t131 0 := bt_at t131 0; clear p4; have qi4 : (0 < (t131.size : Int)) = True := eq_true (of_decide_eq_true (by first | (with_reducible assumption) | assumption)); replace q4 := eq_true q4))
    go_ret
    exact ⟨by first | rfl | (simp [errW_none, errW_some] <;> rfl) | (simp [*, errW_none, errW_some] <;> rfl), by repeat (first | (with_reducible first | exact HB.out | apply below_alloc | apply pw_below_drewN | apply below_drew1) | exact HB.out)⟩
   ·rw [if_neg c6] at H
    exact absurd H (by simp)
  ·rw [if_neg c5] at H
   have c5b0 : ((bt t131 0) == 48) = false := beq_eq_false_iff_ne.mpr c5
   have c5b1 : ((bt t131 0) != 48) = true := bne_iff_ne.mpr c5
   obtain rfl := Option.some.inj H
   go_enter Tryd.func49, Tryd.ntmps49
   go_wp2_with (first | ((with_reducible refine gate_callee (f := 87) rfl ?_); refine goesL_ (some 5) rfl rfl Tryd.func87 (by kernel_rfl) rfl #[.int .i64 a0] rfl (by (try simp only [List.map_toArray, List.map_cons, List.map_nil]); first | done | rfl | (simp only [List.length_drop, List.length_take]; rfl)) ?_; (with_reducible refine (moment_two.calls a0 t131 _ A2.out).mono ?_); rintro e w8 ⟨rfl, hb⟩; refine ⟨_, rfl, ?_⟩; have n0_ := Aside0.mk (below_step (by repeat (first | (with_reducible first | exact HB.out | apply below_alloc | apply pw_below_drewN | apply below_drew1) | exact HB.out)) hb); clear HB; have HB := n0_; clear n0_; (try clear hb); (try clear hb2); (try clear hk); (try clear hi); have p4 : 0 ≤ (0 : Int) := (by omega); have q4 : 0 < t131.size := (by have : (0 : Int) < (t131.size : Int) := of_decide_eq_true (by first | (with_reducible assumption) | assumption); omega); have hx4 : ∀ h : 0 < t131.size, ((t131[0]'h).toNat : Int) = bt t131 0 := bt_at t131 0; clear p4; have qi4 : (0 < (t131.size : Int)) = True := eq_true (of_decide_eq_true (by first | (with_reducible assumption) | assumption)); replace q4 := eq_true q4))
   go_ret
   exact ⟨by first | rfl | (simp [errW_none, errW_some] <;> rfl) | (simp [*, errW_none, errW_some] <;> rfl), by repeat (first | (with_reducible first | exact HB.out | apply below_alloc | apply pw_below_drewN | apply below_drew1) | exact HB.out)⟩
 ·rw [if_neg c3] at H
  exact absurd H (by simp)
def moment_four.f (a0 : Int) : Option (ByteArray) := (moment_two.f (wrap64 (Int.tdiv a0 100))).bind fun t132 => ((moment_two.f (Int.tmod a0 100)).bind fun t133 => (if t132.size + t133.size ≤ 9223372036854775807 then (some (t132 ++ t133)) else (none)))
set_option maxHeartbeats 8000000 in
set_option maxRecDepth 100000 in
theorem moment_four.calls (a0 : Int) (r : ByteArray) (w : World) (h : moment_four.f a0 = some r) :
  Calls Tryd.prog 67 #[.int .i64 a0] w fun e w' => e = .returned (.string r) ∧ Below w.heap.size w w' := by
 have HB := Aside0.mk (Below.refl w.heap.size w)
 have H : ((moment_two.f (wrap64 (Int.tdiv a0 100))).bind fun t132 => ((moment_two.f (Int.tmod a0 100)).bind fun t133 => (if t132.size + t133.size ≤ 9223372036854775807 then (some (t132 ++ t133)) else (none)))) = some r := h
 clear h
 replace H := Option.bind_eq_some_iff.mp H
 obtain ⟨t132, A20, H⟩ := H
 replace H : ((moment_two.f (Int.tmod a0 100)).bind fun t133 => (if t132.size + t133.size ≤ 9223372036854775807 then (some (t132 ++ t133)) else (none))) = some r := H
 have A2 := Aside0.mk A20
 clear A20
 replace H := Option.bind_eq_some_iff.mp H
 obtain ⟨t133, A30, H⟩ := H
 replace H : (if t132.size + t133.size ≤ 9223372036854775807 then (some (t132 ++ t133)) else (none)) = some r := H
 have A3 := Aside0.mk A30
 clear A30
 by_cases c4 : t132.size + t133.size ≤ 9223372036854775807
 ·rw [if_pos c4] at H
  have c4b0 := eq_true c4
  have c4b1 : decide (t132.size + t133.size ≤ 9223372036854775807) = true := decide_eq_true c4
  try have c4b2 : (9223372036854775807 < t132.size + t133.size) = False := eq_false (Nat.not_lt.2 c4)
  obtain rfl := Option.some.inj H
  go_enter Tryd.func67, Tryd.ntmps67
  go_wp2_with (first | ((with_reducible refine gate_callee (f := 87) rfl ?_); refine goesL_ (some 5) rfl rfl Tryd.func87 (by kernel_rfl) rfl #[.int .i64 (wrap64 (Int.tdiv a0 100))] rfl (by (try simp only [List.map_toArray, List.map_cons, List.map_nil]); first | done | rfl | (simp only [List.length_drop, List.length_take]; rfl)) ?_; (with_reducible refine (moment_two.calls (wrap64 (Int.tdiv a0 100)) t132 _ A2.out).mono ?_); rintro e w5 ⟨rfl, hb⟩; refine ⟨_, rfl, ?_⟩; have n0_ := Aside0.mk (below_step (by repeat (first | (with_reducible first | exact HB.out | apply below_alloc | apply pw_below_drewN | apply below_drew1) | exact HB.out)) hb); clear HB; have HB := n0_; clear n0_; (try clear hb); (try clear hb2); (try clear hk); (try clear hi)) | ((with_reducible refine gate_callee (f := 87) rfl ?_); refine goesL_ (some 8) rfl rfl Tryd.func87 (by kernel_rfl) rfl #[.int .i64 (Int.tmod a0 100)] rfl (by (try simp only [List.map_toArray, List.map_cons, List.map_nil]); first | done | rfl | (simp only [List.length_drop, List.length_take]; rfl)) ?_; (with_reducible refine (moment_two.calls (Int.tmod a0 100) t133 _ A3.out).mono ?_); rintro e w6 ⟨rfl, hb⟩; refine ⟨_, rfl, ?_⟩; have n0_ := Aside0.mk (below_step (by repeat (first | (with_reducible first | exact HB.out | apply below_alloc | apply pw_below_drewN | apply below_drew1) | exact HB.out)) hb); clear HB; have HB := n0_; clear n0_; (try clear hb); (try clear hb2); (try clear hk); (try clear hi)))
  go_ret
  exact ⟨by first | rfl | (simp [errW_none, errW_some] <;> rfl) | (simp [*, errW_none, errW_some] <;> rfl), by repeat (first | (with_reducible first | exact HB.out | apply below_alloc | apply pw_below_drewN | apply below_drew1) | exact HB.out)⟩
 ·rw [if_neg c4] at H
  exact absurd H (by simp)
end Go.Proofs.YtjlchnmpebdggaaDoor.Mo
end
section
namespace Go.Proofs.YtjlchnmpebdggaaDoor.Mo
open Go.RowKit Go.Proofs.YtjlchnmpebdggaaDoorW.PrintWords
def monthL : List ByteArray := [⟨#[74, 97, 110]⟩, ⟨#[70, 101, 98]⟩, ⟨#[77, 97, 114]⟩, ⟨#[65, 112, 114]⟩, ⟨#[77, 97, 121]⟩, ⟨#[74, 117, 110]⟩, ⟨#[74, 117, 108]⟩, ⟨#[65, 117, 103]⟩, ⟨#[83, 101, 112]⟩, ⟨#[79, 99, 116]⟩, ⟨#[78, 111, 118]⟩, ⟨#[68, 101, 99]⟩]
def weekL : List ByteArray := [⟨#[83, 117, 110]⟩, ⟨#[77, 111, 110]⟩, ⟨#[84, 117, 101]⟩, ⟨#[87, 101, 100]⟩, ⟨#[84, 104, 117]⟩, ⟨#[70, 114, 105]⟩, ⟨#[83, 97, 116]⟩]
theorem months_calls (w : World) : Calls Tryd.prog 66 #[] w fun e w' => e = .returned (.agg #[.string ⟨#[74, 97, 110]⟩, .string ⟨#[70, 101, 98]⟩, .string ⟨#[77, 97, 114]⟩, .string ⟨#[65, 112, 114]⟩, .string ⟨#[77, 97, 121]⟩, .string ⟨#[74, 117, 110]⟩, .string ⟨#[74, 117, 108]⟩, .string ⟨#[65, 117, 103]⟩, .string ⟨#[83, 101, 112]⟩, .string ⟨#[79, 99, 116]⟩, .string ⟨#[78, 111, 118]⟩, .string ⟨#[68, 101, 99]⟩]) ∧ Below w.heap.size w w' := by
  go_enter Tryd.func66, Tryd.ntmps66
  go_wp2
  exact bodyPost_ret (v := .agg #[.string ⟨#[74, 97, 110]⟩, .string ⟨#[70, 101, 98]⟩, .string ⟨#[77, 97, 114]⟩, .string ⟨#[65, 112, 114]⟩, .string ⟨#[77, 97, 121]⟩, .string ⟨#[74, 117, 110]⟩, .string ⟨#[74, 117, 108]⟩, .string ⟨#[65, 117, 103]⟩, .string ⟨#[83, 101, 112]⟩, .string ⟨#[79, 99, 116]⟩, .string ⟨#[78, 111, 118]⟩, .string ⟨#[68, 101, 99]⟩]) (by simp [results, Tryd.results66, go_sem]) rfl ⟨rfl, (Below.refl _ _).alloc (Nat.le_refl _) _⟩
theorem weekdays_calls (w : World) : Calls Tryd.prog 65 #[] w fun e w' => e = .returned (.agg #[.string ⟨#[83, 117, 110]⟩, .string ⟨#[77, 111, 110]⟩, .string ⟨#[84, 117, 101]⟩, .string ⟨#[87, 101, 100]⟩, .string ⟨#[84, 104, 117]⟩, .string ⟨#[70, 114, 105]⟩, .string ⟨#[83, 97, 116]⟩]) ∧ Below w.heap.size w w' := by
  go_enter Tryd.func65, Tryd.ntmps65
  go_wp2
  exact bodyPost_ret (v := .agg #[.string ⟨#[83, 117, 110]⟩, .string ⟨#[77, 111, 110]⟩, .string ⟨#[84, 117, 101]⟩, .string ⟨#[87, 101, 100]⟩, .string ⟨#[84, 104, 117]⟩, .string ⟨#[70, 114, 105]⟩, .string ⟨#[83, 97, 116]⟩]) (by simp [results, Tryd.results65, go_sem]) rfl ⟨rfl, (Below.refl _ _).alloc (Nat.le_refl _) _⟩
theorem month_index (w : World) (n : Nat) (h : n < 12) : (Instr.index 71 (.agg #[.string ⟨#[74, 97, 110]⟩, .string ⟨#[70, 101, 98]⟩, .string ⟨#[77, 97, 114]⟩, .string ⟨#[65, 112, 114]⟩, .string ⟨#[77, 97, 121]⟩, .string ⟨#[74, 117, 110]⟩, .string ⟨#[74, 117, 108]⟩, .string ⟨#[65, 117, 103]⟩, .string ⟨#[83, 101, 112]⟩, .string ⟨#[79, 99, 116]⟩, .string ⟨#[78, 111, 118]⟩, .string ⟨#[68, 101, 99]⟩]) (.int .i64 (n : Int))).run Tryd.prog w = .ok (.string (monthL.getD n ⟨#[]⟩)) w := by
  have : n = 0 ∨ n = 1 ∨ n = 2 ∨ n = 3 ∨ n = 4 ∨ n = 5 ∨ n = 6 ∨ n = 7 ∨ n = 8 ∨ n = 9 ∨ n = 10 ∨ n = 11 := by omega
  rcases this with rfl | rfl | rfl | rfl | rfl | rfl | rfl | rfl | rfl | rfl | rfl | rfl <;> (show _ = _; kernel_rfl)
theorem week_index (w : World) (n : Nat) (h : n < 7) : (Instr.index 69 (.agg #[.string ⟨#[83, 117, 110]⟩, .string ⟨#[77, 111, 110]⟩, .string ⟨#[84, 117, 101]⟩, .string ⟨#[87, 101, 100]⟩, .string ⟨#[84, 104, 117]⟩, .string ⟨#[70, 114, 105]⟩, .string ⟨#[83, 97, 116]⟩]) (.int .i64 (n : Int))).run Tryd.prog w = .ok (.string (weekL.getD n ⟨#[]⟩)) w := by
  have : n = 0 ∨ n = 1 ∨ n = 2 ∨ n = 3 ∨ n = 4 ∨ n = 5 ∨ n = 6 := by omega
  rcases this with rfl | rfl | rfl | rfl | rfl | rfl | rfl <;> (show _ = _; kernel_rfl)
theorem month_size (n : Nat) (h : n < 12) : (monthL.getD n ⟨#[]⟩).size = 3 := by
  have : n = 0 ∨ n = 1 ∨ n = 2 ∨ n = 3 ∨ n = 4 ∨ n = 5 ∨ n = 6 ∨ n = 7 ∨ n = 8 ∨ n = 9 ∨ n = 10 ∨ n = 11 := by omega
  rcases this with rfl | rfl | rfl | rfl | rfl | rfl | rfl | rfl | rfl | rfl | rfl | rfl <;> rfl
theorem week_size (n : Nat) (h : n < 7) : (weekL.getD n ⟨#[]⟩).size = 3 := by
  have : n = 0 ∨ n = 1 ∨ n = 2 ∨ n = 3 ∨ n = 4 ∨ n = 5 ∨ n = 6 := by omega
  rcases this with rfl | rfl | rfl | rfl | rfl | rfl | rfl <;> rfl
theorem month_cells {w : World} {g t : Nat} (h : w.heap[g]? = some (.cells #[.string ⟨#[74, 97, 110]⟩, .string ⟨#[70, 101, 98]⟩, .string ⟨#[77, 97, 114]⟩, .string ⟨#[65, 112, 114]⟩, .string ⟨#[77, 97, 121]⟩, .string ⟨#[74, 117, 110]⟩, .string ⟨#[74, 117, 108]⟩, .string ⟨#[65, 117, 103]⟩, .string ⟨#[83, 101, 112]⟩, .string ⟨#[79, 99, 116]⟩, .string ⟨#[78, 111, 118]⟩, .string ⟨#[68, 101, 99]⟩] t (0, 0))) (j : Nat) (x : ByteArray) (hx : monthL[j]? = some x) : w.cell? ⟨g, j, none⟩ = some (.string x) := by
  rw [cell_of_row w g j _ t (0, 0) h]
  show ((monthL.map Value.string).toArray)[j]? = _
  rw [List.getElem?_toArray, List.getElem?_map, hx]
  rfl
theorem week_cells {w : World} {g t : Nat} (h : w.heap[g]? = some (.cells #[.string ⟨#[83, 117, 110]⟩, .string ⟨#[77, 111, 110]⟩, .string ⟨#[84, 117, 101]⟩, .string ⟨#[87, 101, 100]⟩, .string ⟨#[84, 104, 117]⟩, .string ⟨#[70, 114, 105]⟩, .string ⟨#[83, 97, 116]⟩] t (0, 0))) (j : Nat) (x : ByteArray) (hx : weekL[j]? = some x) : w.cell? ⟨g, j, none⟩ = some (.string x) := by
  rw [cell_of_row w g j _ t (0, 0) h]
  show ((weekL.map Value.string).toArray)[j]? = _
  rw [List.getElem?_toArray, List.getElem?_map, hx]
  rfl
theorem month_small : ∀ x ∈ monthL, x.size ≤ 1000 := by
  intro x hx
  obtain ⟨n, hn, rfl⟩ := List.getElem_of_mem hx
  have := month_size n hn
  rw [List.getD_eq_getElem?_getD, List.getElem?_eq_getElem hn] at this
  have h2 : (monthL[n]).size = 3 := this
  omega
theorem week_small : ∀ x ∈ weekL, x.size ≤ 1000 := by
  intro x hx
  obtain ⟨n, hn, rfl⟩ := List.getElem_of_mem hx
  have := week_size n hn
  rw [List.getD_eq_getElem?_getD, List.getElem?_eq_getElem hn] at this
  have h2 : (weekL[n]).size = 3 := this
  omega
def twoP (n : Int) : ByteArray := strOfNums [(wrap64 (48 + (wrap64 (Int.tdiv n 10)))) % 256, (wrap64 (48 + (Int.tmod n 10))) % 256]
theorem two_f (n : Int) : moment_two.f n = some (twoP n) := rfl
theorem twoP_size (n : Int) : (twoP n).size = 2 := rfl
def fourP (n : Int) : ByteArray := twoP (wrap64 (Int.tdiv n 100)) ++ twoP (Int.tmod n 100)
theorem four_f (n : Int) : moment_four.f n = some (fourP n) := by
  unfold moment_four.f
  rw [two_f, two_f, Option.bind_some, Option.bind_some, if_pos (by rw [twoP_size, twoP_size]; omega)]
  rfl
theorem fourP_size (n : Int) : (fourP n).size = 4 := by unfold fourP; rw [ByteArray.size_append, twoP_size, twoP_size]
def dashP (y m : Int) : ByteArray := (⟨#[45]⟩ : ByteArray) ++ monthL.getD (m - 1).toNat ⟨#[]⟩ ++ (⟨#[45]⟩ : ByteArray) ++ fourP y
def moment_dashed.f (a0_0 a0_1 _a0_2 _a0_3 _a0_4 _a0_5 _a0_6 : Int) : Option ByteArray := if 1 ≤ a0_1 ∧ a0_1 ≤ 12 then some (dashP a0_0 a0_1) else none
set_option maxHeartbeats 1000000 in
set_option maxRecDepth 100000 in
theorem moment_dashed.calls (a0_0 a0_1 a0_2 a0_3 a0_4 a0_5 a0_6 : Int) (r : ByteArray) (w : World) (h : moment_dashed.f a0_0 a0_1 a0_2 a0_3 a0_4 a0_5 a0_6 = some r) :
    Calls Tryd.prog 50 #[.agg #[.int .i64 a0_0, .int .i64 a0_1, .int .i64 a0_2, .int .i64 a0_3, .int .i64 a0_4, .int .i64 a0_5, .int .i64 a0_6]] w fun e w' => e = .returned (.string r) ∧ Below w.heap.size w w' := by
  unfold moment_dashed.f at h
  by_cases hm : 1 ≤ a0_1 ∧ a0_1 ≤ 12
  · rw [if_pos hm] at h
    obtain rfl := Option.some.inj h
    obtain ⟨n, rfl⟩ : ∃ n : Nat, a0_1 = n + 1 := ⟨(a0_1 - 1).toNat, by omega⟩
    have hn : n < 12 := by omega
    have hd : Hid (dashP a0_0 ((n : Int) + 1) = (⟨#[45]⟩ : ByteArray) ++ monthL.getD n ⟨#[]⟩ ++ (⟨#[45]⟩ : ByteArray) ++ fourP a0_0) := by
      show dashP a0_0 ((n : Int) + 1) = _; unfold dashP; congr 4; simp
    have hn0 : (0 : Int) ≤ (n : Int) := by omega
    have hn1 : (n : Int) < 12 := by omega
    have hwr : IntKind.i64.wrap (n : Int) = (n : Int) := IntWalk.i64_in _ (by omega)
    have hms := month_size n hn
    have hfs := fourP_size a0_0
    have hix := fun w => month_index w n hn
    have hF := Lib.hid (four_f a0_0)
    generalize monthL.getD n ⟨#[]⟩ = mn at *
    generalize fourP a0_0 = fy at *
    clear h
    go_enter Tryd.func50, Tryd.ntmps50
    go_wp2_with fail
    go_region_held3 (fun w' => w'.cell? ⟨w.heap.size, 0, none⟩ = some (.int .i64 a0_0) ∧ w'.cell? ⟨w.heap.size, 1, none⟩ = some (.int .i64 ((n : Int) + 1))) (go_keep)
      (first | (go_at_call 66; refine (months_calls _).mono ?_; rintro e w1 ⟨rfl, hb1⟩; have k0 := pw_cell_below hb1 (a := ⟨w.heap.size, 0, none⟩) (v := .int .i64 a0_0) (by first | assumption | go_simp); have k1 := pw_cell_below hb1 (a := ⟨w.heap.size, 1, none⟩) (v := .int .i64 ((n : Int) + 1)) (by first | assumption | go_simp)) | (go_at_call 67; refine (moment_four.calls _ _ _ hF.out).mono ?_; rintro e w2 ⟨rfl, hb2⟩; have k2 := pw_cell_below hb2 (a := ⟨w.heap.size, 0, none⟩) (v := .int .i64 a0_0) (by first | assumption | go_simp); have k3 := pw_cell_below hb2 (a := ⟨w.heap.size, 1, none⟩) (v := .int .i64 ((n : Int) + 1)) (by first | assumption | go_simp)))
    all_goals go_wp2
    all_goals go_ret
    all_goals exact ⟨by rw [hd.out]; rfl, by repeat (first | (with_reducible first | exact Below.refl _ _ | apply below_alloc | apply pw_below_drewN | apply below_drew | refine below_step ?_ hb2 | refine below_step ?_ hb1))⟩
  · rw [if_neg hm] at h
    exact absurd h (by simp)
end Go.Proofs.YtjlchnmpebdggaaDoor.Mo
end
section
namespace Go.Proofs.YtjlchnmpebdggaaDoor.Mo
open Go.RowKit Go.Proofs.YtjlchnmpebdggaaDoorW.PrintWords
def up (c : UInt8) : UInt8 := if 97 ≤ c ∧ c ≤ 122 then c - 32 else c
def upTo (l : List UInt8) (k : Nat) : List UInt8 := (l.take k).map up ++ l.drop k
def upperP (s : ByteArray) : ByteArray := ⟨(s.data.toList.map up).toArray⟩
theorem upTo_get (l : List UInt8) (k j : Nat) : (upTo l k)[j]? = if j < k then l[j]?.map up else l[j]? := by
  unfold upTo
  by_cases h : j < k
  · rw [if_pos h]
    by_cases hj : j < l.length
    · rw [List.getElem?_append_left (by simp; omega), List.getElem?_map, List.getElem?_take, if_pos h]
    · rw [List.getElem?_append_right (by simp; omega), List.getElem?_drop, List.getElem?_eq_none (by simp; omega), List.getElem?_eq_none (by omega)]; rfl
  · rw [if_neg h]
    by_cases hj : k ≤ l.length
    · rw [List.getElem?_append_right (by simp; omega), List.getElem?_drop]
      congr 1
      simp
      omega
    · rw [List.getElem?_eq_none (by simp; omega), List.getElem?_eq_none (by omega)]
theorem upTo_all (l : List UInt8) : upTo l l.length = l.map up := by simp [upTo]
theorem up_small (c : UInt8) (h : 97 ≤ c.toNat) (h2 : c.toNat ≤ 122) : ((up c).toNat : Int) = (c.toNat : Int) - 32 := by
  have e : (97 : UInt8) ≤ c ∧ c ≤ 122 := ⟨UInt8.le_iff_toNat_le.2 h, UInt8.le_iff_toNat_le.2 h2⟩
  unfold up
  rw [if_pos e, UInt8.toNat_sub_of_le _ _ (UInt8.le_iff_toNat_le.2 (by show 32 ≤ _; omega))]
  show ((c.toNat - 32 : Nat) : Int) = _
  omega
theorem up_else (c : UInt8) (h : ¬ (97 ≤ c.toNat ∧ c.toNat ≤ 122)) : up c = c := by
  unfold up
  rw [if_neg]
  rintro ⟨h1, h2⟩
  exact h ⟨UInt8.le_iff_toNat_le.1 h1, UInt8.le_iff_toNat_le.1 h2⟩
theorem upperP_size (s : ByteArray) : (upperP s).size = s.size := by show (s.data.toList.map up).toArray.size = _; simp
set_option maxHeartbeats 1000000 in
theorem upper_calls (a : ByteArray) (w : World) (ha : a.size ≤ 140737488351232) :
    Calls Tryd.prog 94 #[.string a] w fun e w' => e = .returned (.string (upperP a)) ∧ Below w.heap.size w w' := by
  have hcv := fun w => run_bytes_of_string (P := Tryd.prog) w 9 58 5 a Tryd.underlying9 Tryd.underlying58 Tryd.underlying5
  go_enter Tryd.func94, Tryd.ntmps94
  go_wp2_with fail
  have cell0 : ∀ (j : Nat) (b : UInt8), a.data.toList[j]? = some b → (w.alloc (Obj.cells (bytesRow a (grownCap w a.size 0 5)) 5 ((bytesRow a (grownCap w a.size 0 5)).size, (bytesRow a (grownCap w a.size 0 5)).size + 1))).drew.cell? ⟨w.heap.size, j, none⟩ = some (.int .u8 b.toNat) := fun j b hj => by
    have hlt := (List.getElem?_eq_some_iff.1 hj).1
    rw [List.getElem?_eq_getElem hlt] at hj
    have hj := Option.some.inj hj
    refine (World.cell?_alloc_mark w _ _ _ j).trans ?_
    rw [bytesRow_at a _ j (by simpa using hlt)]
    rw [← hj]
    rfl
  have frz0 : ∀ j : Nat, j < a.size → (w.alloc (Obj.cells (bytesRow a (grownCap w a.size 0 5)) 5 ((bytesRow a (grownCap w a.size 0 5)).size, (bytesRow a (grownCap w a.size 0 5)).size + 1))).drew.frozen? ⟨w.heap.size, j, none⟩ = false := fun j hj => by
    refine (World.frozen?_alloc_mark w _ _ _ _ j).trans ?_
    have : (bytesRow a (grownCap w a.size 0 5)).size ≥ a.size := by unfold bytesRow; simp
    rw [decide_eq_false (by omega), Bool.false_and]
  have bel0 : Below w.heap.size w (w.alloc (Obj.cells (bytesRow a (grownCap w a.size 0 5)) 5 ((bytesRow a (grownCap w a.size 0 5)).size, (bytesRow a (grownCap w a.size 0 5)).size + 1))).drew := ((Below.refl _ w).alloc (Nat.le_refl _) _).drew
  generalize (w.alloc (Obj.cells (bytesRow a (grownCap w a.size 0 5)) 5 ((bytesRow a (grownCap w a.size 0 5)).size, (bytesRow a (grownCap w a.size 0 5)).size + 1))).drew = w0 at *
  generalize hcap : grownCap w a.size 0 5 = cap at *
  clear hcv hcap
  go_loopw [10] (fun n wr => ∃ k : Nat, k ≤ a.size ∧ n = .int .i64 k ∧ (∀ (j : Nat) (b : UInt8), (upTo a.data.toList k)[j]? = some b → wr.cell? ⟨w.heap.size, j, none⟩ = some (.int .u8 b.toNat)) ∧
      (∀ j : Nat, j < a.size → wr.frozen? ⟨w.heap.size, j, none⟩ = false) ∧ Below w.heap.size w wr) (fun n _ => a.size - (intOf n).toNat)
  case atStart => exact ⟨0, by omega, rfl, fun j b hj => cell0 j b (by simpa [upTo] using hj), frz0, bel0⟩
  case round =>
    obtain ⟨k, hk, rfl, hc, hf, hB⟩ := hrel
    have HC := Lib.hid hc
    have HF := Lib.hid hf
    have HB := Lib.hid hB
    clear cell0 frz0 bel0 hc hf hB
    by_cases hlt : k < a.size
    · have hlen : k < a.data.toList.length := by simpa using hlt
      obtain ⟨b, hb⟩ : ∃ b, a.data.toList[k]? = some b := ⟨_, List.getElem?_eq_getElem hlen⟩
      have hget : (upTo a.data.toList k)[k]? = some b := by rw [upTo_get, if_neg (by omega), hb]
      have hc := HC.out k b hget
      have hf := HF.out k hlt
      have HBB := Lib.hid hb
      have hb8 := b.toNat_lt
      clear hget hb
      by_cases hs : 97 ≤ b.toNat ∧ b.toNat ≤ 122
      · obtain ⟨h1, h2⟩ := hs
        have hup := up_small b h1 h2
        have d1 : decide ((97 : Int) ≤ (b.toNat : Int)) = true := decide_eq_true (by omega)
        have d2 : decide ((b.toNat : Int) ≤ 122) = true := decide_eq_true (by omega)
        go_wp2
        go_roundw
        case rel =>
          refine ⟨k + 1, by omega, by go_num, ?_, ?_, (HB.out.setCell (by simp) _)⟩
          · intro j b' hj
            rw [upTo_get] at hj
            by_cases q : k = j
            · subst q
              rw [if_pos (by omega), HBB.out] at hj
              obtain rfl := Option.some.inj hj
              rw [hup]
              exact World.cell?_setCell_same _ _ _ hc
            · refine (World.cell?_setCell_other _ _ _ _ (fun e => q (congrArg Addr.off e))).trans (HC.out j b' ?_)
              rw [upTo_get]
              by_cases q2 : j < k
              · rw [if_pos (by omega)] at hj; rw [if_pos q2]; exact hj
              · rw [if_neg (by omega)] at hj; rw [if_neg q2]; exact hj
          · intro j hj
            rw [World.frozen?_setCell]
            exact HF.out j hj
        case measure => simp [intOf]; omega
      · have hup := up_else b hs
        have rel : ∃ k_1 : Nat, k_1 ≤ a.size ∧ Value.int .i64 ((k : Int) + 1) = .int .i64 k_1 ∧ (∀ (j : Nat) (b : UInt8), (upTo a.data.toList k_1)[j]? = some b → wr.cell? ⟨w.heap.size, j, none⟩ = some (.int .u8 b.toNat)) ∧
            (∀ j : Nat, j < a.size → wr.frozen? ⟨w.heap.size, j, none⟩ = false) ∧ Below w.heap.size w wr := by
          refine ⟨k + 1, by omega, by go_num, ?_, HF.out, HB.out⟩
          intro j b' hj
          refine HC.out j b' ?_
          rw [upTo_get] at hj ⊢
          by_cases q : k = j
          · subst q
            rw [if_pos (by omega), HBB.out] at hj
            rw [if_neg (by omega), HBB.out]
            rw [← hj]
            simp [hup]
          · by_cases q2 : j < k
            · rw [if_pos (by omega)] at hj; rw [if_pos q2]; exact hj
            · rw [if_neg (by omega)] at hj; rw [if_neg q2]; exact hj
        have REL := Lib.hid rel
        clear rel
        by_cases h1 : 97 ≤ b.toNat
        · have d1 : decide ((97 : Int) ≤ (b.toNat : Int)) = true := decide_eq_true (by omega)
          have d2 : decide ((b.toNat : Int) ≤ 122) = false := decide_eq_false (by omega)
          go_wp2
          go_roundw
          case rel => exact REL.out
          case measure => simp [intOf]; omega
        · have d1 : decide ((97 : Int) ≤ (b.toNat : Int)) = false := decide_eq_false (by omega)
          go_wp2
          go_roundw
          case rel => exact REL.out
          case measure => simp [intOf]; omega
    · obtain rfl : k = a.size := by omega
      have hal : a.data.toList.length = a.size := by simp
      have hback : (convert 58 9 (.slice (some ⟨w.heap.size, 0, none⟩) a.size cap)).run Tryd.prog wr = .ok (.string (upperP a)) wr := by
        have HL : a.size = (a.data.toList.map up).length := by rw [List.length_map, hal]
        rw [HL]
        exact run_convert_bytes_back (P := Tryd.prog) wr 58 9 5 ⟨w.heap.size, 0, none⟩ cap (a.data.toList.map up) Tryd.underlying58 Tryd.underlying5 Tryd.underlying9 (fun j hj => by
          rw [add_plain]
          refine HC.out j _ ?_
          rw [← hal, upTo_all]
          exact List.getElem?_eq_getElem hj)
      go_wp2
      go_ret
      exact ⟨rfl, HB.out⟩
end Go.Proofs.YtjlchnmpebdggaaDoor.Mo
end
section
namespace Go.Proofs.YtjlchnmpebdggaaDoor.Mo
open Go.RowKit Go.Proofs.YtjlchnmpebdggaaDoorW.PrintWords
def placeP (t : ByteArray) : List ByteArray → Nat → Int
  | [], _ => -1
  | x :: r, k => if (upperP x).toList = (upperP t).toList then k else placeP t r (k + 1)
set_option maxHeartbeats 1000000 in
theorem place_calls (l : List ByteArray) (b cap : Nat) (s : ByteArray) (w : World) (hs : s.size ≤ 140737488351232) (hl : l.length ≤ 1000) (hx : ∀ x ∈ l, x.size ≤ 1000)
    (hc : ∀ j x, l[j]? = some x → w.cell? ⟨b, j, none⟩ = some (.string x)) (hb : b < w.heap.size) :
    Calls Tryd.prog 92 #[.slice (some ⟨b, 0, none⟩) l.length cap, .string s] w fun e w' => e = .returned (.int .i64 (placeP s l 0)) ∧ Below w.heap.size w w' := by
  have HX := Lib.hid hx
  have HC := Lib.hid hc
  clear hx hc
  go_enter Tryd.func92, Tryd.ntmps92
  go_wp2_with fail
  refine (upper_calls s _ hs).mono ?_
  rintro e w1 ⟨rfl, hB1⟩
  go_wp2_with fail
  go_loopw [11] (fun n wr => ∃ k : Nat, k ≤ l.length ∧ n = .int .i64 k ∧ placeP s l 0 = placeP s (l.drop k) k ∧ Below w.heap.size w wr) (fun n _ => l.length - (intOf n).toNat)
  case atStart => exact ⟨0, by omega, rfl, rfl, hB1⟩
  case round =>
    obtain ⟨k, hk, rfl, hp, hB⟩ := hrel
    have HB := Lib.hid hB
    have HP := Lib.hid hp
    have hsz := hB.size
    clear hB hp hB1
    by_cases hlt : k < l.length
    · have hc : wr.cell? ⟨b, k, none⟩ = some (.string l[k]) := (HB.out.cell (p := ⟨b, k, none⟩) hb).trans (HC.out k _ (List.getElem?_eq_getElem hlt))
      have hxs := HX.out l[k] (List.getElem_mem hlt)
      have hd : Hid (l.drop k = l[k] :: l.drop (k + 1)) := by show l.drop k = _; exact List.drop_eq_getElem_cons hlt
      generalize l[k] = x at *
      have hq : Hid (placeP s l 0 = if (upperP x).toList = (upperP s).toList then (k : Int) else placeP s (l.drop (k + 1)) (k + 1)) := by
        show placeP s l 0 = _; rw [HP.out, hd.out]; rfl
      by_cases he : (upperP x).toList = (upperP s).toList
      · have HE := Lib.hid he
        have hz : ((upperP x).toList == (upperP s).toList) = true := beq_iff_eq.2 he
        clear he
        go_wp2_with (go_at_call 94; refine (upper_calls _ _ (by omega)).mono ?_; rintro e w2 ⟨rfl, hB2⟩)
        go_ret
        exact ⟨by rw [hq.out, if_pos HE.out]; rfl, HB.out.trans (hB2.mono hsz)⟩
      · have HE := Lib.hid he
        have hz : ((upperP x).toList == (upperP s).toList) = false := beq_eq_false_iff_ne.2 he
        clear he
        go_wp2_with (go_at_call 94; refine (upper_calls _ _ (by omega)).mono ?_; rintro e w2 ⟨rfl, hB2⟩)
        go_roundw
        case rel => exact ⟨k + 1, by omega, by go_num, by rw [hq.out, if_neg HE.out], HB.out.trans (hB2.mono hsz)⟩
        case measure => simp [intOf]; omega
    · obtain rfl : k = l.length := by omega
      go_wp2
      go_ret
      exact ⟨by rw [HP.out, List.drop_length]; rfl, HB.out⟩
end Go.Proofs.YtjlchnmpebdggaaDoor.Mo
end
section
namespace Go.Proofs.YtjlchnmpebdggaaDoor.Mo
open Go.RowKit Go.Proofs.YtjlchnmpebdggaaDoorW.PrintWords Go.Proofs.YtjlchnmpebdggaaDoorW.PrintLast Go.Proofs.YtjlchnmpebdggaaDoorW.PrintMore
attribute [local go_sem] max2_int min2_int max_two min_two max_three min_three max_four min_four   -- for this text's walks alone
set_option linter.unusedVariables false
set_option linter.unusedSimpArgs false
def moment_leap.f (a0 : Int) : Option (Bool) := if (Int.tmod a0 4) = 0 then (if (Int.tmod a0 100) = 0 then (some ((Int.tmod a0 400) == 0)) else (some true)) else (some false)
set_option maxHeartbeats 8000000 in
set_option maxRecDepth 100000 in
theorem moment_leap.calls (a0 : Int) (r : Bool) (w : World) (h : moment_leap.f a0 = some r) :
  Calls Tryd.prog 86 #[.int .i64 a0] w fun e w' => e = .returned (.bool r) ∧ Drawn0 w w' := by
 have H : (if (Int.tmod a0 4) = 0 then (if (Int.tmod a0 100) = 0 then (some ((Int.tmod a0 400) == 0)) else (some true)) else (some false)) = some r := h
 clear h
 by_cases c2 : (Int.tmod a0 4) = 0
 ·rw [if_pos c2] at H
  have c2b0 : ((Int.tmod a0 4) == 0) = true := beq_iff_eq.mpr c2
  have c2b1 : ((Int.tmod a0 4) != 0) = false := bne_eq_false_iff_eq.mpr c2
  clear c2
  by_cases c3 : (Int.tmod a0 100) = 0
  ·rw [if_pos c3] at H
   have c3b0 : ((Int.tmod a0 100) == 0) = true := beq_iff_eq.mpr c3
   have c3b1 : ((Int.tmod a0 100) != 0) = false := bne_eq_false_iff_eq.mpr c3
   clear c3
   obtain rfl := Option.some.inj H
   go_enter Tryd.func86, Tryd.ntmps86
   go_wp2
   go_ret
   exact ⟨by first | rfl | (simp; done) | (simp [*]; done), by repeat (first | exact Drawn0.refl _ | apply Drawn0.step)⟩
  ·rw [if_neg c3] at H
   have c3b0 : ((Int.tmod a0 100) == 0) = false := beq_eq_false_iff_ne.mpr c3
   have c3b1 : ((Int.tmod a0 100) != 0) = true := bne_iff_ne.mpr c3
   obtain rfl := Option.some.inj H
   go_enter Tryd.func86, Tryd.ntmps86
   go_wp2
   go_ret
   exact ⟨by first | rfl | (simp; done) | (simp [*]; done), by repeat (first | exact Drawn0.refl _ | apply Drawn0.step)⟩
 ·rw [if_neg c2] at H
  have c2b0 : ((Int.tmod a0 4) == 0) = false := beq_eq_false_iff_ne.mpr c2
  have c2b1 : ((Int.tmod a0 4) != 0) = true := bne_iff_ne.mpr c2
  obtain rfl := Option.some.inj H
  go_enter Tryd.func86, Tryd.ntmps86
  go_wp2
  go_ret
  exact ⟨by first | rfl | (simp; done) | (simp [*]; done), by repeat (first | exact Drawn0.refl _ | apply Drawn0.step)⟩
end Go.Proofs.YtjlchnmpebdggaaDoor.Mo
end
section
namespace Go.Proofs.YtjlchnmpebdggaaDoor.Mo
open Go.RowKit Go.Proofs.YtjlchnmpebdggaaDoorW.PrintWords
def monthDays : List Int := [31, 28, 31, 30, 31, 30, 31, 31, 30, 31, 30, 31]
structure Laid (w : World) : Prop where
  lt : 0 < w.heap.size
  cell : ∀ j, j < 12 → w.cell? ⟨0, j, none⟩ = some (.int .i64 (monthDays.getD j 0))
theorem laid_below {w w1 : World} (h : Laid w) (hb : Below w.heap.size w w1) : Laid w1 :=
  ⟨Nat.lt_of_lt_of_le h.lt hb.size, fun j hj => (hb.cell (p := ⟨0, j, none⟩) h.lt).trans (h.cell j hj)⟩
theorem laid_drawn {w w1 : World} (h : Laid w) (hd : Drawn0 w w1) : Laid w1 := laid_below h hd.below
def leapB (y : Int) : Bool := y.tmod 4 == 0 && (y.tmod 100 != 0 || y.tmod 400 == 0)
theorem leap_f (y : Int) : moment_leap.f y = some (leapB y) := by
  unfold moment_leap.f leapB
  by_cases h1 : y.tmod 4 = 0
  · by_cases h2 : y.tmod 100 = 0 <;> simp [h1, h2]
  · simp [h1]
def lengthP (y m : Int) : Int := if m = 2 ∧ leapB y = true then 29 else monthDays.getD (m - 1).toNat 0
def moment_length.f (a0 a1 : Int) : Option Int := if 1 ≤ a1 ∧ a1 ≤ 12 then some (lengthP a0 a1) else none
set_option maxHeartbeats 1000000 in
theorem moment_length.calls (a0 a1 r : Int) (w : World) (h : moment_length.f a0 a1 = some r) (hL : Laid w) :
    Calls Tryd.prog 47 #[.int .i64 a0, .int .i64 a1] w fun e w' => e = .returned (.int .i64 r) ∧ Drawn0 w w' := by
  unfold moment_length.f at h
  by_cases hm : 1 ≤ a1 ∧ a1 ≤ 12
  · rw [if_pos hm] at h
    obtain rfl := Option.some.inj h
    obtain ⟨h1, h2⟩ := hm
    by_cases e2 : a1 = 2
    · subst e2
      have hl := leap_f a0
      cases hb : leapB a0 with
      | true =>
        have he : Hid (lengthP a0 2 = 29) := by show lengthP a0 2 = 29; unfold lengthP; rw [if_pos ⟨rfl, hb⟩]
        rw [hb] at hl
        have HL := Lib.hid hl
        clear hl hb h
        go_enter Tryd.func47, Tryd.ntmps47
        go_wp2_with (go_at_call 86; refine (moment_leap.calls _ _ _ HL.out).mono ?_; rintro e w' ⟨rfl, ⟨nd, rfl⟩⟩)
        go_ret
        exact ⟨by rw [he.out]; rfl, ⟨_, rfl⟩⟩
      | false =>
        have he : Hid (lengthP a0 2 = 28) := by show lengthP a0 2 = 28; unfold lengthP; rw [if_neg (by simp [hb])]; rfl
        rw [hb] at hl
        have HL := Lib.hid hl
        have hc : w.cell? ⟨0, 1, none⟩ = some (.int .i64 28) := hL.cell 1 (by decide)
        clear hl hb h hL
        go_enter Tryd.func47, Tryd.ntmps47
        go_wp2_with (go_at_call 86; refine (moment_leap.calls _ _ _ HL.out).mono ?_; rintro e w' ⟨rfl, ⟨nd, rfl⟩⟩)
        go_ret
        exact ⟨by rw [he.out]; rfl, ⟨_, rfl⟩⟩
    · have he : Hid (lengthP a0 a1 = monthDays.getD (a1 - 1).toNat 0) := by show lengthP a0 a1 = _; unfold lengthP; rw [if_neg (by simp [e2])]
      have hb : (a1 == 2) = false := by simp [e2]
      obtain ⟨n, rfl⟩ : ∃ n : Nat, a1 = n + 1 := ⟨(a1 - 1).toNat, by omega⟩
      have hc : w.cell? ⟨0, n, none⟩ = some (.int .i64 (monthDays.getD n 0)) := hL.cell n (by omega)
      have hn : n < 12 := by omega
      clear e2 h hL
      go_enter Tryd.func47, Tryd.ntmps47
      go_wp2
      go_ret
      exact ⟨by rw [he.out]; simp, ⟨0, rfl⟩⟩
  · rw [if_neg hm] at h
    exact absurd h (by simp)
end Go.Proofs.YtjlchnmpebdggaaDoor.Mo
end
