import Derived.Test.YtjlchnmpebdggaaDoorRows
import Derived.Test.YtjlchnmpebdggaaDoorGap0
import Derived.ChangeArms
import Derived.SizedLaws
import Derived.Orders
import Derived.Tactics
import Derived.Test.YtjlchnmpebdggaaDoorProg
import Derived.Below
import Derived.Deep.Draws
import Derived.Deep.AppendLies
import Derived.Maps.AppendAt
import Derived.OwnWalk
import Derived.Laws.BytesArg
import Derived.Laws.MakeOwn
import Derived.Laws.OwnMore
import Derived.Deep.OwnRows
import Derived.Lib.ConvBytes
import Derived.Laws.Slices
import Derived.WalkKit
import Derived.KernelRfl
import Derived.RowKit3
import Derived.Deep.LoopGhost
import Derived.Deep.QuietTactic
import Derived.BigQuiet
import Derived.WideLaws
import Derived.Deep.DeepCutAuto
import Derived.Deep.CutBlock
import Derived.Deep.RegionHeld3
import Derived.Laws.Rows
import Derived.Lib.AppendStr
import Derived.ArgAppend
import Derived.Laws.IdiomCopy
import Derived.OrdersHeld
import Derived.Laws.BitsLemmas
import Derived.RowKit
import Derived.Lib.SlBytesConst
import Derived.Lib.Hide
section
namespace Go.Proofs.YtjlchnmpebdggaaDoor.Op
open Go.Proofs.YtjlchnmpebdggaaDoorW.PrintWords
open Go.Proofs.YtjlchnmpebdggaaDoor.Rows (uptoBulk uptoBulkAll)
theorem mem_all {H : Type} {P : Program} {e : TypeId} : ∀ {l : List (DataW H)} {d : DataW H} {n : Nat}, d ∈ l → n ∈ d.weights P e → n ∈ DataW.weightsAll P e l
  | [], _, _, h, _ => absurd h (by simp)
  | y :: r, d, n, h, hn => by
    unfold DataW.weightsAll
    rcases List.mem_cons.1 h with rfl | h
    · exact List.mem_append_left _ hn
    · exact List.mem_append_right _ (mem_all h hn)
theorem mem_each {H : Type} {P : Program} : ∀ {ts : List TypeId} {ds : List (DataW H)} {j : Nat} {t : TypeId} {d : DataW H} {n : Nat}, ts[j]? = some t → ds[j]? = some d → n ∈ d.weights P t → n ∈ DataW.weightsEach P ts ds :=
  fun ht hd hn => DataW.weights_mem_each ht hd _ hn
def Opens (P : Program) (t : TypeId) {α : Type} (d : Kd α) (good : α → Prop) (bulk : α → Nat) : Prop :=
  ∀ (H : Type) (enc : TypeId × Value → H) (w : World) (base : Nat) (spare : Nat → Bool) (held : Bool) (fuel : Nat) (cs : List Value) (x : DataW H × List MemPlace),
    DataW.trod enc P w base spare held fuel t cs = some x → (∀ n ∈ x.1.weights P t, n ≤ reachBytes) → ∃ y : α, d.K w y cs ∧ good y ∧ bulk y ≤ uptoBulk x.1
theorem op_int {P : Program} {t : TypeId} {k : IntKind} (ht : P.underlying t = some (.int k)) : Opens P t (Kd.int k) (fun n => (Lit.int k n).wf = true) (fun _ => 1) := by
  intro H enc w base spare held fuel cs x h _
  obtain ⟨n, rfl, rfl, hw⟩ := DataW.trod_int ht h
  exact ⟨n, rfl, hw, by simp [uptoBulk]⟩
theorem op_bool {P : Program} {t : TypeId} (ht : P.underlying t = some .bool) : Opens P t Kd.bool (fun _ => True) (fun _ => 1) := by
  intro H enc w base spare held fuel cs x h _
  obtain ⟨b, rfl, rfl⟩ := DataW.trod_bool ht h
  exact ⟨b, rfl, trivial, by simp [uptoBulk]⟩
theorem op_string {P : Program} {t : TypeId} (ht : P.underlying t = some .string) : Opens P t Kd.string (fun s => s.size ≤ 140737488351232) (fun s => s.size + 1) := by
  intro H enc w base spare held fuel cs x h hr
  obtain ⟨s, rfl, rfl, hw⟩ := DataW.trod_string ht h
  refine ⟨s, rfl, ?_, by simp [uptoBulk]⟩
  have := hr s.data.toList.length (by simp [DataW.weights])
  have e : reachBytes = 140737488351232 := rfl
  rw [e] at this
  simpa using this
def sumBulk {α : Type} (f : α → Nat) : List α → Nat
  | [] => 0
  | x :: r => f x + sumBulk f r
theorem choose_list {α β : Type} {R : Nat → α → β → Prop} : ∀ (l : List β), (∀ i y, l[i]? = some y → ∃ x, R i x y) → ∃ xs : List α, xs.length = l.length ∧ ∀ i x y, xs[i]? = some x → l[i]? = some y → R i x y
  | [], _ => ⟨[], rfl, fun i x y h => by simp at h⟩
  | y :: r, h => by
    obtain ⟨x0, h0⟩ := h 0 y rfl
    obtain ⟨xs, hl, hx⟩ := choose_list (R := fun i => R (i + 1)) r (fun i y hy => h (i + 1) y hy)
    refine ⟨x0 :: xs, by simp [hl], fun i x y' hx' hy' => ?_⟩
    cases i with
    | zero => simp at hx' hy'; subst hx'; subst hy'; exact h0
    | succ i => exact hx i x y' (by simpa using hx') (by simpa using hy')
theorem sumBulk_le {α H : Type} {f : α → Nat} : ∀ (xs : List α) (ds : List (DataW H)), xs.length = ds.length → (∀ (i : Nat) x d, xs[i]? = some x → ds[i]? = some d → f x ≤ uptoBulk d) → sumBulk f xs ≤ uptoBulkAll ds
  | [], [], _, _ => by simp [sumBulk]
  | [], _ :: _, h, _ => absurd h (by simp)
  | _ :: _, [], h, _ => absurd h (by simp)
  | x :: xs, d :: ds, h, hf => by
    have h1 := hf 0 x d rfl rfl
    have h2 := sumBulk_le xs ds (by simpa using h) (fun i x d hx hd => hf (i + 1) x d hx hd)
    simp only [sumBulk, uptoBulkAll]
    omega
theorem mapM_spec {α β : Type} {f : α → Option β} : ∀ {l : List α} {cs : List β}, l.mapM f = some cs → cs.length = l.length ∧ ∀ (j : Nat) x, l[j]? = some x → f x = cs[j]?
  | [], cs, h => by
    simp at h
    subst h
    exact ⟨rfl, fun j x hx => by simp at hx⟩
  | y :: r, cs, h => by
    rw [List.mapM_cons] at h
    simp only [Option.bind_eq_bind, Option.bind_eq_some_iff, Option.pure_def, Option.some.injEq] at h
    obtain ⟨c, hc, rs, hrs, rfl⟩ := h
    obtain ⟨h1, h2⟩ := mapM_spec hrs
    refine ⟨by simp [h1], fun j x hx => ?_⟩
    cases j with
    | zero => simp at hx; subst hx; simpa using hc
    | succ j => simpa using h2 j x (by simpa using hx)
theorem cells?_spec {w : World} {base : Nat} {a : Addr} {n : Nat} {cs : List Value} (h : w.cells? base a n = some cs) : cs.length = n ∧ ∀ j u, cs[j]? = some u → w.cell? (a.add j) = some u := by
  unfold World.cells? at h
  split at h
  · obtain ⟨h1, h2⟩ := mapM_spec h
    rw [List.length_range] at h1
    refine ⟨h1, fun j u hu => ?_⟩
    have hj : j < n := by rw [← h1]; exact (List.getElem?_eq_some_iff.1 hu).1
    have := h2 j j (by rw [List.getElem?_range hj])
    rw [this, hu]
  · exact absurd h (by simp)
theorem op_slice {P : Program} {t e : TypeId} {α : Type} {d : Kd α} {good : α → Prop} {bulk : α → Nat} (ht : P.underlying t = some (.slice e)) (hc : P.cellsOf e = d.sz) (ho : Opens P e d good bulk) :
    Opens P t (Kd.slice e d) (fun xs => (∀ x ∈ xs, good x) ∧ xs.length * P.bytesOf e ≤ 140737488351232) (fun xs => sumBulk bulk xs + 1) := by
  intro H enc w base spare held fuel cs x h hr
  have er : reachBytes = 140737488351232 := rfl
  rcases DataW.trod_slice ht h with ⟨rfl, rfl⟩ | ⟨a, len, cap, elems, rest, n, _, rfl, rfl, hb, hl, hm, hlen, hel, hsp, hns⟩
  · exact ⟨[], ⟨none, 0, rfl, Nat.le_refl _, ⟨rfl, by simp, fun h => absurd h (by simp)⟩⟩, ⟨by simp, by simp⟩, by simp [sumBulk, uptoBulk]⟩
  · have hws : ∀ y ∈ elems.map (·.1), ∀ n ∈ y.weights P e, n ≤ reachBytes := fun y hy n hn => hr n (by
      simp only [DataW.weights, ht]
      exact List.mem_cons_of_mem _ (List.mem_append_left _ (mem_all hy hn)))
    have each : ∀ i y, elems[i]? = some y → ∃ x : α, (∃ c, c.length = d.sz ∧ d.K w x c ∧ ∀ j u, c[j]? = some u → w.cell? (a.add (i * d.sz + j)) = some u) ∧ good x ∧ bulk x ≤ uptoBulk y.1 := by
      intro i y hy
      have hi : i < len := by rw [← hlen]; exact (List.getElem?_eq_some_iff.1 hy).1
      have h1 := hel i hi
      rw [hy, Option.bind_eq_some_iff] at h1
      obtain ⟨c, hcs, htr⟩ := h1
      obtain ⟨x, hx, hg, hbk⟩ := ho H enc w base spare held n c y htr (fun q hq => hws y.1 (List.mem_map.2 ⟨y, List.mem_of_getElem? hy, rfl⟩) q hq)
      obtain ⟨hcl, hcell⟩ := cells?_spec hcs
      rw [hc] at hcl hcell
      refine ⟨x, ⟨c, hcl, hx, fun j u hu => ?_⟩, hg, hbk⟩
      have := hcell j u hu
      rwa [add_add] at this
    obtain ⟨xs, hxl, hx⟩ := choose_list elems each
    have hxlen : xs.length = len := hxl.trans hlen
    have hgood : ∀ x ∈ xs, good x := fun x hxm => by
      obtain ⟨i, hi⟩ := List.getElem?_of_mem hxm
      have hil : i < elems.length := by rw [← hxl]; exact (List.getElem?_eq_some_iff.1 hi).1
      exact (hx i x _ hi (List.getElem?_eq_getElem hil)).2.1
    refine ⟨xs, ⟨some a, cap, by rw [hxlen], by omega, ⟨rfl, by unfold maxLen at hm; omega, fun _ => ⟨a, rfl, fun j p hj => ?_⟩⟩⟩, ⟨hgood, ?_⟩, ?_⟩
    · have hil : j < elems.length := by rw [← hxl]; exact (List.getElem?_eq_some_iff.1 hj).1
      exact (hx j p _ hj (List.getElem?_eq_getElem hil)).1
    · have := hr (((elems.map (·.1)).length + (rest.map (·.1)).length) * P.bytesOf e) (by simp only [DataW.weights, ht]; exact List.mem_cons_self)
      rw [er, List.length_map, List.length_map, hlen] at this
      rw [hxlen]
      exact Nat.le_trans (Nat.mul_le_mul_right _ (by omega)) this
    · have h1 := sumBulk_le (f := bulk) xs (elems.map (·.1)) (by rw [List.length_map, hxl]) (fun i x d hx' hd => by
        rw [List.getElem?_map, Option.map_eq_some_iff] at hd
        obtain ⟨y, hy, rfl⟩ := hd
        exact (hx i x y hx' hy).2.2)
      simp only [uptoBulk]
      omega
def OpensF (P : Program) (fs : List Field) (off : Nat) {α : Type} (d : Kd α) (good : α → Prop) (bulk : α → Nat) : Prop :=
  ∀ (H : Type) (enc : TypeId × Value → H) (w : World) (base : Nat) (spare : Nat → Bool) (held : Bool) (fuel : Nat) (cs : List Value) (xs : List (DataW H × List MemPlace)), off + d.sz ≤ cs.length →
    xs.length = fs.length → (∀ (i : Nat) (f : Field), fs[i]? = some f → DataW.trod enc P w base spare held fuel f.type ((cs.drop f.offset).take (P.cellsOf f.type)) = xs[i]?) →
    (∀ (i : Nat) (f : Field) y, fs[i]? = some f → xs[i]? = some y → ∀ n ∈ y.1.weights P f.type, n ≤ reachBytes) → ∃ y : α, d.K w y ((cs.drop off).take d.sz) ∧ good y ∧ bulk y ≤ uptoBulkAll (xs.map (·.1))
theorem op_last {P : Program} {f : Field} {off : Nat} {α : Type} {d : Kd α} {good : α → Prop} {bulk : α → Nat} (hf : f.offset = off) (hc : P.cellsOf f.type = d.sz) (ho : Opens P f.type d good bulk) : OpensF P [f] off d good bulk := by
  intro H enc w base spare held fuel cs xs _ hl hx hr
  match xs, hl with
  | [x], _ =>
    have h := hx 0 f rfl
    rw [hf, hc] at h
    obtain ⟨y, h1, h2, h3⟩ := ho H enc w base spare held fuel _ x h (hr 0 f x rfl rfl)
    refine ⟨y, h1, h2, ?_⟩
    simp only [List.map_cons, List.map_nil, uptoBulkAll]
    omega
theorem op_more {P : Program} {f : Field} {fs : List Field} {off : Nat} {α β : Type} {a : Kd α} {b : Kd β} {ga : α → Prop} {gb : β → Prop} {ba : α → Nat} {bb : β → Nat} (hf : f.offset = off) (hc : P.cellsOf f.type = a.sz)
    (ho : Opens P f.type a ga ba) (hm : OpensF P fs (off + a.sz) b gb bb) : OpensF P (f :: fs) off (Kd.pair a b) (fun z => ga z.1 ∧ gb z.2) (fun z => ba z.1 + bb z.2) := by
  intro H enc w base spare held fuel cs xs hcs hl hx hr
  have hsz : (Kd.pair a b).sz = a.sz + b.sz := rfl
  rw [hsz] at hcs
  match xs, hl with
  | x :: xr, hl =>
    have h := hx 0 f rfl
    rw [hf, hc] at h
    obtain ⟨y, h1, h2, h3⟩ := ho H enc w base spare held fuel _ x h (hr 0 f x rfl rfl)
    obtain ⟨z, k1, k2, k3⟩ := hm H enc w base spare held fuel cs xr (by omega) (by simpa using hl) (fun i g hg => by simpa using hx (i + 1) g (by simpa using hg)) (fun i g y hg hy => hr (i + 1) g y (by simpa using hg) (by simpa using hy))
    refine ⟨(y, z), ⟨_, _, ?_, h1, k1⟩, ⟨h2, k2⟩, ?_⟩
    · rw [hsz, List.take_add, List.drop_drop]
    · simp only [List.map_cons, uptoBulkAll]
      omega
theorem op_struct {P : Program} {t : TypeId} {fs : Array Field} {α β : Type} {d : Kd α} {good : α → Prop} {bulk : α → Nat} (f : β → α) (g : α → β) (hfg : ∀ y, f (g y) = y) (ht : P.underlying t = some (.struct fs)) (hc : P.cellsOf t = d.sz)
    (ho : OpensF P fs.toList 0 d good bulk) : Opens P t (Kd.iso d f) (fun x => good (f x)) (fun x => bulk (f x) + 1) := by
  intro H enc w base spare held fuel cs x h hr
  obtain ⟨xs, n, _, rfl, hcl, hxl, hx⟩ := DataW.trod_struct ht h
  obtain ⟨y, h1, h2, h3⟩ := ho H enc w base spare held n cs xs (by omega) (by rw [hxl]; simp) (fun i q hq => hx i q (by simpa using hq)) (fun i q y hq hy m hm => hr m (by
    simp only [DataW.weights, ht]
    refine mem_each (j := i) (t := q.type) (d := y.1) ?_ ?_ hm
    · rw [List.getElem?_map, hq]; rfl
    · rw [List.getElem?_map, hy]; rfl))
  refine ⟨g y, ?_, by show good (f (g y)); rw [hfg]; exact h2, ?_⟩
  · show d.K w (f (g y)) cs
    rw [hfg]
    have e : (cs.drop 0).take d.sz = cs := by rw [List.drop_zero, List.take_of_length_le (by omega)]
    rw [e] at h1
    exact h1
  · show bulk (f (g y)) + 1 ≤ _
    rw [hfg]
    simp only [uptoBulk]
    omega
end Go.Proofs.YtjlchnmpebdggaaDoor.Op
end
section
namespace Go.Proofs.YtjlchnmpebdggaaDoor
open Go.Proofs.YtjlchnmpebdggaaDoorW.PrintLast
theorem pu_ {P : Program} {md : Region.Mode} {ops : Array Oper} {Q : Exit → Act → World → Prop} {S : World → Prop} {ds : List Nat} {oi : Oper} {fuel : Nat} {l : Array Bool} {a : Act} {w : World} (i : Nat) (N : Option Tmp) (v : Value) (l' : Array Bool) (hi : ops[i]? = some oi) (hN : oi.dst = N) (hc : anyB md ops l l' i = true)
    (hQ : ∀ c a w, Q (.panic c) (a.put oi.dst v) w → Q (.panic c) a w) (hy : Yields P ops oi v a) (a' : Act) (ha : a.put N v = a')
    (h : wpAnyLast P md ops Q S ds fuel l' a' w) : wpAnyLast P md ops Q S ds (fuel + 1) l a w := pure_ l' hi hN hc hQ hy ha h
def bs_ (k n : Nat) : Array Bool := (List.replicate k true ++ List.replicate n false).toArray
section
variable {P : Program} {ops : Array Oper}
theorem y_ {o : Oper} {v : Value} {a : Act} (h : Region.wanted o (yielded ops a.tmps) = true) (h2 : ∀ w, (execOp a.eval o).run P w = .ok (.value v) w) : Yields P ops o v a := Or.inl ⟨h, h2⟩
end
theorem s1_ {α : Type _} {l : List α} {i : Nat} {a : α} : l.toArray.setIfInBounds i a = (l.set i a).toArray := List.setIfInBounds_toArray _ _ _
theorem s2_ {α : Type _} {a b : α} {l : List α} : (a :: l).set 0 b = b :: l := List.set_cons_zero
theorem s3_ {α : Type _} {a b : α} {l : List α} {i : Nat} : (a :: l).set (i + 1) b = a :: l.set i b := List.set_cons_succ
end Go.Proofs.YtjlchnmpebdggaaDoor
end
section
namespace Go.Proofs.YtjlchnmpebdggaaDoor.Mo
open Go.RowKit Go.Proofs.YtjlchnmpebdggaaDoorW.PrintWords Go.Proofs.YtjlchnmpebdggaaDoorW.PrintLast Go.Proofs.YtjlchnmpebdggaaDoorW.PrintMore
attribute [local go_sem] max2_int min2_int max_two min_two max_three min_three max_four min_four   -- for this text's walks alone
set_option linter.unusedVariables false
set_option linter.unusedSimpArgs false
def errW : Option Int → Value
  | none => .nilIface
  | some c => .iface 0 (.int .i64 c)
theorem errW_none : errW none = .nilIface := rfl
theorem errW_some (c : Int) : errW (some c) = .iface 0 (.int .i64 c) := rfl
theorem info5 : (Tryd.prog.info? 5).map (fun i => (i.zero, i.size, i.bytes)) = some (some (.int .u8 0), 1, 1) := by kernel_rfl
structure S23 where
  f0 : Int
  f1 : Int
  f2 : Int
  f3 : Int
  f4 : Int
  f5 : Int
  f6 : Int
def k23 : Kd S23 := Kd.iso (Kd.pair (Kd.int .i64) (Kd.pair (Kd.int .i64) (Kd.pair (Kd.int .i64) (Kd.pair (Kd.int .i64) (Kd.pair (Kd.int .i64) (Kd.pair (Kd.int .i64) (Kd.int .i64))))))) (fun x : S23 => (x.f0, x.f1, x.f2, x.f3, x.f4, x.f5, x.f6))
theorem k23_open {w : World} {x : S23} {cs : List Value} (h : k23.K w x cs) : cs = [.int .i64 x.f0, .int .i64 x.f1, .int .i64 x.f2, .int .i64 x.f3, .int .i64 x.f4, .int .i64 x.f5, .int .i64 x.f6] := by
  obtain ⟨_, _, rfl, rfl, ⟨_, _, rfl, rfl, ⟨_, _, rfl, rfl, ⟨_, _, rfl, rfl, ⟨_, _, rfl, rfl, ⟨_, _, rfl, rfl, rfl⟩⟩⟩⟩⟩⟩ := h
  exact rfl
structure S95 where
  f0 : Int
  f1 : ByteArray
end Go.Proofs.YtjlchnmpebdggaaDoor.Mo
end
section
namespace Go.Proofs.YtjlchnmpebdggaaDoor.Mo
open Go.RowKit Go.Proofs.YtjlchnmpebdggaaDoorW.PrintWords
def RB (w : World) (base : Nat) (v : Value) (xs : List Int) : Prop :=
  (Kd.int .u8).R 5 w base (fun _ => True) v xs ∨ (xs = [40] ∧ ∃ g, base ≤ g ∧ v = .slice (some ⟨g, 0, none⟩) 1 1 ∧ w.heap[g]? = some (.cells #[.int .u8 40] 5 (1, 2)))
theorem RB_drewN {w : World} {base : Nat} {v : Value} {xs : List Int} (h : RB w base v xs) (n : Nat) : RB (w.drewN n) base v xs := by
  rcases h with h | h
  · exact .inl (Kd.R_drewN h n)
  · exact .inr h
section
variable {ops : Array Oper} {rest : List Oper} {o : Oper} {a : Act} {Q : Exit → Act → World → Prop}
theorem RB_append {w0 W : World} (base : Nat) (hgd : o.guard = none) (s x : Operand)
    (ho : o.op = .call { callee := .builtin .append, args := #[s, x], argTypes := #[58, 58] })
    (v : Value) (xs : List Int) (p : Int) (hs : a.eval s = v) (hx : a.eval x = .slice (some ⟨W.heap.size, 0, none⟩) 1 1)
    (HO : RB W base v xs) (HB : Below base w0 W) (hbase : base ≤ W.heap.size) (hl : (xs.length + 1) * 1 ≤ 140737488355328)
    (h : ∀ v1 w1, (Kd.int .u8).R 5 w1 base (fun _ => True) v1 (xs ++ [p]) → Below base w0 w1 → True → True → wpList Tryd.prog ops Q rest (a.put o.dst v1) w1) :
    wpList Tryd.prog ops Q (o :: rest) a (W.alloc (.cells #[.int .u8 p] 5)) := by
  rcases HO with HO | ⟨rfl, g, h1, rfl, h3⟩
  · exact Kd.R_append (Kd.int .u8) (w0 := w0) base hgd s x 58 5 (.int .u8 0) 1 ho Tryd.underlying58 info5 rfl (by decide) (by omega) v xs p [.int .u8 p] (fun _ => True) (fun _ => False) hs hx rfl (fun _ hk => hk.elim) (fun _ _ => trivial) HO HB hbase hl
      (fun v1 w1 ho hb _ _ => h v1 w1 ho hb trivial trivial)
  · have hinfo := info5
    obtain ⟨i0, hi, hzz⟩ := Option.map_eq_some_iff.1 hinfo
    simp only [Prod.mk.injEq] at hzz
    obtain ⟨hz0, hz1, hz2⟩ := hzz
    have hgl : g < W.heap.size := (Array.getElem?_eq_some_iff.1 h3).1
    have h3' : (W.alloc (.cells #[.int .u8 p] 5)).heap[g]? = some (.cells #[.int .u8 40] 5 (1, 2)) := by rw [Below.heap_alloc _ _ _ hgl]; exact h3
    refine wpList_append_grows (W.alloc (.cells #[.int .u8 p] 5)) hgd s x 58 ho 5 i0 (.int .u8 0) 1 1 Tryd.underlying58 hi hz0 hz1 hz2 rfl (by decide) (some ⟨g, 0, none⟩) 1 1 [.int .u8 40] hs (fun e => by cases e) rfl
      (fun b hb j u hj => ?_) ⟨W.heap.size, 0, none⟩ 1 1 [.int .u8 p] hx rfl (by simpa using World.news_of_block (cs := #[.int .u8 p]) (t := 5) (fr := (0, 0)) (heap_alloc_new W (.cells #[.int .u8 p] 5))) (by simp [Value.oneCell']) (by decide) (by decide) (by decide) ?_
    · obtain rfl := Option.some.inj hb
      have hj0 : j < 1 := by
        rcases Nat.lt_or_ge j 1 with h | h
        · exact h
        · rw [List.getElem?_eq_none (by simpa using h)] at hj; cases hj
      obtain rfl : j = 0 := by omega
      rw [add_at]
      exact (cell_of_row _ g 0 _ _ (1, 2) h3').trans hj
    · intro v1 w1 hown hg
      refine h v1 w1 ?_ ((HB.alloc hbase _).grown (row := none) hg (by simp; omega) (fun k hk => by cases hk)) trivial trivial
      refine ⟨fun _ _ => trivial, [.int .u8 40, .int .u8 p], own_weaken hown (by simp; omega), ?_⟩
      have hM : ∀ q : Int, (Kd.int .u8).M w1 base (fun k => True ∧ some k ≠ v1.ownBlock) q [.int .u8 q] := fun _ => rfl
      exact ((Reps.one (hM 40) (Reps.none _ _)).snoc (hM p) rfl)
end
end Go.Proofs.YtjlchnmpebdggaaDoor.Mo
end
section
-- PRINTED by a driver of print.py
namespace Go.Proofs.YtjlchnmpebdggaaDoor.Mo
open Go.RowKit Go.Proofs.YtjlchnmpebdggaaDoorW.PrintWords Go.Proofs.YtjlchnmpebdggaaDoorW.PrintLast Go.Proofs.YtjlchnmpebdggaaDoorW.PrintMore
attribute [local go_sem] max2_int min2_int max_two min_two max_three min_three max_four min_four   -- for this text's walks alone
set_option linter.unusedVariables false
set_option linter.unusedSimpArgs false
mutual
def postbaglaw2_inside.l0 : Nat → ByteArray → List Int → Int → Option (ByteArray)
 | 0, _, _, _ => none
 | k + 1, x0, x3, x4 => if x4 < (x0.size : Int) then (postbaglaw2_inside.j1 k x0 x3 x4 (decide (x4 < 200))) else (postbaglaw2_inside.j1 k x0 x3 x4 false)
def postbaglaw2_inside.j1 : Nat → ByteArray → List Int → Int → Bool → Option (ByteArray)
 | 0, _, _, _, _ => none
 | k + 1, x0, x3, x4, x14 => if x14 = true then (if 0 ≤ x4 then (if x4 < (x0.size : Int) then (if (bt x0 x4) = 40 then (if x3.length < 140737488355328 then ((some (x3 ++ [92] : List Int)).bind fun y392 => (if y392.length < 140737488355328 then (postbaglaw2_inside.l0 k x0 (y392 ++ [bt x0 x4]) (wrap64 (x4 + 1))) else (none))) else (none)) else (if (bt x0 x4) = 41 then (if x3.length < 140737488355328 then ((some (x3 ++ [92] : List Int)).bind fun y398 => (if y398.length < 140737488355328 then (postbaglaw2_inside.l0 k x0 (y398 ++ [bt x0 x4]) (wrap64 (x4 + 1))) else (none))) else (none)) else (if (bt x0 x4) = 92 then (if x3.length < 140737488355328 then ((some (x3 ++ [92] : List Int)).bind fun y404 => (if y404.length < 140737488355328 then (postbaglaw2_inside.l0 k x0 (y404 ++ [bt x0 x4]) (wrap64 (x4 + 1))) else (none))) else (none)) else (if x3.length < 140737488355328 then (postbaglaw2_inside.l0 k x0 (x3 ++ [bt x0 x4]) (wrap64 (x4 + 1))) else (none))))) else (none)) else (none)) else (if x3.length < 140737488355328 then (some (strOfNums (x3 ++ [41]))) else (none))
end
def postbaglaw2_inside.f (k : Nat) (a0 : ByteArray) : Option (ByteArray) := postbaglaw2_inside.l0 k a0 (([40] : List Int)) 0
set_option maxHeartbeats 8000000 in
set_option maxRecDepth 100000 in
theorem postbaglaw2_inside.calls (k : Nat) (a0 : ByteArray) (r : ByteArray) (w : World) (h : postbaglaw2_inside.f k a0 = some r) :
  Calls Tryd.prog 51 #[.string a0] w fun e w' => e = .returned (.string r) ∧ Below w.heap.size w w' := by
 have HB := Aside0.mk (Below.refl w.heap.size w)
 have H : (postbaglaw2_inside.l0 k a0 (([40] : List Int)) 0) = some r := h
 clear h
 obtain ⟨y389, hy389⟩ : ∃ y_ : List Int, y_ = (([40] : List Int)) := ⟨_, rfl⟩
 replace H : (postbaglaw2_inside.l0 k a0 y389 0) = some r := by first | (rw [hy389]; with_reducible exact H) | (have H2_ := (Option.bind_some _ _).symm.trans H; rw [hy389]; with_reducible exact H2_) | (have H2_ := (Option.bind_some _ _).symm.trans H; with_reducible exact H2_) | with_reducible exact H | (rw [hy389]; exact H) | exact H
 have Ny389 := Aside0.mk hy389
 clear hy389
 have H' := Aside0.mk H
 clear H
 go_enter Tryd.func51, Tryd.ntmps51
 have kc := fun (w : World) (C : Array Value) (n c : Nat) => Lib.run_convert_bytes_const (P := Tryd.prog) w 58 5 C n c Tryd.underlying58 Tryd.underlying5
 go_wp2_with fail
 go_loopg [3, 4] k (fun kq v3 v4 w' => ∃ (x3_1 : List Int) (x4_1 : Int), v4 = .int .i64 x4_1 ∧ Aside0 (postbaglaw2_inside.l0 kq a0 x3_1 x4_1 = some r) ∧ Aside0 (kq ≤ k) ∧ Aside0 (RB w' w.heap.size v3 x3_1) ∧ Aside0 (Below w.heap.size w w'))
 case atStart => exact ⟨(y389), (0), (by first | rfl | (simp; done) | (simp [*]; done)), H', ⟨Nat.le_refl _⟩, ⟨.inr ⟨Ny389.out, w.heap.size, Nat.le_refl _, rfl, heap_alloc_new _ _⟩⟩, ⟨(Below.refl _ _).alloc (Nat.le_refl _) _⟩⟩
 case round =>
  clear H'
  try clear p2
  obtain ⟨x3_1, x4_1, rfl, HA, HK1, HO_3, HB⟩ := hrel
  cases gk with
  | zero => exact absurd HA.out (by simp [postbaglaw2_inside.l0])
  | succ k1 =>
   have H := HA.out
   clear HA
   simp only [postbaglaw2_inside.l0] at H
   have HC4 := Aside0.mk H
   clear H
   go_upto_region 3 with (fail)
   go_cut [14] (fun v14 wc => ∃ (kq : Nat) (x14_3 : Bool), v14 = .bool x14_3 ∧ Aside0 (postbaglaw2_inside.j1 kq a0 x3_1 x4_1 x14_3 = some r) ∧ Aside0 (kq ≤ k1) ∧ Aside0 (RB wc w.heap.size u3 x3_1) ∧ Aside0 (Below w.heap.size w wc))
   case first =>
    have H := HC4.out
    clear HC4
    by_cases c5 : x4_1 < (a0.size : Int)
    ·rw [if_pos c5] at H
     have c5b0 : decide (x4_1 < (a0.size : Int)) = true := decide_eq_true c5
     clear c5
     (first | rw [c5b0] | (simp only [i64_w, i32_w]; rw [c5b0]) | skip)
     have H' := Aside0.mk H
     clear H
     go_wp2
     go_meet
     case rel => exact ⟨_, (decide (x4_1 < 200)), (by first | rfl | (simp; done) | (simp [*]; done)), H', ⟨by have := HK1.out; first | omega | exact Nat.le_refl _⟩, ⟨by (with_reducible repeat apply RB_drewN); exact HO_3.out⟩, ⟨by repeat (first | (with_reducible first | exact HB.out | apply below_alloc | apply pw_below_drewN | apply below_drew1) | exact HB.out)⟩⟩
    ·rw [if_neg c5] at H
     have c5b0 : decide (x4_1 < (a0.size : Int)) = false := decide_eq_false c5
     clear c5
     (first | rw [c5b0] | (simp only [i64_w, i32_w]; rw [c5b0]) | skip)
     have H' := Aside0.mk H
     clear H
     go_wp2
     go_meet
     case rel => exact ⟨_, (false), (by first | rfl | (simp; done) | (simp [*]; done)), H', ⟨by have := HK1.out; first | omega | exact Nat.le_refl _⟩, ⟨by (with_reducible repeat apply RB_drewN); exact HO_3.out⟩, ⟨by repeat (first | (with_reducible first | exact HB.out | apply below_alloc | apply pw_below_drewN | apply below_drew1) | exact HB.out)⟩⟩
   case rest =>
    clear HC4
    try clear p2
    try clear c5
    try clear c5b0
    try clear p2
    obtain ⟨kq, x14_3, rfl, HA, HJ3, HO_3, HB⟩ := hcut
    cases kq with
    | zero => exact absurd HA.out (by simp [postbaglaw2_inside.j1])
    | succ kj3 =>
     have H := HA.out
     clear HA
     simp only [postbaglaw2_inside.j1] at H
     by_cases c6 : x14_3 = true
     ·subst c6
      have H1 : (if 0 ≤ x4_1 then (if x4_1 < (a0.size : Int) then (if (bt a0 x4_1) = 40 then (if x3_1.length < 140737488355328 then ((some (x3_1 ++ [92] : List Int)).bind fun y392 => (if y392.length < 140737488355328 then (postbaglaw2_inside.l0 kj3 a0 (y392 ++ [bt a0 x4_1]) (wrap64 (x4_1 + 1))) else (none))) else (none)) else (if (bt a0 x4_1) = 41 then (if x3_1.length < 140737488355328 then ((some (x3_1 ++ [92] : List Int)).bind fun y398 => (if y398.length < 140737488355328 then (postbaglaw2_inside.l0 kj3 a0 (y398 ++ [bt a0 x4_1]) (wrap64 (x4_1 + 1))) else (none))) else (none)) else (if (bt a0 x4_1) = 92 then (if x3_1.length < 140737488355328 then ((some (x3_1 ++ [92] : List Int)).bind fun y404 => (if y404.length < 140737488355328 then (postbaglaw2_inside.l0 kj3 a0 (y404 ++ [bt a0 x4_1]) (wrap64 (x4_1 + 1))) else (none))) else (none)) else (if x3_1.length < 140737488355328 then (postbaglaw2_inside.l0 kj3 a0 (x3_1 ++ [bt a0 x4_1]) (wrap64 (x4_1 + 1))) else (none))))) else (none)) else (none)) = some r := by rw [if_pos rfl] at H; exact H
      clear H
      have H := H1
      clear H1
      by_cases c7 : 0 ≤ x4_1
      ·rw [if_pos c7] at H
       have c7b0 : decide (0 ≤ x4_1) = true := decide_eq_true c7
       clear c7
       by_cases c8 : x4_1 < (a0.size : Int)
       ·rw [if_pos c8] at H
        have c8b0 : decide (x4_1 < (a0.size : Int)) = true := decide_eq_true c8
        clear c8
        by_cases c10 : (bt a0 x4_1) = 40
        ·rw [if_pos c10] at H
         have c10b0 : ((bt a0 x4_1) == 40) = true := beq_iff_eq.mpr c10
         have c10b1 : ((bt a0 x4_1) != 40) = false := bne_eq_false_iff_eq.mpr c10
         clear c10
         by_cases c11 : x3_1.length < 140737488355328
         ·rw [if_pos c11] at H
          have LMc11 := Aside0.mk c11
          clear c11
          obtain ⟨y392, hy392⟩ : ∃ y_ : List Int, y_ = (x3_1 ++ [92]) := ⟨_, rfl⟩
          replace H : (if y392.length < 140737488355328 then (postbaglaw2_inside.l0 kj3 a0 (y392 ++ [bt a0 x4_1]) (wrap64 (x4_1 + 1))) else (none)) = some r := by first | (rw [hy392]; with_reducible exact H) | (have H2_ := (Option.bind_some _ _).symm.trans H; rw [hy392]; with_reducible exact H2_) | (have H2_ := (Option.bind_some _ _).symm.trans H; with_reducible exact H2_) | with_reducible exact H | (rw [hy392]; exact H) | exact H
          have Ny392 := Aside0.mk hy392
          clear hy392
          by_cases c13 : y392.length < 140737488355328
          ·rw [if_pos c13] at H
           have LMc13 := Aside0.mk c13
           clear c13
           obtain ⟨y395, hy395⟩ : ∃ y_ : List Int, y_ = (y392 ++ [bt a0 x4_1]) := ⟨_, rfl⟩
           replace H : (postbaglaw2_inside.l0 kj3 a0 y395 (wrap64 (x4_1 + 1))) = some r := by first | (rw [hy395]; with_reducible exact H) | (have H2_ := (Option.bind_some _ _).symm.trans H; rw [hy395]; with_reducible exact H2_) | (have H2_ := (Option.bind_some _ _).symm.trans H; with_reducible exact H2_) | with_reducible exact H | (rw [hy395]; exact H) | exact H
           have Ny395 := Aside0.mk hy395
           clear hy395
           have H' := Aside0.mk H
           clear H
           have p9 : 0 ≤ (x4_1 : Int) := of_decide_eq_true (by first | (with_reducible assumption) | assumption)
           have q9 : x4_1 < (a0.size : Int) := of_decide_eq_true (by first | (with_reducible assumption) | assumption)
           have hx9 := bt_at a0 x4_1
           replace p9 := eq_true p9
           replace q9 := eq_true q9
           go_wp2_with (first | ((with_reducible refine gate_builtin (b := .append) (xs := #[.tmp 33, .tmp 34]) rfl ?_); at_builtin; refine RB_append (w0 := w) w.heap.size rfl (.tmp 33) (.tmp 34) rfl u3 x3_1 92 rfl rfl ?aO ?aB ?aS ?aL ?_; (case aB => exact (by repeat (first | (with_reducible first | exact HB.out | apply below_alloc | apply pw_below_drewN | apply below_drew1) | exact HB.out))); (case aO => exact (by (with_reducible repeat apply RB_drewN); exact HO_3.out)); (case aS => exact (below_size (by repeat (first | (with_reducible first | exact HB.out | apply below_alloc | apply pw_below_drewN | apply below_drew1) | exact HB.out)))); (case aL => have := LMc11.out; omega); intro v393 w14 ho hb hg hat; rw [← Ny392.out] at ho; have n0_ := Aside0.mk (hb); have n1_ := Aside0.mk (ho); clear HB; clear HO_3; have HB := n0_; have HO394 := n1_; clear n0_ n1_; clear ho hb hg hat; have p12 : 0 ≤ (x4_1 : Int) := of_decide_eq_true (by first | (with_reducible assumption) | assumption); have q12 : x4_1 < (a0.size : Int) := of_decide_eq_true (by first | (with_reducible assumption) | assumption); have hx12 := bt_at a0 x4_1; replace p12 := eq_true p12; replace q12 := eq_true q12) | ((with_reducible refine gate_builtin (b := .append) (xs := #[.tmp 36, .tmp 40]) rfl ?_); at_builtin; refine Kd.R_append (Kd.int .u8) (w0 := w) w.heap.size rfl (.tmp 36) (.tmp 40) 58 5 (.int .u8 0) 1 rfl Tryd.underlying58 info5 rfl (by decide) (by omega) v393 y392 (bt a0 x4_1) [.int .u8 (bt a0 x4_1)] (fun _ => True) (fun _ => False) rfl rfl ?aP (fun _ hk => hk.elim) ?aF ?aO ?aB ?aS ?aL ?_; (case aP => exact rfl); (case aB => exact (by repeat (first | (with_reducible first | exact HB.out | apply below_alloc | apply pw_below_drewN | apply below_drew1) | exact HB.out))); (case aF => exact (fun _ _ => trivial)); (case aO => exact (by (with_reducible repeat (first | apply Kd.R_alloc | apply Kd.R_drewN | apply Kd.R_drew)); exact HO394.out)); (case aS => exact (below_size (by repeat (first | (with_reducible first | exact HB.out | apply below_alloc | apply pw_below_drewN | apply below_drew1) | exact HB.out)))); (case aL => have := LMc13.out; omega); intro v396 w15 ho hb hg hat; rw [← Ny395.out] at ho; have n0_ := Aside0.mk (hb); have n1_ := Aside0.mk (ho); clear HB; clear HO394; have HB := n0_; have HO397 := n1_; clear n0_ n1_; clear ho hb hg hat))
           go_roundg kj3
           case measure => have := HK1.out; have := HJ3.out; omega
           case rel => exact ⟨(y395), (wrap64 (x4_1 + 1)), (by first | rfl | (simp; done) | (simp [*]; done)), H', ⟨by have := HK1.out; have := HJ3.out; omega⟩, ⟨.inl (by (with_reducible repeat (first | apply Kd.R_alloc | apply Kd.R_drewN | apply Kd.R_drew)); exact HO397.out)⟩, ⟨by repeat (first | (with_reducible first | exact HB.out | apply below_alloc | apply pw_below_drewN | apply below_drew1) | exact HB.out)⟩⟩
          ·rw [if_neg c13] at H
           exact absurd H (by simp)
         ·rw [if_neg c11] at H
          exact absurd H (by simp)
        ·rw [if_neg c10] at H
         have c10b0 : ((bt a0 x4_1) == 40) = false := beq_eq_false_iff_ne.mpr c10
         have c10b1 : ((bt a0 x4_1) != 40) = true := bne_iff_ne.mpr c10
         by_cases c17 : (bt a0 x4_1) = 41
         ·rw [if_pos c17] at H
          have c17b0 : ((bt a0 x4_1) == 41) = true := beq_iff_eq.mpr c17
          have c17b1 : ((bt a0 x4_1) != 41) = false := bne_eq_false_iff_eq.mpr c17
          clear c17
          by_cases c18 : x3_1.length < 140737488355328
          ·rw [if_pos c18] at H
           have LMc18 := Aside0.mk c18
           clear c18
           obtain ⟨y398, hy398⟩ : ∃ y_ : List Int, y_ = (x3_1 ++ [92]) := ⟨_, rfl⟩
           replace H : (if y398.length < 140737488355328 then (postbaglaw2_inside.l0 kj3 a0 (y398 ++ [bt a0 x4_1]) (wrap64 (x4_1 + 1))) else (none)) = some r := by first | (rw [hy398]; with_reducible exact H) | (have H2_ := (Option.bind_some _ _).symm.trans H; rw [hy398]; with_reducible exact H2_) | (have H2_ := (Option.bind_some _ _).symm.trans H; with_reducible exact H2_) | with_reducible exact H | (rw [hy398]; exact H) | exact H
           have Ny398 := Aside0.mk hy398
           clear hy398
           by_cases c20 : y398.length < 140737488355328
           ·rw [if_pos c20] at H
            have LMc20 := Aside0.mk c20
            clear c20
            obtain ⟨y401, hy401⟩ : ∃ y_ : List Int, y_ = (y398 ++ [bt a0 x4_1]) := ⟨_, rfl⟩
            replace H : (postbaglaw2_inside.l0 kj3 a0 y401 (wrap64 (x4_1 + 1))) = some r := by first | (rw [hy401]; with_reducible exact H) | (have H2_ := (Option.bind_some _ _).symm.trans H; rw [hy401]; with_reducible exact H2_) | (have H2_ := (Option.bind_some _ _).symm.trans H; with_reducible exact H2_) | with_reducible exact H | (rw [hy401]; exact H) | exact H
            have Ny401 := Aside0.mk hy401
            clear hy401
            have H' := Aside0.mk H
            clear H
            have p9 : 0 ≤ (x4_1 : Int) := of_decide_eq_true (by first | (with_reducible assumption) | assumption)
            have q9 : x4_1 < (a0.size : Int) := of_decide_eq_true (by first | (with_reducible assumption) | assumption)
            have hx9 := bt_at a0 x4_1
            replace p9 := eq_true p9
            replace q9 := eq_true q9
            have p16 : 0 ≤ (x4_1 : Int) := of_decide_eq_true (by first | (with_reducible assumption) | assumption)
            have q16 : x4_1 < (a0.size : Int) := of_decide_eq_true (by first | (with_reducible assumption) | assumption)
            have hx16 := bt_at a0 x4_1
            replace p16 := eq_true p16
            replace q16 := eq_true q16
            go_wp2_with (first | ((with_reducible refine gate_builtin (b := .append) (xs := #[.tmp 33, .tmp 34]) rfl ?_); at_builtin; refine RB_append (w0 := w) w.heap.size rfl (.tmp 33) (.tmp 34) rfl u3 x3_1 92 rfl rfl ?aO ?aB ?aS ?aL ?_; (case aB => exact (by repeat (first | (with_reducible first | exact HB.out | apply below_alloc | apply pw_below_drewN | apply below_drew1) | exact HB.out))); (case aO => exact (by (with_reducible repeat apply RB_drewN); exact HO_3.out)); (case aS => exact (below_size (by repeat (first | (with_reducible first | exact HB.out | apply below_alloc | apply pw_below_drewN | apply below_drew1) | exact HB.out)))); (case aL => have := LMc18.out; omega); intro v399 w21 ho hb hg hat; rw [← Ny398.out] at ho; have n0_ := Aside0.mk (hb); have n1_ := Aside0.mk (ho); clear HB; clear HO_3; have HB := n0_; have HO400 := n1_; clear n0_ n1_; clear ho hb hg hat; have p19 : 0 ≤ (x4_1 : Int) := of_decide_eq_true (by first | (with_reducible assumption) | assumption); have q19 : x4_1 < (a0.size : Int) := of_decide_eq_true (by first | (with_reducible assumption) | assumption); have hx19 := bt_at a0 x4_1; replace p19 := eq_true p19; replace q19 := eq_true q19) | ((with_reducible refine gate_builtin (b := .append) (xs := #[.tmp 36, .tmp 40]) rfl ?_); at_builtin; refine Kd.R_append (Kd.int .u8) (w0 := w) w.heap.size rfl (.tmp 36) (.tmp 40) 58 5 (.int .u8 0) 1 rfl Tryd.underlying58 info5 rfl (by decide) (by omega) v399 y398 (bt a0 x4_1) [.int .u8 (bt a0 x4_1)] (fun _ => True) (fun _ => False) rfl rfl ?aP (fun _ hk => hk.elim) ?aF ?aO ?aB ?aS ?aL ?_; (case aP => exact rfl); (case aB => exact (by repeat (first | (with_reducible first | exact HB.out | apply below_alloc | apply pw_below_drewN | apply below_drew1) | exact HB.out))); (case aF => exact (fun _ _ => trivial)); (case aO => exact (by (with_reducible repeat (first | apply Kd.R_alloc | apply Kd.R_drewN | apply Kd.R_drew)); exact HO400.out)); (case aS => exact (below_size (by repeat (first | (with_reducible first | exact HB.out | apply below_alloc | apply pw_below_drewN | apply below_drew1) | exact HB.out)))); (case aL => have := LMc20.out; omega); intro v402 w22 ho hb hg hat; rw [← Ny401.out] at ho; have n0_ := Aside0.mk (hb); have n1_ := Aside0.mk (ho); clear HB; clear HO400; have HB := n0_; have HO403 := n1_; clear n0_ n1_; clear ho hb hg hat))
            go_roundg kj3
            case measure => have := HK1.out; have := HJ3.out; omega
            case rel => exact ⟨(y401), (wrap64 (x4_1 + 1)), (by first | rfl | (simp; done) | (simp [*]; done)), H', ⟨by have := HK1.out; have := HJ3.out; omega⟩, ⟨.inl (by (with_reducible repeat (first | apply Kd.R_alloc | apply Kd.R_drewN | apply Kd.R_drew)); exact HO403.out)⟩, ⟨by repeat (first | (with_reducible first | exact HB.out | apply below_alloc | apply pw_below_drewN | apply below_drew1) | exact HB.out)⟩⟩
           ·rw [if_neg c20] at H
            exact absurd H (by simp)
          ·rw [if_neg c18] at H
           exact absurd H (by simp)
         ·rw [if_neg c17] at H
          have c17b0 : ((bt a0 x4_1) == 41) = false := beq_eq_false_iff_ne.mpr c17
          have c17b1 : ((bt a0 x4_1) != 41) = true := bne_iff_ne.mpr c17
          by_cases c24 : (bt a0 x4_1) = 92
          ·rw [if_pos c24] at H
           have c24b0 : ((bt a0 x4_1) == 92) = true := beq_iff_eq.mpr c24
           have c24b1 : ((bt a0 x4_1) != 92) = false := bne_eq_false_iff_eq.mpr c24
           clear c24
           by_cases c25 : x3_1.length < 140737488355328
           ·rw [if_pos c25] at H
            have LMc25 := Aside0.mk c25
            clear c25
            obtain ⟨y404, hy404⟩ : ∃ y_ : List Int, y_ = (x3_1 ++ [92]) := ⟨_, rfl⟩
            replace H : (if y404.length < 140737488355328 then (postbaglaw2_inside.l0 kj3 a0 (y404 ++ [bt a0 x4_1]) (wrap64 (x4_1 + 1))) else (none)) = some r := by first | (rw [hy404]; with_reducible exact H) | (have H2_ := (Option.bind_some _ _).symm.trans H; rw [hy404]; with_reducible exact H2_) | (have H2_ := (Option.bind_some _ _).symm.trans H; with_reducible exact H2_) | with_reducible exact H | (rw [hy404]; exact H) | exact H
            have Ny404 := Aside0.mk hy404
            clear hy404
            by_cases c27 : y404.length < 140737488355328
            ·rw [if_pos c27] at H
             have LMc27 := Aside0.mk c27
             clear c27
             obtain ⟨y407, hy407⟩ : ∃ y_ : List Int, y_ = (y404 ++ [bt a0 x4_1]) := ⟨_, rfl⟩
             replace H : (postbaglaw2_inside.l0 kj3 a0 y407 (wrap64 (x4_1 + 1))) = some r := by first | (rw [hy407]; with_reducible exact H) | (have H2_ := (Option.bind_some _ _).symm.trans H; rw [hy407]; with_reducible exact H2_) | (have H2_ := (Option.bind_some _ _).symm.trans H; with_reducible exact H2_) | with_reducible exact H | (rw [hy407]; exact H) | exact H
             have Ny407 := Aside0.mk hy407
             clear hy407
             have H' := Aside0.mk H
             clear H
             have p9 : 0 ≤ (x4_1 : Int) := of_decide_eq_true (by first | (with_reducible assumption) | assumption)
             have q9 : x4_1 < (a0.size : Int) := of_decide_eq_true (by first | (with_reducible assumption) | assumption)
             have hx9 := bt_at a0 x4_1
             replace p9 := eq_true p9
             replace q9 := eq_true q9
             have p16 : 0 ≤ (x4_1 : Int) := of_decide_eq_true (by first | (with_reducible assumption) | assumption)
             have q16 : x4_1 < (a0.size : Int) := of_decide_eq_true (by first | (with_reducible assumption) | assumption)
             have hx16 := bt_at a0 x4_1
             replace p16 := eq_true p16
             replace q16 := eq_true q16
             have p23 : 0 ≤ (x4_1 : Int) := of_decide_eq_true (by first | (with_reducible assumption) | assumption)
             have q23 : x4_1 < (a0.size : Int) := of_decide_eq_true (by first | (with_reducible assumption) | assumption)
             have hx23 := bt_at a0 x4_1
             replace p23 := eq_true p23
             replace q23 := eq_true q23
             go_wp2_with (first | ((with_reducible refine gate_builtin (b := .append) (xs := #[.tmp 33, .tmp 34]) rfl ?_); at_builtin; refine RB_append (w0 := w) w.heap.size rfl (.tmp 33) (.tmp 34) rfl u3 x3_1 92 rfl rfl ?aO ?aB ?aS ?aL ?_; (case aB => exact (by repeat (first | (with_reducible first | exact HB.out | apply below_alloc | apply pw_below_drewN | apply below_drew1) | exact HB.out))); (case aO => exact (by (with_reducible repeat apply RB_drewN); exact HO_3.out)); (case aS => exact (below_size (by repeat (first | (with_reducible first | exact HB.out | apply below_alloc | apply pw_below_drewN | apply below_drew1) | exact HB.out)))); (case aL => have := LMc25.out; omega); intro v405 w28 ho hb hg hat; rw [← Ny404.out] at ho; have n0_ := Aside0.mk (hb); have n1_ := Aside0.mk (ho); clear HB; clear HO_3; have HB := n0_; have HO406 := n1_; clear n0_ n1_; clear ho hb hg hat; have p26 : 0 ≤ (x4_1 : Int) := of_decide_eq_true (by first | (with_reducible assumption) | assumption); have q26 : x4_1 < (a0.size : Int) := of_decide_eq_true (by first | (with_reducible assumption) | assumption); have hx26 := bt_at a0 x4_1; replace p26 := eq_true p26; replace q26 := eq_true q26) | ((with_reducible refine gate_builtin (b := .append) (xs := #[.tmp 36, .tmp 40]) rfl ?_); at_builtin; refine Kd.R_append (Kd.int .u8) (w0 := w) w.heap.size rfl (.tmp 36) (.tmp 40) 58 5 (.int .u8 0) 1 rfl Tryd.underlying58 info5 rfl (by decide) (by omega) v405 y404 (bt a0 x4_1) [.int .u8 (bt a0 x4_1)] (fun _ => True) (fun _ => False) rfl rfl ?aP (fun _ hk => hk.elim) ?aF ?aO ?aB ?aS ?aL ?_; (case aP => exact rfl); (case aB => exact (by repeat (first | (with_reducible first | exact HB.out | apply below_alloc | apply pw_below_drewN | apply below_drew1) | exact HB.out))); (case aF => exact (fun _ _ => trivial)); (case aO => exact (by (with_reducible repeat (first | apply Kd.R_alloc | apply Kd.R_drewN | apply Kd.R_drew)); exact HO406.out)); (case aS => exact (below_size (by repeat (first | (with_reducible first | exact HB.out | apply below_alloc | apply pw_below_drewN | apply below_drew1) | exact HB.out)))); (case aL => have := LMc27.out; omega); intro v408 w29 ho hb hg hat; rw [← Ny407.out] at ho; have n0_ := Aside0.mk (hb); have n1_ := Aside0.mk (ho); clear HB; clear HO406; have HB := n0_; have HO409 := n1_; clear n0_ n1_; clear ho hb hg hat))
             go_roundg kj3
             case measure => have := HK1.out; have := HJ3.out; omega
             case rel => exact ⟨(y407), (wrap64 (x4_1 + 1)), (by first | rfl | (simp; done) | (simp [*]; done)), H', ⟨by have := HK1.out; have := HJ3.out; omega⟩, ⟨.inl (by (with_reducible repeat (first | apply Kd.R_alloc | apply Kd.R_drewN | apply Kd.R_drew)); exact HO409.out)⟩, ⟨by repeat (first | (with_reducible first | exact HB.out | apply below_alloc | apply pw_below_drewN | apply below_drew1) | exact HB.out)⟩⟩
            ·rw [if_neg c27] at H
             exact absurd H (by simp)
           ·rw [if_neg c25] at H
            exact absurd H (by simp)
          ·rw [if_neg c24] at H
           have c24b0 : ((bt a0 x4_1) == 92) = false := beq_eq_false_iff_ne.mpr c24
           have c24b1 : ((bt a0 x4_1) != 92) = true := bne_iff_ne.mpr c24
           by_cases c31 : x3_1.length < 140737488355328
           ·rw [if_pos c31] at H
            have LMc31 := Aside0.mk c31
            clear c31
            obtain ⟨y410, hy410⟩ : ∃ y_ : List Int, y_ = (x3_1 ++ [bt a0 x4_1]) := ⟨_, rfl⟩
            replace H : (postbaglaw2_inside.l0 kj3 a0 y410 (wrap64 (x4_1 + 1))) = some r := by first | (rw [hy410]; with_reducible exact H) | (have H2_ := (Option.bind_some _ _).symm.trans H; rw [hy410]; with_reducible exact H2_) | (have H2_ := (Option.bind_some _ _).symm.trans H; with_reducible exact H2_) | with_reducible exact H | (rw [hy410]; exact H) | exact H
            have Ny410 := Aside0.mk hy410
            clear hy410
            have H' := Aside0.mk H
            clear H
            have p9 : 0 ≤ (x4_1 : Int) := of_decide_eq_true (by first | (with_reducible assumption) | assumption)
            have q9 : x4_1 < (a0.size : Int) := of_decide_eq_true (by first | (with_reducible assumption) | assumption)
            have hx9 := bt_at a0 x4_1
            replace p9 := eq_true p9
            replace q9 := eq_true q9
            have p16 : 0 ≤ (x4_1 : Int) := of_decide_eq_true (by first | (with_reducible assumption) | assumption)
            have q16 : x4_1 < (a0.size : Int) := of_decide_eq_true (by first | (with_reducible assumption) | assumption)
            have hx16 := bt_at a0 x4_1
            replace p16 := eq_true p16
            replace q16 := eq_true q16
            have p23 : 0 ≤ (x4_1 : Int) := of_decide_eq_true (by first | (with_reducible assumption) | assumption)
            have q23 : x4_1 < (a0.size : Int) := of_decide_eq_true (by first | (with_reducible assumption) | assumption)
            have hx23 := bt_at a0 x4_1
            replace p23 := eq_true p23
            replace q23 := eq_true q23
            have p30 : 0 ≤ (x4_1 : Int) := of_decide_eq_true (by first | (with_reducible assumption) | assumption)
            have q30 : x4_1 < (a0.size : Int) := of_decide_eq_true (by first | (with_reducible assumption) | assumption)
            have hx30 := bt_at a0 x4_1
            replace p30 := eq_true p30
            replace q30 := eq_true q30
            go_wp2_with (first | ((with_reducible refine gate_builtin (b := .append) (xs := #[.tmp 36, .tmp 40]) rfl ?_); at_builtin; refine RB_append (w0 := w) w.heap.size rfl (.tmp 36) (.tmp 40) rfl u3 x3_1 (bt a0 x4_1) rfl rfl ?aO ?aB ?aS ?aL ?_; (case aB => exact (by repeat (first | (with_reducible first | exact HB.out | apply below_alloc | apply pw_below_drewN | apply below_drew1) | exact HB.out))); (case aO => exact (by (with_reducible repeat apply RB_drewN); exact HO_3.out)); (case aS => exact (below_size (by repeat (first | (with_reducible first | exact HB.out | apply below_alloc | apply pw_below_drewN | apply below_drew1) | exact HB.out)))); (case aL => have := LMc31.out; omega); intro v411 w32 ho hb hg hat; rw [← Ny410.out] at ho; have n0_ := Aside0.mk (hb); have n1_ := Aside0.mk (ho); clear HB; clear HO_3; have HB := n0_; have HO412 := n1_; clear n0_ n1_; clear ho hb hg hat))
            go_roundg kj3
            case measure => have := HK1.out; have := HJ3.out; omega
            case rel => exact ⟨(y410), (wrap64 (x4_1 + 1)), (by first | rfl | (simp; done) | (simp [*]; done)), H', ⟨by have := HK1.out; have := HJ3.out; omega⟩, ⟨.inl (by (with_reducible repeat (first | apply Kd.R_alloc | apply Kd.R_drewN | apply Kd.R_drew)); exact HO412.out)⟩, ⟨by repeat (first | (with_reducible first | exact HB.out | apply below_alloc | apply pw_below_drewN | apply below_drew1) | exact HB.out)⟩⟩
           ·rw [if_neg c31] at H
            exact absurd H (by simp)
       ·rw [if_neg c8] at H
        exact absurd H (by simp)
      ·rw [if_neg c7] at H
       exact absurd H (by simp)
     ·replace c6 := Bool.eq_false_iff.mpr c6
      subst c6
      have H1 : (if x3_1.length < 140737488355328 then (some (strOfNums (x3_1 ++ [41]))) else (none)) = some r := by rw [if_neg (show ¬ (false = true) by decide)] at H; exact H
      clear H
      have H := H1
      clear H1
      by_cases c33 : x3_1.length < 140737488355328
      ·rw [if_pos c33] at H
       have LMc33 := Aside0.mk c33
       clear c33
       obtain ⟨y413, hy413⟩ : ∃ y_ : List Int, y_ = (x3_1 ++ [41]) := ⟨_, rfl⟩
       replace H : (some (strOfNums y413)) = some r := by first | (rw [hy413]; with_reducible exact H) | (have H2_ := (Option.bind_some _ _).symm.trans H; rw [hy413]; with_reducible exact H2_) | (have H2_ := (Option.bind_some _ _).symm.trans H; with_reducible exact H2_) | with_reducible exact H | (rw [hy413]; exact H) | exact H
       have Ny413 := Aside0.mk hy413
       clear hy413
       obtain rfl := Option.some.inj H
       go_wp2_with (first | ((with_reducible refine gate_builtin (b := .append) (xs := #[.tmp 42, .tmp 43]) rfl ?_); at_builtin; refine RB_append (w0 := w) w.heap.size rfl (.tmp 42) (.tmp 43) rfl u3 x3_1 41 rfl rfl ?aO ?aB ?aS ?aL ?_; (case aB => exact (by repeat (first | (with_reducible first | exact HB.out | apply below_alloc | apply pw_below_drewN | apply below_drew1) | exact HB.out))); (case aO => exact (by (with_reducible repeat apply RB_drewN); exact HO_3.out)); (case aS => exact (below_size (by repeat (first | (with_reducible first | exact HB.out | apply below_alloc | apply pw_below_drewN | apply below_drew1) | exact HB.out)))); (case aL => have := LMc33.out; omega); intro v414 w34 ho hb hg hat; rw [← Ny413.out] at ho; have n0_ := Aside0.mk (hb); have n1_ := Aside0.mk (ho); clear HB; clear HO_3; have HB := n0_; have HO415 := n1_; clear n0_ n1_; clear ho hb hg hat; have hcv35 := own_string (P := Tryd.prog) Tryd.underlying58 Tryd.underlying5 Tryd.underlying9 (Kd.own_of_R HO415.out)))
       go_ret
       exact ⟨by first | rfl | (simp [errW_none, errW_some] <;> rfl) | (simp [*, errW_none, errW_some] <;> rfl), by repeat (first | (with_reducible first | exact HB.out | apply below_alloc | apply pw_below_drewN | apply below_drew1) | exact HB.out)⟩
      ·rw [if_neg c33] at H
       exact absurd H (by simp)
def postbaglaw2_gap.f (k : Nat) (l0 : List ByteArray) (a1 : Int) : Option (ByteArray) := if a1 ≥ (l0.length : Int) then (some (⟨#[32]⟩ : ByteArray)) else (if 0 ≤ a1 then (if a1 < (l0.length : Int) then (if (((rdOf ByteArray.empty l0 a1).size : Int) % 4) = 0 then (some (⟨#[13, 10, 9]⟩ : ByteArray)) else (if (((rdOf ByteArray.empty l0 a1).size : Int) % 4) = 1 then ((postbaglaw2_inside.f k (rdOf ByteArray.empty l0 a1)).bind fun t418 => (if 4 + t418.size ≤ 9223372036854775807 then (if ((⟨#[32, 40, 97, 32]⟩ : ByteArray) ++ t418).size + 1 ≤ 9223372036854775807 then (some (((⟨#[32, 40, 97, 32]⟩ : ByteArray) ++ t418) ++ (⟨#[41]⟩ : ByteArray))) else (none)) else (none))) else (if (((rdOf ByteArray.empty l0 a1).size : Int) % 4) = 2 then ((postbaglaw2_inside.f k (rdOf ByteArray.empty l0 a1)).bind fun t420 => ((postbaglaw2_inside.f k (⟨#[]⟩ : ByteArray)).bind fun t421 => (if t420.size + t421.size ≤ 9223372036854775807 then (some (t420 ++ t421)) else (none)))) else ((postbaglaw2_inside.f k (rdOf ByteArray.empty l0 a1)).bind fun t423 => (if 3 + t423.size ≤ 9223372036854775807 then (if ((⟨#[32, 32, 9]⟩ : ByteArray) ++ t423).size + 1 ≤ 9223372036854775807 then (some (((⟨#[32, 32, 9]⟩ : ByteArray) ++ t423) ++ (⟨#[32]⟩ : ByteArray))) else (none)) else (none)))))) else (none)) else (none))
set_option maxHeartbeats 8000000 in
set_option maxRecDepth 100000 in
theorem postbaglaw2_gap.calls (k : Nat) (A0 : Option Addr) (c0 : Nat) (l0 : List ByteArray) (a1 : Int) (r : ByteArray) (w : World) (hr0 : Kd.C Kd.string w A0 l0.length l0) (hc0 : l0.length ≤ c0) (h : postbaglaw2_gap.f k l0 a1 = some r) :
  Calls Tryd.prog 25 #[.slice A0 l0.length c0, .int .i64 a1] w fun e w' => e = .returned (.string r) ∧ Below w.heap.size w w' := by
 have HR0 := Aside0.mk hr0
 have HC0 := Aside0.mk hc0
 clear hr0 hc0
 have HB := Aside0.mk (Below.refl w.heap.size w)
 have H : (if a1 ≥ (l0.length : Int) then (some (⟨#[32]⟩ : ByteArray)) else (if 0 ≤ a1 then (if a1 < (l0.length : Int) then (if (((rdOf ByteArray.empty l0 a1).size : Int) % 4) = 0 then (some (⟨#[13, 10, 9]⟩ : ByteArray)) else (if (((rdOf ByteArray.empty l0 a1).size : Int) % 4) = 1 then ((postbaglaw2_inside.f k (rdOf ByteArray.empty l0 a1)).bind fun t418 => (if 4 + t418.size ≤ 9223372036854775807 then (if ((⟨#[32, 40, 97, 32]⟩ : ByteArray) ++ t418).size + 1 ≤ 9223372036854775807 then (some (((⟨#[32, 40, 97, 32]⟩ : ByteArray) ++ t418) ++ (⟨#[41]⟩ : ByteArray))) else (none)) else (none))) else (if (((rdOf ByteArray.empty l0 a1).size : Int) % 4) = 2 then ((postbaglaw2_inside.f k (rdOf ByteArray.empty l0 a1)).bind fun t420 => ((postbaglaw2_inside.f k (⟨#[]⟩ : ByteArray)).bind fun t421 => (if t420.size + t421.size ≤ 9223372036854775807 then (some (t420 ++ t421)) else (none)))) else ((postbaglaw2_inside.f k (rdOf ByteArray.empty l0 a1)).bind fun t423 => (if 3 + t423.size ≤ 9223372036854775807 then (if ((⟨#[32, 32, 9]⟩ : ByteArray) ++ t423).size + 1 ≤ 9223372036854775807 then (some (((⟨#[32, 32, 9]⟩ : ByteArray) ++ t423) ++ (⟨#[32]⟩ : ByteArray))) else (none)) else (none)))))) else (none)) else (none))) = some r := h
 clear h
 by_cases c3 : a1 ≥ (l0.length : Int)
 ·rw [if_pos c3] at H
  have c3b0 : decide ((l0.length : Int) ≤ a1) = true := decide_eq_true c3
  clear c3
  obtain rfl := Option.some.inj H
  go_enter Tryd.func25, Tryd.ntmps25
  go_wp2
  go_ret
  exact ⟨by first | rfl | (simp [errW_none, errW_some] <;> rfl) | (simp [*, errW_none, errW_some] <;> rfl), by repeat (first | (with_reducible first | exact HB.out | apply below_alloc | apply pw_below_drewN | apply below_drew1) | exact HB.out)⟩
 ·rw [if_neg c3] at H
  have c3b0 : decide ((l0.length : Int) ≤ a1) = false := decide_eq_false c3
  clear c3
  by_cases c4 : 0 ≤ a1
  ·rw [if_pos c4] at H
   have c4b0 : decide (0 ≤ a1) = true := decide_eq_true c4
   clear c4
   by_cases c5 : a1 < (l0.length : Int)
   ·rw [if_pos c5] at H
    have c5b0 : decide (a1 < (l0.length : Int)) = true := decide_eq_true c5
    clear c5
    by_cases c6 : (((rdOf ByteArray.empty l0 a1).size : Int) % 4) = 0
    ·rw [if_pos c6] at H
     have c6b0 : ((((rdOf ByteArray.empty l0 a1).size : Int) % 4) == 0) = true := beq_iff_eq.mpr c6
     have c6b1 : ((((rdOf ByteArray.empty l0 a1).size : Int) % 4) != 0) = false := bne_eq_false_iff_eq.mpr c6
     clear c6
     obtain rfl := Option.some.inj H
     have p416 : 0 ≤ (a1 : Int) := of_decide_eq_true (by first | (with_reducible assumption) | assumption)
     have q416 : a1 < (l0.length : Int) := of_decide_eq_true (by first | (with_reducible assumption) | assumption)
     obtain ⟨ad416, e416, hx416_0⟩ := Kd.at_string HR0.out a1 p416 q416
     cases e416
     replace p416 := eq_true p416
     replace q416 := eq_true q416
     go_enter Tryd.func25, Tryd.ntmps25
     go_wp2
     go_ret
     exact ⟨by first | rfl | (simp [errW_none, errW_some] <;> rfl) | (simp [*, errW_none, errW_some] <;> rfl), by repeat (first | (with_reducible first | exact HB.out | apply below_alloc | apply pw_below_drewN | apply below_drew1) | exact HB.out)⟩
    ·rw [if_neg c6] at H
     have c6b0 : ((((rdOf ByteArray.empty l0 a1).size : Int) % 4) == 0) = false := beq_eq_false_iff_ne.mpr c6
     have c6b1 : ((((rdOf ByteArray.empty l0 a1).size : Int) % 4) != 0) = true := bne_iff_ne.mpr c6
     by_cases c7 : (((rdOf ByteArray.empty l0 a1).size : Int) % 4) = 1
     ·rw [if_pos c7] at H
      have c7b0 : ((((rdOf ByteArray.empty l0 a1).size : Int) % 4) == 1) = true := beq_iff_eq.mpr c7
      have c7b1 : ((((rdOf ByteArray.empty l0 a1).size : Int) % 4) != 1) = false := bne_eq_false_iff_eq.mpr c7
      clear c7
      replace H := Option.bind_eq_some_iff.mp H
      obtain ⟨t418, A80, H⟩ := H
      replace H : (if 4 + t418.size ≤ 9223372036854775807 then (if ((⟨#[32, 40, 97, 32]⟩ : ByteArray) ++ t418).size + 1 ≤ 9223372036854775807 then (some (((⟨#[32, 40, 97, 32]⟩ : ByteArray) ++ t418) ++ (⟨#[41]⟩ : ByteArray))) else (none)) else (none)) = some r := H
      have A8 := Aside0.mk A80
      clear A80
      by_cases c9 : 4 + t418.size ≤ 9223372036854775807
      ·rw [if_pos c9] at H
       have c9b0 := eq_true c9
       have c9b1 : decide (4 + t418.size ≤ 9223372036854775807) = true := decide_eq_true c9
       try have c9b2 : (9223372036854775807 < 4 + t418.size) = False := eq_false (Nat.not_lt.2 c9)
       by_cases c10 : ((⟨#[32, 40, 97, 32]⟩ : ByteArray) ++ t418).size + 1 ≤ 9223372036854775807
       ·rw [if_pos c10] at H
        have c10b0 := eq_true c10
        have c10b1 : decide (((⟨#[32, 40, 97, 32]⟩ : ByteArray) ++ t418).size + 1 ≤ 9223372036854775807) = true := decide_eq_true c10
        try have c10b2 : (9223372036854775807 < ((⟨#[32, 40, 97, 32]⟩ : ByteArray) ++ t418).size + 1) = False := eq_false (Nat.not_lt.2 c10)
        try have c10b7 : (9223372036854775807 < 4 + t418.size + 1) = False := eq_false (by have h_ := c10; have e0_ : (⟨#[32, 40, 97, 32]⟩ : ByteArray).size = 4 := rfl; (try dsimp only at e0_); simp only [ByteArray.size_append, ByteArray.size_extract] at h_; first | exact Nat.not_lt.2 h_ | omega | (simp at h_ ⊢; omega))
        try have c10b3 : (9223372036854775807 < (⟨#[32, 40, 97, 32]⟩ : ByteArray).size + t418.size + 1) = False := eq_false (by have h_ := c10; simp only [ByteArray.size_append] at h_; omega)
        obtain rfl := Option.some.inj H
        have p416 : 0 ≤ (a1 : Int) := of_decide_eq_true (by first | (with_reducible assumption) | assumption)
        have q416 : a1 < (l0.length : Int) := of_decide_eq_true (by first | (with_reducible assumption) | assumption)
        obtain ⟨ad416, e416, hx416_0⟩ := Kd.at_string HR0.out a1 p416 q416
        cases e416
        replace p416 := eq_true p416
        replace q416 := eq_true q416
        have p417 : 0 ≤ (a1 : Int) := of_decide_eq_true (by first | (with_reducible assumption) | assumption)
        have q417 : a1 < (l0.length : Int) := of_decide_eq_true (by first | (with_reducible assumption) | assumption)
        obtain ⟨ad417, e417, hx417_0⟩ := Kd.at_string HR0.out a1 p417 q417
        obtain rfl : ad416 = ad417 := (by injection e417)
        replace p417 := eq_true p417
        replace q417 := eq_true q417
        go_enter Tryd.func25, Tryd.ntmps25
        go_wp2_with (first | ((with_reducible refine gate_callee (f := 51) rfl ?_); refine goesL_ (some 23) rfl rfl Tryd.func51 (by kernel_rfl) rfl #[.string (rdOf ByteArray.empty l0 a1)] rfl (by (try simp only [List.map_toArray, List.map_cons, List.map_nil]); first | done | rfl) ?_; (with_reducible refine (postbaglaw2_inside.calls k (rdOf ByteArray.empty l0 a1) t418 _ A8.out).mono ?_); rintro e w11 ⟨rfl, hb⟩; refine ⟨_, rfl, ?_⟩; have n0_ := Aside0.mk (below_step (by repeat (first | (with_reducible first | exact HB.out | apply below_alloc | apply pw_below_drewN | apply below_drew1) | exact HB.out)) hb); clear HB; have HB := n0_; clear n0_; (try clear hb); (try clear hb2); (try clear hk); (try clear hi)))
        go_ret
        exact ⟨by first | rfl | (simp [errW_none, errW_some] <;> rfl) | (simp [*, errW_none, errW_some] <;> rfl), by repeat (first | (with_reducible first | exact HB.out | apply below_alloc | apply pw_below_drewN | apply below_drew1) | exact HB.out)⟩
       ·rw [if_neg c10] at H
        exact absurd H (by simp)
      ·rw [if_neg c9] at H
       exact absurd H (by simp)
     ·rw [if_neg c7] at H
      have c7b0 : ((((rdOf ByteArray.empty l0 a1).size : Int) % 4) == 1) = false := beq_eq_false_iff_ne.mpr c7
      have c7b1 : ((((rdOf ByteArray.empty l0 a1).size : Int) % 4) != 1) = true := bne_iff_ne.mpr c7
      by_cases c12 : (((rdOf ByteArray.empty l0 a1).size : Int) % 4) = 2
      ·rw [if_pos c12] at H
       have c12b0 : ((((rdOf ByteArray.empty l0 a1).size : Int) % 4) == 2) = true := beq_iff_eq.mpr c12
       have c12b1 : ((((rdOf ByteArray.empty l0 a1).size : Int) % 4) != 2) = false := bne_eq_false_iff_eq.mpr c12
       clear c12
       replace H := Option.bind_eq_some_iff.mp H
       obtain ⟨t420, A130, H⟩ := H
       replace H : ((postbaglaw2_inside.f k (⟨#[]⟩ : ByteArray)).bind fun t421 => (if t420.size + t421.size ≤ 9223372036854775807 then (some (t420 ++ t421)) else (none))) = some r := H
       have A13 := Aside0.mk A130
       clear A130
       replace H := Option.bind_eq_some_iff.mp H
       obtain ⟨t421, A140, H⟩ := H
       replace H : (if t420.size + t421.size ≤ 9223372036854775807 then (some (t420 ++ t421)) else (none)) = some r := H
       have A14 := Aside0.mk A140
       clear A140
       by_cases c15 : t420.size + t421.size ≤ 9223372036854775807
       ·rw [if_pos c15] at H
        have c15b0 := eq_true c15
        have c15b1 : decide (t420.size + t421.size ≤ 9223372036854775807) = true := decide_eq_true c15
        try have c15b2 : (9223372036854775807 < t420.size + t421.size) = False := eq_false (Nat.not_lt.2 c15)
        obtain rfl := Option.some.inj H
        have p416 : 0 ≤ (a1 : Int) := of_decide_eq_true (by first | (with_reducible assumption) | assumption)
        have q416 : a1 < (l0.length : Int) := of_decide_eq_true (by first | (with_reducible assumption) | assumption)
        obtain ⟨ad416, e416, hx416_0⟩ := Kd.at_string HR0.out a1 p416 q416
        cases e416
        replace p416 := eq_true p416
        replace q416 := eq_true q416
        have p419 : 0 ≤ (a1 : Int) := of_decide_eq_true (by first | (with_reducible assumption) | assumption)
        have q419 : a1 < (l0.length : Int) := of_decide_eq_true (by first | (with_reducible assumption) | assumption)
        obtain ⟨ad419, e419, hx419_0⟩ := Kd.at_string HR0.out a1 p419 q419
        obtain rfl : ad416 = ad419 := (by injection e419)
        replace p419 := eq_true p419
        replace q419 := eq_true q419
        go_enter Tryd.func25, Tryd.ntmps25
        go_wp2_with (first | ((with_reducible refine gate_callee (f := 51) rfl ?_); refine goesL_ (some 32) rfl rfl Tryd.func51 (by kernel_rfl) rfl #[.string (rdOf ByteArray.empty l0 a1)] rfl (by (try simp only [List.map_toArray, List.map_cons, List.map_nil]); first | done | rfl) ?_; (with_reducible refine (postbaglaw2_inside.calls k (rdOf ByteArray.empty l0 a1) t420 _ A13.out).mono ?_); rintro e w16 ⟨rfl, hb⟩; refine ⟨_, rfl, ?_⟩; have n0_ := Aside0.mk (below_step (by repeat (first | (with_reducible first | exact HB.out | apply below_alloc | apply pw_below_drewN | apply below_drew1) | exact HB.out)) hb); clear HB; have HB := n0_; clear n0_; (try clear hb); (try clear hb2); (try clear hk); (try clear hi)) | ((with_reducible refine gate_callee (f := 51) rfl ?_); refine goesL_ (some 33) rfl rfl Tryd.func51 (by kernel_rfl) rfl #[.string (⟨#[]⟩ : ByteArray)] rfl (by (try simp only [List.map_toArray, List.map_cons, List.map_nil]); first | done | rfl) ?_; (with_reducible refine (postbaglaw2_inside.calls k (⟨#[]⟩ : ByteArray) t421 _ A14.out).mono ?_); rintro e w17 ⟨rfl, hb⟩; refine ⟨_, rfl, ?_⟩; have n0_ := Aside0.mk (below_step (by repeat (first | (with_reducible first | exact HB.out | apply below_alloc | apply pw_below_drewN | apply below_drew1) | exact HB.out)) hb); clear HB; have HB := n0_; clear n0_; (try clear hb); (try clear hb2); (try clear hk); (try clear hi)))
        go_ret
        exact ⟨by first | rfl | (simp [errW_none, errW_some] <;> rfl) | (simp [*, errW_none, errW_some] <;> rfl), by repeat (first | (with_reducible first | exact HB.out | apply below_alloc | apply pw_below_drewN | apply below_drew1) | exact HB.out)⟩
       ·rw [if_neg c15] at H
        exact absurd H (by simp)
      ·rw [if_neg c12] at H
       have c12b0 : ((((rdOf ByteArray.empty l0 a1).size : Int) % 4) == 2) = false := beq_eq_false_iff_ne.mpr c12
       have c12b1 : ((((rdOf ByteArray.empty l0 a1).size : Int) % 4) != 2) = true := bne_iff_ne.mpr c12
       replace H := Option.bind_eq_some_iff.mp H
       obtain ⟨t423, A180, H⟩ := H
       replace H : (if 3 + t423.size ≤ 9223372036854775807 then (if ((⟨#[32, 32, 9]⟩ : ByteArray) ++ t423).size + 1 ≤ 9223372036854775807 then (some (((⟨#[32, 32, 9]⟩ : ByteArray) ++ t423) ++ (⟨#[32]⟩ : ByteArray))) else (none)) else (none)) = some r := H
       have A18 := Aside0.mk A180
       clear A180
       by_cases c19 : 3 + t423.size ≤ 9223372036854775807
       ·rw [if_pos c19] at H
        have c19b0 := eq_true c19
        have c19b1 : decide (3 + t423.size ≤ 9223372036854775807) = true := decide_eq_true c19
        try have c19b2 : (9223372036854775807 < 3 + t423.size) = False := eq_false (Nat.not_lt.2 c19)
        by_cases c20 : ((⟨#[32, 32, 9]⟩ : ByteArray) ++ t423).size + 1 ≤ 9223372036854775807
        ·rw [if_pos c20] at H
         have c20b0 := eq_true c20
         have c20b1 : decide (((⟨#[32, 32, 9]⟩ : ByteArray) ++ t423).size + 1 ≤ 9223372036854775807) = true := decide_eq_true c20
         try have c20b2 : (9223372036854775807 < ((⟨#[32, 32, 9]⟩ : ByteArray) ++ t423).size + 1) = False := eq_false (Nat.not_lt.2 c20)
         try have c20b7 : (9223372036854775807 < 3 + t423.size + 1) = False := eq_false (by have h_ := c20; have e0_ : (⟨#[32, 32, 9]⟩ : ByteArray).size = 3 := rfl; (try dsimp only at e0_); simp only [ByteArray.size_append, ByteArray.size_extract] at h_; first | exact Nat.not_lt.2 h_ | omega | (simp at h_ ⊢; omega))
         try have c20b3 : (9223372036854775807 < (⟨#[32, 32, 9]⟩ : ByteArray).size + t423.size + 1) = False := eq_false (by have h_ := c20; simp only [ByteArray.size_append] at h_; omega)
         obtain rfl := Option.some.inj H
         have p416 : 0 ≤ (a1 : Int) := of_decide_eq_true (by first | (with_reducible assumption) | assumption)
         have q416 : a1 < (l0.length : Int) := of_decide_eq_true (by first | (with_reducible assumption) | assumption)
         obtain ⟨ad416, e416, hx416_0⟩ := Kd.at_string HR0.out a1 p416 q416
         cases e416
         replace p416 := eq_true p416
         replace q416 := eq_true q416
         have p422 : 0 ≤ (a1 : Int) := of_decide_eq_true (by first | (with_reducible assumption) | assumption)
         have q422 : a1 < (l0.length : Int) := of_decide_eq_true (by first | (with_reducible assumption) | assumption)
         obtain ⟨ad422, e422, hx422_0⟩ := Kd.at_string HR0.out a1 p422 q422
         obtain rfl : ad416 = ad422 := (by injection e422)
         replace p422 := eq_true p422
         replace q422 := eq_true q422
         go_enter Tryd.func25, Tryd.ntmps25
         go_wp2_with (first | ((with_reducible refine gate_callee (f := 51) rfl ?_); refine goesL_ (some 39) rfl rfl Tryd.func51 (by kernel_rfl) rfl #[.string (rdOf ByteArray.empty l0 a1)] rfl (by (try simp only [List.map_toArray, List.map_cons, List.map_nil]); first | done | rfl) ?_; (with_reducible refine (postbaglaw2_inside.calls k (rdOf ByteArray.empty l0 a1) t423 _ A18.out).mono ?_); rintro e w21 ⟨rfl, hb⟩; refine ⟨_, rfl, ?_⟩; have n0_ := Aside0.mk (below_step (by repeat (first | (with_reducible first | exact HB.out | apply below_alloc | apply pw_below_drewN | apply below_drew1) | exact HB.out)) hb); clear HB; have HB := n0_; clear n0_; (try clear hb); (try clear hb2); (try clear hk); (try clear hi)))
         go_ret
         exact ⟨by first | rfl | (simp [errW_none, errW_some] <;> rfl) | (simp [*, errW_none, errW_some] <;> rfl), by repeat (first | (with_reducible first | exact HB.out | apply below_alloc | apply pw_below_drewN | apply below_drew1) | exact HB.out)⟩
        ·rw [if_neg c20] at H
         exact absurd H (by simp)
       ·rw [if_neg c19] at H
        exact absurd H (by simp)
   ·rw [if_neg c5] at H
    exact absurd H (by simp)
  ·rw [if_neg c4] at H
   exact absurd H (by simp)
def postbaglaw2_two.f (a0 : Int) : Option (ByteArray) := some (strOfNums (([(wrap64 (48 + (wrap64 (Int.tdiv a0 10)))) % 256, (wrap64 (48 + (Int.tmod a0 10))) % 256] : List Int)))
set_option maxHeartbeats 8000000 in
set_option maxRecDepth 100000 in
theorem postbaglaw2_two.calls (a0 : Int) (r : ByteArray) (w : World) (h : postbaglaw2_two.f a0 = some r) :
  Calls Tryd.prog 26 #[.int .i64 a0] w fun e w' => e = .returned (.string r) ∧ Below w.heap.size w w' := by
 have HB := Aside0.mk (Below.refl w.heap.size w)
 have H : (some (strOfNums (([(wrap64 (48 + (wrap64 (Int.tdiv a0 10)))) % 256, (wrap64 (48 + (Int.tmod a0 10))) % 256] : List Int)))) = some r := h
 clear h
 obtain ⟨y424, hy424⟩ : ∃ y_ : List Int, y_ = (([(wrap64 (48 + (wrap64 (Int.tdiv a0 10)))) % 256, (wrap64 (48 + (Int.tmod a0 10))) % 256] : List Int)) := ⟨_, rfl⟩
 replace H : (some (strOfNums y424)) = some r := by first | (rw [hy424]; with_reducible exact H) | (have H2_ := (Option.bind_some _ _).symm.trans H; rw [hy424]; with_reducible exact H2_) | (have H2_ := (Option.bind_some _ _).symm.trans H; with_reducible exact H2_) | with_reducible exact H | (rw [hy424]; exact H) | exact H
 have Ny424 := Aside0.mk hy424
 clear hy424
 obtain rfl := Option.some.inj H
 go_enter Tryd.func26, Tryd.ntmps26
 go_wp2_with (first | ((with_reducible refine gate_dst (N := 11) rfl ?_); refine Kd.R_lit (Kd.int .u8) _ 5 ?hg (N := 11) ?hd (xs := ([(wrap64 (48 + (wrap64 (Int.tdiv a0 10)))) % 256, (wrap64 (48 + (Int.tmod a0 10))) % 256] : List Int)) (inner := [.int .u8 ((wrap64 (48 + (wrap64 (Int.tdiv a0 10)))) % 256), .int .u8 ((wrap64 (48 + (Int.tmod a0 10))) % 256)]) (ok := fun _ => True) (okp := fun _ => True) ?hr ?hp (fun _ hk => hk) trivial (Below.refl _ _) (Nat.le_refl _) (by simp) ?_; (case hd => rfl); (case hg => rfl); (case hr => first | (go_simp; done) | (go_simp; rfl)); (case hp => exact (Reps.one (show Kd.M (Kd.int .u8) _ _ _ ((wrap64 (48 + (wrap64 (Int.tdiv a0 10)))) % 256) [.int .u8 ((wrap64 (48 + (wrap64 (Int.tdiv a0 10)))) % 256)] from rfl) (Reps.one (show Kd.M (Kd.int .u8) _ _ _ ((wrap64 (48 + (Int.tmod a0 10))) % 256) [.int .u8 ((wrap64 (48 + (Int.tmod a0 10))) % 256)] from rfl) (Reps.none _ _)))); intro v425 w2 ho3 hb hg_ hnew_; clear hg_ hnew_; (first | rw [← Ny424.out] at ho3 | (simp only [Int.reduceToNat] at ho3; rw [← Ny424.out] at ho3)); have n0_ := Aside0.mk (Kd.R_lower ho3 (below_size (by repeat (first | (with_reducible first | exact HB.out | apply below_alloc | apply pw_below_drewN | apply below_drew1) | exact HB.out)))); have n1_ := Aside0.mk (below_step (by repeat (first | (with_reducible first | exact HB.out | apply below_alloc | apply pw_below_drewN | apply below_drew1) | exact HB.out)) hb); clear HB; have HO426 := n0_; have HB := n1_; clear n0_ n1_; clear hb ho3; have hcv4 := own_string (P := Tryd.prog) Tryd.underlying58 Tryd.underlying5 Tryd.underlying9 (Kd.own_of_R HO426.out)))
 go_ret
 exact ⟨by first | rfl | (simp [errW_none, errW_some] <;> rfl) | (simp [*, errW_none, errW_some] <;> rfl), by repeat (first | (with_reducible first | exact HB.out | apply below_alloc | apply pw_below_drewN | apply below_drew1) | exact HB.out)⟩
end Go.Proofs.YtjlchnmpebdggaaDoor.Mo
end
section
namespace Go.Proofs.YtjlchnmpebdggaaDoor.Mo
open Go.RowKit Go.Proofs.YtjlchnmpebdggaaDoorW.PrintWords Go.Proofs.YtjlchnmpebdggaaDoorW.PrintLast Go.Proofs.YtjlchnmpebdggaaDoorW.PrintMore
attribute [local go_sem] max2_int min2_int max_two min_two max_three min_three max_four min_four   -- for this text's walks alone
set_option linter.unusedVariables false
set_option linter.unusedSimpArgs false
def moment_leap.f (a0 : Int) : Option (Bool) := if (Int.tmod a0 4) = 0 then (if (Int.tmod a0 100) = 0 then (some ((Int.tmod a0 400) == 0)) else (some true)) else (some false)
set_option maxHeartbeats 8000000 in
set_option maxRecDepth 100000 in
theorem moment_leap.calls (a0 : Int) (r : Bool) (w : World) (h : moment_leap.f a0 = some r) :
  Calls Tryd.prog 86 #[.int .i64 a0] w fun e w' => e = .returned (.bool r) ∧ Drawn0 w w' := by
 have H : (if (Int.tmod a0 4) = 0 then (if (Int.tmod a0 100) = 0 then (some ((Int.tmod a0 400) == 0)) else (some true)) else (some false)) = some r := h
 clear h
 refine (Classical.em ((Int.tmod a0 4) = 0)).elim (fun c2 => ?p2) (fun c2 => ?n2)
 case' p2 =>
  rw [if_pos c2] at H
  have c2b0 : ((Int.tmod a0 4) == 0) = true := beq_iff_eq.mpr c2
  have c2b1 : ((Int.tmod a0 4) != 0) = false := bne_eq_false_iff_eq.mpr c2
  clear c2
  refine (Classical.em ((Int.tmod a0 100) = 0)).elim (fun c3 => ?p3) (fun c3 => ?n3)
  case' p3 =>
   rw [if_pos c3] at H
   have c3b0 : ((Int.tmod a0 100) == 0) = true := beq_iff_eq.mpr c3
   have c3b1 : ((Int.tmod a0 100) != 0) = false := bne_eq_false_iff_eq.mpr c3
   clear c3
   obtain rfl := Option.some.inj H
  case' n3 =>
   rw [if_neg c3] at H
   have c3b0 : ((Int.tmod a0 100) == 0) = false := beq_eq_false_iff_ne.mpr c3
   have c3b1 : ((Int.tmod a0 100) != 0) = true := bne_iff_ne.mpr c3
   obtain rfl := Option.some.inj H
 case' n2 =>
  rw [if_neg c2] at H
  have c2b0 : ((Int.tmod a0 4) == 0) = false := beq_eq_false_iff_ne.mpr c2
  have c2b1 : ((Int.tmod a0 4) != 0) = true := bne_iff_ne.mpr c2
  obtain rfl := Option.some.inj H
 all_goals
  go_enter Tryd.func86, Tryd.ntmps86
  go_wp2
  go_ret
  exact ⟨by first | rfl | (simp; done) | (simp [*]; done), by repeat (first | exact Drawn0.refl _ | apply Drawn0.step)⟩
end Go.Proofs.YtjlchnmpebdggaaDoor.Mo
end
section
namespace Go.Proofs.YtjlchnmpebdggaaDoor.Mo
open Go.RowKit Go.Proofs.YtjlchnmpebdggaaDoorW.PrintWords
def monthDays : List Int := [31, 28, 31, 30, 31, 30, 31, 31, 30, 31, 30, 31]
structure Laid (w : World) : Prop where
  lt : 0 < w.heap.size
  cell : ∀ j, j < 12 → w.cell? ⟨0, j, none⟩ = some (.int .i64 (monthDays.getD j 0))
theorem laid_below {w w1 : World} (h : Laid w) (hb : Below w.heap.size w w1) : Laid w1 :=
  ⟨Nat.lt_of_lt_of_le h.lt hb.size, fun j hj => (hb.cell (p := ⟨0, j, none⟩) h.lt).trans (h.cell j hj)⟩
theorem laid_drawn {w w1 : World} (h : Laid w) (hd : Drawn0 w w1) : Laid w1 := laid_below h hd.below
def leapB (y : Int) : Bool := y.tmod 4 == 0 && (y.tmod 100 != 0 || y.tmod 400 == 0)
theorem leap_f (y : Int) : moment_leap.f y = some (leapB y) := by
  unfold moment_leap.f leapB
  by_cases h1 : y.tmod 4 = 0
  · by_cases h2 : y.tmod 100 = 0 <;> simp [h1, h2]
  · simp [h1]
def lengthP (y m : Int) : Int := if m = 2 ∧ leapB y = true then 29 else monthDays.getD (m - 1).toNat 0
def moment_length.f (a0 a1 : Int) : Option Int := if 1 ≤ a1 ∧ a1 ≤ 12 then some (lengthP a0 a1) else none
set_option maxHeartbeats 1000000 in
theorem moment_length.calls (a0 a1 r : Int) (w : World) (h : moment_length.f a0 a1 = some r) (hL : Laid w) :
    Calls Tryd.prog 47 #[.int .i64 a0, .int .i64 a1] w fun e w' => e = .returned (.int .i64 r) ∧ Drawn0 w w' := by
  unfold moment_length.f at h
  by_cases hm : 1 ≤ a1 ∧ a1 ≤ 12
  · rw [if_pos hm] at h
    obtain rfl := Option.some.inj h
    obtain ⟨h1, h2⟩ := hm
    by_cases e2 : a1 = 2
    · subst e2
      have hl := leap_f a0
      cases hb : leapB a0 with
      | true =>
        have he : Hid (lengthP a0 2 = 29) := by show lengthP a0 2 = 29; unfold lengthP; rw [if_pos ⟨rfl, hb⟩]
        rw [hb] at hl
        have HL := Lib.hid hl
        clear hl hb h
        go_enter Tryd.func47, Tryd.ntmps47
        go_wp2_with (go_at_call 86; refine (moment_leap.calls _ _ _ HL.out).mono ?_; rintro e w' ⟨rfl, ⟨nd, rfl⟩⟩)
        go_ret
        exact ⟨by rw [he.out]; rfl, ⟨_, rfl⟩⟩
      | false =>
        have he : Hid (lengthP a0 2 = 28) := by show lengthP a0 2 = 28; unfold lengthP; rw [if_neg (by simp [hb])]; rfl
        rw [hb] at hl
        have HL := Lib.hid hl
        have hc : w.cell? ⟨0, 1, none⟩ = some (.int .i64 28) := hL.cell 1 (by decide)
        clear hl hb h hL
        go_enter Tryd.func47, Tryd.ntmps47
        go_wp2_with (go_at_call 86; refine (moment_leap.calls _ _ _ HL.out).mono ?_; rintro e w' ⟨rfl, ⟨nd, rfl⟩⟩)
        go_ret
        exact ⟨by rw [he.out]; rfl, ⟨_, rfl⟩⟩
    · have he : Hid (lengthP a0 a1 = monthDays.getD (a1 - 1).toNat 0) := by show lengthP a0 a1 = _; unfold lengthP; rw [if_neg (by simp [e2])]
      have hb : (a1 == 2) = false := by simp [e2]
      obtain ⟨n, rfl⟩ : ∃ n : Nat, a1 = n + 1 := ⟨(a1 - 1).toNat, by omega⟩
      have hc : w.cell? ⟨0, n, none⟩ = some (.int .i64 (monthDays.getD n 0)) := hL.cell n (by omega)
      have hn : n < 12 := by omega
      clear e2 h hL
      go_enter Tryd.func47, Tryd.ntmps47
      go_wp2
      go_ret
      exact ⟨by rw [he.out]; simp, ⟨0, rfl⟩⟩
  · rw [if_neg hm] at h
    exact absurd h (by simp)
end Go.Proofs.YtjlchnmpebdggaaDoor.Mo
end
