import Derived.Test.YtjlchnmpebdggaaDoorRows
import Derived.Test.YtjlchnmpebdggaaDoorWArr
import Derived.ChangeArms
import Derived.SizedLaws
import Derived.Test.YtjlchnmpebdggaaDoorProg
import Derived.Test.YtjlchnmpebdggaaDoorAid
import Derived.Below
import Derived.Deep.Draws
import Derived.Deep.AppendLies
import Derived.Maps.AppendAt
import Derived.OwnWalk
import Derived.Laws.BytesArg
import Derived.Laws.MakeOwn
import Derived.Laws.OwnMore
import Derived.Deep.OwnRows
import Derived.Tactics
import Derived.Lib.ConvBytes
import Derived.Laws.Slices
import Derived.WalkKit
import Derived.KernelRfl
import Derived.RowKit3
import Derived.Deep.LoopGhost
import Derived.Deep.QuietTactic
import Derived.BigQuiet
import Derived.WideLaws
import Derived.Deep.DeepCutAuto
import Derived.Deep.CutBlock
import Derived.Deep.RegionHeld3
import Derived.Laws.Rows
import Derived.Lib.AppendStr
import Derived.ArgAppend
import Derived.Laws.IdiomCopy
import Derived.OrdersHeld
import Derived.Laws.BitsLemmas
import Derived.RowKit
import Derived.Test.YtjlchnmpebdggaaDoorWWords
import Derived.Test.YtjlchnmpebdggaaDoorWLast
import Derived.Test.YtjlchnmpebdggaaDoorWTab
import Derived.Test.YtjlchnmpebdggaaDoorWFour
import Derived.Test.YtjlchnmpebdggaaDoorWQPut
import Derived.Test.YtjlchnmpebdggaaDoorWApart
import Derived.Test.YtjlchnmpebdggaaDoorWZeros
import Derived.Test.YtjlchnmpebdggaaDoorWFoot
import Derived.Test.YtjlchnmpebdggaaDoorWKept
import Derived.Test.YtjlchnmpebdggaaDoorWShare
import Derived.Test.YtjlchnmpebdggaaDoorWN
import Derived.Test.YtjlchnmpebdggaaDoorWFootNe
import Derived.Test.YtjlchnmpebdggaaDoorWAt
import Derived.Test.YtjlchnmpebdggaaDoorWEqStruct
import Derived.Test.YtjlchnmpebdggaaDoorWRepsOne
import Derived.Test.YtjlchnmpebdggaaDoorWInv
import Derived.Test.YtjlchnmpebdggaaDoorWInvWords
import Derived.Test.YtjlchnmpebdggaaDoorWGuard
import Derived.Test.YtjlchnmpebdggaaDoorWNEv
import Derived.Test.YtjlchnmpebdggaaDoorWMore
import Derived.Lib.Hide
/- How arguments are read: whatever the form reads as data of a type is a value of the print's kind in memory, within the form's reach; and how much bulk it has. -/
namespace Go.Proofs.YtjlchnmpebdggaaDoor.Op
open Go.Proofs.YtjlchnmpebdggaaDoorW.PrintWords
open Go.Proofs.YtjlchnmpebdggaaDoor.Rows (uptoBulk uptoBulkAll)

theorem mem_all {H : Type} {P : Program} {e : TypeId} : ∀ {l : List (DataW H)} {d : DataW H} {n : Nat}, d ∈ l → n ∈ d.weights P e → n ∈ DataW.weightsAll P e l
  | [], _, _, h, _ => absurd h (by simp)
  | y :: r, d, n, h, hn => by
    unfold DataW.weightsAll
    rcases List.mem_cons.1 h with rfl | h
    · exact List.mem_append_left _ hn
    · exact List.mem_append_right _ (mem_all h hn)
theorem mem_each {H : Type} {P : Program} : ∀ {ts : List TypeId} {ds : List (DataW H)} {j : Nat} {t : TypeId} {d : DataW H} {n : Nat}, ts[j]? = some t → ds[j]? = some d → n ∈ d.weights P t → n ∈ DataW.weightsEach P ts ds :=
  fun ht hd hn => DataW.weights_mem_each ht hd _ hn

/-- A type is read as a kind. -/
def Opens (P : Program) (t : TypeId) {α : Type} (d : Kd α) (good : α → Prop) (bulk : α → Nat) : Prop :=
  ∀ (H : Type) (enc : TypeId × Value → H) (w : World) (base : Nat) (spare : Nat → Bool) (held : Bool) (fuel : Nat) (cs : List Value) (x : DataW H × List MemPlace),
    DataW.trod enc P w base spare held fuel t cs = some x → (∀ n ∈ x.1.weights P t, n ≤ reachBytes) → ∃ y : α, d.K w y cs ∧ good y ∧ bulk y ≤ uptoBulk x.1
theorem op_int {P : Program} {t : TypeId} {k : IntKind} (ht : P.underlying t = some (.int k)) : Opens P t (Kd.int k) (fun n => (Lit.int k n).wf = true) (fun _ => 1) := by
  intro H enc w base spare held fuel cs x h _
  obtain ⟨n, rfl, rfl, hw⟩ := DataW.trod_int ht h
  exact ⟨n, rfl, hw, by simp [uptoBulk]⟩
theorem op_bool {P : Program} {t : TypeId} (ht : P.underlying t = some .bool) : Opens P t Kd.bool (fun _ => True) (fun _ => 1) := by
  intro H enc w base spare held fuel cs x h _
  obtain ⟨b, rfl, rfl⟩ := DataW.trod_bool ht h
  exact ⟨b, rfl, trivial, by simp [uptoBulk]⟩
theorem op_string {P : Program} {t : TypeId} (ht : P.underlying t = some .string) : Opens P t Kd.string (fun s => s.size ≤ 140737488351232) (fun s => s.size + 1) := by
  intro H enc w base spare held fuel cs x h hr
  obtain ⟨s, rfl, rfl, hw⟩ := DataW.trod_string ht h
  refine ⟨s, rfl, ?_, by simp [uptoBulk]⟩
  have := hr s.data.toList.length (by simp [DataW.weights])
  have e : reachBytes = 140737488351232 := rfl
  rw [e] at this
  simpa using this
def sumBulk {α : Type} (f : α → Nat) : List α → Nat
  | [] => 0
  | x :: r => f x + sumBulk f r
theorem choose_list {α β : Type} {R : Nat → α → β → Prop} : ∀ (l : List β), (∀ i y, l[i]? = some y → ∃ x, R i x y) → ∃ xs : List α, xs.length = l.length ∧ ∀ i x y, xs[i]? = some x → l[i]? = some y → R i x y
  | [], _ => ⟨[], rfl, fun i x y h => by simp at h⟩
  | y :: r, h => by
    obtain ⟨x0, h0⟩ := h 0 y rfl
    obtain ⟨xs, hl, hx⟩ := choose_list (R := fun i => R (i + 1)) r (fun i y hy => h (i + 1) y hy)
    refine ⟨x0 :: xs, by simp [hl], fun i x y' hx' hy' => ?_⟩
    cases i with
    | zero => simp at hx' hy'; subst hx'; subst hy'; exact h0
    | succ i => exact hx i x y' (by simpa using hx') (by simpa using hy')
theorem sumBulk_le {α H : Type} {f : α → Nat} : ∀ (xs : List α) (ds : List (DataW H)), xs.length = ds.length → (∀ (i : Nat) x d, xs[i]? = some x → ds[i]? = some d → f x ≤ uptoBulk d) → sumBulk f xs ≤ uptoBulkAll ds
  | [], [], _, _ => by simp [sumBulk]
  | [], _ :: _, h, _ => absurd h (by simp)
  | _ :: _, [], h, _ => absurd h (by simp)
  | x :: xs, d :: ds, h, hf => by
    have h1 := hf 0 x d rfl rfl
    have h2 := sumBulk_le xs ds (by simpa using h) (fun i x d hx hd => hf (i + 1) x d hx hd)
    simp only [sumBulk, uptoBulkAll]
    omega
theorem mapM_spec {α β : Type} {f : α → Option β} : ∀ {l : List α} {cs : List β}, l.mapM f = some cs → cs.length = l.length ∧ ∀ (j : Nat) x, l[j]? = some x → f x = cs[j]?
  | [], cs, h => by
    simp at h
    subst h
    exact ⟨rfl, fun j x hx => by simp at hx⟩
  | y :: r, cs, h => by
    rw [List.mapM_cons] at h
    simp only [Option.bind_eq_bind, Option.bind_eq_some_iff, Option.pure_def, Option.some.injEq] at h
    obtain ⟨c, hc, rs, hrs, rfl⟩ := h
    obtain ⟨h1, h2⟩ := mapM_spec hrs
    refine ⟨by simp [h1], fun j x hx => ?_⟩
    cases j with
    | zero => simp at hx; subst hx; simpa using hc
    | succ j => simpa using h2 j x (by simpa using hx)
theorem cells?_spec {w : World} {base : Nat} {a : Addr} {n : Nat} {cs : List Value} (h : w.cells? base a n = some cs) : cs.length = n ∧ ∀ j u, cs[j]? = some u → w.cell? (a.add j) = some u := by
  unfold World.cells? at h
  split at h
  · obtain ⟨h1, h2⟩ := mapM_spec h
    rw [List.length_range] at h1
    refine ⟨h1, fun j u hu => ?_⟩
    have hj : j < n := by rw [← h1]; exact (List.getElem?_eq_some_iff.1 hu).1
    have := h2 j j (by rw [List.getElem?_range hj])
    rw [this, hu]
  · exact absurd h (by simp)
theorem op_slice {P : Program} {t e : TypeId} {α : Type} {d : Kd α} {good : α → Prop} {bulk : α → Nat} (ht : P.underlying t = some (.slice e)) (hc : P.cellsOf e = d.sz) (ho : Opens P e d good bulk) :
    Opens P t (Kd.slice e d) (fun xs => (∀ x ∈ xs, good x) ∧ xs.length * P.bytesOf e ≤ 140737488351232) (fun xs => sumBulk bulk xs + 1) := by
  intro H enc w base spare held fuel cs x h hr
  have er : reachBytes = 140737488351232 := rfl
  rcases DataW.trod_slice ht h with ⟨rfl, rfl⟩ | ⟨a, len, cap, elems, rest, n, _, rfl, rfl, hb, hl, hm, hlen, hel, hsp, hns⟩
  · exact ⟨[], ⟨none, 0, rfl, Nat.le_refl _, ⟨rfl, by simp, fun h => absurd h (by simp)⟩⟩, ⟨by simp, by simp⟩, by simp [sumBulk, uptoBulk]⟩
  · have hws : ∀ y ∈ elems.map (·.1), ∀ n ∈ y.weights P e, n ≤ reachBytes := fun y hy n hn => hr n (by
      simp only [DataW.weights, ht]
      exact List.mem_cons_of_mem _ (List.mem_append_left _ (mem_all hy hn)))
    have each : ∀ i y, elems[i]? = some y → ∃ x : α, (∃ c, c.length = d.sz ∧ d.K w x c ∧ ∀ j u, c[j]? = some u → w.cell? (a.add (i * d.sz + j)) = some u) ∧ good x ∧ bulk x ≤ uptoBulk y.1 := by
      intro i y hy
      have hi : i < len := by rw [← hlen]; exact (List.getElem?_eq_some_iff.1 hy).1
      have h1 := hel i hi
      rw [hy, Option.bind_eq_some_iff] at h1
      obtain ⟨c, hcs, htr⟩ := h1
      obtain ⟨x, hx, hg, hbk⟩ := ho H enc w base spare held n c y htr (fun q hq => hws y.1 (List.mem_map.2 ⟨y, List.mem_of_getElem? hy, rfl⟩) q hq)
      obtain ⟨hcl, hcell⟩ := cells?_spec hcs
      rw [hc] at hcl hcell
      refine ⟨x, ⟨c, hcl, hx, fun j u hu => ?_⟩, hg, hbk⟩
      have := hcell j u hu
      rwa [add_add] at this
    obtain ⟨xs, hxl, hx⟩ := choose_list elems each
    have hxlen : xs.length = len := hxl.trans hlen
    have hgood : ∀ x ∈ xs, good x := fun x hxm => by
      obtain ⟨i, hi⟩ := List.getElem?_of_mem hxm
      have hil : i < elems.length := by rw [← hxl]; exact (List.getElem?_eq_some_iff.1 hi).1
      exact (hx i x _ hi (List.getElem?_eq_getElem hil)).2.1
    refine ⟨xs, ⟨some a, cap, by rw [hxlen], by omega, ⟨rfl, by unfold maxLen at hm; omega, fun _ => ⟨a, rfl, fun j p hj => ?_⟩⟩⟩, ⟨hgood, ?_⟩, ?_⟩
    · have hil : j < elems.length := by rw [← hxl]; exact (List.getElem?_eq_some_iff.1 hj).1
      exact (hx j p _ hj (List.getElem?_eq_getElem hil)).1
    · have := hr (((elems.map (·.1)).length + (rest.map (·.1)).length) * P.bytesOf e) (by simp only [DataW.weights, ht]; exact List.mem_cons_self)
      rw [er, List.length_map, List.length_map, hlen] at this
      rw [hxlen]
      exact Nat.le_trans (Nat.mul_le_mul_right _ (by omega)) this
    · have h1 := sumBulk_le (f := bulk) xs (elems.map (·.1)) (by rw [List.length_map, hxl]) (fun i x d hx' hd => by
        rw [List.getElem?_map, Option.map_eq_some_iff] at hd
        obtain ⟨y, hy, rfl⟩ := hd
        exact (hx i x y hx' hy).2.2)
      simp only [uptoBulk]
      omega
/-- The fields of a struct from a place on are read as a kind. -/
def OpensF (P : Program) (fs : List Field) (off : Nat) {α : Type} (d : Kd α) (good : α → Prop) (bulk : α → Nat) : Prop :=
  ∀ (H : Type) (enc : TypeId × Value → H) (w : World) (base : Nat) (spare : Nat → Bool) (held : Bool) (fuel : Nat) (cs : List Value) (xs : List (DataW H × List MemPlace)), off + d.sz ≤ cs.length →
    xs.length = fs.length → (∀ (i : Nat) (f : Field), fs[i]? = some f → DataW.trod enc P w base spare held fuel f.type ((cs.drop f.offset).take (P.cellsOf f.type)) = xs[i]?) →
    (∀ (i : Nat) (f : Field) y, fs[i]? = some f → xs[i]? = some y → ∀ n ∈ y.1.weights P f.type, n ≤ reachBytes) → ∃ y : α, d.K w y ((cs.drop off).take d.sz) ∧ good y ∧ bulk y ≤ uptoBulkAll (xs.map (·.1))
theorem op_last {P : Program} {f : Field} {off : Nat} {α : Type} {d : Kd α} {good : α → Prop} {bulk : α → Nat} (hf : f.offset = off) (hc : P.cellsOf f.type = d.sz) (ho : Opens P f.type d good bulk) : OpensF P [f] off d good bulk := by
  intro H enc w base spare held fuel cs xs _ hl hx hr
  match xs, hl with
  | [x], _ =>
    have h := hx 0 f rfl
    rw [hf, hc] at h
    obtain ⟨y, h1, h2, h3⟩ := ho H enc w base spare held fuel _ x h (hr 0 f x rfl rfl)
    refine ⟨y, h1, h2, ?_⟩
    simp only [List.map_cons, List.map_nil, uptoBulkAll]
    omega
theorem op_more {P : Program} {f : Field} {fs : List Field} {off : Nat} {α β : Type} {a : Kd α} {b : Kd β} {ga : α → Prop} {gb : β → Prop} {ba : α → Nat} {bb : β → Nat} (hf : f.offset = off) (hc : P.cellsOf f.type = a.sz)
    (ho : Opens P f.type a ga ba) (hm : OpensF P fs (off + a.sz) b gb bb) : OpensF P (f :: fs) off (Kd.pair a b) (fun z => ga z.1 ∧ gb z.2) (fun z => ba z.1 + bb z.2) := by
  intro H enc w base spare held fuel cs xs hcs hl hx hr
  have hsz : (Kd.pair a b).sz = a.sz + b.sz := rfl
  rw [hsz] at hcs
  match xs, hl with
  | x :: xr, hl =>
    have h := hx 0 f rfl
    rw [hf, hc] at h
    obtain ⟨y, h1, h2, h3⟩ := ho H enc w base spare held fuel _ x h (hr 0 f x rfl rfl)
    obtain ⟨z, k1, k2, k3⟩ := hm H enc w base spare held fuel cs xr (by omega) (by simpa using hl) (fun i g hg => by simpa using hx (i + 1) g (by simpa using hg)) (fun i g y hg hy => hr (i + 1) g y (by simpa using hg) (by simpa using hy))
    refine ⟨(y, z), ⟨_, _, ?_, h1, k1⟩, ⟨h2, k2⟩, ?_⟩
    · rw [hsz, List.take_add, List.drop_drop]
    · simp only [List.map_cons, uptoBulkAll]
      omega
theorem op_struct {P : Program} {t : TypeId} {fs : Array Field} {α β : Type} {d : Kd α} {good : α → Prop} {bulk : α → Nat} (f : β → α) (g : α → β) (hfg : ∀ y, f (g y) = y) (ht : P.underlying t = some (.struct fs)) (hc : P.cellsOf t = d.sz)
    (ho : OpensF P fs.toList 0 d good bulk) : Opens P t (Kd.iso d f) (fun x => good (f x)) (fun x => bulk (f x) + 1) := by
  intro H enc w base spare held fuel cs x h hr
  obtain ⟨xs, n, _, rfl, hcl, hxl, hx⟩ := DataW.trod_struct ht h
  obtain ⟨y, h1, h2, h3⟩ := ho H enc w base spare held n cs xs (by omega) (by rw [hxl]; simp) (fun i q hq => hx i q (by simpa using hq)) (fun i q y hq hy m hm => hr m (by
    simp only [DataW.weights, ht]
    refine mem_each (j := i) (t := q.type) (d := y.1) ?_ ?_ hm
    · rw [List.getElem?_map, hq]; rfl
    · rw [List.getElem?_map, hy]; rfl))
  refine ⟨g y, ?_, by show good (f (g y)); rw [hfg]; exact h2, ?_⟩
  · show d.K w (f (g y)) cs
    rw [hfg]
    have e : (cs.drop 0).take d.sz = cs := by rw [List.drop_zero, List.take_of_length_le (by omega)]
    rw [e] at h1
    exact h1
  · show bulk (f (g y)) + 1 ≤ _
    rw [hfg]
    simp only [uptoBulk]
    omega
end Go.Proofs.YtjlchnmpebdggaaDoor.Op
/- Printed by wip/myprint.py of this session over the kit's print.py: contracts of Go functions (each: what a plain Lean function says, the call does). -/
namespace Go.Proofs.YtjlchnmpebdggaaDoor.Mo
open Go.RowKit Go.Proofs.YtjlchnmpebdggaaDoorW.PrintWords Go.Proofs.YtjlchnmpebdggaaDoorW.PrintLast Go.Proofs.YtjlchnmpebdggaaDoorW.PrintMore
attribute [local go_sem] max2_int min2_int max_two min_two max_three min_three max_four min_four   -- for this text's walks alone
set_option linter.unusedVariables false
set_option linter.unusedSimpArgs false



def errW : Option Int → Value
  | none => .nilIface
  | some c => .iface 0 (.int .i64 c)
theorem errW_none : errW none = .nilIface := rfl
theorem errW_some (c : Int) : errW (some c) = .iface 0 (.int .i64 c) := rfl

theorem info3 : (Tryd.prog.info? 3).map (fun i => (i.zero, i.size, i.bytes)) = some (some (.int .i64 0), 1, 8) := by kernel_rfl
theorem info5 : (Tryd.prog.info? 5).map (fun i => (i.zero, i.size, i.bytes)) = some (some (.int .u8 0), 1, 1) := by kernel_rfl
theorem info9 : (Tryd.prog.info? 9).map (fun i => (i.zero, i.size, i.bytes)) = some (some (.string ⟨#[]⟩), 1, 16) := by kernel_rfl
-- the values' own types
/-! #### struct type 23 -/
structure S23 where
  f0 : Int
  f1 : Int
  f2 : Int
  f3 : Int
  f4 : Int
  f5 : Int
  f6 : Int
def z23 : S23 := ⟨(0 : Int), (0 : Int), (0 : Int), (0 : Int), (0 : Int), (0 : Int), (0 : Int)⟩
def k23 : Kd S23 := Kd.iso (Kd.pair (Kd.int .i64) (Kd.pair (Kd.int .i64) (Kd.pair (Kd.int .i64) (Kd.pair (Kd.int .i64) (Kd.pair (Kd.int .i64) (Kd.pair (Kd.int .i64) (Kd.int .i64))))))) (fun x : S23 => (x.f0, x.f1, x.f2, x.f3, x.f4, x.f5, x.f6))
theorem k23_open {w : World} {x : S23} {cs : List Value} (h : k23.K w x cs) : cs = [.int .i64 x.f0, .int .i64 x.f1, .int .i64 x.f2, .int .i64 x.f3, .int .i64 x.f4, .int .i64 x.f5, .int .i64 x.f6] := by
  obtain ⟨_, _, rfl, rfl, ⟨_, _, rfl, rfl, ⟨_, _, rfl, rfl, ⟨_, _, rfl, rfl, ⟨_, _, rfl, rfl, ⟨_, _, rfl, rfl, rfl⟩⟩⟩⟩⟩⟩ := h
  exact rfl
theorem k23_openM {w : World} {base : Nat} {ok : Nat → Prop} {x : S23} {cs : List Value} (h : k23.M w base ok x cs) : cs = [.int .i64 x.f0, .int .i64 x.f1, .int .i64 x.f2, .int .i64 x.f3, .int .i64 x.f4, .int .i64 x.f5, .int .i64 x.f6] := by
  obtain ⟨_, _, rfl, rfl, ⟨_, _, rfl, rfl, ⟨_, _, rfl, rfl, ⟨_, _, rfl, rfl, ⟨_, _, rfl, rfl, ⟨_, _, rfl, rfl, rfl⟩⟩⟩⟩⟩⟩ := h
  exact rfl
theorem k23_mk (w : World) (x : S23)  : k23.K w x [.int .i64 x.f0, .int .i64 x.f1, .int .i64 x.f2, .int .i64 x.f3, .int .i64 x.f4, .int .i64 x.f5, .int .i64 x.f6] := ⟨[.int .i64 x.f0], [.int .i64 x.f1, .int .i64 x.f2, .int .i64 x.f3, .int .i64 x.f4, .int .i64 x.f5, .int .i64 x.f6], rfl, rfl, ⟨[.int .i64 x.f1], [.int .i64 x.f2, .int .i64 x.f3, .int .i64 x.f4, .int .i64 x.f5, .int .i64 x.f6], rfl, rfl, ⟨[.int .i64 x.f2], [.int .i64 x.f3, .int .i64 x.f4, .int .i64 x.f5, .int .i64 x.f6], rfl, rfl, ⟨[.int .i64 x.f3], [.int .i64 x.f4, .int .i64 x.f5, .int .i64 x.f6], rfl, rfl, ⟨[.int .i64 x.f4], [.int .i64 x.f5, .int .i64 x.f6], rfl, rfl, ⟨[.int .i64 x.f5], [.int .i64 x.f6], rfl, rfl, rfl⟩⟩⟩⟩⟩⟩
theorem k23_mkM (w : World) (base : Nat) (ok : Nat → Prop) (x : S23)  : k23.M w base ok x [.int .i64 x.f0, .int .i64 x.f1, .int .i64 x.f2, .int .i64 x.f3, .int .i64 x.f4, .int .i64 x.f5, .int .i64 x.f6] := ⟨[.int .i64 x.f0], [.int .i64 x.f1, .int .i64 x.f2, .int .i64 x.f3, .int .i64 x.f4, .int .i64 x.f5, .int .i64 x.f6], rfl, rfl, ⟨[.int .i64 x.f1], [.int .i64 x.f2, .int .i64 x.f3, .int .i64 x.f4, .int .i64 x.f5, .int .i64 x.f6], rfl, rfl, ⟨[.int .i64 x.f2], [.int .i64 x.f3, .int .i64 x.f4, .int .i64 x.f5, .int .i64 x.f6], rfl, rfl, ⟨[.int .i64 x.f3], [.int .i64 x.f4, .int .i64 x.f5, .int .i64 x.f6], rfl, rfl, ⟨[.int .i64 x.f4], [.int .i64 x.f5, .int .i64 x.f6], rfl, rfl, ⟨[.int .i64 x.f5], [.int .i64 x.f6], rfl, rfl, rfl⟩⟩⟩⟩⟩⟩
def rd_T23 (xs : List S23) (i : Int) : S23 := xs.getD i.toNat z23
theorem at_T23 {w : World} {A : Option Addr} {n : Nat} {xs : List S23} (h : Kd.C k23 w A n xs) (i : Int) (h0 : 0 ≤ i) (h1 : i < n) : ∃ ad , A = some ad ∧ w.cell? (ad.add (i.toNat * 7)) = some (.int .i64 (rd_T23 xs i).f0) ∧ w.cell? ⟨(ad.add (i.toNat * 7)).block, (ad.add (i.toNat * 7)).off + 1, none⟩ = some (.int .i64 (rd_T23 xs i).f1) ∧ w.cell? ⟨(ad.add (i.toNat * 7)).block, (ad.add (i.toNat * 7)).off + 2, none⟩ = some (.int .i64 (rd_T23 xs i).f2) ∧ w.cell? ⟨(ad.add (i.toNat * 7)).block, (ad.add (i.toNat * 7)).off + 3, none⟩ = some (.int .i64 (rd_T23 xs i).f3) ∧ w.cell? ⟨(ad.add (i.toNat * 7)).block, (ad.add (i.toNat * 7)).off + 4, none⟩ = some (.int .i64 (rd_T23 xs i).f4) ∧ w.cell? ⟨(ad.add (i.toNat * 7)).block, (ad.add (i.toNat * 7)).off + 5, none⟩ = some (.int .i64 (rd_T23 xs i).f5) ∧ w.cell? ⟨(ad.add (i.toNat * 7)).block, (ad.add (i.toNat * 7)).off + 6, none⟩ = some (.int .i64 (rd_T23 xs i).f6) := by
  obtain ⟨ad, c, e, _, hK, hc0⟩ := Kd.C_get h z23 i h0 h1
  have hc : ∀ j u, c[j]? = some u → w.cell? (ad.add (i.toNat * 7 + j)) = some u := hc0
  obtain rfl := k23_open hK
  exact ⟨ad, e, hc 0 _ rfl, by rw [← add_field _ _ 1 (by omega)]; exact hc 1 _ rfl, by rw [← add_field _ _ 2 (by omega)]; exact hc 2 _ rfl, by rw [← add_field _ _ 3 (by omega)]; exact hc 3 _ rfl, by rw [← add_field _ _ 4 (by omega)]; exact hc 4 _ rfl, by rw [← add_field _ _ 5 (by omega)]; exact hc 5 _ rfl, by rw [← add_field _ _ 6 (by omega)]; exact hc 6 _ rfl⟩

/-! #### struct type 95 -/
structure S95 where
  f0 : Int
  f1 : ByteArray
def z95 : S95 := ⟨(0 : Int), (⟨#[]⟩ : ByteArray)⟩
def k95 : Kd S95 := Kd.iso (Kd.pair (Kd.int .u8) Kd.string) (fun x : S95 => (x.f0, x.f1))
theorem k95_open {w : World} {x : S95} {cs : List Value} (h : k95.K w x cs) : cs = [.int .u8 x.f0, .string x.f1] := by
  obtain ⟨_, _, rfl, rfl, rfl⟩ := h
  exact rfl
theorem k95_openM {w : World} {base : Nat} {ok : Nat → Prop} {x : S95} {cs : List Value} (h : k95.M w base ok x cs) : cs = [.int .u8 x.f0, .string x.f1] := by
  obtain ⟨_, _, rfl, rfl, rfl⟩ := h
  exact rfl
theorem k95_mk (w : World) (x : S95)  : k95.K w x [.int .u8 x.f0, .string x.f1] := ⟨[.int .u8 x.f0], [.string x.f1], rfl, rfl, rfl⟩
theorem k95_mkM (w : World) (base : Nat) (ok : Nat → Prop) (x : S95)  : k95.M w base ok x [.int .u8 x.f0, .string x.f1] := ⟨[.int .u8 x.f0], [.string x.f1], rfl, rfl, rfl⟩
def rd_T95 (xs : List S95) (i : Int) : S95 := xs.getD i.toNat z95
theorem at_T95 {w : World} {A : Option Addr} {n : Nat} {xs : List S95} (h : Kd.C k95 w A n xs) (i : Int) (h0 : 0 ≤ i) (h1 : i < n) : ∃ ad , A = some ad ∧ w.cell? (ad.add (i.toNat * 2)) = some (.int .u8 (rd_T95 xs i).f0) ∧ w.cell? ⟨(ad.add (i.toNat * 2)).block, (ad.add (i.toNat * 2)).off + 1, none⟩ = some (.string (rd_T95 xs i).f1) := by
  obtain ⟨ad, c, e, _, hK, hc0⟩ := Kd.C_get h z95 i h0 h1
  have hc : ∀ j u, c[j]? = some u → w.cell? (ad.add (i.toNat * 2 + j)) = some u := hc0
  obtain rfl := k95_open hK
  exact ⟨ad, e, hc 0 _ rfl, by rw [← add_field _ _ 1 (by omega)]; exact hc 1 _ rfl⟩

def rd_L6 (xs : List (List S95)) (i : Int) : (List S95) := xs.getD i.toNat ([] : List S95)
theorem at_L6 {w : World} {A : Option Addr} {n : Nat} {xs : List (List S95)} (h : Kd.C (Kd.slice 95 k95) w A n xs) (i : Int) (h0 : 0 ≤ i) (h1 : i < n) : ∃ ad A0 c0, A = some ad ∧ w.cell? (ad.add i.toNat) = some (.slice A0 (rd_L6 xs i).length c0) ∧ (rd_L6 xs i).length ≤ c0 ∧ k95.C w A0 (rd_L6 xs i).length (rd_L6 xs i) := by
  obtain ⟨ad, c, e, _, hK, hc0⟩ := Kd.C_get h ([] : List S95) i h0 h1
  have hc : ∀ j u, c[j]? = some u → w.cell? (ad.add (i.toNat * 1 + j)) = some u := hc0
  obtain ⟨A0, c0, rfl, l0, g0⟩ := hK
  exact ⟨ad, A0, c0, e, by have hq := hc 0 _ rfl; rwa [Nat.mul_one, Nat.add_zero] at hq, l0, g0⟩

def rd_L7 (xs : List (List ByteArray)) (i : Int) : (List ByteArray) := xs.getD i.toNat ([] : List ByteArray)
theorem at_L7 {w : World} {A : Option Addr} {n : Nat} {xs : List (List ByteArray)} (h : Kd.C (Kd.slice 9 Kd.string) w A n xs) (i : Int) (h0 : 0 ≤ i) (h1 : i < n) : ∃ ad A0 c0, A = some ad ∧ w.cell? (ad.add i.toNat) = some (.slice A0 (rd_L7 xs i).length c0) ∧ (rd_L7 xs i).length ≤ c0 ∧ Kd.string.C w A0 (rd_L7 xs i).length (rd_L7 xs i) := by
  obtain ⟨ad, c, e, _, hK, hc0⟩ := Kd.C_get h ([] : List ByteArray) i h0 h1
  have hc : ∀ j u, c[j]? = some u → w.cell? (ad.add (i.toNat * 1 + j)) = some u := hc0
  obtain ⟨A0, c0, rfl, l0, g0⟩ := hK
  exact ⟨ad, A0, c0, e, by have hq := hc 0 _ rfl; rwa [Nat.mul_one, Nat.add_zero] at hq, l0, g0⟩

end Go.Proofs.YtjlchnmpebdggaaDoor.Mo
/- Printed by wip/myprint.py of this session over the kit's print.py: contracts of Go functions (each: what a plain Lean function says, the call does). -/
namespace Go.Proofs.YtjlchnmpebdggaaDoor.Mo
open Go.RowKit Go.Proofs.YtjlchnmpebdggaaDoorW.PrintWords Go.Proofs.YtjlchnmpebdggaaDoorW.PrintLast Go.Proofs.YtjlchnmpebdggaaDoorW.PrintMore
attribute [local go_sem] max2_int min2_int max_two min_two max_three min_three max_four min_four   -- for this text's walks alone
set_option linter.unusedVariables false
set_option linter.unusedSimpArgs false

/-! ### moment_leap: function 86 -/
def moment_leap.f (a0 : Int) : Option (Bool) := if (Int.tmod a0 4) = 0 then (if (Int.tmod a0 100) = 0 then (some ((Int.tmod a0 400) == 0)) else (some true)) else (some false)
set_option maxHeartbeats 8000000 in
set_option maxRecDepth 100000 in
theorem moment_leap.calls (a0 : Int) (r : Bool) (w : World) (h : moment_leap.f a0 = some r) :
  Calls Tryd.prog 86 #[.int .i64 a0] w fun e w' => e = .returned (.bool r) ∧ Drawn0 w w' := by
 have H : (if (Int.tmod a0 4) = 0 then (if (Int.tmod a0 100) = 0 then (some ((Int.tmod a0 400) == 0)) else (some true)) else (some false)) = some r := h
 clear h
 by_cases c2 : (Int.tmod a0 4) = 0
 ·rw [if_pos c2] at H
  have c2b0 : ((Int.tmod a0 4) == 0) = true := beq_iff_eq.mpr c2
  have c2b1 : ((Int.tmod a0 4) != 0) = false := bne_eq_false_iff_eq.mpr c2
  clear c2
  by_cases c3 : (Int.tmod a0 100) = 0
  ·rw [if_pos c3] at H
   have c3b0 : ((Int.tmod a0 100) == 0) = true := beq_iff_eq.mpr c3
   have c3b1 : ((Int.tmod a0 100) != 0) = false := bne_eq_false_iff_eq.mpr c3
   clear c3
   obtain rfl := Option.some.inj H
   go_enter Tryd.func86, Tryd.ntmps86
   go_wp2
   go_ret
   exact ⟨by first | rfl | (simp; done) | (simp [*]; done), by repeat (first | exact Drawn0.refl _ | apply Drawn0.step)⟩
  ·rw [if_neg c3] at H
   have c3b0 : ((Int.tmod a0 100) == 0) = false := beq_eq_false_iff_ne.mpr c3
   have c3b1 : ((Int.tmod a0 100) != 0) = true := bne_iff_ne.mpr c3
   obtain rfl := Option.some.inj H
   go_enter Tryd.func86, Tryd.ntmps86
   go_wp2
   go_ret
   exact ⟨by first | rfl | (simp; done) | (simp [*]; done), by repeat (first | exact Drawn0.refl _ | apply Drawn0.step)⟩
 ·rw [if_neg c2] at H
  have c2b0 : ((Int.tmod a0 4) == 0) = false := beq_eq_false_iff_ne.mpr c2
  have c2b1 : ((Int.tmod a0 4) != 0) = true := bne_iff_ne.mpr c2
  obtain rfl := Option.some.inj H
  go_enter Tryd.func86, Tryd.ntmps86
  go_wp2
  go_ret
  exact ⟨by first | rfl | (simp; done) | (simp [*]; done), by repeat (first | exact Drawn0.refl _ | apply Drawn0.step)⟩

end Go.Proofs.YtjlchnmpebdggaaDoor.Mo
/- moment.length: the days of a month, out of the table that the program's text lays; and what is said of that table. -/
namespace Go.Proofs.YtjlchnmpebdggaaDoor.Mo
open Go.RowKit Go.Proofs.YtjlchnmpebdggaaDoorW.PrintWords
/-- The table of the months' days. -/
def monthDays : List Int := [31, 28, 31, 30, 31, 30, 31, 31, 30, 31, 30, 31]
/-- The table lies where the program's text lays it. -/
structure Laid (w : World) : Prop where
  lt : 0 < w.heap.size
  cell : ∀ j, j < 12 → w.cell? ⟨0, j, none⟩ = some (.int .i64 (monthDays.getD j 0))
theorem laid_below {w w1 : World} (h : Laid w) (hb : Below w.heap.size w w1) : Laid w1 :=
  ⟨Nat.lt_of_lt_of_le h.lt hb.size, fun j hj => (hb.cell (p := ⟨0, j, none⟩) h.lt).trans (h.cell j hj)⟩
theorem laid_drawn {w w1 : World} (h : Laid w) (hd : Drawn0 w w1) : Laid w1 := laid_below h hd.below
def leapB (y : Int) : Bool := y.tmod 4 == 0 && (y.tmod 100 != 0 || y.tmod 400 == 0)
theorem leap_f (y : Int) : moment_leap.f y = some (leapB y) := by
  unfold moment_leap.f leapB
  by_cases h1 : y.tmod 4 = 0
  · by_cases h2 : y.tmod 100 = 0 <;> simp [h1, h2]
  · simp [h1]
def lengthP (y m : Int) : Int := if m = 2 ∧ leapB y = true then 29 else monthDays.getD (m - 1).toNat 0
def moment_length.f (a0 a1 : Int) : Option Int := if 1 ≤ a1 ∧ a1 ≤ 12 then some (lengthP a0 a1) else none
set_option maxHeartbeats 1000000 in
theorem moment_length.calls (a0 a1 r : Int) (w : World) (h : moment_length.f a0 a1 = some r) (hL : Laid w) :
    Calls Tryd.prog 47 #[.int .i64 a0, .int .i64 a1] w fun e w' => e = .returned (.int .i64 r) ∧ Drawn0 w w' := by
  unfold moment_length.f at h
  by_cases hm : 1 ≤ a1 ∧ a1 ≤ 12
  · rw [if_pos hm] at h
    obtain rfl := Option.some.inj h
    obtain ⟨h1, h2⟩ := hm
    by_cases e2 : a1 = 2
    · subst e2
      have hl := leap_f a0
      cases hb : leapB a0 with
      | true =>
        have he : Hid (lengthP a0 2 = 29) := by show lengthP a0 2 = 29; unfold lengthP; rw [if_pos ⟨rfl, hb⟩]
        rw [hb] at hl
        have HL := Lib.hid hl
        clear hl hb h
        go_enter Tryd.func47, Tryd.ntmps47
        go_wp2_with (go_at_call 86; refine (moment_leap.calls _ _ _ HL.out).mono ?_; rintro e w' ⟨rfl, ⟨nd, rfl⟩⟩)
        go_ret
        exact ⟨by rw [he.out]; rfl, ⟨_, rfl⟩⟩
      | false =>
        have he : Hid (lengthP a0 2 = 28) := by show lengthP a0 2 = 28; unfold lengthP; rw [if_neg (by simp [hb])]; rfl
        rw [hb] at hl
        have HL := Lib.hid hl
        have hc : w.cell? ⟨0, 1, none⟩ = some (.int .i64 28) := hL.cell 1 (by decide)
        clear hl hb h hL
        go_enter Tryd.func47, Tryd.ntmps47
        go_wp2_with (go_at_call 86; refine (moment_leap.calls _ _ _ HL.out).mono ?_; rintro e w' ⟨rfl, ⟨nd, rfl⟩⟩)
        go_ret
        exact ⟨by rw [he.out]; rfl, ⟨_, rfl⟩⟩
    · have he : Hid (lengthP a0 a1 = monthDays.getD (a1 - 1).toNat 0) := by show lengthP a0 a1 = _; unfold lengthP; rw [if_neg (by simp [e2])]
      have hb : (a1 == 2) = false := by simp [e2]
      obtain ⟨n, rfl⟩ : ∃ n : Nat, a1 = n + 1 := ⟨(a1 - 1).toNat, by omega⟩
      have hc : w.cell? ⟨0, n, none⟩ = some (.int .i64 (monthDays.getD n 0)) := hL.cell n (by omega)
      have hn : n < 12 := by omega
      clear e2 h hL
      go_enter Tryd.func47, Tryd.ntmps47
      go_wp2
      go_ret
      exact ⟨by rw [he.out]; simp, ⟨0, rfl⟩⟩
  · rw [if_neg hm] at h
    exact absurd h (by simp)
end Go.Proofs.YtjlchnmpebdggaaDoor.Mo
