import Derived.Test.YtidcchopmbodkaaDoorRows
import Derived.Test.YtidcchopmbodkaaDoorQj0
import Derived.ChangeArms
import Derived.SizedLaws
import Derived.Orders
import Derived.Tactics
import Derived.Test.YtidcchopmbodkaaDoorQj1
import Derived.Test.YtidcchopmbodkaaDoorProg
import Derived.Below
import Derived.Deep.Draws
import Derived.Deep.AppendLies
import Derived.Maps.AppendAt
import Derived.OwnWalk
import Derived.Laws.BytesArg
import Derived.Laws.MakeOwn
import Derived.Laws.OwnMore
import Derived.Deep.OwnRows
import Derived.Lib.ConvBytes
import Derived.Laws.Slices
import Derived.WalkKit
import Derived.KernelRfl
import Derived.RowKit3
import Derived.Deep.LoopGhost
import Derived.Deep.QuietTactic
import Derived.BigQuiet
import Derived.WideLaws
import Derived.Deep.DeepCutAuto
import Derived.Deep.CutBlock
import Derived.Deep.RegionHeld3
import Derived.Laws.Rows
import Derived.Lib.AppendStr
import Derived.ArgAppend
import Derived.Laws.IdiomCopy
import Derived.OrdersHeld
import Derived.Laws.BitsLemmas
import Derived.RowKit
import Derived.Shelf.SlGeneric
import Derived.Shelf.Strings.OnBuilder
import Derived.Shelf.Strconv.Itoa3
import Derived.Shelf.Strings.Search1
import Derived.Shelf.Strings.Search2
import Derived.Shelf.Strings.Search3
import Derived.Shelf.SlicesQ.IndexFunc
import Derived.Shelf.SlicesE.Clone
import Derived.Shelf.SlSortCmp.WholeK
import Derived.Shelf.SlSortCmp.NoneTotal
import Derived.Shelf.SlicesG.Cmp
import Derived.Lib.Hide
import Derived.Laws.EntriesVeiled
import Derived.IntWalk
import Derived.StillTailTactics
section
namespace Go.Proofs.YtidcchopmbodkaaDoor.Op
open Go.Proofs.YtidcchopmbodkaaDoorW.PrintWords
open Go.Proofs.YtidcchopmbodkaaDoor.Rows (uptoBulk uptoBulkAll)
theorem mem_all {H : Type} {P : Program} {e : TypeId} : ∀ {l : List (DataW H)} {d : DataW H} {n : Nat}, d ∈ l → n ∈ d.weights P e → n ∈ DataW.weightsAll P e l
  | [], _, _, h, _ => absurd h (by simp)
  | y :: r, d, n, h, hn => by
    unfold DataW.weightsAll
    rcases List.mem_cons.1 h with rfl | h
    · exact List.mem_append_left _ hn
    · exact List.mem_append_right _ (mem_all h hn)
theorem mem_each {H : Type} {P : Program} : ∀ {ts : List TypeId} {ds : List (DataW H)} {j : Nat} {t : TypeId} {d : DataW H} {n : Nat}, ts[j]? = some t → ds[j]? = some d → n ∈ d.weights P t → n ∈ DataW.weightsEach P ts ds :=
  fun ht hd hn => DataW.weights_mem_each ht hd _ hn
def Opens (P : Program) (t : TypeId) {α : Type} (d : Kd α) (good : α → Prop) (bulk : α → Nat) : Prop :=
  ∀ (H : Type) (enc : TypeId × Value → H) (w : World) (base : Nat) (spare : Nat → Bool) (held : Bool) (fuel : Nat) (cs : List Value) (x : DataW H × List MemPlace),
    DataW.trod enc P w base spare held fuel t cs = some x → (∀ n ∈ x.1.weights P t, n ≤ reachBytes) → ∃ y : α, d.K w y cs ∧ good y ∧ bulk y ≤ uptoBulk x.1
theorem op_int {P : Program} {t : TypeId} {k : IntKind} (ht : P.underlying t = some (.int k)) : Opens P t (Kd.int k) (fun n => (Lit.int k n).wf = true) (fun _ => 1) := by
  intro H enc w base spare held fuel cs x h _
  obtain ⟨n, rfl, rfl, hw⟩ := DataW.trod_int ht h
  exact ⟨n, rfl, hw, by simp [uptoBulk]⟩
theorem op_string {P : Program} {t : TypeId} (ht : P.underlying t = some .string) : Opens P t Kd.string (fun s => s.size ≤ 140737488351232) (fun s => s.size + 1) := by
  intro H enc w base spare held fuel cs x h hr
  obtain ⟨s, rfl, rfl, hw⟩ := DataW.trod_string ht h
  refine ⟨s, rfl, ?_, by simp [uptoBulk]⟩
  have := hr s.data.toList.length (by simp [DataW.weights])
  have e : reachBytes = 140737488351232 := rfl
  rw [e] at this
  simpa using this
def sumBulk {α : Type} (f : α → Nat) : List α → Nat
  | [] => 0
  | x :: r => f x + sumBulk f r
theorem choose_list {α β : Type} {R : Nat → α → β → Prop} : ∀ (l : List β), (∀ i y, l[i]? = some y → ∃ x, R i x y) → ∃ xs : List α, xs.length = l.length ∧ ∀ i x y, xs[i]? = some x → l[i]? = some y → R i x y
  | [], _ => ⟨[], rfl, fun i x y h => by simp at h⟩
  | y :: r, h => by
    obtain ⟨x0, h0⟩ := h 0 y rfl
    obtain ⟨xs, hl, hx⟩ := choose_list (R := fun i => R (i + 1)) r (fun i y hy => h (i + 1) y hy)
    refine ⟨x0 :: xs, by simp [hl], fun i x y' hx' hy' => ?_⟩
    cases i with
    | zero => simp at hx' hy'; subst hx'; subst hy'; exact h0
    | succ i => exact hx i x y' (by simpa using hx') (by simpa using hy')
theorem sumBulk_le {α H : Type} {f : α → Nat} : ∀ (xs : List α) (ds : List (DataW H)), xs.length = ds.length → (∀ (i : Nat) x d, xs[i]? = some x → ds[i]? = some d → f x ≤ uptoBulk d) → sumBulk f xs ≤ uptoBulkAll ds
  | [], [], _, _ => by simp [sumBulk]
  | [], _ :: _, h, _ => absurd h (by simp)
  | _ :: _, [], h, _ => absurd h (by simp)
  | x :: xs, d :: ds, h, hf => by
    have h1 := hf 0 x d rfl rfl
    have h2 := sumBulk_le xs ds (by simpa using h) (fun i x d hx hd => hf (i + 1) x d hx hd)
    simp only [sumBulk, uptoBulkAll]
    omega
theorem mapM_spec {α β : Type} {f : α → Option β} : ∀ {l : List α} {cs : List β}, l.mapM f = some cs → cs.length = l.length ∧ ∀ (j : Nat) x, l[j]? = some x → f x = cs[j]?
  | [], cs, h => by
    simp at h
    subst h
    exact ⟨rfl, fun j x hx => by simp at hx⟩
  | y :: r, cs, h => by
    rw [List.mapM_cons] at h
    simp only [Option.bind_eq_bind, Option.bind_eq_some_iff, Option.pure_def, Option.some.injEq] at h
    obtain ⟨c, hc, rs, hrs, rfl⟩ := h
    obtain ⟨h1, h2⟩ := mapM_spec hrs
    refine ⟨by simp [h1], fun j x hx => ?_⟩
    cases j with
    | zero => simp at hx; subst hx; simpa using hc
    | succ j => simpa using h2 j x (by simpa using hx)
theorem cells?_spec {w : World} {base : Nat} {a : Addr} {n : Nat} {cs : List Value} (h : w.cells? base a n = some cs) : cs.length = n ∧ ∀ j u, cs[j]? = some u → w.cell? (a.add j) = some u := by
  unfold World.cells? at h
  split at h
  · obtain ⟨h1, h2⟩ := mapM_spec h
    rw [List.length_range] at h1
    refine ⟨h1, fun j u hu => ?_⟩
    have hj : j < n := by rw [← h1]; exact (List.getElem?_eq_some_iff.1 hu).1
    have := h2 j j (by rw [List.getElem?_range hj])
    rw [this, hu]
  · exact absurd h (by simp)
theorem op_slice {P : Program} {t e : TypeId} {α : Type} {d : Kd α} {good : α → Prop} {bulk : α → Nat} (ht : P.underlying t = some (.slice e)) (hc : P.cellsOf e = d.sz) (ho : Opens P e d good bulk) :
    Opens P t (Kd.slice e d) (fun xs => (∀ x ∈ xs, good x) ∧ xs.length * P.bytesOf e ≤ 140737488351232) (fun xs => sumBulk bulk xs + 1) := by
  intro H enc w base spare held fuel cs x h hr
  have er : reachBytes = 140737488351232 := rfl
  rcases DataW.trod_slice ht h with ⟨rfl, rfl⟩ | ⟨a, len, cap, elems, rest, n, _, rfl, rfl, hb, hl, hm, hlen, hel, hsp, hns⟩
  · exact ⟨[], ⟨none, 0, rfl, Nat.le_refl _, ⟨rfl, by simp, fun h => absurd h (by simp)⟩⟩, ⟨by simp, by simp⟩, by simp [sumBulk, uptoBulk]⟩
  · have hws : ∀ y ∈ elems.map (·.1), ∀ n ∈ y.weights P e, n ≤ reachBytes := fun y hy n hn => hr n (by
      simp only [DataW.weights, ht]
      exact List.mem_cons_of_mem _ (List.mem_append_left _ (mem_all hy hn)))
    have each : ∀ i y, elems[i]? = some y → ∃ x : α, (∃ c, c.length = d.sz ∧ d.K w x c ∧ ∀ j u, c[j]? = some u → w.cell? (a.add (i * d.sz + j)) = some u) ∧ good x ∧ bulk x ≤ uptoBulk y.1 := by
      intro i y hy
      have hi : i < len := by rw [← hlen]; exact (List.getElem?_eq_some_iff.1 hy).1
      have h1 := hel i hi
      rw [hy, Option.bind_eq_some_iff] at h1
      obtain ⟨c, hcs, htr⟩ := h1
      obtain ⟨x, hx, hg, hbk⟩ := ho H enc w base spare held n c y htr (fun q hq => hws y.1 (List.mem_map.2 ⟨y, List.mem_of_getElem? hy, rfl⟩) q hq)
      obtain ⟨hcl, hcell⟩ := cells?_spec hcs
      rw [hc] at hcl hcell
      refine ⟨x, ⟨c, hcl, hx, fun j u hu => ?_⟩, hg, hbk⟩
      have := hcell j u hu
      rwa [add_add] at this
    obtain ⟨xs, hxl, hx⟩ := choose_list elems each
    have hxlen : xs.length = len := hxl.trans hlen
    have hgood : ∀ x ∈ xs, good x := fun x hxm => by
      obtain ⟨i, hi⟩ := List.getElem?_of_mem hxm
      have hil : i < elems.length := by rw [← hxl]; exact (List.getElem?_eq_some_iff.1 hi).1
      exact (hx i x _ hi (List.getElem?_eq_getElem hil)).2.1
    refine ⟨xs, ⟨some a, cap, by rw [hxlen], by omega, ⟨rfl, by unfold maxLen at hm; omega, fun _ => ⟨a, rfl, fun j p hj => ?_⟩⟩⟩, ⟨hgood, ?_⟩, ?_⟩
    · have hil : j < elems.length := by rw [← hxl]; exact (List.getElem?_eq_some_iff.1 hj).1
      exact (hx j p _ hj (List.getElem?_eq_getElem hil)).1
    · have := hr (((elems.map (·.1)).length + (rest.map (·.1)).length) * P.bytesOf e) (by simp only [DataW.weights, ht]; exact List.mem_cons_self)
      rw [er, List.length_map, List.length_map, hlen] at this
      rw [hxlen]
      exact Nat.le_trans (Nat.mul_le_mul_right _ (by omega)) this
    · have h1 := sumBulk_le (f := bulk) xs (elems.map (·.1)) (by rw [List.length_map, hxl]) (fun i x d hx' hd => by
        rw [List.getElem?_map, Option.map_eq_some_iff] at hd
        obtain ⟨y, hy, rfl⟩ := hd
        exact (hx i x y hx' hy).2.2)
      simp only [uptoBulk]
      omega
def OpensF (P : Program) (fs : List Field) (off : Nat) {α : Type} (d : Kd α) (good : α → Prop) (bulk : α → Nat) : Prop :=
  ∀ (H : Type) (enc : TypeId × Value → H) (w : World) (base : Nat) (spare : Nat → Bool) (held : Bool) (fuel : Nat) (cs : List Value) (xs : List (DataW H × List MemPlace)), off + d.sz ≤ cs.length →
    xs.length = fs.length → (∀ (i : Nat) (f : Field), fs[i]? = some f → DataW.trod enc P w base spare held fuel f.type ((cs.drop f.offset).take (P.cellsOf f.type)) = xs[i]?) →
    (∀ (i : Nat) (f : Field) y, fs[i]? = some f → xs[i]? = some y → ∀ n ∈ y.1.weights P f.type, n ≤ reachBytes) → ∃ y : α, d.K w y ((cs.drop off).take d.sz) ∧ good y ∧ bulk y ≤ uptoBulkAll (xs.map (·.1))
theorem op_last {P : Program} {f : Field} {off : Nat} {α : Type} {d : Kd α} {good : α → Prop} {bulk : α → Nat} (hf : f.offset = off) (hc : P.cellsOf f.type = d.sz) (ho : Opens P f.type d good bulk) : OpensF P [f] off d good bulk := by
  intro H enc w base spare held fuel cs xs _ hl hx hr
  match xs, hl with
  | [x], _ =>
    have h := hx 0 f rfl
    rw [hf, hc] at h
    obtain ⟨y, h1, h2, h3⟩ := ho H enc w base spare held fuel _ x h (hr 0 f x rfl rfl)
    refine ⟨y, h1, h2, ?_⟩
    simp only [List.map_cons, List.map_nil, uptoBulkAll]
    omega
theorem op_more {P : Program} {f : Field} {fs : List Field} {off : Nat} {α β : Type} {a : Kd α} {b : Kd β} {ga : α → Prop} {gb : β → Prop} {ba : α → Nat} {bb : β → Nat} (hf : f.offset = off) (hc : P.cellsOf f.type = a.sz)
    (ho : Opens P f.type a ga ba) (hm : OpensF P fs (off + a.sz) b gb bb) : OpensF P (f :: fs) off (Kd.pair a b) (fun z => ga z.1 ∧ gb z.2) (fun z => ba z.1 + bb z.2) := by
  intro H enc w base spare held fuel cs xs hcs hl hx hr
  have hsz : (Kd.pair a b).sz = a.sz + b.sz := rfl
  rw [hsz] at hcs
  match xs, hl with
  | x :: xr, hl =>
    have h := hx 0 f rfl
    rw [hf, hc] at h
    obtain ⟨y, h1, h2, h3⟩ := ho H enc w base spare held fuel _ x h (hr 0 f x rfl rfl)
    obtain ⟨z, k1, k2, k3⟩ := hm H enc w base spare held fuel cs xr (by omega) (by simpa using hl) (fun i g hg => by simpa using hx (i + 1) g (by simpa using hg)) (fun i g y hg hy => hr (i + 1) g y (by simpa using hg) (by simpa using hy))
    refine ⟨(y, z), ⟨_, _, ?_, h1, k1⟩, ⟨h2, k2⟩, ?_⟩
    · rw [hsz, List.take_add, List.drop_drop]
    · simp only [List.map_cons, uptoBulkAll]
      omega
theorem op_struct {P : Program} {t : TypeId} {fs : Array Field} {α β : Type} {d : Kd α} {good : α → Prop} {bulk : α → Nat} (f : β → α) (g : α → β) (hfg : ∀ y, f (g y) = y) (ht : P.underlying t = some (.struct fs)) (hc : P.cellsOf t = d.sz)
    (ho : OpensF P fs.toList 0 d good bulk) : Opens P t (Kd.iso d f) (fun x => good (f x)) (fun x => bulk (f x) + 1) := by
  intro H enc w base spare held fuel cs x h hr
  obtain ⟨xs, n, _, rfl, hcl, hxl, hx⟩ := DataW.trod_struct ht h
  obtain ⟨y, h1, h2, h3⟩ := ho H enc w base spare held n cs xs (by omega) (by rw [hxl]; simp) (fun i q hq => hx i q (by simpa using hq)) (fun i q y hq hy m hm => hr m (by
    simp only [DataW.weights, ht]
    refine mem_each (j := i) (t := q.type) (d := y.1) ?_ ?_ hm
    · rw [List.getElem?_map, hq]; rfl
    · rw [List.getElem?_map, hy]; rfl))
  refine ⟨g y, ?_, by show good (f (g y)); rw [hfg]; exact h2, ?_⟩
  · show d.K w (f (g y)) cs
    rw [hfg]
    have e : (cs.drop 0).take d.sz = cs := by rw [List.drop_zero, List.take_of_length_le (by omega)]
    rw [e] at h1
    exact h1
  · show bulk (f (g y)) + 1 ≤ _
    rw [hfg]
    simp only [uptoBulk]
    omega
end Go.Proofs.YtidcchopmbodkaaDoor.Op
end
section
namespace Go.Proofs.YtidcchopmbodkaaDoor
open Go.Proofs.YtidcchopmbodkaaDoorW.PrintLast
theorem pu_ {P : Program} {md : Region.Mode} {ops : Array Oper} {Q : Exit → Act → World → Prop} {S : World → Prop} {ds : List Nat} {oi : Oper} {fuel : Nat} {l : Array Bool} {a : Act} {w : World} (i : Nat) (N : Option Tmp) (v : Value) (l' : Array Bool) (hi : ops[i]? = some oi) (hN : oi.dst = N) (hc : anyB md ops l l' i = true)
    (hQ : ∀ c a w, Q (.panic c) (a.put oi.dst v) w → Q (.panic c) a w) (hy : Yields P ops oi v a) (a' : Act) (ha : a.put N v = a')
    (h : wpAnyLast P md ops Q S ds fuel l' a' w) : wpAnyLast P md ops Q S ds (fuel + 1) l a w := pure_ l' hi hN hc hQ hy ha h
def bs_ (k n : Nat) : Array Bool := (List.replicate k true ++ List.replicate n false).toArray
section
variable {P : Program} {ops : Array Oper}
theorem y_ {o : Oper} {v : Value} {a : Act} (h : Region.wanted o (yielded ops a.tmps) = true) (h2 : ∀ w, (execOp a.eval o).run P w = .ok (.value v) w) : Yields P ops o v a := Or.inl ⟨h, h2⟩
end
theorem s1_ {α : Type _} {l : List α} {i : Nat} {a : α} : l.toArray.setIfInBounds i a = (l.set i a).toArray := List.setIfInBounds_toArray _ _ _
theorem s2_ {α : Type _} {a b : α} {l : List α} : (a :: l).set 0 b = b :: l := List.set_cons_zero
theorem s3_ {α : Type _} {a b : α} {l : List α} {i : Nat} : (a :: l).set (i + 1) b = a :: l.set i b := List.set_cons_succ
end Go.Proofs.YtidcchopmbodkaaDoor
end
section
namespace Go.Proofs.YtidcchopmbodkaaDoor.Sp
open Go.RowKit Go.Proofs.YtidcchopmbodkaaDoorW.PrintWords Go.Proofs.YtidcchopmbodkaaDoorW.PrintLast Go.Proofs.YtidcchopmbodkaaDoorW.PrintMore
attribute [local go_sem] max2_int min2_int max_two min_two max_three min_three max_four min_four   -- for this text's walks alone
set_option linter.unusedVariables false
set_option linter.unusedSimpArgs false
def errW : Option Int → Value
  | none => .nilIface
  | some c => .iface 0 (.int .i64 c)
theorem errW_none : errW none = .nilIface := rfl
theorem errW_some (c : Int) : errW (some c) = .iface 0 (.int .i64 c) := rfl
theorem info3 : (Tryd.prog.info? 3).map (fun i => (i.zero, i.size, i.bytes)) = some (some (.int .i64 0), 1, 8) := by kernel_rfl
theorem info9 : (Tryd.prog.info? 9).map (fun i => (i.zero, i.size, i.bytes)) = some (some (.string ⟨#[]⟩), 1, 16) := by kernel_rfl
theorem info23 : (Tryd.prog.info? 23).map (fun i => (i.zero, i.size, i.bytes)) = some (some (.slice none 0 0), 1, 24) := by kernel_rfl
theorem info28 : (Tryd.prog.info? 28).map (fun i => (i.zero, i.size, i.bytes)) = some (some (.agg #[(.int .i64 0), (.int .i64 0)]), 2, 16) := by kernel_rfl
-- the values' own types
structure S28 where
  f0 : Int
  f1 : Int
def z28 : S28 := ⟨(0 : Int), (0 : Int)⟩
def k28 : Kd S28 := Kd.iso (Kd.pair (Kd.int .i64) (Kd.int .i64)) (fun x : S28 => (x.f0, x.f1))
theorem k28_open {w : World} {x : S28} {cs : List Value} (h : k28.K w x cs) : cs = [.int .i64 x.f0, .int .i64 x.f1] := by
  obtain ⟨_, _, rfl, rfl, rfl⟩ := h
  exact rfl
theorem k28_mkM (w : World) (base : Nat) (ok : Nat → Prop) (x : S28)  : k28.M w base ok x [.int .i64 x.f0, .int .i64 x.f1] := ⟨[.int .i64 x.f0], [.int .i64 x.f1], rfl, rfl, rfl⟩
def rd_T28 (xs : List S28) (i : Int) : S28 := xs.getD i.toNat z28
theorem at_T28 {w : World} {A : Option Addr} {n : Nat} {xs : List S28} (h : Kd.C k28 w A n xs) (i : Int) (h0 : 0 ≤ i) (h1 : i < n) : ∃ ad , A = some ad ∧ w.cell? (ad.add (i.toNat * 2)) = some (.int .i64 (rd_T28 xs i).f0) ∧ w.cell? ⟨(ad.add (i.toNat * 2)).block, (ad.add (i.toNat * 2)).off + 1, none⟩ = some (.int .i64 (rd_T28 xs i).f1) := by
  obtain ⟨ad, c, e, _, hK, hc0⟩ := Kd.C_get h z28 i h0 h1
  have hc : ∀ j u, c[j]? = some u → w.cell? (ad.add (i.toNat * 2 + j)) = some u := hc0
  obtain rfl := k28_open hK
  exact ⟨ad, e, hc 0 _ rfl, by rw [← add_field _ _ 1 (by omega)]; exact hc 1 _ rfl⟩
def rd_L2 (xs : List (List S28)) (i : Int) : (List S28) := xs.getD i.toNat ([] : List S28)
theorem at_L2 {w : World} {A : Option Addr} {n : Nat} {xs : List (List S28)} (h : Kd.C (Kd.slice 28 k28) w A n xs) (i : Int) (h0 : 0 ≤ i) (h1 : i < n) : ∃ ad A0 c0, A = some ad ∧ w.cell? (ad.add i.toNat) = some (.slice A0 (rd_L2 xs i).length c0) ∧ (rd_L2 xs i).length ≤ c0 ∧ k28.C w A0 (rd_L2 xs i).length (rd_L2 xs i) := by
  obtain ⟨ad, c, e, _, hK, hc0⟩ := Kd.C_get h ([] : List S28) i h0 h1
  have hc : ∀ j u, c[j]? = some u → w.cell? (ad.add (i.toNat * 1 + j)) = some u := hc0
  obtain ⟨A0, c0, rfl, l0, g0⟩ := hK
  exact ⟨ad, A0, c0, e, by have hq := hc 0 _ rfl; rwa [Nat.mul_one, Nat.add_zero] at hq, l0, g0⟩
structure S38 where
  f0 : ByteArray
  f1 : (List S28)
  f2 : Int
  f3 : Int
  f4 : (List Int)
  f5 : (List (List S28))
def z38 : S38 := ⟨(⟨#[]⟩ : ByteArray), ([] : List S28), (0 : Int), (0 : Int), ([] : List Int), ([] : List (List S28))⟩
def k38 : Kd S38 := Kd.iso (Kd.pair Kd.string (Kd.pair (Kd.slice 28 k28) (Kd.pair (Kd.int .i64) (Kd.pair (Kd.int .i64) (Kd.pair (Kd.slice 3 (Kd.int .i64)) (Kd.slice 23 (Kd.slice 28 k28))))))) (fun x : S38 => (x.f0, x.f1, x.f2, x.f3, x.f4, x.f5))
theorem k38_open {w : World} {x : S38} {cs : List Value} (h : k38.K w x cs) : ∃ A1 c1 A4 c4 A5 c5, cs = [.string x.f0, .slice A1 x.f1.length c1, .int .i64 x.f2, .int .i64 x.f3, .slice A4 x.f4.length c4, .slice A5 x.f5.length c5] ∧ x.f1.length ≤ c1 ∧ k28.C w A1 x.f1.length x.f1 ∧ x.f4.length ≤ c4 ∧ (Kd.int .i64).C w A4 x.f4.length x.f4 ∧ x.f5.length ≤ c5 ∧ (Kd.slice 28 k28).C w A5 x.f5.length x.f5 := by
  obtain ⟨_, _, rfl, rfl, ⟨_, _, rfl, ⟨A1, c1, rfl, l1, g1⟩, ⟨_, _, rfl, rfl, ⟨_, _, rfl, rfl, ⟨_, _, rfl, ⟨A4, c4, rfl, l4, g4⟩, ⟨A5, c5, rfl, l5, g5⟩⟩⟩⟩⟩⟩ := h
  exact ⟨A1, c1, A4, c4, A5, c5, rfl, l1, g1, l4, g4, l5, g5⟩
def rd_T38 (xs : List S38) (i : Int) : S38 := xs.getD i.toNat z38
theorem at_T38 {w : World} {A : Option Addr} {n : Nat} {xs : List S38} (h : Kd.C k38 w A n xs) (i : Int) (h0 : 0 ≤ i) (h1 : i < n) : ∃ ad A1 c1 A4 c4 A5 c5, A = some ad ∧ w.cell? (ad.add (i.toNat * 6)) = some (.string (rd_T38 xs i).f0) ∧ w.cell? ⟨(ad.add (i.toNat * 6)).block, (ad.add (i.toNat * 6)).off + 1, none⟩ = some (.slice A1 (rd_T38 xs i).f1.length c1) ∧ w.cell? ⟨(ad.add (i.toNat * 6)).block, (ad.add (i.toNat * 6)).off + 2, none⟩ = some (.int .i64 (rd_T38 xs i).f2) ∧ w.cell? ⟨(ad.add (i.toNat * 6)).block, (ad.add (i.toNat * 6)).off + 3, none⟩ = some (.int .i64 (rd_T38 xs i).f3) ∧ w.cell? ⟨(ad.add (i.toNat * 6)).block, (ad.add (i.toNat * 6)).off + 4, none⟩ = some (.slice A4 (rd_T38 xs i).f4.length c4) ∧ w.cell? ⟨(ad.add (i.toNat * 6)).block, (ad.add (i.toNat * 6)).off + 5, none⟩ = some (.slice A5 (rd_T38 xs i).f5.length c5) ∧ (rd_T38 xs i).f1.length ≤ c1 ∧ k28.C w A1 (rd_T38 xs i).f1.length (rd_T38 xs i).f1 ∧ (rd_T38 xs i).f4.length ≤ c4 ∧ (Kd.int .i64).C w A4 (rd_T38 xs i).f4.length (rd_T38 xs i).f4 ∧ (rd_T38 xs i).f5.length ≤ c5 ∧ (Kd.slice 28 k28).C w A5 (rd_T38 xs i).f5.length (rd_T38 xs i).f5 := by
  obtain ⟨ad, c, e, _, hK, hc0⟩ := Kd.C_get h z38 i h0 h1
  have hc : ∀ j u, c[j]? = some u → w.cell? (ad.add (i.toNat * 6 + j)) = some u := hc0
  obtain ⟨A1, c1, A4, c4, A5, c5, rfl, l1, g1, l4, g4, l5, g5⟩ := k38_open hK
  exact ⟨ad, A1, c1, A4, c4, A5, c5, e, hc 0 _ rfl, by rw [← add_field _ _ 1 (by omega)]; exact hc 1 _ rfl, by rw [← add_field _ _ 2 (by omega)]; exact hc 2 _ rfl, by rw [← add_field _ _ 3 (by omega)]; exact hc 3 _ rfl, by rw [← add_field _ _ 4 (by omega)]; exact hc 4 _ rfl, by rw [← add_field _ _ 5 (by omega)]; exact hc 5 _ rfl, l1, g1, l4, g4, l5, g5⟩
end Go.Proofs.YtidcchopmbodkaaDoor.Sp
end
section
namespace Go.Proofs.YtidcchopmbodkaaDoor.Sp
open Go.RowKit Go.Proofs.YtidcchopmbodkaaDoorW.PrintWords
def Safe (P : World → Prop) (W : World) (M : Nat → Prop) : Prop := Foot P W (fun k => ¬ M k)
theorem Safe.now {P : World → Prop} {W : World} {M : Nat → Prop} (h : Safe P W M) : P W := Foot.now h
theorem Safe.step {P : World → Prop} {W W1 : World} {M M1 S : Nat → Prop} (h : Safe P W M) (hk : Kept W W1 S) (hS : ∀ k, S k → M k) (hM : ∀ k, M1 k → M k ∨ W.heap.size ≤ k) : Safe P W1 M1 :=
  Foot.mono (Foot.step (Foot.bound h) (fun k hq hlt => hk.2 k hlt (fun hs => hq.1 (hS k hs)))) (fun k hq h1 => (hM k h1).elim hq.1 (fun h2 => by have := hq.2; omega))
theorem Safe.below {P : World → Prop} {W W1 : World} {M : Nat → Prop} (h : Safe P W M) (hb : Below W.heap.size W W1) : Safe P W1 M :=
  Foot.step h (fun k _ hlt => hb.block k hlt)
theorem Safe.drewN {P : World → Prop} {W : World} {M : Nat → Prop} (h : Safe P W M) (n : Nat) : Safe P (W.drewN n) M := h.below (pw_below_drewN (Below.refl _ _) n)
theorem Safe.drew {P : World → Prop} {W : World} {M : Nat → Prop} (h : Safe P W M) : Safe P W.drew M := h.below (below_drew (Below.refl _ _))
theorem Safe.imp {P Q : World → Prop} {W : World} {M : Nat → Prop} (h : Safe P W M) (hi : ∀ W, P W → Q W) : Safe Q W M := Foot.imp h hi
theorem Safe.came {α : Type} {d : Kd α} (hd : Kd.Heap d) {w W : World} {A : Option Addr} {n : Nat} {xs : List α} {M : Nat → Prop} (h : d.C w A n xs) (hb : Below w.heap.size w W) (hM : ∀ k, M k → w.heap.size ≤ k) : Safe (fun W => d.C W A n xs) W M :=
  fun _ hW => hd.C (fun k hlt => (hW k (fun hm => by have := hM k hm; omega) (Nat.lt_of_lt_of_le hlt hb.size)).trans (hb.block k hlt)) h
theorem Safe.made {α : Type} {d : Kd α} {e base c n : Nat} {ok : Nat → Prop} {W : World} {A : Option Addr} {xs : List α} {M : Nat → Prop} (h : d.R e W base ok (.slice A n c) xs) (hM : ∀ k, M k → k < base) : Safe (fun W => d.C W A n xs) W M :=
  Foot.mono (Foot.bound (P := fun W => d.C W A n xs) (fun W1 hW => by
    have h2 := Kd.R_reads' (Kd.R_step (w1 := W1) (Kd.R_bound h) (fun k hk hlt => hW k hk hlt))
    rw [h2.1]
    exact h2.2.2)) (fun k hk hm => by have := hM k hm; have := hk.1.2.1; omega)
theorem Safe.blk {W : World} {g : Nat} {o : Obj} {M : Nat → Prop} (h : W.heap[g]? = some o) (hM : ¬ M g) : Safe (fun W => W.heap[g]? = some o) W M :=
  fun _ hW => (hW g hM (blk_lt h)).trans h
def Mset (p : Nat) (vs : List Value) : Nat → Prop := fun k => k = p ∨ ∃ v ∈ vs, v.ownBlock = some k
def Onto (W : World) (v v1 : Value) : Prop := v1.ownBlock = v.ownBlock ∨ ∃ b, v1.ownBlock = some b ∧ W.heap.size ≤ b
theorem Onto.refl (W : World) (v : Value) : Onto W v v := Or.inl rfl
theorem Onto.mono {W W1 : World} {v v1 : Value} (h : Onto W1 v v1) (hle : W.heap.size ≤ W1.heap.size) : Onto W v v1 :=
  h.imp id (fun ⟨b, h1, h2⟩ => ⟨b, h1, Nat.le_trans hle h2⟩)
theorem Mset.one {W : World} {p : Nat} {u u1 : Value} {la lb : List Value} (h : Onto W u u1) : ∀ k, Mset p (la ++ u1 :: lb) k → Mset p (la ++ u :: lb) k ∨ W.heap.size ≤ k := by
  intro k hk
  rcases hk with rfl | ⟨v, hv, ho⟩
  · exact Or.inl (Or.inl rfl)
  · rw [List.mem_append, List.mem_cons] at hv
    rcases hv with hv | rfl | hv
    · exact Or.inl (Or.inr ⟨v, by simp [hv], ho⟩)
    · rcases h with h | ⟨b, h1, h2⟩
      · exact Or.inl (Or.inr ⟨u, by simp, h ▸ ho⟩)
      · rw [h1] at ho
        injection ho with ho
        exact Or.inr (by omega)
    · exact Or.inl (Or.inr ⟨v, by simp [hv], ho⟩)
theorem Mset.base {p B : Nat} {vs : List Value} (hp : B ≤ p) (hv : ∀ v ∈ vs, ∀ k, v.ownBlock = some k → B ≤ k) : ∀ k, Mset p vs k → B ≤ k := by
  rintro k (rfl | ⟨v, hm, ho⟩)
  · exact hp
  · exact hv v hm k ho
structure LS {α : Type} (d : Kd α) (e : Nat) (W : World) (B : Nat) (M : Nat → Prop) (v : Value) (ls : List (List α)) : Prop where
  mem : ∀ k, v.ownBlock = some k → M k
  row : ∃ rows : List (List Value), rows.length = ls.length ∧ (Kd.raw 1).R e W B (fun k => some k = v.ownBlock) v rows ∧
    ∀ (j : Nat) (c : List Value) (l : List α), rows[j]? = some c → ls[j]? = some l → ∃ (A : Option Addr) (cc : Nat), c = [Value.slice A l.length cc] ∧ l.length ≤ cc ∧ Safe (fun W => d.C W A l.length l) W M
section
variable {α : Type} {d : Kd α} {e : Nat} {W W1 : World} {B : Nat} {M M1 S : Nat → Prop} {v : Value} {ls : List (List α)}
theorem LS.nil (d : Kd α) (e : Nat) (W : World) (B : Nat) (M : Nat → Prop) : LS d e W B M (.slice none 0 0) [] :=
  ⟨fun k hk => by simp [Value.ownBlock] at hk, [], rfl, Kd.R_nil _ _ _ _ _, fun j c l hj _ => by simp at hj⟩
theorem LS.step (h : LS d e W B M v ls) (hk : Kept W W1 S) (hS : ∀ k, S k → M k) (hown : ∀ k, v.ownBlock = some k → ¬ S k) (hM : ∀ k, M1 k → M k ∨ W.heap.size ≤ k) (hin : ∀ k, v.ownBlock = some k → M1 k) : LS d e W1 B M1 v ls := by
  obtain ⟨hm, rows, hl, hR, hf⟩ := h
  refine ⟨hin, rows, hl, Kd.R_kept hR hk (fun k hk => hown k hk.symm), fun j c l hj hlj => ?_⟩
  obtain ⟨A, cc, e1, e2, e3⟩ := hf j c l hj hlj
  exact ⟨A, cc, e1, e2, e3.step hk hS hM⟩
theorem LS.below (h : LS d e W B M v ls) (hb : Below W.heap.size W W1) : LS d e W1 B M v ls :=
  h.step (S := fun _ => False) (Kept.of_below hb _) (fun _ hk => hk.elim) (fun _ _ hk => hk) (fun _ hk => Or.inl hk) h.mem
theorem LS.drewN (h : LS d e W B M v ls) (n : Nat) : LS d e (W.drewN n) B M v ls := h.below (pw_below_drewN (Below.refl _ _) n)
theorem LS.slice (h : LS d e W B M v ls) : ∃ A c, v = .slice A ls.length c := by
  obtain ⟨_, rows, hl, hR, _⟩ := h
  rw [← hl]
  exact Kd.R_slice hR
theorem LS.lt (h : LS d e W B M v ls) : ∀ k, v.ownBlock = some k → k < W.heap.size := by
  obtain ⟨_, rows, hl, hR, _⟩ := h
  exact Kd.R_lt hR
theorem LS.base (h : LS d e W B M v ls) : ∀ k, v.ownBlock = some k → B ≤ k := by
  obtain ⟨_, rows, hl, hR, _⟩ := h
  exact Kd.R_base hR
theorem LS.ne (h : LS d e W B M v ls) {g t : Nat} {cells : Array Value} (hb : W.heap[g]? = some (.cells cells t (0, 0))) (ht : e ≠ t) : some g ≠ v.ownBlock := by
  obtain ⟨_, rows, hl, hR, _⟩ := h
  exact Kd.R_ne hR hb ht
theorem LS.get (h : LS d e W B M v ls) (j : Nat) (hj : j < ls.length) : ∃ (g cap : Nat) (A : Option Addr) (cc : Nat), v = .slice (some ⟨g, 0, none⟩) ls.length cap ∧ ls.length ≤ cap ∧ W.cell? ⟨g, j, none⟩ = some (.slice A ls[j].length cc) ∧ ls[j].length ≤ cc ∧ Safe (fun W => d.C W A ls[j].length ls[j]) W M := by
  obtain ⟨_, rows, hl, hR, hf⟩ := h
  obtain ⟨g, cap, rfl, _, _, _⟩ := Kd.R_form hR (by omega)
  obtain ⟨c, _, hM, hcc, _⟩ := Kd.R_elem hR [] (j : Int) (by omega) (by omega)
  rw [Int.toNat_natCast] at hM hcc
  have hjr : rows[j]? = some (rows.getD j []) := by rw [List.getD_eq_getElem?_getD, List.getElem?_eq_getElem (by omega)]; rfl
  obtain ⟨A, cc, e1, e2, e3⟩ := hf j _ ls[j] hjr (List.getElem?_eq_getElem hj)
  have e4 : c = rows.getD j [] := hM.1
  rw [e1] at e4
  subst e4
  have h2 := (Kd.R_reads' hR).2.1
  refine ⟨g, cap, A, cc, by rw [hl], by omega, ?_, e2, e3⟩
  have := hcc 0 _ rfl
  rwa [show j * (Kd.raw 1).sz + 0 = j from by show j * 1 + 0 = j; omega] at this
end
theorem LS_append {P : Program} {ops : Array Oper} {rest : List Oper} {o : Oper} {a : Act} {Q : Exit → Act → World → Prop} {α : Type} (d : Kd α) {w0 W : World} (B : Nat) (hgd : o.guard = none) (s x : Operand) (t e : TypeId)
    (ho : o.op = .call { callee := .builtin .append, args := #[s, x], argTypes := #[t, t] })
    (ht : P.underlying t = some (.slice e)) (hinfo : (P.info? e).map (fun i => (i.zero, i.size, i.bytes)) = some (some (.slice none 0 0), 1, 24))
    (v : Value) (ls : List (List α)) (l : List α) (A : Option Addr) (cc : Nat) (M : Nat → Prop) (hs : a.eval s = v) (hx : a.eval x = .slice (some ⟨W.heap.size, 0, none⟩) 1 1) (hcc : l.length ≤ cc) (hp : Safe (fun W => d.C W A l.length l) W M)
    (HO : LS d e W B M v ls) (HB : Below B w0 W) (hbase : B ≤ W.heap.size) (hl : (ls.length + 1) * 24 ≤ 140737488355328)
    (h : ∀ v1 w1, (∀ M1 : Nat → Prop, (∀ k, M1 k → M k ∨ W.heap.size ≤ k) → (∀ k, v1.ownBlock = some k → M1 k) → LS d e w1 B M1 v1 (ls ++ [l])) → Below B w0 w1 → Kept W w1 (fun k => some k = v.ownBlock) → Onto W v v1 → wpList P ops Q rest (a.put o.dst v1) w1) :
    wpList P ops Q (o :: rest) a (W.alloc (.cells #[.slice A l.length cc] e)) := by
  obtain ⟨hm, rows, hrl, hR, hf⟩ := HO
  refine Kd.R_append (Kd.raw 1) (w0 := w0) B hgd s x t e (.slice none 0 0) 24 ho ht hinfo rfl (by show 0 < 1; omega) (by omega) v rows [.slice A l.length cc] [.slice A l.length cc] (fun _ => True) (fun _ => False) hs hx ⟨rfl, rfl, fun u hu => by rw [List.mem_singleton.1 hu]; rfl⟩ (fun _ hk => hk.elim) (fun _ _ => trivial) (Kd.raw_any hR) HB hbase (by rw [hrl]; exact hl) ?_
  intro v1 w1 hR1 hb1 hg1 hat1
  have hk1 : Kept W w1 (fun k => some k = v.ownBlock) := (Kept.refl _ _).of_grown hg1 (fun k hk => Or.inl hk.symm)
  refine h v1 w1 (fun M1 hM1 hin => ⟨hin, rows ++ [[.slice A l.length cc]], by simp [hrl], Kd.raw_tight hR1, fun j c l1 hj hlj => ?_⟩) hb1 hk1 hat1
  by_cases hjl : j < rows.length
  · rw [List.getElem?_append_left hjl] at hj
    rw [List.getElem?_append_left (by omega)] at hlj
    obtain ⟨A2, c2, e1, e2, e3⟩ := hf j c l1 hj hlj
    exact ⟨A2, c2, e1, e2, e3.step hk1 (fun k hk => hm k hk.symm) hM1⟩
  · have hjr : j < (rows ++ [[Value.slice A l.length cc]]).length := (List.getElem?_eq_some_iff.1 hj).1
    have hj0 : j = rows.length := by simp at hjr; omega
    subst hj0
    rw [List.getElem?_append_right (Nat.le_refl _), Nat.sub_self] at hj
    rw [List.getElem?_append_right (by omega), show rows.length - ls.length = 0 from by omega] at hlj
    simp only [List.getElem?_cons_zero, Option.some.injEq] at hj hlj
    subst hj; subst hlj
    exact ⟨A, cc, rfl, hcc, hp.step hk1 (fun k hk => hm k hk.symm) hM1⟩
end Go.Proofs.YtidcchopmbodkaaDoor.Sp
end
section
namespace Go.Proofs.YtidcchopmbodkaaDoor
open Go.Shelf
def Shl.lays156_ren : Go.Shelf.Ren := ⟨fun | 156 => 57 | 165 => 67 | 166 => 68 | 169 => 69 | 240 => 76 | 241 => 77 | 276 => 93 | 277 => 94 | n => n, fun | 31 => 81 | 9 => 9 | 3 => 3 | 4 => 4 | 0 => 0 | 20 => 20 | 72 => 91 | 76 => 95 | 70 => 89 | 37 => 88 | 75 => 94 | 127 => 102 | 164 => 116 | 5 => 5 | 80 => 97 | n => n, fun | n => n⟩
theorem Shl.lays156 : Go.Proofs.Lays.n156 Tryd.prog Shl.lays156_ren := {
  mixed := by kernel_rfl
  f156 := Tryd.func57.trans (congrArg some (by kernel_rfl))
  f165 := Tryd.func67.trans (congrArg some (by kernel_rfl))
  f166 := Tryd.func68.trans (congrArg some (by kernel_rfl))
  f169 := Tryd.func69.trans (congrArg some (by kernel_rfl))
  f240 := Tryd.func76.trans (congrArg some (by kernel_rfl))
  f241 := Tryd.func77.trans (congrArg some (by kernel_rfl))
  f276 := Tryd.func93.trans (congrArg some (by kernel_rfl))
  f277 := Tryd.func94.trans (congrArg some (by kernel_rfl))
  t0 := Tryd.underlying0
  a0 := Tryd.isAgg0
  z0 := Tryd.sizeOf0
  v0 := Tryd.zeroValue0
  t3 := Tryd.underlying3
  a3 := Tryd.isAgg3
  z3 := Tryd.sizeOf3
  v3 := Tryd.zeroValue3
  t4 := Tryd.underlying4
  a4 := Tryd.isAgg4
  z4 := Tryd.sizeOf4
  v4 := Tryd.zeroValue4
  t9 := Tryd.underlying9
  a9 := Tryd.isAgg9
  z9 := Tryd.sizeOf9
  v9 := Tryd.zeroValue9
  t20 := Tryd.underlying20
  a20 := Tryd.isAgg20
  z20 := Tryd.sizeOf20
  v20 := Tryd.zeroValue20
  t31 := Tryd.underlying81
  a31 := Tryd.isAgg81
  z31 := Tryd.sizeOf81
  v31 := Tryd.zeroValue81
  t37 := Tryd.underlying88
  a37 := Tryd.isAgg88
  z37 := Tryd.sizeOf88
  v37 := Tryd.zeroValue88
  t70 := Tryd.underlying89
  a70 := Tryd.isAgg89
  z70 := Tryd.sizeOf89
  v70 := Tryd.zeroValue89
  t72 := Tryd.underlying91
  a72 := Tryd.isAgg91
  z72 := Tryd.sizeOf91
  v72 := Tryd.zeroValue91
  t75 := Tryd.underlying94
  a75 := Tryd.isAgg94
  z75 := Tryd.sizeOf94
  v75 := Tryd.zeroValue94
  t76 := Tryd.underlying95
  a76 := Tryd.isAgg95
  z76 := Tryd.sizeOf95
  v76 := Tryd.zeroValue95
  t127 := Tryd.underlying102
  a127 := Tryd.isAgg102
  z127 := Tryd.sizeOf102
  v127 := Tryd.zeroValue102
  t164 := Tryd.underlying116
  a164 := Tryd.isAgg116
  z164 := Tryd.sizeOf116
  v164 := Tryd.zeroValue116 }
theorem Shl.Builder_Extra_156 : Builder.Extra Tryd.prog Shl.lays156_ren := {
  sizeBuilder := by kernel_rfl
  liesBuilder := by kernel_rfl
  t5 := Tryd.underlying5
  a5 := Tryd.isAgg5
  z5 := Tryd.sizeOf5
  v5 := Tryd.zeroValue5
  infoByte := by kernel_rfl
  cellsByte := by kernel_rfl
  sizeByte := by kernel_rfl
  neB5 := by decide }
open Go.RowKit in
theorem Shl.strings_Join_none (a : Option Addr) (c : Nat) (sep : ByteArray) (w : World) :
    Calls Tryd.prog 57 #[.slice a 0 c, .string sep] w fun e w' => e = .returned (.string ⟨#[]⟩) ∧ w' = w := Any.strings_Join_none Shl.lays156 Shl.Builder_Extra_156 a c sep w
open Go.RowKit in
theorem Shl.strings_Join (bk o c : Nat) (xs : List ByteArray) (sep : ByteArray) (w : World) (hcells : ∀ (j : Nat) x, xs[j]? = some x → w.cell? ⟨bk, o + j, none⟩ = some (.string x)) (hbk : bk < w.heap.size) (hN : xs.length ≤ 140737488355328) (hcap : xs.length ≤ c) (hlen : (Lib.join (xs.map (·.data.toList)) sep.data.toList).length ≤ 140737488355328) :
    Calls Tryd.prog 57 #[.slice (some ⟨bk, o, none⟩) xs.length c, .string sep] w fun e w' => e = .returned (.string ⟨(Lib.join (xs.map (·.data.toList)) sep.data.toList).toArray⟩) ∧ Below w.heap.size w w' := Any.strings_Join Shl.lays156 Shl.Builder_Extra_156 bk o c xs sep w hcells hbk hN hcap hlen
def Shl.laysM171_ren : Go.Shelf.Ren := ⟨fun | 171 => 66 | 243 => 75 | 246 => 92 | 283 => 102 | 284 => 103 | 285 => 104 | 286 => 105 | 129 => 87 | 317 => 107 | 318 => 108 | 319 => 109 | 320 => 110 | 337 => 111 | 338 => 112 | n => n, fun | 3 => 3 | 9 => 9 | 2 => 2 | 4 => 4 | 171 => 127 | 0 => 0 | 53 => 113 | 37 => 88 | 5 => 5 | 173 => 129 | 212 => 134 | 51 => 111 | 20 => 20 | 213 => 135 | 46 => 100 | 232 => 136 | 233 => 137 | n => n, fun | 17 => 1 | 18 => 2 | 19 => 3 | n => n⟩
theorem Shl.laysM171 : Go.Proofs.LaysM.n171 Tryd.prog Shl.laysM171_ren := {
  mixed := by kernel_rfl
  f129 := Tryd.func87.trans (congrArg some (by kernel_rfl))
  f171 := Tryd.func66.trans (congrArg some (by kernel_rfl))
  f243 := Tryd.func75.trans (congrArg some (by kernel_rfl))
  f246 := Tryd.func92.trans (congrArg some (by kernel_rfl))
  f283 := Tryd.func102.trans (congrArg some (by kernel_rfl))
  f284 := Tryd.func103.trans (congrArg some (by kernel_rfl))
  f285 := Tryd.func104.trans (congrArg some (by kernel_rfl))
  f286 := Tryd.func105.trans (congrArg some (by kernel_rfl))
  f317 := Tryd.func107.trans (congrArg some (by kernel_rfl))
  f318 := Tryd.func108.trans (congrArg some (by kernel_rfl))
  f319 := Tryd.func109.trans (congrArg some (by kernel_rfl))
  f320 := Tryd.func110.trans (congrArg some (by kernel_rfl))
  f337 := Tryd.func111.trans (congrArg some (by kernel_rfl))
  f338 := Tryd.func112.trans (congrArg some (by kernel_rfl))
  t0 := Tryd.underlying0
  a0 := Tryd.isAgg0
  z0 := Tryd.sizeOf0
  v0 := Tryd.zeroValue0
  t2 := Tryd.underlying2
  a2 := Tryd.isAgg2
  z2 := Tryd.sizeOf2
  v2 := Tryd.zeroValue2
  t3 := Tryd.underlying3
  a3 := Tryd.isAgg3
  z3 := Tryd.sizeOf3
  v3 := Tryd.zeroValue3
  t4 := Tryd.underlying4
  a4 := Tryd.isAgg4
  z4 := Tryd.sizeOf4
  v4 := Tryd.zeroValue4
  t5 := Tryd.underlying5
  a5 := Tryd.isAgg5
  z5 := Tryd.sizeOf5
  v5 := Tryd.zeroValue5
  t9 := Tryd.underlying9
  a9 := Tryd.isAgg9
  z9 := Tryd.sizeOf9
  v9 := Tryd.zeroValue9
  t20 := Tryd.underlying20
  a20 := Tryd.isAgg20
  z20 := Tryd.sizeOf20
  v20 := Tryd.zeroValue20
  t37 := Tryd.underlying88
  a37 := Tryd.isAgg88
  z37 := Tryd.sizeOf88
  v37 := Tryd.zeroValue88
  t46 := Tryd.underlying100
  a46 := Tryd.isAgg100
  z46 := Tryd.sizeOf100
  v46 := Tryd.zeroValue100
  t51 := Tryd.underlying111
  a51 := Tryd.isAgg111
  z51 := Tryd.sizeOf111
  v51 := Tryd.zeroValue111
  t53 := Tryd.underlying113
  a53 := Tryd.isAgg113
  z53 := Tryd.sizeOf113
  v53 := Tryd.zeroValue113
  t171 := Tryd.underlying127
  a171 := Tryd.isAgg127
  z171 := Tryd.sizeOf127
  v171 := Tryd.zeroValue127
  t173 := Tryd.underlying129
  a173 := Tryd.isAgg129
  z173 := Tryd.sizeOf129
  v173 := Tryd.zeroValue129
  t212 := Tryd.underlying134
  a212 := Tryd.isAgg134
  z212 := Tryd.sizeOf134
  v212 := Tryd.zeroValue134
  t213 := Tryd.underlying135
  a213 := Tryd.isAgg135
  z213 := Tryd.sizeOf135
  t232 := Tryd.underlying136
  a232 := Tryd.isAgg136
  z232 := Tryd.sizeOf136
  v232 := Tryd.zeroValue136
  t233 := Tryd.underlying137
  a233 := Tryd.isAgg137
  z233 := Tryd.sizeOf137
  v233 := Tryd.zeroValue137
  g17 := by kernel_rfl
  g18 := by kernel_rfl
  g19 := by kernel_rfl
  i0 := by kernel_rfl
  i2 := by kernel_rfl
  i3 := by kernel_rfl
  i4 := by kernel_rfl
  i5 := by kernel_rfl
  i9 := by kernel_rfl
  i20 := by kernel_rfl
  i37 := by kernel_rfl
  i46 := by kernel_rfl
  i51 := by kernel_rfl
  i53 := by kernel_rfl
  i171 := by kernel_rfl
  i173 := by kernel_rfl
  i212 := by kernel_rfl
  i232 := by kernel_rfl
  i233 := by kernel_rfl
  m17 := by kernel_rfl
  m18 := by kernel_rfl
  m19 := by kernel_rfl }
open Go.RowKit Go.Sort Go.Lib in
theorem Shl.strconv_Itoa (n : Int) (h0 : -9223372036854775808 ≤ n) (h1 : n ≤ 9223372036854775807) (w : World) (htab : Lib.TabIs Tryd.prog w "internal/strconv.uint64pow10" .u64 Lib.pow10Tab) :
    Calls Tryd.prog 66 #[.int .i64 n] w fun e w' => e = .returned (.string ⟨(Lib.itoa n).toArray⟩) ∧ ∃ k os, w' = grow (w.drewN k) os := Any.strconv_Itoa Shl.laysM171 n h0 h1 w htab
def Shl.lays219_ren : Go.Shelf.Ren := ⟨fun | 219 => 74 | 217 => 88 | 225 => 89 | 224 => 90 | 267 => 91 | 266 => 100 | 314 => 101 | n => n, fun | 9 => 9 | 3 => 3 | 4 => 4 | 5 => 5 | 46 => 100 | 146 => 125 | 51 => 111 | n => n, fun | 1 => 0 | n => n⟩
theorem Shl.lays219 : Go.Proofs.Lays.n219 Tryd.prog Shl.lays219_ren := {
  mixed := by kernel_rfl
  f217 := Tryd.func88.trans (congrArg some (by kernel_rfl))
  f219 := Tryd.func74.trans (congrArg some (by kernel_rfl))
  f224 := Tryd.func90.trans (congrArg some (by kernel_rfl))
  f225 := Tryd.func89.trans (congrArg some (by kernel_rfl))
  f266 := Tryd.func100.trans (congrArg some (by kernel_rfl))
  f267 := Tryd.func91.trans (congrArg some (by kernel_rfl))
  f314 := Tryd.func101.trans (congrArg some (by kernel_rfl))
  t3 := Tryd.underlying3
  a3 := Tryd.isAgg3
  z3 := Tryd.sizeOf3
  v3 := Tryd.zeroValue3
  t4 := Tryd.underlying4
  a4 := Tryd.isAgg4
  z4 := Tryd.sizeOf4
  v4 := Tryd.zeroValue4
  t5 := Tryd.underlying5
  a5 := Tryd.isAgg5
  z5 := Tryd.sizeOf5
  v5 := Tryd.zeroValue5
  t9 := Tryd.underlying9
  a9 := Tryd.isAgg9
  z9 := Tryd.sizeOf9
  v9 := Tryd.zeroValue9
  t46 := Tryd.underlying100
  a46 := Tryd.isAgg100
  z46 := Tryd.sizeOf100
  v46 := Tryd.zeroValue100
  t51 := Tryd.underlying111
  a51 := Tryd.isAgg111
  z51 := Tryd.sizeOf111
  v51 := Tryd.zeroValue111
  t146 := Tryd.underlying125
  a146 := Tryd.isAgg125
  z146 := Tryd.sizeOf125
  v146 := Tryd.zeroValue125
  g1 := by kernel_rfl }
open Go.RowKit Go.Lib in
theorem Shl.stringslite_Index_one (s : ByteArray) (c : UInt8) (w : World) :
    Calls Tryd.prog 74 #[.string s, .string ⟨#[c]⟩] w fun e w' => e = .returned (.int .i64 (Lib.indexByte s.data.toList c)) ∧ w' = w := Any.stringslite_Index_one Shl.lays219 s c w
def Shl.shlHas_ren : Go.Shelf.Ren := ⟨fun | 8 => 47 | 6 => 64 | n => n, fun | 22 => 23 | 23 => 28 | 25 => 70 | 4 => 4 | 3 => 3 | 0 => 0 | n => n, fun | n => n⟩
theorem Shl.shlHas : Go.Proofs.SlLaysH0.n8 Tryd.prog Shl.shlHas_ren := {
  mixed := by kernel_rfl
  f6 := ⟨Tryd.f64.name, by decide, Tryd.func64.trans (congrArg some (by kernel_rfl))⟩
  f8 := ⟨Tryd.f47.name, by decide, Tryd.func47.trans (congrArg some (by kernel_rfl))⟩
  t0 := Tryd.underlying0
  a0 := Tryd.isAgg0
  z0 := Tryd.sizeOf0
  v0 := Tryd.zeroValue0
  t3 := Tryd.underlying3
  a3 := Tryd.isAgg3
  z3 := Tryd.sizeOf3
  v3 := Tryd.zeroValue3
  t4 := Tryd.underlying4
  a4 := Tryd.isAgg4
  z4 := Tryd.sizeOf4
  v4 := Tryd.zeroValue4
  t22 := Tryd.underlying23
  a22 := Tryd.isAgg23
  z22 := Tryd.sizeOf23
  v22 := Tryd.zeroValue23
  t25 := Tryd.underlying70
  a25 := Tryd.isAgg70
  z25 := Tryd.sizeOf70
  v25 := Tryd.zeroValue70 }
end Go.Proofs.YtidcchopmbodkaaDoor
end
section
namespace Go.Proofs.YtidcchopmbodkaaDoor
open Go.Shelf
def Shs.shsSort_ren : Go.Shelf.Ren := ⟨fun | 6 => 61 | 15 => 72 | 14 => 71 | 28 => 86 | 29 => 87 | 20 => 78 | 21 => 79 | 22 => 80 | 23 => 81 | 24 => 82 | 25 => 83 | 26 => 84 | 27 => 85 | 46 => 95 | 47 => 96 | 48 => 97 | 49 => 98 | 50 => 99 | 57 => 106 | n => n, fun | 22 => 23 | 24 => 28 | 25 => 86 | 3 => 3 | 39 => 100 | 0 => 0 | 53 => 111 | 55 => 113 | 4 => 4 | 46 => 105 | 45 => 104 | 50 => 74 | 5 => 5 | 9 => 9 | 66 => 119 | 70 => 123 | 76 => 131 | 77 => 76 | n => n, fun | n => n⟩
theorem Shs.shsSort : Go.Proofs.SlLaysF0.n6 Tryd.prog Shs.shsSort_ren := {
  mixed := by kernel_rfl
  f6 := ⟨Tryd.f61.name, by decide, Tryd.func61.trans (congrArg some (by kernel_rfl))⟩
  f14 := ⟨Tryd.f71.name, by decide, Tryd.func71.trans (congrArg some (by kernel_rfl))⟩
  f15 := Tryd.func72.trans (congrArg some (by kernel_rfl))
  f20 := ⟨Tryd.f78.name, by decide, Tryd.func78.trans (congrArg some (by kernel_rfl))⟩
  f21 := ⟨Tryd.f79.name, by decide, Tryd.func79.trans (congrArg some (by kernel_rfl))⟩
  f22 := ⟨Tryd.f80.name, by decide, Tryd.func80.trans (congrArg some (by kernel_rfl))⟩
  f23 := ⟨Tryd.f81.name, by decide, Tryd.func81.trans (congrArg some (by kernel_rfl))⟩
  f24 := ⟨Tryd.f82.name, by decide, Tryd.func82.trans (congrArg some (by kernel_rfl))⟩
  f25 := ⟨Tryd.f83.name, by decide, Tryd.func83.trans (congrArg some (by kernel_rfl))⟩
  f26 := ⟨Tryd.f84.name, by decide, Tryd.func84.trans (congrArg some (by kernel_rfl))⟩
  f27 := ⟨Tryd.f85.name, by decide, Tryd.func85.trans (congrArg some (by kernel_rfl))⟩
  f28 := Tryd.func86.trans (congrArg some (by kernel_rfl))
  f29 := Tryd.func87.trans (congrArg some (by kernel_rfl))
  f46 := ⟨Tryd.f95.name, by decide, Tryd.func95.trans (congrArg some (by kernel_rfl))⟩
  f47 := Tryd.func96.trans (congrArg some (by kernel_rfl))
  f48 := Tryd.func97.trans (congrArg some (by kernel_rfl))
  f49 := ⟨Tryd.f98.name, by decide, Tryd.func98.trans (congrArg some (by kernel_rfl))⟩
  f50 := ⟨Tryd.f99.name, by decide, Tryd.func99.trans (congrArg some (by kernel_rfl))⟩
  f57 := ⟨Tryd.f106.name, by decide, Tryd.func106.trans (congrArg some (by kernel_rfl))⟩
  t0 := Tryd.underlying0
  a0 := Tryd.isAgg0
  z0 := Tryd.sizeOf0
  v0 := Tryd.zeroValue0
  t3 := Tryd.underlying3
  a3 := Tryd.isAgg3
  z3 := Tryd.sizeOf3
  v3 := Tryd.zeroValue3
  t4 := Tryd.underlying4
  a4 := Tryd.isAgg4
  z4 := Tryd.sizeOf4
  v4 := Tryd.zeroValue4
  t5 := Tryd.underlying5
  a5 := Tryd.isAgg5
  z5 := Tryd.sizeOf5
  v5 := Tryd.zeroValue5
  t9 := Tryd.underlying9
  a9 := Tryd.isAgg9
  z9 := Tryd.sizeOf9
  v9 := Tryd.zeroValue9
  t22 := Tryd.underlying23
  a22 := Tryd.isAgg23
  z22 := Tryd.sizeOf23
  v22 := Tryd.zeroValue23
  t25 := Tryd.underlying86
  a25 := Tryd.isAgg86
  z25 := Tryd.sizeOf86
  v25 := Tryd.zeroValue86
  t39 := Tryd.underlying100
  a39 := Tryd.isAgg100
  z39 := Tryd.sizeOf100
  v39 := Tryd.zeroValue100
  t45 := Tryd.underlying104
  a45 := Tryd.isAgg104
  z45 := Tryd.sizeOf104
  v45 := Tryd.zeroValue104
  t46 := Tryd.underlying105
  a46 := Tryd.isAgg105
  z46 := Tryd.sizeOf105
  v46 := Tryd.zeroValue105
  t50 := Tryd.underlying74
  a50 := Tryd.isAgg74
  z50 := Tryd.sizeOf74
  v50 := Tryd.zeroValue74
  t53 := Tryd.underlying111
  a53 := Tryd.isAgg111
  z53 := Tryd.sizeOf111
  v53 := Tryd.zeroValue111
  t55 := Tryd.underlying113
  a55 := Tryd.isAgg113
  z55 := Tryd.sizeOf113
  v55 := Tryd.zeroValue113
  t66 := Tryd.underlying119
  a66 := Tryd.isAgg119
  z66 := Tryd.sizeOf119
  v66 := Tryd.zeroValue119
  t70 := Tryd.underlying123
  a70 := Tryd.isAgg123
  z70 := Tryd.sizeOf123
  v70 := Tryd.zeroValue123
  t76 := Tryd.underlying131
  a76 := Tryd.isAgg131
  z76 := Tryd.sizeOf131
  v76 := Tryd.zeroValue131
  t77 := Tryd.underlying76
  a77 := Tryd.isAgg76
  z77 := Tryd.sizeOf76
  v77 := Tryd.zeroValue76 }
def Shs.shsCmp_ren : Go.Shelf.Ren := ⟨fun | 5 => 63 | 7 => 73 | n => n, fun | 22 => 3 | 3 => 3 | 4 => 4 | n => n, fun | n => n⟩
theorem Shs.shsCmp : Go.Proofs.SlLaysC2.n5 Tryd.prog Shs.shsCmp_ren := {
  mixed := by kernel_rfl
  f5 := ⟨Tryd.f63.name, by decide, Tryd.func63.trans (congrArg some (by kernel_rfl))⟩
  f7 := ⟨Tryd.f73.name, by decide, Tryd.func73.trans (congrArg some (by kernel_rfl))⟩
  t3 := Tryd.underlying3
  a3 := Tryd.isAgg3
  z3 := Tryd.sizeOf3
  v3 := Tryd.zeroValue3
  t4 := Tryd.underlying4
  a4 := Tryd.isAgg4
  z4 := Tryd.sizeOf4
  v4 := Tryd.zeroValue4
  t22 := Tryd.underlying3
  a22 := Tryd.isAgg3
  z22 := Tryd.sizeOf3
  v22 := Tryd.zeroValue3 }
end Go.Proofs.YtidcchopmbodkaaDoor
end
section
namespace Go.Proofs.YtidcchopmbodkaaDoor.Sp
open Go.RowKit Go.Proofs.YtidcchopmbodkaaDoorW.PrintWords Go.Proofs.YtidcchopmbodkaaDoorW.PrintLast Go.Proofs.YtidcchopmbodkaaDoorW.PrintMore
attribute [local go_sem] max2_int min2_int max_two min_two
theorem c28_form {w : World} {A : Option Addr} {l : List S28} (h : Kd.C k28 w A l.length l) (hn : 0 < l.length) :
    ∃ b off, A = some ⟨b, off, none⟩ ∧ b < w.heap.size ∧ ∀ j (x : S28), l[j]? = some x → w.cell? ⟨b, off + j * 2, none⟩ = some (.int .i64 x.f0) ∧ w.cell? ⟨b, off + j * 2 + 1, none⟩ = some (.int .i64 x.f1) := by
  obtain ⟨_, _, h3⟩ := h
  obtain ⟨ad, rfl, hc⟩ := h3 hn
  obtain ⟨b, off, sp⟩ := ad
  have key : ∀ j (x : S28), l[j]? = some x → w.cell? (Addr.add ⟨b, off, sp⟩ (j * 2)) = some (.int .i64 x.f0) ∧ w.cell? (Addr.add ⟨b, off, sp⟩ (j * 2 + 1)) = some (.int .i64 x.f1) := by
    intro j x hx
    obtain ⟨c, _, hk, hcell⟩ := hc j x hx
    obtain rfl := k28_open hk
    exact ⟨hcell 0 _ rfl, hcell 1 _ rfl⟩
  have hl : ∃ x, l[0]? = some x := ⟨l[0]'hn, List.getElem?_eq_getElem hn⟩
  obtain ⟨x, hx⟩ := hl
  have k0 := (key 0 x hx).1
  have hs : sp = none := by
    cases sp with
    | none => rfl
    | some s =>
      exfalso
      have e : Addr.add ⟨b, off, some s⟩ (0 * 2) = ⟨b, off, some s⟩ := rfl
      rw [e] at k0
      unfold World.cell? at k0
      split at k0
      · simp at k0
      · cases k0
  subst hs
  have e : ∀ k, Addr.add ⟨b, off, none⟩ k = ⟨b, off + k, none⟩ := fun k => by
    unfold Addr.add
    split
    · rename_i h0; subst h0; rfl
    · rfl
  refine ⟨b, off, rfl, ?_, fun j x hx => ?_⟩
  · rw [e] at k0
    exact World.block_lt_of_cell? w _ k0
  · have := key j x hx
    rw [e, e] at this
    exact this
def enc28 (x : S28) : List Value := [.int .i64 x.f0, .int .i64 x.f1]
def rngB (x : S28) : Bool := decide (0 ≤ min x.f0 x.f1) && decide (max x.f0 x.f1 ≤ 4294967295)
def isE (g x : Int) : Int := if x = 0 then g else x
def pieceB (n g : Int) (x : S28) : Bool := rngB x && (decide (min (isE g x.f0) (isE g x.f1) ≤ n) && decide (n ≤ max (isE g x.f0) (isE g x.f1)))
set_option maxHeartbeats 1000000 in
theorem rng_calls (x : S28) (w : World) : Calls Tryd.prog 49 #[.agg #[.int .i64 x.f0, .int .i64 x.f1]] w fun e w' => e = .returned (.bool (rngB x)) ∧ Below w.heap.size w w' := by
  obtain ⟨a, b⟩ := x
  have hB := Lib.hid ((Below.refl w.heap.size w).alloc (Nat.le_refl _) (.cells #[.int .i64 a, .int .i64 b] 28))
  go_enter Tryd.func49, Tryd.ntmps49
  go_wp2
  all_goals go_ret
  all_goals refine ⟨congrArg (fun b => Ending.returned (.bool b)) ?_, hB.out⟩
  all_goals (unfold rngB; rw [Bool.eq_iff_iff]; simp; omega)
theorem is_calls (x g : Int) (p : Nat) (w : World) (hg : w.cell? ⟨p, 0, none⟩ = some (.int .i64 g)) :
    Calls Tryd.prog 46 #[.int .i64 x, .pointer (some ⟨p, 0, none⟩)] w fun e w' => e = .returned (.int .i64 (isE g x)) ∧ w = w' := by
  unfold isE
  by_cases h : x = 0
  · subst h
    go_enter Tryd.func46, Tryd.ntmps46
    go_wp2
    go_ret
    exact ⟨rfl, rfl⟩
  · have h1 : (x == 0) = false := by simpa using h
    rw [if_neg h]
    go_enter Tryd.func46, Tryd.ntmps46
    go_wp2
    go_ret
    exact ⟨rfl, rfl⟩
set_option maxHeartbeats 4000000 in
theorem piece_calls (n g : Int) (p q t : Nat) (x : S28) (w : World) (hg : w.cell? ⟨p, 0, none⟩ = some (.int .i64 g)) (hn : w.cell? ⟨q, 0, none⟩ = some (.int .i64 n))
    (ht : w.cell? ⟨t, 0, none⟩ = some (.func (.func 46) #[] #[.pointer (some ⟨p, 0, none⟩)])) :
    Calls Tryd.prog 48 #[.agg #[.int .i64 x.f0, .int .i64 x.f1], .pointer (some ⟨t, 0, none⟩), .pointer (some ⟨q, 0, none⟩)] w fun e w' => e = .returned (.bool (pieceB n g x)) ∧ Below w.heap.size w w' := by
  obtain ⟨a, b⟩ := x
  have hB := Lib.hid ((Below.refl w.heap.size w).alloc (Nat.le_refl _) (.cells #[.int .i64 a, .int .i64 b] 28))
  have hp : p < w.heap.size := World.block_lt_of_cell? w _ hg
  have hq : q < w.heap.size := World.block_lt_of_cell? w _ hn
  have htl : t < w.heap.size := World.block_lt_of_cell? w _ ht
  have hA : (w.alloc (.cells #[.int .i64 a, .int .i64 b] 28)).cell? ⟨p, 0, none⟩ = some (.int .i64 g) := by rw [World.cell?_alloc_past _ _ _ hp]; exact hg
  have hN : (w.alloc (.cells #[.int .i64 a, .int .i64 b] 28)).cell? ⟨q, 0, none⟩ = some (.int .i64 n) := by rw [World.cell?_alloc_past _ _ _ hq]; exact hn
  have hsz : q < (w.alloc (.cells #[.int .i64 a, .int .i64 b] 28)).heap.size := by simp; omega
  go_enter Tryd.func48, Tryd.ntmps48
  go_wp2_with fail
  go_quiet ((go_at_call 46; exact Calls.quiet_of_same ((is_calls _ g p _ (by rw [World.cell?_drewN]; exact hA)).mono fun _ _ h => ⟨h.1, h.2.symm⟩)))
  generalize hr : rngB ⟨a, b⟩ = rb at *
  have Hr := Lib.hid hr
  clear hr
  obtain ⟨W, hW⟩ : ∃ W : World, W = ((w.alloc (.cells #[.int .i64 a, .int .i64 b] 28)).drewN nq) := ⟨_, rfl⟩
  have hw0 : W.cell? ⟨w.heap.size, 0, none⟩ = some (.int .i64 a) := by rw [hW]; simp
  have hw1 : W.cell? ⟨w.heap.size, 1, none⟩ = some (.int .i64 b) := by rw [hW]; simp
  have hwq : W.cell? ⟨q, 0, none⟩ = some (.int .i64 n) := by rw [hW, World.cell?_drewN]; exact hN
  have hzq : q < W.heap.size := by rw [hW]; simp; omega
  have hBW := Lib.hid (show Below w.heap.size w W from by rw [hW]; exact pw_below_drewN hB.out _)
  rw [← hW]
  clear hA hN hg hn ht hW hB
  cases rb
  · go_wp2_with (go_at_call 49; refine (rng_calls ⟨a, b⟩ _).mono ?_; rintro e w' ⟨rfl, hb⟩; rw [Hr.out])
    go_ret
    exact ⟨by unfold pieceB; rw [Hr.out]; rfl, hBW.out.trans (hb.mono hBW.out.size)⟩
  · go_wp2_with (go_at_call 49; refine (rng_calls ⟨a, b⟩ _).mono ?_; rintro e w' ⟨rfl, hb⟩; rw [Hr.out]; have hwq' : w'.cell? ⟨q, 0, none⟩ = some (.int .i64 n) := (hb.cell (p := ⟨q, 0, none⟩) hzq).trans hwq)
    all_goals go_ret
    all_goals refine ⟨congrArg (fun b => Ending.returned (.bool b)) ?_, hBW.out.trans (hb.mono hBW.out.size)⟩
    all_goals (unfold pieceB; rw [Hr.out]; generalize isE g a = ea at *; generalize isE g b = eb at *; rw [Bool.eq_iff_iff]; simp; omega)
instance : Inhabited S28 := ⟨z28⟩
theorem index_none (A : Option Addr) (c : Nat) (fv : Value) (w : World) : Calls Tryd.prog 64 #[.slice A 0 c, fv] w fun e w' => e = .returned (.int .i64 (-1)) ∧ w = w' := by
  go_enter Tryd.func64, Tryd.ntmps64
  go_wp2
  refine wp_loop_rounds 1 ?_
  rw [rounds_succ]
  go_wp2
  go_ret
  exact ⟨rfl, rfl⟩
theorem contains_none (A : Option Addr) (c : Nat) (fv : Value) (w : World) : Calls Tryd.prog 47 #[.slice A 0 c, fv] w fun e w' => e = .returned (.bool false) ∧ w = w' := by
  go_enter Tryd.func47, Tryd.ntmps47
  go_wp2_with (go_at_call 64; refine (index_none _ _ _ _).mono ?_; rintro e w' ⟨rfl, rfl⟩)
  go_ret
  exact ⟨rfl, rfl⟩
theorem contains_calls (p q t : Nat) (n g : Int) (A : Option Addr) (c : Nat) (l : List S28) (w : World) (hg : w.cell? ⟨p, 0, none⟩ = some (.int .i64 g)) (hn : w.cell? ⟨q, 0, none⟩ = some (.int .i64 n))
    (ht : w.cell? ⟨t, 0, none⟩ = some (.func (.func 46) #[] #[.pointer (some ⟨p, 0, none⟩)])) (hl : Kd.C k28 w A l.length l) :
    Calls Tryd.prog 47 #[.slice A l.length c, .func (.func 48) #[] #[.pointer (some ⟨t, 0, none⟩), .pointer (some ⟨q, 0, none⟩)]] w fun e w' => e = .returned (.bool (l.any (pieceB n g))) ∧ Below w.heap.size w w' := by
  by_cases h0 : l.length = 0
  · have e : l = [] := List.length_eq_zero_iff.1 h0
    subst e
    exact (contains_none A c _ w).mono fun e w' ⟨he, hw⟩ => ⟨he, hw ▸ Below.refl _ _⟩
  · obtain ⟨b, off, rfl, hb, hc⟩ := c28_form hl (by omega)
    have eg : ∀ args w, (callFunc 48 args).run Tryd.prog w = .ok (.enter 48 args) w := enters_of Tryd.func48 (by kernel_rfl) rfl
    have hp : PredBelow Tryd.prog 48 #[.pointer (some ⟨t, 0, none⟩), .pointer (some ⟨q, 0, none⟩)] (fun x => .agg (enc28 x).toArray) (pieceB n g) w := fun W x hB =>
      (piece_calls n g p q t x W ((hB.cell (p := ⟨p, 0, none⟩) (World.block_lt_of_cell? w _ hg)).trans hg) ((hB.cell (p := ⟨q, 0, none⟩) (World.block_lt_of_cell? w _ hn)).trans hn)
        ((hB.cell (p := ⟨t, 0, none⟩) (World.block_lt_of_cell? w _ ht)).trans ht)).mono fun e w' ⟨he, hb'⟩ => ⟨he, hB.trans (hb'.mono hB.size)⟩
    have hcon := AnyQ.slices_ContainsFunc Shl.shlHas 2 Tryd.isAgg28 Tryd.sizeOf28 enc28 (fun _ => rfl) (pieceB n g) 48 _ eg b off l.length c l w hp (Nat.le_refl _) hl.2.1 hb (by
      intro j hj i v hv
      have hx : l[j]? = some l[j]! := by rw [List.getElem?_eq_getElem hj]; simp [hj]
      obtain ⟨h1, h2⟩ := hc j _ hx
      have hi : i < 2 := by have := (List.getElem?_eq_some_iff.1 hv).1; simpa [enc28] using this
      rcases (by omega : i = 0 ∨ i = 1) with rfl | rfl
      · simp only [enc28, List.getElem?_cons_zero, Option.some.injEq] at hv
        rw [← hv]; exact h1
      · simp only [enc28, List.getElem?_cons_succ, List.getElem?_cons_zero, Option.some.injEq] at hv
        rw [← hv]; exact h2)
    rw [List.take_length] at hcon
    exact hcon
def span_Has.f (l0 : List S28) (a1 a2 : Int) : Option Bool := some (if a2 < 1 ∨ a1 < 1 then false else l0.any (pieceB a1 a2))
set_option maxHeartbeats 1000000 in
theorem span_Has.calls (A0 : Option Addr) (c0 : Nat) (l0 : List S28) (a1 a2 : Int) (r : Bool) (w : World) (hr0 : Kd.C k28 w A0 l0.length l0) (_hc0 : l0.length ≤ c0) (h : span_Has.f l0 a1 a2 = some r) :
    Calls Tryd.prog 17 #[.slice A0 l0.length c0, .int .i64 a1, .int .i64 a2] w fun e w' => e = .returned (.bool r) ∧ Below w.heap.size w w' := by
  have h := Option.some.inj h
  have HR := Lib.hid hr0
  clear hr0
  have hB1 := (Below.refl w.heap.size w).alloc (Nat.le_refl _) (.cells #[.int .i64 a1] 3)
  have hB2 := Lib.hid (hB1.alloc (by simp) (.cells #[.int .i64 a2] 3))
  clear hB1
  by_cases h2 : a2 < 1
  · rw [if_pos (Or.inl h2)] at h
    subst h
    go_enter Tryd.func17, Tryd.ntmps17
    go_wp2
    go_ret
    exact ⟨rfl, hB2.out⟩
  · by_cases h1 : a1 < 1
    · rw [if_pos (Or.inr h1)] at h
      subst h
      go_enter Tryd.func17, Tryd.ntmps17
      go_wp2
      go_ret
      exact ⟨rfl, hB2.out⟩
    · rw [if_neg (by omega)] at h
      have H := Lib.hid h
      clear h
      have d1 : decide (a2 < 1) = false := decide_eq_false h2
      have d2 : decide (a1 < 1) = false := decide_eq_false h1
      go_enter Tryd.func17, Tryd.ntmps17
      go_wp2_with fail
      have hB3 := hB2.out.alloc (by simp; omega) (.cells #[.func (.func 46) #[] #[.pointer (some ⟨w.heap.size + 1, 0, none⟩)]] 68)
      refine (contains_calls (w.heap.size + 1) w.heap.size (w.heap.size + 1 + 1) a1 a2 A0 c0 l0 _ (by go_simp) (by go_simp) (by go_simp) (Kd.C_below HR.out hB3)).mono ?_
      rintro e w' ⟨rfl, hb⟩
      rw [H.out]
      have hB4 := hB3.trans (hb.mono hB3.size)
      clear hB3 hb d1 d2
      have HB4 := Lib.hid hB4
      clear hB4
      go_wp2
      go_ret
      exact ⟨rfl, HB4.out⟩
end Go.Proofs.YtidcchopmbodkaaDoor.Sp
end
section
namespace Go.Proofs.YtidcchopmbodkaaDoor.Canon
abbrev Rg := Int × Int
def Mem (l : List Rg) (n : Int) : Prop := ∃ r ∈ l, r.1 ≤ n ∧ n ≤ r.2
def Rises (l : List Rg) : Prop := (∀ r ∈ l, r.1 ≤ r.2) ∧ l.Pairwise fun a b => a.2 + 1 < b.1
theorem mem_nil (n : Int) : ¬ Mem [] n := by rintro ⟨r, h, _⟩; simp at h
theorem mem_cons (r : Rg) (l : List Rg) (n : Int) : Mem (r :: l) n ↔ (r.1 ≤ n ∧ n ≤ r.2) ∨ Mem l n := by
  constructor
  · rintro ⟨s, hs, h⟩
    rcases List.mem_cons.1 hs with rfl | hs
    · exact Or.inl h
    · exact Or.inr ⟨s, hs, h⟩
  · rintro (h | ⟨s, hs, h⟩)
    · exact ⟨r, by simp, h⟩
    · exact ⟨s, by simp [hs], h⟩
theorem mem_append (l m : List Rg) (n : Int) : Mem (l ++ m) n ↔ Mem l n ∨ Mem m n := by
  constructor
  · rintro ⟨s, hs, h⟩
    rcases List.mem_append.1 hs with hs | hs
    · exact Or.inl ⟨s, hs, h⟩
    · exact Or.inr ⟨s, hs, h⟩
  · rintro (⟨s, hs, h⟩ | ⟨s, hs, h⟩)
    · exact ⟨s, by simp [hs], h⟩
    · exact ⟨s, by simp [hs], h⟩
theorem rises_cons (r : Rg) (l : List Rg) : Rises (r :: l) ↔ r.1 ≤ r.2 ∧ (∀ s ∈ l, r.2 + 1 < s.1) ∧ Rises l := by
  unfold Rises
  rw [List.pairwise_cons]
  constructor
  · rintro ⟨h1, h2, h3⟩
    exact ⟨h1 r (by simp), h2, fun s hs => h1 s (by simp [hs]), h3⟩
  · rintro ⟨h1, h2, h3, h4⟩
    refine ⟨fun s hs => ?_, h2, h4⟩
    rcases List.mem_cons.1 hs with rfl | hs
    · exact h1
    · exact h3 s hs
theorem rises_append (l m : List Rg) : Rises (l ++ m) ↔ Rises l ∧ Rises m ∧ ∀ a ∈ l, ∀ b ∈ m, a.2 + 1 < b.1 := by
  unfold Rises
  rw [List.pairwise_append]
  constructor
  · rintro ⟨h1, h2, h3, h4⟩
    exact ⟨⟨fun s hs => h1 s (by simp [hs]), h2⟩, ⟨fun s hs => h1 s (by simp [hs]), h3⟩, h4⟩
  · rintro ⟨⟨h1, h2⟩, ⟨h3, h4⟩, h5⟩
    refine ⟨fun s hs => ?_, h2, h4, h5⟩
    rcases List.mem_append.1 hs with hs | hs
    · exact h1 s hs
    · exact h3 s hs
theorem rises_nil : Rises [] := ⟨fun r h => by simp at h, List.Pairwise.nil⟩
theorem rises_unique : ∀ (l m : List Rg), Rises l → Rises m → (∀ n, Mem l n ↔ Mem m n) → l = m
  | [], [], _, _, _ => rfl
  | [], s :: m, _, hm, h => by
    have := (rises_cons s m).1 hm
    exact absurd ((h s.1).2 ((mem_cons s m _).2 (Or.inl ⟨by omega, by omega⟩))) (mem_nil _)
  | r :: l, [], hl, _, h => by
    have := (rises_cons r l).1 hl
    exact absurd ((h r.1).1 ((mem_cons r l _).2 (Or.inl ⟨by omega, by omega⟩))) (mem_nil _)
  | r :: l, s :: m, hl, hm, h => by
    obtain ⟨a1, a2, a3⟩ := (rises_cons r l).1 hl
    obtain ⟨b1, b2, b3⟩ := (rises_cons s m).1 hm
    have inl : ∀ n, Mem l n → r.2 + 1 < n := fun n ⟨t, ht, h1, h2⟩ => by have := a2 t ht; omega
    have inm : ∀ n, Mem m n → s.2 + 1 < n := fun n ⟨t, ht, h1, h2⟩ => by have := b2 t ht; omega
    have f1 : ∀ n, (r.1 ≤ n ∧ n ≤ r.2) ∨ Mem l n ↔ (s.1 ≤ n ∧ n ≤ s.2) ∨ Mem m n := fun n => by rw [← mem_cons, ← mem_cons]; exact h n
    have e1 : s.1 ≤ r.1 := by
      rcases (f1 r.1).1 (Or.inl ⟨by omega, by omega⟩) with h1 | h1
      · exact h1.1
      · have := inm _ h1; omega
    have e2 : r.1 ≤ s.1 := by
      rcases (f1 s.1).2 (Or.inl ⟨by omega, by omega⟩) with h1 | h1
      · exact h1.1
      · have := inl _ h1; omega
    have e3 : s.2 ≤ r.2 := by
      by_cases hc : s.2 ≤ r.2
      · exact hc
      · rcases (f1 (r.2 + 1)).2 (Or.inl ⟨by omega, by omega⟩) with h1 | h1
        · omega
        · have := inl _ h1; omega
    have e4 : r.2 ≤ s.2 := by
      by_cases hc : r.2 ≤ s.2
      · exact hc
      · rcases (f1 (s.2 + 1)).1 (Or.inl ⟨by omega, by omega⟩) with h1 | h1
        · omega
        · have := inm _ h1; omega
    have e : r = s := Prod.ext (by omega) (by omega)
    subst e
    rw [rises_unique l m a3 b3 fun n => ?_]
    constructor
    · intro hn
      rcases (f1 n).1 (Or.inr hn) with h1 | h1
      · have := inl _ hn; omega
      · exact h1
    · intro hn
      rcases (f1 n).2 (Or.inr hn) with h1 | h1
      · have := inm _ hn; omega
      · exact h1
def putL : List Rg → List Rg → List Rg → Int → Int → List Rg
  | [], m, behind, a, b => m ++ [(a, b)] ++ behind
  | s :: l, m, behind, a, b => if s.2 < a - 1 then putL l (m ++ [s]) behind a b else if s.1 > b + 1 then putL l m (behind ++ [s]) a b else putL l m behind (min a s.1) (max b s.2)
def put (l : List Rg) (a b : Int) : List Rg := putL l [] [] a b
theorem putL_ok : ∀ (l m behind : List Rg) (a b : Int), a ≤ b → Rises l → Rises (m ++ [(a, b)] ++ behind) → (∀ r ∈ m, ∀ s ∈ l, r.2 + 1 < s.1) → (∀ r ∈ behind, ∀ s ∈ l, r.2 + 1 < s.1) →
    Rises (putL l m behind a b) ∧ ∀ n, Mem (putL l m behind a b) n ↔ Mem (m ++ [(a, b)] ++ behind) n ∨ Mem l n
  | [], m, behind, a, b, hab, hl, hr, hm, hb => ⟨hr, fun n => ⟨fun h => Or.inl h, fun h => h.elim id fun h => absurd h (mem_nil _)⟩⟩
  | s :: l, m, behind, a, b, hab, hl, hr, hm, hb => by
    obtain ⟨a1, a2, a3⟩ := (rises_cons s l).1 hl
    obtain ⟨c1, c2, c3⟩ := (rises_append (m ++ [(a, b)]) behind).1 hr
    obtain ⟨d1, d2, d3⟩ := (rises_append m [(a, b)]).1 c1
    have dm : ∀ r ∈ m, r.2 + 1 < a := fun r h => d3 r h (a, b) (by simp)
    have db : ∀ r ∈ behind, b + 1 < r.1 := fun r h => c3 (a, b) (by simp) r h
    have mb : ∀ r ∈ m, ∀ t ∈ behind, r.2 + 1 < t.1 := fun r h t ht => c3 r (by simp [h]) t ht
    unfold putL
    split
    · rename_i h1
      have hr' : Rises (m ++ [s] ++ [(a, b)] ++ behind) := by
        refine (rises_append _ _).2 ⟨(rises_append _ _).2 ⟨(rises_append _ _).2 ⟨d1, (rises_cons _ _).2 ⟨a1, by simp, rises_nil⟩, ?_⟩, d2, ?_⟩, c2, ?_⟩
        · intro r h t ht; rw [List.mem_singleton] at ht; subst ht; exact hm r h _ (by simp)
        · intro r h t ht; rw [List.mem_singleton] at ht; subst ht
          rcases List.mem_append.1 h with h | h
          · exact dm r h
          · rw [List.mem_singleton] at h; subst h; show r.2 + 1 < a; omega
        · intro r h t ht
          rcases List.mem_append.1 h with h | h
          · rcases List.mem_append.1 h with h | h
            · exact mb r h t ht
            · rw [List.mem_singleton] at h; subst h; have := db t ht; omega
          · rw [List.mem_singleton] at h; subst h; exact db t ht
      obtain ⟨k1, k2⟩ := putL_ok l (m ++ [s]) behind a b hab a3 hr' (fun r h t ht => by
        rcases List.mem_append.1 h with h | h
        · exact hm r h t (by simp [ht])
        · rw [List.mem_singleton] at h; subst h; exact a2 t ht) (fun r h t ht => hb r h t (by simp [ht]))
      refine ⟨k1, fun n => ?_⟩
      rw [k2 n]; simp only [mem_append, mem_cons]; constructor
      · rintro ((((h | h | h) | h) | h) | h) <;> simp [h]
      · rintro (((h | h) | h) | h | h) <;> simp [h]
    · split
      · rename_i h1 h2
        have hr' : Rises (m ++ [(a, b)] ++ (behind ++ [s])) := by
          refine (rises_append _ _).2 ⟨c1, (rises_append _ _).2 ⟨c2, (rises_cons _ _).2 ⟨a1, by simp, rises_nil⟩, ?_⟩, ?_⟩
          · intro r h t ht; rw [List.mem_singleton] at ht; subst ht; exact hb r h _ (by simp)
          · intro r h t ht
            rcases List.mem_append.1 ht with ht | ht
            · exact c3 r h t ht
            · rw [List.mem_singleton] at ht; subst ht
              rcases List.mem_append.1 h with h | h
              · exact hm r h _ (by simp)
              · rw [List.mem_singleton] at h; subst h; show b + 1 < t.1; omega
        obtain ⟨k1, k2⟩ := putL_ok l m (behind ++ [s]) a b hab a3 hr' (fun r h t ht => hm r h t (by simp [ht])) (fun r h t ht => by
          rcases List.mem_append.1 h with h | h
          · exact hb r h t (by simp [ht])
          · rw [List.mem_singleton] at h; subst h; exact a2 t ht)
        refine ⟨k1, fun n => ?_⟩
        rw [k2 n]; simp only [mem_append, mem_cons]; constructor
        · rintro (((h | h) | h | h | h) | h) <;> simp [h]
        · rintro (((h | h) | h) | h | h) <;> simp [h]
      · rename_i h1 h2
        have nob : ∀ r ∈ behind, False := fun r h => by
          have e1 := hb r h s (by simp); have e2 := db r h; have e3 := c2.1 r h; omega
        have eb : behind = [] := by
          cases behind with
          | nil => rfl
          | cons r t => exact absurd (nob r (by simp)) id
        subst eb
        have hr' : Rises (m ++ [(min a s.1, max b s.2)] ++ []) := by
          rw [List.append_nil]
          refine (rises_append _ _).2 ⟨d1, (rises_cons _ _).2 ⟨by show min a s.1 ≤ max b s.2; omega, by simp, rises_nil⟩, ?_⟩
          intro r h t ht; rw [List.mem_singleton] at ht; subst ht
          have e1 := dm r h; have e2 := hm r h s (by simp); show r.2 + 1 < min a s.1; omega
        obtain ⟨k1, k2⟩ := putL_ok l m [] (min a s.1) (max b s.2) (by omega) a3 hr' (fun r h t ht => hm r h t (by simp [ht])) (by simp)
        refine ⟨k1, fun n => ?_⟩
        rw [k2 n]; simp only [mem_append, mem_cons]
        have key : (min a s.1 ≤ n ∧ n ≤ max b s.2) ↔ (a ≤ n ∧ n ≤ b) ∨ (s.1 ≤ n ∧ n ≤ s.2) := by omega
        rw [key]; constructor
        · rintro (((h | (h | h) | h) | h) | h) <;> simp [h]
        · rintro (((h | h | h) | h) | h | h) <;> simp [h]
theorem put_ok (l : List Rg) (a b : Int) (hab : a ≤ b) (hl : Rises l) : Rises (put l a b) ∧ ∀ n, Mem (put l a b) n ↔ (a ≤ n ∧ n ≤ b) ∨ Mem l n := by
  obtain ⟨h1, h2⟩ := putL_ok l [] [] a b hab hl ((rises_cons _ _).2 ⟨hab, by simp, rises_nil⟩) (by simp) (by simp)
  refine ⟨h1, fun n => (h2 n).trans ?_⟩
  simp only [List.nil_append, List.append_nil, mem_cons]
  constructor
  · rintro ((h | h) | h)
    · exact Or.inl h
    · exact absurd h (mem_nil _)
    · exact Or.inr h
  · rintro (h | h)
    · exact Or.inl (Or.inl h)
    · exact Or.inr h
def canon (l : List Rg) : List Rg := l.foldl (fun acc r => put acc r.1 r.2) []
theorem fold_ok : ∀ (l acc : List Rg), Rises acc → (∀ r ∈ l, r.1 ≤ r.2) → Rises (l.foldl (fun acc r => put acc r.1 r.2) acc) ∧ ∀ n, Mem (l.foldl (fun acc r => put acc r.1 r.2) acc) n ↔ Mem acc n ∨ Mem l n
  | [], acc, h, _ => ⟨h, fun n => ⟨Or.inl, fun h => h.elim id fun h => absurd h (mem_nil _)⟩⟩
  | r :: l, acc, h, hl => by
    obtain ⟨p1, p2⟩ := put_ok acc r.1 r.2 (hl r (by simp)) h
    obtain ⟨q1, q2⟩ := fold_ok l (put acc r.1 r.2) p1 (fun s hs => hl s (by simp [hs]))
    refine ⟨q1, fun n => ?_⟩
    show Mem (l.foldl (fun acc r => put acc r.1 r.2) (put acc r.1 r.2)) n ↔ _
    rw [q2 n, p2 n, mem_cons]
    constructor
    · rintro ((h | h) | h) <;> simp [h]
    · rintro (h | h | h) <;> simp [h]
theorem canon_ok (l : List Rg) (hl : ∀ r ∈ l, r.1 ≤ r.2) : Rises (canon l) ∧ ∀ n, Mem (canon l) n ↔ Mem l n := by
  obtain ⟨h1, h2⟩ := fold_ok l [] rises_nil hl
  exact ⟨h1, fun n => (h2 n).trans ⟨fun h => h.elim (fun h => absurd h (mem_nil _)) id, Or.inr⟩⟩
def glue (out : List Rg) (r : Rg) : List Rg := match out.getLast? with
  | some e => if r.1 ≤ e.2 + 1 then out.dropLast ++ [(e.1, max e.2 r.2)] else out ++ [r]
  | none => [r]
theorem glue_ok (out : List Rg) (r : Rg) (h : Rises out) (hr : r.1 ≤ r.2) (ho : ∀ s ∈ out, s.1 ≤ r.1) :
    Rises (glue out r) ∧ (∀ n, Mem (glue out r) n ↔ Mem out n ∨ (r.1 ≤ n ∧ n ≤ r.2)) ∧ ∀ t : Int, r.1 ≤ t → ∀ s ∈ glue out r, s.1 ≤ t := by
  unfold glue
  split
  · rename_i e he
    obtain ⟨l, rfl⟩ := List.getLast?_eq_some_iff.1 he
    rw [List.dropLast_concat]
    obtain ⟨a1, a2, a3⟩ := (rises_append _ _).1 h
    have ee : e.1 ≤ e.2 := a2.1 e (by simp)
    have er : e.1 ≤ r.1 := ho e (by simp)
    split
    · rename_i hc
      refine ⟨(rises_append _ _).2 ⟨a1, (rises_cons _ _).2 ⟨by show e.1 ≤ max e.2 r.2; omega, by simp, rises_nil⟩, ?_⟩, fun n => ?_, ?_⟩
      · intro s hs t ht; rw [List.mem_singleton] at ht; subst ht; exact a3 s hs e (by simp)
      · simp only [mem_append, mem_cons]
        have key : (e.1 ≤ n ∧ n ≤ max e.2 r.2) ↔ (e.1 ≤ n ∧ n ≤ e.2) ∨ (r.1 ≤ n ∧ n ≤ r.2) := by omega
        rw [key]; constructor
        · rintro (h | (h | h) | h) <;> simp [h]
        · rintro ((h | h | h) | h) <;> simp [h]
      · intro t ht s hs
        rcases List.mem_append.1 hs with hs | hs
        · have := ho s (by simp [hs]); omega
        · rw [List.mem_singleton] at hs; subst hs; show e.1 ≤ t; omega
    · rename_i hc
      refine ⟨(rises_append _ _).2 ⟨h, (rises_cons _ _).2 ⟨hr, by simp, rises_nil⟩, ?_⟩, fun n => ?_, ?_⟩
      · intro s hs t ht; rw [List.mem_singleton] at ht; subst ht
        rcases List.mem_append.1 hs with hs | hs
        · have := a3 s hs e (by simp); omega
        · rw [List.mem_singleton] at hs; subst hs; omega
      · simp only [mem_append, mem_cons]; constructor
        · rintro ((h | h | h) | h | h) <;> simp [h]
        · rintro ((h | h | h) | h) <;> simp [h]
      · intro t ht s hs
        rcases List.mem_append.1 hs with hs | hs
        · have := ho s hs; omega
        · rw [List.mem_singleton] at hs; subst hs; omega
  · rename_i he
    have e0 : out = [] := List.getLast?_eq_none_iff.1 he
    subst e0
    refine ⟨(rises_cons _ _).2 ⟨hr, by simp, rises_nil⟩, fun n => ?_, ?_⟩
    · rw [mem_cons]; constructor
      · rintro (h | h)
        · exact Or.inr h
        · exact Or.inl h
      · rintro (h | h)
        · exact Or.inr h
        · exact Or.inl h
    · intro t ht s hs; rw [List.mem_singleton] at hs; subst hs; exact ht
theorem glues_ok : ∀ (l out : List Rg), Rises out → (∀ r ∈ l, r.1 ≤ r.2) → l.Pairwise (fun a b => a.1 ≤ b.1) → (∀ s ∈ out, ∀ r ∈ l, s.1 ≤ r.1) →
    Rises (l.foldl glue out) ∧ ∀ n, Mem (l.foldl glue out) n ↔ Mem out n ∨ Mem l n
  | [], out, h, _, _, _ => ⟨h, fun n => ⟨Or.inl, fun h => h.elim id fun h => absurd h (mem_nil _)⟩⟩
  | r :: l, out, h, hl, hp, ho => by
    obtain ⟨p1, p2, p3⟩ := glue_ok out r h (hl r (by simp)) fun s hs => ho s hs r (by simp)
    obtain ⟨s1, s2⟩ := List.pairwise_cons.1 hp
    obtain ⟨q1, q2⟩ := glues_ok l (glue out r) p1 (fun s hs => hl s (by simp [hs])) s2 fun s hs t ht => p3 t.1 (s1 t ht) s hs
    refine ⟨q1, fun n => ?_⟩
    show Mem (l.foldl glue (glue out r)) n ↔ _
    rw [q2 n, p2 n, mem_cons]
    constructor
    · rintro ((h | h) | h) <;> simp [h]
    · rintro (h | h | h) <;> simp [h]
theorem united_eq (l d : List Rg) (hd : ∀ r, r ∈ d ↔ r ∈ l) (hl : ∀ r ∈ l, r.1 ≤ r.2) (hs : d.Pairwise fun a b => a.1 ≤ b.1) : d.foldl glue [] = canon l := by
  obtain ⟨h1, h2⟩ := glues_ok d [] rises_nil (fun r hr => hl r ((hd r).1 hr)) hs (by simp)
  obtain ⟨h3, h4⟩ := canon_ok l hl
  refine rises_unique _ _ h1 h3 fun n => ?_
  rw [h2 n, h4 n]
  constructor
  · rintro (h | ⟨r, hr, h⟩)
    · exact absurd h (mem_nil _)
    · exact ⟨r, (hd r).1 hr, h⟩
  · rintro ⟨r, hr, h⟩
    exact Or.inr ⟨r, (hd r).2 hr, h⟩
end Go.Proofs.YtidcchopmbodkaaDoor.Canon
end
section
namespace Go.Proofs.YtidcchopmbodkaaDoor.Sp
open Go.RowKit Go.Proofs.YtidcchopmbodkaaDoorW.PrintWords Go.Proofs.YtidcchopmbodkaaDoorW.PrintLast Go.Proofs.YtidcchopmbodkaaDoorW.PrintMore
open Canon
def flat (l : List S28) : List Value := l.flatMap enc28
theorem flat_cons (x : S28) (l : List S28) : flat (x :: l) = .int .i64 x.f0 :: .int .i64 x.f1 :: flat l := rfl
theorem flat_append (l m : List S28) : flat (l ++ m) = flat l ++ flat m := List.flatMap_append
theorem flat_length (l : List S28) : (flat l).length = l.length * 2 := by
  induction l with
  | nil => rfl
  | cons x l ih => rw [flat_cons]; simp only [List.length_cons, ih]; omega
theorem flat_one (l : List S28) : ∀ u ∈ flat l, u.oneCell' = true := by
  intro u hu
  obtain ⟨x, _, hx⟩ := List.mem_flatMap.1 hu
  simp only [enc28, List.mem_cons, List.not_mem_nil, or_false] at hx
  rcases hx with rfl | rfl <;> rfl
theorem flat_at (l : List S28) (j : Nat) (x : S28) (h : l[j]? = some x) : (flat l)[j * 2]? = some (.int .i64 x.f0) ∧ (flat l)[j * 2 + 1]? = some (.int .i64 x.f1) := by
  induction l generalizing j with
  | nil => simp at h
  | cons y l ih =>
    cases j with
    | zero =>
      simp only [List.getElem?_cons_zero, Option.some.injEq] at h
      subst h
      exact ⟨rfl, rfl⟩
    | succ j =>
      rw [List.getElem?_cons_succ] at h
      obtain ⟨h1, h2⟩ := ih j h
      rw [flat_cons]
      exact ⟨by rw [show (j + 1) * 2 = j * 2 + 1 + 1 from by omega]; exact h1, by rw [show (j + 1) * 2 + 1 = j * 2 + 1 + 1 + 1 from by omega]; exact h2⟩
theorem flat_of {l : List S28} {j : Nat} {u : Value} (h : (flat l)[j]? = some u) : ∃ x, l[j / 2]? = some x ∧ (enc28 x)[j % 2]? = some u := by
  have hl : j < (flat l).length := (List.getElem?_eq_some_iff.1 h).1
  rw [flat_length] at hl
  obtain ⟨x, hx⟩ : ∃ x, l[j / 2]? = some x := ⟨l[j / 2]'(by omega), List.getElem?_eq_getElem (by omega)⟩
  obtain ⟨h1, h2⟩ := flat_at l _ x hx
  refine ⟨x, hx, ?_⟩
  rcases (by omega : j % 2 = 0 ∨ j % 2 = 1) with e | e
  · rw [show j / 2 * 2 = j from by omega, h] at h1
    rw [e, h1]; rfl
  · rw [show j / 2 * 2 + 1 = j from by omega, h] at h2
    rw [e, h2]; rfl
set_option maxHeartbeats 1000000 in
theorem clone_calls (A : Option Addr) (c : Nat) (l : List S28) (w : World) (hr : Kd.C k28 w A l.length l) (hb : l.length * 16 ≤ 140737488355328) :
    Calls Tryd.prog 60 #[.slice A l.length c] w fun e w' => ∃ v', e = .returned v' ∧ w'.ownsRow w.heap.size 28 2 v' l.length (flat l) ∧ Below w.heap.size w w' := by
  have q22 : ∀ (w : World) (a : Option Addr) (n c n' c' : Nat), (binOp .eql 23 (.slice a n c) (.slice none n' c')).run Tryd.prog w = .ok (.bool a.isNone) w := fun w a n c n' c' => Lib.run_eql_slice_nil w _ _ a n c n' c' Tryd.underlying23
  cases A with
  | none =>
    have h0 : l.length = 0 := by
      rcases Nat.eq_zero_or_pos l.length with h | h
      · exact h
      · obtain ⟨ad, e, _⟩ := hr.2.2 h; cases e
    have e : l = [] := List.length_eq_zero_iff.1 h0
    subst e
    clear hr hb h0
    go_enter Tryd.func60, Tryd.ntmps60
    go_wp2
    go_ret
    exact ⟨_, rfl, own_nil _ _ _ _, Below.refl _ _⟩
  | some ad =>
    have news : ∀ j u, (flat l)[j]? = some u → w.cell? (ad.add j) = some u := by
      intro j u hj
      obtain ⟨x, hx, hu⟩ := flat_of hj
      have hpos : 0 < l.length := by have := (List.getElem?_eq_some_iff.1 hx).1; omega
      obtain ⟨ad', e, hc⟩ := hr.2.2 hpos
      obtain rfl := Option.some.inj e
      obtain ⟨cs, _, hk, hcell⟩ := hc _ x hx
      obtain rfl := k28_open hk
      have := hcell (j % 2) u hu
      rwa [show k28.sz = 2 from rfl, show j / 2 * 2 + j % 2 = j from by omega] at this
    have NEWS := Lib.hid news
    have hn : l.length ≤ maxLen := hr.2.1
    obtain ⟨i0, hi0, hz⟩ : ∃ i, Tryd.prog.info? 28 = some i ∧ (i.zero = some (.agg #[.int .i64 0, .int .i64 0]) ∧ i.size = 2 ∧ i.bytes = 16) := by
      have := info28
      cases hh : Tryd.prog.info? 28 with
      | none => rw [hh] at this; cases this
      | some i => rw [hh] at this; simp only [Option.map_some, Option.some.injEq, Prod.mk.injEq] at this; exact ⟨i, rfl, this⟩
    have hfl := flat_length l
    generalize hF : flat l = F at *
    have hF1 : ∀ u ∈ F, u.oneCell' = true := by rw [← hF]; exact flat_one l
    clear hr news hF
    generalize l.length = n at *
    have HFL := Lib.hid hfl
    have HF1 := Lib.hid hF1
    have HN := Lib.hid hn
    have HB := Lib.hid hb
    have HI := Lib.hid hi0
    have HZ := Lib.hid hz
    clear hfl hF1 hn hb hi0 hz
    go_enter Tryd.func60, Tryd.ntmps60
    go_wp2_with (at_builtin; go_loud (refine wpList_append_own _ rfl _ _ 23 rfl w.heap.size 28 i0 _ 2 16 Tryd.underlying23 HI.out HZ.out.1 HZ.out.2.1 HZ.out.2.2 rfl (by decide) _ _ _ rfl (World.ownsRow_made w #[] 0 (Nat.le_refl _) (Nat.zero_le _) (by simp)) ad n c F rfl ?qc1 ?qc2 ?qc3 ?qc4 ?qc5 ?qc6 ?_))
    case qc1 => exact HFL.out
    case qc2 =>
      intro j u hj
      exact (World.cell?_alloc_some w _ _ (by rw [NEWS.out j u hj]; rfl)).trans (NEWS.out j u hj)
    case qc3 => exact HF1.out
    case qc4 => rw [Nat.zero_add]; exact HN.out
    case qc5 => rw [Nat.zero_add]; exact HB.out
    case qc6 => simp
    intro v' w1 hown hgrow _
    have HO := Lib.hid hown
    have HG := Lib.hid hgrow
    clear hown hgrow
    go_wp2
    go_ret
    refine ⟨v', rfl, by simpa using HO.out, ?_⟩
    exact ((Below.refl _ w).alloc (Nat.le_refl _) _).grown HG.out (by simp) (by intro k hk; simp [Value.ownBlock] at hk; omega)
theorem cmp_calls (x y : S28) (W : World) : Calls Tryd.prog 62 #[.agg #[.int .i64 x.f0, .int .i64 x.f1], .agg #[.int .i64 y.f0, .int .i64 y.f1]] W fun e w' => e = .returned (.int .i64 (Lib.compareInt x.f0 y.f0)) ∧ ∃ q os', w' = Sort.grow (W.drewN q) os' := by
  have hcon := fun W' => AnyG.cmp_Compare_int Shs.shsCmp x.f0 y.f0 W'
  change ∀ W', Calls Tryd.prog 63 _ _ _ at hcon
  generalize Lib.compareInt x.f0 y.f0 = r at hcon ⊢
  go_enter Tryd.func62, Tryd.ntmps62
  go_wp2_with (go_at_call 63; refine (hcon _).mono ?_; rintro e w' ⟨rfl, rfl⟩)
  go_ret
  exact ⟨rfl, 0, _, by rw [Sort.alloc_eq_grow, Sort.alloc_eq_grow, Sort.grow_grow]; rfl⟩
theorem lt_eq (x y : S28) : Go.Proofs.ltOf (fun x y : S28 => Lib.compareInt x.f0 y.f0) x y = decide (x.f0 < y.f0) := by
  unfold Go.Proofs.ltOf Lib.compareInt
  by_cases h1 : x.f0 < y.f0
  · simp [h1]
  · by_cases h2 : y.f0 < x.f0 <;> simp [h1, h2]
theorem lt_swo : Sort.SWO (Go.Proofs.ltOf fun x y : S28 => Lib.compareInt x.f0 y.f0) where
  irrefl x := by rw [lt_eq]; simp
  trans x y z h1 h2 := by rw [lt_eq] at *; simp at *; omega
  ntrans x y z h1 h2 := by rw [lt_eq] at *; simp at *; omega
theorem take_put (F cur : Array Value) (h : F.size ≤ cur.size) : (Sort.putCells id 0 F cur).toList.take F.size = F.toList := by
  apply List.ext_getElem?
  intro j
  rw [List.getElem?_take]
  by_cases hj : j < F.size
  · rw [if_pos hj, Array.getElem?_toList, Array.getElem?_toList]
    unfold Sort.putCells
    rw [Array.getElem?_mapIdx, Array.getElem?_eq_getElem (show j < cur.size by omega)]
    simp only [Option.map_some, id_eq, Nat.zero_le, Nat.zero_add, true_and, Nat.sub_zero]
    rw [if_pos hj, getElem!_pos F j hj, Array.getElem?_eq_getElem hj]
  · rw [if_neg hj, Array.getElem?_toList, Array.getElem?_eq_none (by omega)]
theorem flatK_eq (d : Array S28) : (Sort.flatK enc28 2 d).toList = flat d.toList := by
  apply List.ext_getElem
  · rw [Array.length_toList, Sort.size_flatK, flat_length, Array.length_toList]
  · intro j h1 h2
    rw [Array.length_toList, Sort.size_flatK] at h1
    have e1 := Sort.get_flatK enc28 2 d j h1
    rw [getElem!_pos _ j (by rw [Sort.size_flatK]; exact h1)] at e1
    rw [Array.getElem_toList, e1]
    have hx : d.toList[j / 2]? = some d[j / 2]! := by
      rw [Array.getElem?_toList, Array.getElem?_eq_getElem (by omega), getElem!_pos d (j / 2) (by omega)]
    obtain ⟨f1, f2⟩ := flat_at d.toList _ _ hx
    have h3 : (flat d.toList)[j]? = some (flat d.toList)[j] := List.getElem?_eq_getElem h2
    rcases (by omega : j % 2 = 0 ∨ j % 2 = 1) with e | e
    · rw [show j / 2 * 2 = j from by omega, h3] at f1
      rw [Option.some.inj f1, e]; rfl
    · rw [show j / 2 * 2 + 1 = j from by omega, h3] at f2
      rw [Option.some.inj f2, e]; rfl
set_option maxHeartbeats 1000000 in
theorem sort_calls (base g cap : Nat) (l : List S28) (w : World) (ho : w.ownsRow base 28 2 (.slice (some ⟨g, 0, none⟩) l.length cap) l.length (flat l)) (hl : l.length < 4611686018427387904) :
    Calls Tryd.prog 61 #[.slice (some ⟨g, 0, none⟩) l.length cap, .func (.func 62) #[] #[]] w fun e w' => e = .returned (.tuple #[]) ∧ ∃ d : List S28, d.length = l.length ∧ (∀ r, r ∈ d ↔ r ∈ l) ∧
      d.Pairwise (fun a b => a.f0 ≤ b.f0) ∧ w'.ownsRow base 28 2 (.slice (some ⟨g, 0, none⟩) l.length cap) l.length (flat d) ∧ Below base w w' := by
  obtain ⟨hlen, ho2⟩ := ho
  rcases ho2 with ⟨he, _⟩ | ⟨g', cap', cur, he, hbg, hh, hnc, hcm, hcs, htk⟩
  · cases he
  · injection he with e1 e2 e3
    injection e1 with e1
    injection e1 with e1
    subst e1; subst e3
    have hg : g < w.heap.size := (Array.getElem?_eq_some_iff.1 hh).1
    have hle : l.length * 2 ≤ cur.size := by rw [hcs]; exact Nat.mul_le_mul_right 2 hnc
    have hF : Sort.HoldsK enc28 2 w g 0 l.toArray := by
      intro j hj
      rw [Sort.size_flatK] at hj
      have hj' : j < l.length * 2 := by simpa using hj
      constructor
      · have hc : w.cell? ⟨g, 0 + j, none⟩ = cur[0 + j]? := by unfold World.cell?; simp only [hh]; rfl
        rw [hc, Nat.zero_add]
        have h1 : (flat l)[j]? = cur.toList[j]? := by rw [← htk, List.getElem?_take, if_pos hj']
        have ef : (Sort.flatK enc28 2 l.toArray).toList = flat l := flatK_eq l.toArray
        rw [← Array.getElem?_toList, ← h1, ← ef, Array.getElem?_toList, Array.getElem?_eq_getElem (by rw [Sort.size_flatK]; exact hj), getElem!_pos _ j (by rw [Sort.size_flatK]; exact hj)]
        rfl
      · unfold World.frozen?; simp only [hh]; simp
    have eg : ∀ args w, (callFunc 62 args).run Tryd.prog w = .ok (.enter 62 args) w := enters_of Tryd.func62 (by kernel_rfl) rfl
    have hcon := AnyQ.slices_SortFunc Shs.shsSort 2 Tryd.isAgg28 Tryd.sizeOf28 enc28 (fun _ => rfl) (fun x v hv => by simp [enc28] at hv; rcases hv with rfl | rfl <;> rfl) (fun x y => Lib.compareInt x.f0 y.f0) lt_swo 62 #[] g 0 cap l.toArray w eg
      (fun _ _ _ _ x y => cmp_calls x y _) hF hg (by simpa using hl)
    refine Calls.mono hcon ?_
    rintro e w' ⟨rfl, d', n, os, hp, hs, rfl⟩
    obtain ⟨p1, _, p3⟩ := hp
    have hsz : d'.size = l.length := by rw [p1]; simp
    have p4 : d'.toList.Perm l := by
      have ea : d'.extract 0 l.toArray.size = d' := by rw [← p1]; simp
      rw [ea] at p3
      simpa using p3
    refine ⟨rfl, d'.toList, by rw [Array.length_toList, hsz], fun r => p4.mem_iff, ?_, ?_, ?_⟩
    · rw [List.pairwise_iff_getElem]
      intro i j hi hj hij
      rw [Array.length_toList] at hi hj
      have := hs i j (Nat.zero_le _) hij (by simpa [← hsz] using hj)
      rw [lt_eq, getElem!_pos d' i hi, getElem!_pos d' j hj] at this
      simpa using this
    · refine ⟨by rw [flat_length, Array.length_toList, hsz], Or.inr ⟨g, cap, Sort.putCells id 0 (Sort.flatK enc28 2 d') cur, rfl, hbg, ?_, hnc, hcm, ?_, ?_⟩⟩
      · show ((w.heap.modify g (Sort.onCells _)) ++ os)[g]? = _
        rw [Array.getElem?_append_left (by simpa using hg), Array.getElem?_modify, if_pos rfl, hh]
        rfl
      · rw [← hcs]; simp [Sort.putCells]
      · have := take_put (Sort.flatK enc28 2 d') cur (by rw [Sort.size_flatK, hsz]; exact hle)
        rw [Sort.size_flatK, hsz, flatK_eq] at this
        exact this
    · refine ⟨rfl, rfl, rfl, ?_, fun i hi => ?_⟩
      · show w.heap.size ≤ ((w.heap.modify g (Sort.onCells _)) ++ os).size
        simp
      · show ((w.heap.modify g (Sort.onCells _)) ++ os)[i]? = _
        rw [Array.getElem?_append_left (by simp; omega), Array.getElem?_modify, if_neg (by omega)]
end Go.Proofs.YtidcchopmbodkaaDoor.Sp
end
section
namespace Go.Proofs.YtidcchopmbodkaaDoor.Sp
open Go.RowKit Go.Proofs.YtidcchopmbodkaaDoorW.PrintWords Go.Proofs.YtidcchopmbodkaaDoorW.PrintLast Go.Proofs.YtidcchopmbodkaaDoorW.PrintMore
open Canon
attribute [local go_sem] max2_int min2_int max_two min_two
theorem own_cells {w : World} {base g n cap : Nat} {l : List S28} (h : w.ownsRow base 28 2 (.slice (some ⟨g, 0, none⟩) n cap) n (flat l)) (j : Nat) (x : S28) (hx : l[j]? = some x) :
    w.cell? ⟨g, j * 2, none⟩ = some (.int .i64 x.f0) ∧ w.cell? ⟨g, j * 2 + 1, none⟩ = some (.int .i64 x.f1) ∧ w.frozen? ⟨g, j * 2 + 1, none⟩ = false ∧ g < w.heap.size := by
  obtain ⟨hlen, ho2⟩ := h
  rcases ho2 with ⟨he, _⟩ | ⟨g', cap', cur, he, hbg, hh, hnc, hcm, hcs, htk⟩
  · cases he
  · injection he with e1 e2 e3
    injection e1 with e1
    injection e1 with e1
    subst e1; subst e3
    obtain ⟨f1, f2⟩ := flat_at l j x hx
    have hjl : j < l.length := (List.getElem?_eq_some_iff.1 hx).1
    rw [flat_length] at hlen
    have hc : ∀ t, w.cell? ⟨g, t, none⟩ = cur[t]? := fun t => by unfold World.cell?; simp only [hh]; rfl
    have ht : ∀ t, t < n * 2 → cur[t]? = (flat l)[t]? := fun t ht => by rw [← htk, List.getElem?_take, if_pos ht, Array.getElem?_toList]
    refine ⟨by rw [hc, ht _ (by omega)]; exact f1, by rw [hc, ht _ (by omega)]; exact f2, ?_, (Array.getElem?_eq_some_iff.1 hh).1⟩
    unfold World.frozen?; simp only [hh]; simp
def pr (x : S28) : Rg := (x.f0, x.f1)
def un (r : Rg) : S28 := ⟨r.1, r.2⟩
def okB (x : S28) : Bool := decide (0 ≤ x.f0) && (decide (x.f0 ≤ x.f1) && decide (x.f1 ≤ 4294967295))
theorem own_grow {w : World} {base g n cap : Nat} {l : List S28} (h : w.ownsRow base 28 2 (.slice (some ⟨g, 0, none⟩) n cap) n (flat l)) (j : Nat) (x : S28) (hx : l[j]? = some x) (u : Int) :
    (w.setCell ⟨g, j * 2 + 1, none⟩ (.int .i64 u)).ownsRow base 28 2 (.slice (some ⟨g, 0, none⟩) n cap) n (flat (l.set j ⟨x.f0, u⟩)) := by
  have hjl : j < l.length := (List.getElem?_eq_some_iff.1 hx).1
  obtain ⟨hlen, ho2⟩ := h
  rcases ho2 with ⟨he, _⟩ | ⟨g', cap', cur, he, hbg, hh, hnc, hcm, hcs, htk⟩
  · cases he
  · injection he with e1 e2 e3
    injection e1 with e1
    injection e1 with e1
    subst e1; subst e3
    rw [flat_length] at hlen
    have hset : flat (l.set j ⟨x.f0, u⟩) = (flat l).set (j * 2 + 1) (.int .i64 u) := by
      clear hh htk hcs hnc hcm hbg hlen
      induction l generalizing j with
      | nil => simp at hjl
      | cons y l ih =>
        cases j with
        | zero =>
          simp only [List.getElem?_cons_zero, Option.some.injEq] at hx
          subst hx
          rfl
        | succ j =>
          rw [List.getElem?_cons_succ] at hx
          rw [List.set_cons_succ, flat_cons, flat_cons, ih j hx (by simpa using hjl), show (j + 1) * 2 + 1 = j * 2 + 1 + 1 + 1 from by omega, List.set_cons_succ, List.set_cons_succ]
    refine ⟨by rw [flat_length]; simpa using hlen, Or.inr ⟨g, cap, cur.set! (j * 2 + 1) (.int .i64 u), rfl, hbg, ?_, hnc, hcm, by simpa using hcs, ?_⟩⟩
    · have hl : g < w.heap.size := (Array.getElem?_eq_some_iff.1 hh).1
      exact heap_setCell_same w _ _ _ _ _ hh
    · rw [hset, ← htk]
      simp [List.take_set]
theorem glue_last (a : List Rg) (e r : Rg) : glue (a ++ [e]) r = if r.1 ≤ e.2 + 1 then a ++ [(e.1, max e.2 r.2)] else a ++ [e] ++ [r] := by
  unfold glue
  rw [List.getLast?_concat]
  simp only [List.dropLast_concat]
theorem info28x : ∃ i, Tryd.prog.info? 28 = some i ∧ (i.zero = some (.agg #[.int .i64 0, .int .i64 0]) ∧ i.size = 2 ∧ i.bytes = 16) := by
  have := info28
  cases hh : Tryd.prog.info? 28 with
  | none => rw [hh] at this; cases this
  | some i => rw [hh] at this; simp only [Option.map_some, Option.some.injEq, Prod.mk.injEq] at this; exact ⟨i, rfl, this⟩
def span_united.f (l0 : List S28) : Option (List S28) := if l0.length * 16 ≤ 140737488355328 ∧ l0.all okB = true then some ((canon (l0.map pr)).map un) else none
theorem sort_none (A : Option Addr) (c : Nat) (fv : Value) (w : World) : Calls Tryd.prog 61 #[.slice A 0 c, fv] w fun e w' => e = .returned (.tuple #[]) ∧ w = w' :=
  (AnyF.slices_SortFunc_none Shs.shsSort A c fv w).mono fun _ _ h => ⟨h.1, h.2.symm⟩
set_option maxHeartbeats 4000000 in
set_option maxRecDepth 100000 in
theorem united_some (A : Option Addr) (c : Nat) (l : List S28) (w : World) (hr : Kd.C k28 w A l.length l) (hb : l.length * 16 ≤ 140737488355328) (hok : l.all okB = true) (hne : 0 < l.length) :
    Calls Tryd.prog 45 #[.slice A l.length c] w fun e w' => ∃ v0_ : Value, e = .returned v0_ ∧ w'.ownsRow w.heap.size 28 2 v0_ (canon (l.map pr)).length (flat ((canon (l.map pr)).map un)) ∧ Below w.heap.size w w' := by
  have hcl := clone_calls A c l w hr hb
  have HOK := Lib.hid hok
  have HBL := Lib.hid hb
  have HW := Lib.hid (Below.refl w.heap.size w)
  clear hr hok hb
  go_enter Tryd.func45, Tryd.ntmps45
  go_wp2_with (go_at_call 60; refine hcl.mono ?_; rintro e w1 ⟨v, rfl, hown, hb1⟩)
  obtain ⟨g, cp, rfl, hg1, hg2⟩ := hown.form hne
  have hsort := sort_calls w.heap.size g cp l w1 hown (by have := HBL.out; omega)
  have HB1 := Lib.hid hb1
  clear hcl hown hb1
  go_wp2_with (go_at_call 61; refine hsort.mono ?_; rintro e w2 ⟨rfl, d, hdl, hdm, hdp, hd, hb2⟩)
  have HB2 := Lib.hid (HB1.out.trans hb2)
  have HD := Lib.hid hd
  have HDL := Lib.hid hdl
  have HDM := Lib.hid hdm
  have HDP := Lib.hid hdp
  have hg3 : g < w2.heap.size := Nat.lt_of_lt_of_le hg2 hb2.size
  have hw2 : w.heap.size ≤ w2.heap.size := HB2.out.size
  clear hb2 hd hdl hdm hdp hsort HB1
  obtain ⟨i0, hi0, hz⟩ := info28x
  have HI := Lib.hid hi0
  have HZ := Lib.hid hz
  clear hi0 hz
  go_loopw [3, 13] (fun o i W => ∃ (k : Nat) (out : List S28), i = .int .i64 k ∧ k ≤ l.length ∧ out.length ≤ k ∧ Aside0 (W.ownsRow w2.heap.size 28 2 o out.length (flat out)) ∧ Aside0 (out.map pr = ((d.take k).map pr).foldl glue []) ∧ Aside0 (out.all okB = true) ∧
    Aside0 (W.ownsRow w.heap.size 28 2 (.slice (some ⟨g, 0, none⟩) l.length cp) l.length (flat d)) ∧ Aside0 (Below w.heap.size w W) ∧ w2.heap.size ≤ W.heap.size) (fun _ i _ => l.length - (intOf i).toNat)
  case atStart => exact ⟨0, [], rfl, Nat.zero_le _, Nat.zero_le _, ⟨own_nil _ _ _ _⟩, ⟨rfl⟩, ⟨rfl⟩, ⟨HD.out⟩, ⟨HB2.out⟩, Nat.le_refl _⟩
  case round =>
    obtain ⟨k, out, rfl, hk, hol, ho, hout, hoo, hd, hB, hsz⟩ := hrel
    by_cases hlt : k < l.length
    · have hkd : k < d.length := by rw [HDL.out]; exact hlt
      obtain ⟨x, hx⟩ : ∃ x, d[k]? = some x := ⟨d[k], List.getElem?_eq_getElem hkd⟩
      have HX := Lib.hid hx
      obtain ⟨c1, c2, _, hgw⟩ := own_cells hd.out k x hx
      have hl63 : l.length ≤ 8796093022208 := by have := HBL.out; omega
      have hts : d.take (k + 1) = d.take k ++ [x] := by
        rw [List.take_succ_eq_append_getElem hkd]
        congr 1
        rw [List.getElem?_eq_getElem hkd] at hx
        rw [Option.some.inj hx]
      have HTS := Lib.hid hts
      have hxo : 0 ≤ x.f0 ∧ x.f0 ≤ x.f1 ∧ x.f1 ≤ 4294967295 := by
        have hm : x ∈ l := (HDM.out x).1 (List.mem_of_getElem? hx)
        have := List.all_eq_true.1 HOK.out x hm
        simpa [okB] using this
      obtain ⟨hx0, hx1, hx2⟩ := hxo
      have hX : ∀ (W : World) (n : Nat), n = W.heap.size → ∀ (j : Nat) (u : Value), [Value.int .i64 x.f0, Value.int .i64 x.f1][j]? = some u → (W.alloc (.cells #[.int .i64 x.f0, .int .i64 x.f1] 28)).cell? (Addr.add ⟨n, 0, none⟩ j) = some u := by
        intro W n hn j u hu
        subst hn
        have hj : j < 2 := (List.getElem?_eq_some_iff.1 hu).1
        rcases (by omega : j = 0 ∨ j = 1) with rfl | rfl
        · rw [← hu]; simp [Addr.add]
        · rw [← hu]; simp [Addr.add]
      have HXC := Lib.hid hX
      have hxok : okB x = true := by simp [okB]; omega
      have HXO := Lib.hid hxok
      clear hX hx hts hxok
      by_cases h0 : out.length = 0
      · have e : out = [] := List.length_eq_zero_iff.1 h0
        subst e
        obtain ⟨A3, c3, rfl⟩ := own_slice ho.out
        go_wp2_with fail
        go_quiet (fail)
        go_wp2_with (at_builtin; go_loud (refine wpList_append_own _ rfl _ _ 23 rfl w2.heap.size 28 i0 _ 2 16 Tryd.underlying23 HI.out HZ.out.1 HZ.out.2.1 HZ.out.2.2 rfl (by decide) (.slice A3 0 c3) 0 [] (by rfl) (own_alloc (pw_own_drewN (own_alloc ho.out _) _) _) ⟨wr.heap.size + 1, 0, none⟩ 1 1 [.int .i64 x.f0, .int .i64 x.f1] (by rfl) (by rfl) (HXC.out _ _ (by simp)) (by exact flat_one [x]) (by unfold maxLen; omega) (by omega) (by simp; omega) ?_))
        intro v' W3 hown3 hgrow _
        have HO3 := Lib.hid hown3
        have hd3 := own_other (own_alloc (pw_own_drewN (own_alloc hd.out (.cells #[.int .i64 x.f0, .int .i64 x.f1] 28)) nq) (.cells #[.int .i64 x.f0, .int .i64 x.f1] 28)) hgrow (own_apart (n := w2.heap.size) (by intro k hk; simp only [Value.ownBlock, Option.some.injEq] at hk; omega) (fun k hk => own_base ho.out k hk))
        have HD3 := Lib.hid hd3
        have hB3 := pw_below_grown (below_alloc (pw_below_drewN (below_alloc hB.out (.cells #[.int .i64 x.f0, .int .i64 x.f1] 28)) nq) (.cells #[.int .i64 x.f0, .int .i64 x.f1] 28)) _ (by simp; omega) hgrow (fun k hk => by have := own_base ho.out k hk; omega)
        have HB3 := Lib.hid hB3
        have hs3 : w2.heap.size ≤ W3.heap.size := by have := hgrow.size; simp at this; omega
        clear hown3 hgrow hd3 hB3
        go_wp2
        exact ⟨⟨k + 1, [x], by go_num, by omega, by simp, ⟨HO3.out⟩, ⟨by rw [HTS.out, List.map_append, List.foldl_append, ← hout.out]; rfl⟩, ⟨by simp [HXO.out]⟩, ⟨HD3.out⟩, ⟨HB3.out⟩, hs3⟩, by simp [intOf]; omega⟩
      · obtain ⟨out', y, rfl⟩ : ∃ out' y, out = out' ++ [y] := by
          rcases List.eq_nil_or_concat out with e | ⟨a, b, e⟩
          · subst e; simp at h0
          · exact ⟨a, b, by rw [e, List.concat_eq_append]⟩
        have el : (out' ++ [y]).length = out'.length + 1 := by simp
        rw [el] at ho hol
        obtain ⟨h, c4, rfl, hh1, hh2⟩ := ho.out.form (by omega)
        have hy : (out' ++ [y])[out'.length]? = some y := by simp
        obtain ⟨y1, y2, y3, _⟩ := own_cells ho.out out'.length y hy
        have hyo : 0 ≤ y.f0 ∧ y.f0 ≤ y.f1 ∧ y.f1 ≤ 4294967295 := by
          have := List.all_eq_true.1 hoo.out y (by simp)
          simpa [okB] using this
        obtain ⟨hy0, hy1, hy2⟩ := hyo
        have hm63 : out'.length ≤ 8796093022208 := by omega
        have hgl : ((d.take (k + 1)).map pr).foldl glue [] = glue ((out' ++ [y]).map pr) (pr x) := by rw [HTS.out, List.map_append, List.foldl_append, ← hout.out]; rfl
        have HGL := Lib.hid hgl
        have HY := Lib.hid hy
        clear hgl hy el h0
        have hw1 : IntKind.i64.wrap (y.f1 + 1) = y.f1 + 1 := IntWalk.i64_in _ (by omega)
        by_cases hc : x.f0 ≤ y.f1 + 1
        · have dc : decide (x.f0 ≤ y.f1 + 1) = true := decide_eq_true hc
          go_wp2_with fail
          go_quiet (fail)
          go_wp2_with fail
          have hbw := own_base ho.out h rfl
          have ho1 := own_alloc ho.out (.cells #[.int .i64 x.f0, .int .i64 x.f1] 28)
          have hd1 := own_alloc hd.out (.cells #[.int .i64 x.f0, .int .i64 x.f1] 28)
          have hb1 := below_alloc hB.out (.cells #[.int .i64 x.f0, .int .i64 x.f1] 28)
          have z1 : ((wr.alloc (.cells #[.int .i64 x.f0, .int .i64 x.f1] 28)).drewN nq).cell? ⟨wr.heap.size, 1, none⟩ = some (.int .i64 x.f1) := by simp
          have z2 : wr.heap.size < ((wr.alloc (.cells #[.int .i64 x.f0, .int .i64 x.f1] 28)).drewN nq).heap.size := by simp
          obtain ⟨W4, hW4⟩ : ∃ W4 : World, W4 = ((wr.alloc (.cells #[.int .i64 x.f0, .int .i64 x.f1] 28)).drewN nq) := ⟨_, rfl⟩
          have ho4 : W4.ownsRow w2.heap.size 28 2 (.slice (some ⟨h, 0, none⟩) (out'.length + 1) c4) (out'.length + 1) (flat (out' ++ [y])) := by rw [hW4]; exact pw_own_drewN ho1 nq
          have hd4 : W4.ownsRow w.heap.size 28 2 (.slice (some ⟨g, 0, none⟩) l.length cp) l.length (flat d) := by rw [hW4]; exact pw_own_drewN hd1 nq
          have hb4 : Below w.heap.size w W4 := by rw [hW4]; exact pw_below_drewN hb1 nq
          rw [← hW4] at z1 z2
          rw [← hW4]
          have HO4 := Lib.hid ho4
          have HD4 := Lib.hid hd4
          have HB4 := Lib.hid hb4
          obtain ⟨y4, y5, y6, y7⟩ := own_cells ho4 out'.length y HY.out
          clear hW4 ho1 hd1 hb1 ho4 hd4 hb4 c1 c2 y1 y2 y3
          have i1 : (0 : Int) ≤ (out'.length : Int) := by omega
          have i2 : (out'.length : Int) < ((out'.length + 1 : Nat) : Int) := by omega
          have hrun : ∀ W, (Instr.indexAt 23 (.slice (some ⟨h, 0, none⟩) (out'.length + 1) c4) (.int .i64 (out'.length : Int))).run Tryd.prog W = .ok (.pointer (some ⟨h, out'.length * 2, none⟩)) W := by
            intro W
            go_simp
            intro hcc
            omega
          go_still_tail 12, (by kernel_rfl)
          change wpList _ _ _ _ _ (World.drew _)
          have ho5 := own_grow (show W4.drew.ownsRow w2.heap.size 28 2 (.slice (some ⟨h, 0, none⟩) (out'.length + 1) c4) (out'.length + 1) (flat (out' ++ [y])) from HO4.out) out'.length y HY.out (if y.f1 < x.f1 then x.f1 else y.f1)
          have hd5 := own_setCell (show W4.drew.ownsRow w.heap.size 28 2 (.slice (some ⟨g, 0, none⟩) l.length cp) l.length (flat d) from HD4.out) (p := ⟨h, out'.length * 2 + 1, none⟩) (by simp only [Value.ownBlock, ne_eq, Option.some.injEq]; omega) (.int .i64 (if y.f1 < x.f1 then x.f1 else y.f1))
          have hb5 := below_drew1 (HB4.out.setCell (p := ⟨h, out'.length * 2 + 1, none⟩) (by show w.heap.size ≤ h; omega) (.int .i64 (if y.f1 < x.f1 then x.f1 else y.f1)))
          have hs5 : w2.heap.size ≤ (W4.drew.setCell ⟨h, out'.length * 2 + 1, none⟩ (.int .i64 (if y.f1 < x.f1 then x.f1 else y.f1))).heap.size := by simp; omega
          have eset : (out' ++ [y]).set out'.length ⟨y.f0, (if y.f1 < x.f1 then x.f1 else y.f1)⟩ = out' ++ [⟨y.f0, (if y.f1 < x.f1 then x.f1 else y.f1)⟩] := by simp
          rw [eset] at ho5
          have HO5 := Lib.hid ho5
          have HD5 := Lib.hid hd5
          have HB5 := Lib.hid hb5
          have HS5 := Lib.hid hs5
          have hM : (if y.f1 < x.f1 then x.f1 else y.f1) = max y.f1 x.f1 := by split <;> omega
          have HM := Lib.hid hM
          have hmo : okB ⟨y.f0, (if y.f1 < x.f1 then x.f1 else y.f1)⟩ = true := by simp [okB]; split <;> omega
          have HMO := Lib.hid hmo
          clear ho5 hd5 hb5 hs5 eset hrun hM hmo
          generalize (if y.f1 < x.f1 then x.f1 else y.f1) = M at *
          go_wp2
          exact ⟨⟨k + 1, out' ++ [⟨y.f0, M⟩], by go_num, by omega, by simp; omega, ⟨by rw [show (out' ++ [(⟨y.f0, M⟩ : S28)]).length = out'.length + 1 from by simp]; exact HO5.out⟩,
            ⟨by rw [HGL.out, List.map_append, List.map_append, List.map_cons, List.map_nil, List.map_cons, List.map_nil, glue_last, if_pos (show (pr x).1 ≤ (pr y).2 + 1 from hc), HM.out]; rfl⟩,
            ⟨by have := hoo.out; simp only [List.all_append, List.all_cons, List.all_nil, Bool.and_true, Bool.and_eq_true] at this ⊢; exact ⟨this.1, HMO.out⟩⟩, ⟨HD5.out⟩, ⟨HB5.out⟩, HS5.out⟩, by simp [intOf]; omega⟩
        · have dc : decide (x.f0 ≤ y.f1 + 1) = false := decide_eq_false hc
          go_wp2_with fail
          go_quiet (fail)
          go_wp2_with (at_builtin; go_loud (refine wpList_append_own _ rfl _ _ 23 rfl w2.heap.size 28 i0 _ 2 16 Tryd.underlying23 HI.out HZ.out.1 HZ.out.2.1 HZ.out.2.2 rfl (by decide) (.slice (some ⟨h, 0, none⟩) (out'.length + 1) c4) (out'.length + 1) (flat (out' ++ [y])) (by rfl) (own_alloc (pw_own_drewN (own_alloc ho.out _) _) _) ⟨wr.heap.size + 1, 0, none⟩ 1 1 [.int .i64 x.f0, .int .i64 x.f1] (by rfl) (by rfl) (HXC.out _ _ (by simp)) (by exact flat_one [x]) (by unfold maxLen; omega) (by omega) (by simp; omega) ?_))
          intro v' W3 hown3 hgrow _
          have hbw := own_base ho.out h rfl
          have HO3 := Lib.hid hown3
          have hd3 := own_other (own_alloc (pw_own_drewN (own_alloc hd.out (.cells #[.int .i64 x.f0, .int .i64 x.f1] 28)) nq) (.cells #[.int .i64 x.f0, .int .i64 x.f1] 28)) hgrow (own_apart (n := w2.heap.size) (by intro k hk; simp only [Value.ownBlock, Option.some.injEq] at hk; omega) (fun k hk => own_base ho.out k hk))
          have HD3 := Lib.hid hd3
          have hB3 := pw_below_grown (below_alloc (pw_below_drewN (below_alloc hB.out (.cells #[.int .i64 x.f0, .int .i64 x.f1] 28)) nq) (.cells #[.int .i64 x.f0, .int .i64 x.f1] 28)) _ (by simp; omega) hgrow (fun k hk => by have := own_base ho.out k hk; omega)
          have HB3 := Lib.hid hB3
          have hs3 : w2.heap.size ≤ W3.heap.size := by have := hgrow.size; simp at this; omega
          clear hown3 hgrow hd3 hB3
          go_wp2
          exact ⟨⟨k + 1, out' ++ [y] ++ [x], by go_num, by omega, by simp; omega, ⟨by rw [show (out' ++ [y] ++ [x]).length = out'.length + 1 + 1 from by simp, flat_append]; exact HO3.out⟩,
            ⟨by rw [HGL.out, List.map_append, List.map_append, List.map_cons, List.map_nil, List.map_cons, List.map_nil, glue_last, if_neg (show ¬ (pr x).1 ≤ (pr y).2 + 1 from by show ¬ x.f0 ≤ y.f1 + 1; omega)]⟩,
            ⟨by rw [List.all_append, hoo.out]; simp [HXO.out]⟩, ⟨HD3.out⟩, ⟨HB3.out⟩, hs3⟩, by simp [intOf]; omega⟩
    · have hk' : k = l.length := by omega
      have hfin : out = (canon (l.map pr)).map un := by
        rw [hk', ← HDL.out, List.take_length] at hout
        have h1 := united_eq (l.map pr) (d.map pr) (fun r => by simp only [List.mem_map]; constructor <;> (rintro ⟨x, hx, e⟩; first | exact ⟨x, (HDM.out x).1 hx, e⟩ | exact ⟨x, (HDM.out x).2 hx, e⟩))
          (fun r hr => by
            obtain ⟨x, hx, rfl⟩ := List.mem_map.1 hr
            have := List.all_eq_true.1 HOK.out x hx
            simp [okB] at this
            exact this.2.1)
          (by rw [List.pairwise_map]; exact HDP.out)
        rw [← h1, ← hout.out, List.map_map]
        exact (List.map_id' out).symm.trans (List.map_congr_left fun x _ => rfl)
      have hfl : out.length = (canon (l.map pr)).length := by rw [hfin, List.length_map]
      have HO9 := Lib.hid (show wr.ownsRow w.heap.size 28 2 u3 (canon (l.map pr)).length (flat ((canon (l.map pr)).map un)) from by
        rw [← hfl, ← hfin]; exact own_weaken ho.out hw2)
      clear hfin hfl hout
      have hlt' : ¬ (k : Int) < (l.length : Int) := by omega
      go_wp2
      go_ret
      exact ⟨_, rfl, HO9.out, hB.out⟩
theorem R_of_own {W : World} {base : Nat} {v : Value} {l : List S28} (h : W.ownsRow base 28 2 v l.length (flat l)) : Kd.R k28 28 W base (fun _ => True) v l := by
  refine ⟨fun _ _ => trivial, flat l, h, by rw [flat_length]; rfl, fun j p hj => ?_⟩
  obtain ⟨f1, f2⟩ := flat_at l j p hj
  have e : ((flat l).drop (j * k28.sz)).take k28.sz = [.int .i64 p.f0, .int .i64 p.f1] := by
    show ((flat l).drop (j * 2)).take 2 = _
    apply List.ext_getElem?
    intro i
    rw [List.getElem?_take, List.getElem?_drop]
    rcases (by omega : i = 0 ∨ i = 1 ∨ 2 ≤ i) with rfl | rfl | hi
    · rw [if_pos (by omega), Nat.add_zero, f1]; rfl
    · rw [if_pos (by omega), f2]; rfl
    · rw [if_neg (by omega), List.getElem?_eq_none (by simp; omega)]
  rw [e]
  exact k28_mkM _ _ _ p
theorem span_united.calls (A0 : Option Addr) (c0 : Nat) (l0 r : List S28) (w : World) (hr0 : Kd.C k28 w A0 l0.length l0) (_hc0 : l0.length ≤ c0) (h : span_united.f l0 = some r) :
    Calls Tryd.prog 45 #[.slice A0 l0.length c0] w fun e w' => ∃ v0_ : Value, e = .returned v0_ ∧ Kd.R k28 28 w' w.heap.size (fun _ => True) v0_ r ∧ Below w.heap.size w w' := by
  unfold span_united.f at h
  split at h
  · rename_i hb
    obtain rfl := Option.some.inj h
    by_cases hne : 0 < l0.length
    · refine (united_some A0 c0 l0 w hr0 hb.1 hb.2 hne).mono ?_
      rintro e w' ⟨v, he, ho, hB⟩
      exact ⟨v, he, R_of_own (by rw [List.length_map]; exact ho), hB⟩
    · have e : l0 = [] := List.length_eq_zero_iff.1 (by omega)
      subst e
      have hcl := clone_calls A0 c0 [] w hr0 hb.1
      clear hr0 h hb hne
      have e2 : (canon (List.map pr [])).map un = [] := rfl
      rw [e2]
      clear e2
      go_enter Tryd.func45, Tryd.ntmps45
      go_wp2_with (go_at_call 60; refine hcl.mono ?_; rintro e w1 ⟨v, rfl, hown, hb1⟩)
      obtain ⟨A1, c1, rfl⟩ := own_slice hown
      have HB1 := Lib.hid hb1
      clear hcl hown hb1
      go_wp2_with (go_at_call 61; refine (sort_none _ _ _ _).mono ?_; rintro e w2 ⟨rfl, rfl⟩)
      refine wp_loop_rounds 1 ?_
      rw [rounds_succ]
      go_wp2
      go_ret
      exact ⟨_, rfl, Kd.R_nil _ _ _ _ _, HB1.out⟩
  · cases h
end Go.Proofs.YtidcchopmbodkaaDoor.Sp
end
