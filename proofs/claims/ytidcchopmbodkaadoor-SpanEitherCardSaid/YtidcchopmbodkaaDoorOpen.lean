/- How arguments are read: whatever the form reads as data of a type is a value of the print's kind in memory, within the form's reach; and how much bulk it has. -/
import Derived.Test.YtidcchopmbodkaaDoorRows
import Derived.Test.YtidcchopmbodkaaDoorWArr
import Derived.ChangeArms
import Derived.SizedLaws
namespace Go.Proofs.YtidcchopmbodkaaDoor.Op
open Go.Proofs.YtidcchopmbodkaaDoorW.PrintWords
open Go.Proofs.YtidcchopmbodkaaDoor.Rows (uptoBulk uptoBulkAll)

theorem mem_all {H : Type} {P : Program} {e : TypeId} : ∀ {l : List (DataW H)} {d : DataW H} {n : Nat}, d ∈ l → n ∈ d.weights P e → n ∈ DataW.weightsAll P e l
  | [], _, _, h, _ => absurd h (by simp)
  | y :: r, d, n, h, hn => by
    unfold DataW.weightsAll
    rcases List.mem_cons.1 h with rfl | h
    · exact List.mem_append_left _ hn
    · exact List.mem_append_right _ (mem_all h hn)
theorem mem_each {H : Type} {P : Program} : ∀ {ts : List TypeId} {ds : List (DataW H)} {j : Nat} {t : TypeId} {d : DataW H} {n : Nat}, ts[j]? = some t → ds[j]? = some d → n ∈ d.weights P t → n ∈ DataW.weightsEach P ts ds :=
  fun ht hd hn => DataW.weights_mem_each ht hd _ hn

/-- A type is read as a kind. -/
def Opens (P : Program) (t : TypeId) {α : Type} (d : Kd α) (good : α → Prop) (bulk : α → Nat) : Prop :=
  ∀ (H : Type) (enc : TypeId × Value → H) (w : World) (base : Nat) (spare : Nat → Bool) (held : Bool) (fuel : Nat) (cs : List Value) (x : DataW H × List MemPlace),
    DataW.trod enc P w base spare held fuel t cs = some x → (∀ n ∈ x.1.weights P t, n ≤ reachBytes) → ∃ y : α, d.K w y cs ∧ good y ∧ bulk y ≤ uptoBulk x.1
theorem op_int {P : Program} {t : TypeId} {k : IntKind} (ht : P.underlying t = some (.int k)) : Opens P t (Kd.int k) (fun n => (Lit.int k n).wf = true) (fun _ => 1) := by
  intro H enc w base spare held fuel cs x h _
  obtain ⟨n, rfl, rfl, hw⟩ := DataW.trod_int ht h
  exact ⟨n, rfl, hw, by simp [uptoBulk]⟩
theorem op_bool {P : Program} {t : TypeId} (ht : P.underlying t = some .bool) : Opens P t Kd.bool (fun _ => True) (fun _ => 1) := by
  intro H enc w base spare held fuel cs x h _
  obtain ⟨b, rfl, rfl⟩ := DataW.trod_bool ht h
  exact ⟨b, rfl, trivial, by simp [uptoBulk]⟩
theorem op_string {P : Program} {t : TypeId} (ht : P.underlying t = some .string) : Opens P t Kd.string (fun s => s.size ≤ 140737488351232) (fun s => s.size + 1) := by
  intro H enc w base spare held fuel cs x h hr
  obtain ⟨s, rfl, rfl, hw⟩ := DataW.trod_string ht h
  refine ⟨s, rfl, ?_, by simp [uptoBulk]⟩
  have := hr s.data.toList.length (by simp [DataW.weights])
  have e : reachBytes = 140737488351232 := rfl
  rw [e] at this
  simpa using this
def sumBulk {α : Type} (f : α → Nat) : List α → Nat
  | [] => 0
  | x :: r => f x + sumBulk f r
theorem choose_list {α β : Type} {R : Nat → α → β → Prop} : ∀ (l : List β), (∀ i y, l[i]? = some y → ∃ x, R i x y) → ∃ xs : List α, xs.length = l.length ∧ ∀ i x y, xs[i]? = some x → l[i]? = some y → R i x y
  | [], _ => ⟨[], rfl, fun i x y h => by simp at h⟩
  | y :: r, h => by
    obtain ⟨x0, h0⟩ := h 0 y rfl
    obtain ⟨xs, hl, hx⟩ := choose_list (R := fun i => R (i + 1)) r (fun i y hy => h (i + 1) y hy)
    refine ⟨x0 :: xs, by simp [hl], fun i x y' hx' hy' => ?_⟩
    cases i with
    | zero => simp at hx' hy'; subst hx'; subst hy'; exact h0
    | succ i => exact hx i x y' (by simpa using hx') (by simpa using hy')
theorem sumBulk_le {α H : Type} {f : α → Nat} : ∀ (xs : List α) (ds : List (DataW H)), xs.length = ds.length → (∀ (i : Nat) x d, xs[i]? = some x → ds[i]? = some d → f x ≤ uptoBulk d) → sumBulk f xs ≤ uptoBulkAll ds
  | [], [], _, _ => by simp [sumBulk]
  | [], _ :: _, h, _ => absurd h (by simp)
  | _ :: _, [], h, _ => absurd h (by simp)
  | x :: xs, d :: ds, h, hf => by
    have h1 := hf 0 x d rfl rfl
    have h2 := sumBulk_le xs ds (by simpa using h) (fun i x d hx hd => hf (i + 1) x d hx hd)
    simp only [sumBulk, uptoBulkAll]
    omega
theorem mapM_spec {α β : Type} {f : α → Option β} : ∀ {l : List α} {cs : List β}, l.mapM f = some cs → cs.length = l.length ∧ ∀ (j : Nat) x, l[j]? = some x → f x = cs[j]?
  | [], cs, h => by
    simp at h
    subst h
    exact ⟨rfl, fun j x hx => by simp at hx⟩
  | y :: r, cs, h => by
    rw [List.mapM_cons] at h
    simp only [Option.bind_eq_bind, Option.bind_eq_some_iff, Option.pure_def, Option.some.injEq] at h
    obtain ⟨c, hc, rs, hrs, rfl⟩ := h
    obtain ⟨h1, h2⟩ := mapM_spec hrs
    refine ⟨by simp [h1], fun j x hx => ?_⟩
    cases j with
    | zero => simp at hx; subst hx; simpa using hc
    | succ j => simpa using h2 j x (by simpa using hx)
theorem cells?_spec {w : World} {base : Nat} {a : Addr} {n : Nat} {cs : List Value} (h : w.cells? base a n = some cs) : cs.length = n ∧ ∀ j u, cs[j]? = some u → w.cell? (a.add j) = some u := by
  unfold World.cells? at h
  split at h
  · obtain ⟨h1, h2⟩ := mapM_spec h
    rw [List.length_range] at h1
    refine ⟨h1, fun j u hu => ?_⟩
    have hj : j < n := by rw [← h1]; exact (List.getElem?_eq_some_iff.1 hu).1
    have := h2 j j (by rw [List.getElem?_range hj])
    rw [this, hu]
  · exact absurd h (by simp)
theorem op_slice {P : Program} {t e : TypeId} {α : Type} {d : Kd α} {good : α → Prop} {bulk : α → Nat} (ht : P.underlying t = some (.slice e)) (hc : P.cellsOf e = d.sz) (ho : Opens P e d good bulk) :
    Opens P t (Kd.slice e d) (fun xs => (∀ x ∈ xs, good x) ∧ xs.length * P.bytesOf e ≤ 140737488351232) (fun xs => sumBulk bulk xs + 1) := by
  intro H enc w base spare held fuel cs x h hr
  have er : reachBytes = 140737488351232 := rfl
  rcases DataW.trod_slice ht h with ⟨rfl, rfl⟩ | ⟨a, len, cap, elems, rest, n, _, rfl, rfl, hb, hl, hm, hlen, hel, hsp, hns⟩
  · exact ⟨[], ⟨none, 0, rfl, Nat.le_refl _, ⟨rfl, by simp, fun h => absurd h (by simp)⟩⟩, ⟨by simp, by simp⟩, by simp [sumBulk, uptoBulk]⟩
  · have hws : ∀ y ∈ elems.map (·.1), ∀ n ∈ y.weights P e, n ≤ reachBytes := fun y hy n hn => hr n (by
      simp only [DataW.weights, ht]
      exact List.mem_cons_of_mem _ (List.mem_append_left _ (mem_all hy hn)))
    have each : ∀ i y, elems[i]? = some y → ∃ x : α, (∃ c, c.length = d.sz ∧ d.K w x c ∧ ∀ j u, c[j]? = some u → w.cell? (a.add (i * d.sz + j)) = some u) ∧ good x ∧ bulk x ≤ uptoBulk y.1 := by
      intro i y hy
      have hi : i < len := by rw [← hlen]; exact (List.getElem?_eq_some_iff.1 hy).1
      have h1 := hel i hi
      rw [hy, Option.bind_eq_some_iff] at h1
      obtain ⟨c, hcs, htr⟩ := h1
      obtain ⟨x, hx, hg, hbk⟩ := ho H enc w base spare held n c y htr (fun q hq => hws y.1 (List.mem_map.2 ⟨y, List.mem_of_getElem? hy, rfl⟩) q hq)
      obtain ⟨hcl, hcell⟩ := cells?_spec hcs
      rw [hc] at hcl hcell
      refine ⟨x, ⟨c, hcl, hx, fun j u hu => ?_⟩, hg, hbk⟩
      have := hcell j u hu
      rwa [add_add] at this
    obtain ⟨xs, hxl, hx⟩ := choose_list elems each
    have hxlen : xs.length = len := hxl.trans hlen
    have hgood : ∀ x ∈ xs, good x := fun x hxm => by
      obtain ⟨i, hi⟩ := List.getElem?_of_mem hxm
      have hil : i < elems.length := by rw [← hxl]; exact (List.getElem?_eq_some_iff.1 hi).1
      exact (hx i x _ hi (List.getElem?_eq_getElem hil)).2.1
    refine ⟨xs, ⟨some a, cap, by rw [hxlen], by omega, ⟨rfl, by unfold maxLen at hm; omega, fun _ => ⟨a, rfl, fun j p hj => ?_⟩⟩⟩, ⟨hgood, ?_⟩, ?_⟩
    · have hil : j < elems.length := by rw [← hxl]; exact (List.getElem?_eq_some_iff.1 hj).1
      exact (hx j p _ hj (List.getElem?_eq_getElem hil)).1
    · have := hr (((elems.map (·.1)).length + (rest.map (·.1)).length) * P.bytesOf e) (by simp only [DataW.weights, ht]; exact List.mem_cons_self)
      rw [er, List.length_map, List.length_map, hlen] at this
      rw [hxlen]
      exact Nat.le_trans (Nat.mul_le_mul_right _ (by omega)) this
    · have h1 := sumBulk_le (f := bulk) xs (elems.map (·.1)) (by rw [List.length_map, hxl]) (fun i x d hx' hd => by
        rw [List.getElem?_map, Option.map_eq_some_iff] at hd
        obtain ⟨y, hy, rfl⟩ := hd
        exact (hx i x y hx' hy).2.2)
      simp only [uptoBulk]
      omega
/-- The fields of a struct from a place on are read as a kind. -/
def OpensF (P : Program) (fs : List Field) (off : Nat) {α : Type} (d : Kd α) (good : α → Prop) (bulk : α → Nat) : Prop :=
  ∀ (H : Type) (enc : TypeId × Value → H) (w : World) (base : Nat) (spare : Nat → Bool) (held : Bool) (fuel : Nat) (cs : List Value) (xs : List (DataW H × List MemPlace)), off + d.sz ≤ cs.length →
    xs.length = fs.length → (∀ (i : Nat) (f : Field), fs[i]? = some f → DataW.trod enc P w base spare held fuel f.type ((cs.drop f.offset).take (P.cellsOf f.type)) = xs[i]?) →
    (∀ (i : Nat) (f : Field) y, fs[i]? = some f → xs[i]? = some y → ∀ n ∈ y.1.weights P f.type, n ≤ reachBytes) → ∃ y : α, d.K w y ((cs.drop off).take d.sz) ∧ good y ∧ bulk y ≤ uptoBulkAll (xs.map (·.1))
theorem op_last {P : Program} {f : Field} {off : Nat} {α : Type} {d : Kd α} {good : α → Prop} {bulk : α → Nat} (hf : f.offset = off) (hc : P.cellsOf f.type = d.sz) (ho : Opens P f.type d good bulk) : OpensF P [f] off d good bulk := by
  intro H enc w base spare held fuel cs xs _ hl hx hr
  match xs, hl with
  | [x], _ =>
    have h := hx 0 f rfl
    rw [hf, hc] at h
    obtain ⟨y, h1, h2, h3⟩ := ho H enc w base spare held fuel _ x h (hr 0 f x rfl rfl)
    refine ⟨y, h1, h2, ?_⟩
    simp only [List.map_cons, List.map_nil, uptoBulkAll]
    omega
theorem op_more {P : Program} {f : Field} {fs : List Field} {off : Nat} {α β : Type} {a : Kd α} {b : Kd β} {ga : α → Prop} {gb : β → Prop} {ba : α → Nat} {bb : β → Nat} (hf : f.offset = off) (hc : P.cellsOf f.type = a.sz)
    (ho : Opens P f.type a ga ba) (hm : OpensF P fs (off + a.sz) b gb bb) : OpensF P (f :: fs) off (Kd.pair a b) (fun z => ga z.1 ∧ gb z.2) (fun z => ba z.1 + bb z.2) := by
  intro H enc w base spare held fuel cs xs hcs hl hx hr
  have hsz : (Kd.pair a b).sz = a.sz + b.sz := rfl
  rw [hsz] at hcs
  match xs, hl with
  | x :: xr, hl =>
    have h := hx 0 f rfl
    rw [hf, hc] at h
    obtain ⟨y, h1, h2, h3⟩ := ho H enc w base spare held fuel _ x h (hr 0 f x rfl rfl)
    obtain ⟨z, k1, k2, k3⟩ := hm H enc w base spare held fuel cs xr (by omega) (by simpa using hl) (fun i g hg => by simpa using hx (i + 1) g (by simpa using hg)) (fun i g y hg hy => hr (i + 1) g y (by simpa using hg) (by simpa using hy))
    refine ⟨(y, z), ⟨_, _, ?_, h1, k1⟩, ⟨h2, k2⟩, ?_⟩
    · rw [hsz, List.take_add, List.drop_drop]
    · simp only [List.map_cons, uptoBulkAll]
      omega
theorem op_struct {P : Program} {t : TypeId} {fs : Array Field} {α β : Type} {d : Kd α} {good : α → Prop} {bulk : α → Nat} (f : β → α) (g : α → β) (hfg : ∀ y, f (g y) = y) (ht : P.underlying t = some (.struct fs)) (hc : P.cellsOf t = d.sz)
    (ho : OpensF P fs.toList 0 d good bulk) : Opens P t (Kd.iso d f) (fun x => good (f x)) (fun x => bulk (f x) + 1) := by
  intro H enc w base spare held fuel cs x h hr
  obtain ⟨xs, n, _, rfl, hcl, hxl, hx⟩ := DataW.trod_struct ht h
  obtain ⟨y, h1, h2, h3⟩ := ho H enc w base spare held n cs xs (by omega) (by rw [hxl]; simp) (fun i q hq => hx i q (by simpa using hq)) (fun i q y hq hy m hm => hr m (by
    simp only [DataW.weights, ht]
    refine mem_each (j := i) (t := q.type) (d := y.1) ?_ ?_ hm
    · rw [List.getElem?_map, hq]; rfl
    · rw [List.getElem?_map, hy]; rfl))
  refine ⟨g y, ?_, by show good (f (g y)); rw [hfg]; exact h2, ?_⟩
  · show d.K w (f (g y)) cs
    rw [hfg]
    have e : (cs.drop 0).take d.sz = cs := by rw [List.drop_zero, List.take_of_length_le (by omega)]
    rw [e] at h1
    exact h1
  · show bulk (f (g y)) + 1 ≤ _
    rw [hfg]
    simp only [uptoBulk]
    omega
end Go.Proofs.YtidcchopmbodkaaDoor.Op
