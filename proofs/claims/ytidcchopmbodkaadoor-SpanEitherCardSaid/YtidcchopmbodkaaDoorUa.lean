/- span.united's library functions at its pieces: a copy in memory of the call's own; the pieces in an order of rising begins, in the same memory. -/
import Derived.Test.YtidcchopmbodkaaDoorSp0
import Derived.Test.YtidcchopmbodkaaDoorShl
import Derived.Test.YtidcchopmbodkaaDoorShs
import Derived.Test.YtidcchopmbodkaaDoorHs
import Derived.Test.YtidcchopmbodkaaDoorCanon
import Derived.Lib.Hide
import Derived.IntWalk
namespace Go.Proofs.YtidcchopmbodkaaDoor.Sp
open Go.RowKit Go.Proofs.YtidcchopmbodkaaDoorW.PrintWords Go.Proofs.YtidcchopmbodkaaDoorW.PrintLast Go.Proofs.YtidcchopmbodkaaDoorW.PrintMore
open Canon

def flat (l : List S28) : List Value := l.flatMap enc28
theorem flat_cons (x : S28) (l : List S28) : flat (x :: l) = .int .i64 x.f0 :: .int .i64 x.f1 :: flat l := rfl
theorem flat_append (l m : List S28) : flat (l ++ m) = flat l ++ flat m := List.flatMap_append
theorem flat_length (l : List S28) : (flat l).length = l.length * 2 := by
  induction l with
  | nil => rfl
  | cons x l ih => rw [flat_cons]; simp only [List.length_cons, ih]; omega
theorem flat_one (l : List S28) : ∀ u ∈ flat l, u.oneCell' = true := by
  intro u hu
  obtain ⟨x, _, hx⟩ := List.mem_flatMap.1 hu
  simp only [enc28, List.mem_cons, List.not_mem_nil, or_false] at hx
  rcases hx with rfl | rfl <;> rfl
theorem flat_at (l : List S28) (j : Nat) (x : S28) (h : l[j]? = some x) : (flat l)[j * 2]? = some (.int .i64 x.f0) ∧ (flat l)[j * 2 + 1]? = some (.int .i64 x.f1) := by
  induction l generalizing j with
  | nil => simp at h
  | cons y l ih =>
    cases j with
    | zero =>
      simp only [List.getElem?_cons_zero, Option.some.injEq] at h
      subst h
      exact ⟨rfl, rfl⟩
    | succ j =>
      rw [List.getElem?_cons_succ] at h
      obtain ⟨h1, h2⟩ := ih j h
      rw [flat_cons]
      exact ⟨by rw [show (j + 1) * 2 = j * 2 + 1 + 1 from by omega]; exact h1, by rw [show (j + 1) * 2 + 1 = j * 2 + 1 + 1 + 1 from by omega]; exact h2⟩
theorem flat_of {l : List S28} {j : Nat} {u : Value} (h : (flat l)[j]? = some u) : ∃ x, l[j / 2]? = some x ∧ (enc28 x)[j % 2]? = some u := by
  have hl : j < (flat l).length := (List.getElem?_eq_some_iff.1 h).1
  rw [flat_length] at hl
  obtain ⟨x, hx⟩ : ∃ x, l[j / 2]? = some x := ⟨l[j / 2]'(by omega), List.getElem?_eq_getElem (by omega)⟩
  obtain ⟨h1, h2⟩ := flat_at l _ x hx
  refine ⟨x, hx, ?_⟩
  rcases (by omega : j % 2 = 0 ∨ j % 2 = 1) with e | e
  · rw [show j / 2 * 2 = j from by omega, h] at h1
    rw [e, h1]; rfl
  · rw [show j / 2 * 2 + 1 = j from by omega, h] at h2
    rw [e, h2]; rfl
set_option maxHeartbeats 1000000 in
/-- slices.Clone: the same pieces in memory of the call's own. -/
theorem clone_calls (A : Option Addr) (c : Nat) (l : List S28) (w : World) (hr : Kd.C k28 w A l.length l) (hb : l.length * 16 ≤ 140737488355328) :
    Calls Tryd.prog 60 #[.slice A l.length c] w fun e w' => ∃ v', e = .returned v' ∧ w'.ownsRow w.heap.size 28 2 v' l.length (flat l) ∧ Below w.heap.size w w' := by
  have q22 : ∀ (w : World) (a : Option Addr) (n c n' c' : Nat), (binOp .eql 23 (.slice a n c) (.slice none n' c')).run Tryd.prog w = .ok (.bool a.isNone) w := fun w a n c n' c' => Lib.run_eql_slice_nil w _ _ a n c n' c' Tryd.underlying23
  cases A with
  | none =>
    have h0 : l.length = 0 := by
      rcases Nat.eq_zero_or_pos l.length with h | h
      · exact h
      · obtain ⟨ad, e, _⟩ := hr.2.2 h; cases e
    have e : l = [] := List.length_eq_zero_iff.1 h0
    subst e
    clear hr hb h0
    go_enter Tryd.func60, Tryd.ntmps60
    go_wp2
    go_ret
    exact ⟨_, rfl, own_nil _ _ _ _, Below.refl _ _⟩
  | some ad =>
    have news : ∀ j u, (flat l)[j]? = some u → w.cell? (ad.add j) = some u := by
      intro j u hj
      obtain ⟨x, hx, hu⟩ := flat_of hj
      have hpos : 0 < l.length := by have := (List.getElem?_eq_some_iff.1 hx).1; omega
      obtain ⟨ad', e, hc⟩ := hr.2.2 hpos
      obtain rfl := Option.some.inj e
      obtain ⟨cs, _, hk, hcell⟩ := hc _ x hx
      obtain rfl := k28_open hk
      have := hcell (j % 2) u hu
      rwa [show k28.sz = 2 from rfl, show j / 2 * 2 + j % 2 = j from by omega] at this
    have NEWS := Lib.hid news
    have hn : l.length ≤ maxLen := hr.2.1
    obtain ⟨i0, hi0, hz⟩ : ∃ i, Tryd.prog.info? 28 = some i ∧ (i.zero = some (.agg #[.int .i64 0, .int .i64 0]) ∧ i.size = 2 ∧ i.bytes = 16) := by
      have := info28
      cases hh : Tryd.prog.info? 28 with
      | none => rw [hh] at this; cases this
      | some i => rw [hh] at this; simp only [Option.map_some, Option.some.injEq, Prod.mk.injEq] at this; exact ⟨i, rfl, this⟩
    have hfl := flat_length l
    generalize hF : flat l = F at *
    have hF1 : ∀ u ∈ F, u.oneCell' = true := by rw [← hF]; exact flat_one l
    clear hr news hF
    generalize l.length = n at *
    have HFL := Lib.hid hfl
    have HF1 := Lib.hid hF1
    have HN := Lib.hid hn
    have HB := Lib.hid hb
    have HI := Lib.hid hi0
    have HZ := Lib.hid hz
    clear hfl hF1 hn hb hi0 hz
    go_enter Tryd.func60, Tryd.ntmps60
    go_wp2_with (at_builtin; go_loud (refine wpList_append_own _ rfl _ _ 23 rfl w.heap.size 28 i0 _ 2 16 Tryd.underlying23 HI.out HZ.out.1 HZ.out.2.1 HZ.out.2.2 rfl (by decide) _ _ _ rfl (World.ownsRow_made w #[] 0 (Nat.le_refl _) (Nat.zero_le _) (by simp)) ad n c F rfl ?qc1 ?qc2 ?qc3 ?qc4 ?qc5 ?qc6 ?_))
    case qc1 => exact HFL.out
    case qc2 =>
      intro j u hj
      exact (World.cell?_alloc_some w _ _ (by rw [NEWS.out j u hj]; rfl)).trans (NEWS.out j u hj)
    case qc3 => exact HF1.out
    case qc4 => rw [Nat.zero_add]; exact HN.out
    case qc5 => rw [Nat.zero_add]; exact HB.out
    case qc6 => simp
    intro v' w1 hown hgrow _
    have HO := Lib.hid hown
    have HG := Lib.hid hgrow
    clear hown hgrow
    go_wp2
    go_ret
    refine ⟨v', rfl, by simpa using HO.out, ?_⟩
    exact ((Below.refl _ w).alloc (Nat.le_refl _) _).grown HG.out (by simp) (by intro k hk; simp [Value.ownBlock] at hk; omega)

/-- The comparison's own closure. -/
theorem cmp_calls (x y : S28) (W : World) : Calls Tryd.prog 62 #[.agg #[.int .i64 x.f0, .int .i64 x.f1], .agg #[.int .i64 y.f0, .int .i64 y.f1]] W fun e w' => e = .returned (.int .i64 (Lib.compareInt x.f0 y.f0)) ∧ ∃ q os', w' = Sort.grow (W.drewN q) os' := by
  have hcon := fun W' => AnyG.cmp_Compare_int Shs.shsCmp x.f0 y.f0 W'
  change ∀ W', Calls Tryd.prog 63 _ _ _ at hcon
  generalize Lib.compareInt x.f0 y.f0 = r at hcon ⊢
  go_enter Tryd.func62, Tryd.ntmps62
  go_wp2_with (go_at_call 63; refine (hcon _).mono ?_; rintro e w' ⟨rfl, rfl⟩)
  go_ret
  exact ⟨rfl, 0, _, by rw [Sort.alloc_eq_grow, Sort.alloc_eq_grow, Sort.grow_grow]; rfl⟩
def ltF (x y : S28) : Bool := decide (x.f0 < y.f0)
theorem lt_eq (x y : S28) : Go.Proofs.ltOf (fun x y : S28 => Lib.compareInt x.f0 y.f0) x y = decide (x.f0 < y.f0) := by
  unfold Go.Proofs.ltOf Lib.compareInt
  by_cases h1 : x.f0 < y.f0
  · simp [h1]
  · by_cases h2 : y.f0 < x.f0 <;> simp [h1, h2]
theorem lt_swo : Sort.SWO (Go.Proofs.ltOf fun x y : S28 => Lib.compareInt x.f0 y.f0) where
  irrefl x := by rw [lt_eq]; simp
  trans x y z h1 h2 := by rw [lt_eq] at *; simp at *; omega
  ntrans x y z h1 h2 := by rw [lt_eq] at *; simp at *; omega
theorem take_put (F cur : Array Value) (h : F.size ≤ cur.size) : (Sort.putCells id 0 F cur).toList.take F.size = F.toList := by
  apply List.ext_getElem?
  intro j
  rw [List.getElem?_take]
  by_cases hj : j < F.size
  · rw [if_pos hj, Array.getElem?_toList, Array.getElem?_toList]
    unfold Sort.putCells
    rw [Array.getElem?_mapIdx, Array.getElem?_eq_getElem (show j < cur.size by omega)]
    simp only [Option.map_some, id_eq, Nat.zero_le, Nat.zero_add, true_and, Nat.sub_zero]
    rw [if_pos hj, getElem!_pos F j hj, Array.getElem?_eq_getElem hj]
  · rw [if_neg hj, Array.getElem?_toList, Array.getElem?_eq_none (by omega)]
theorem flatK_eq (d : Array S28) : (Sort.flatK enc28 2 d).toList = flat d.toList := by
  apply List.ext_getElem
  · rw [Array.length_toList, Sort.size_flatK, flat_length, Array.length_toList]
  · intro j h1 h2
    rw [Array.length_toList, Sort.size_flatK] at h1
    have e1 := Sort.get_flatK enc28 2 d j h1
    rw [getElem!_pos _ j (by rw [Sort.size_flatK]; exact h1)] at e1
    rw [Array.getElem_toList, e1]
    have hx : d.toList[j / 2]? = some d[j / 2]! := by
      rw [Array.getElem?_toList, Array.getElem?_eq_getElem (by omega), getElem!_pos d (j / 2) (by omega)]
    obtain ⟨f1, f2⟩ := flat_at d.toList _ _ hx
    have h3 : (flat d.toList)[j]? = some (flat d.toList)[j] := List.getElem?_eq_getElem h2
    rcases (by omega : j % 2 = 0 ∨ j % 2 = 1) with e | e
    · rw [show j / 2 * 2 = j from by omega, h3] at f1
      rw [Option.some.inj f1, e]; rfl
    · rw [show j / 2 * 2 + 1 = j from by omega, h3] at f2
      rw [Option.some.inj f2, e]; rfl
set_option maxHeartbeats 1000000 in
/-- slices.SortFunc at the pieces' begins: the same pieces, in the same memory, their begins rising. -/
theorem sort_calls (base g cap : Nat) (l : List S28) (w : World) (ho : w.ownsRow base 28 2 (.slice (some ⟨g, 0, none⟩) l.length cap) l.length (flat l)) (hl : l.length < 4611686018427387904) :
    Calls Tryd.prog 61 #[.slice (some ⟨g, 0, none⟩) l.length cap, .func (.func 62) #[] #[]] w fun e w' => e = .returned (.tuple #[]) ∧ ∃ d : List S28, d.length = l.length ∧ (∀ r, r ∈ d ↔ r ∈ l) ∧
      d.Pairwise (fun a b => a.f0 ≤ b.f0) ∧ w'.ownsRow base 28 2 (.slice (some ⟨g, 0, none⟩) l.length cap) l.length (flat d) ∧ Below base w w' := by
  obtain ⟨hlen, ho2⟩ := ho
  rcases ho2 with ⟨he, _⟩ | ⟨g', cap', cur, he, hbg, hh, hnc, hcm, hcs, htk⟩
  · cases he
  · injection he with e1 e2 e3
    injection e1 with e1
    injection e1 with e1
    subst e1; subst e3
    have hg : g < w.heap.size := (Array.getElem?_eq_some_iff.1 hh).1
    have hle : l.length * 2 ≤ cur.size := by rw [hcs]; exact Nat.mul_le_mul_right 2 hnc
    have hF : Sort.HoldsK enc28 2 w g 0 l.toArray := by
      intro j hj
      rw [Sort.size_flatK] at hj
      have hj' : j < l.length * 2 := by simpa using hj
      constructor
      · have hc : w.cell? ⟨g, 0 + j, none⟩ = cur[0 + j]? := by unfold World.cell?; simp only [hh]; rfl
        rw [hc, Nat.zero_add]
        have h1 : (flat l)[j]? = cur.toList[j]? := by rw [← htk, List.getElem?_take, if_pos hj']
        have ef : (Sort.flatK enc28 2 l.toArray).toList = flat l := flatK_eq l.toArray
        rw [← Array.getElem?_toList, ← h1, ← ef, Array.getElem?_toList, Array.getElem?_eq_getElem (by rw [Sort.size_flatK]; exact hj), getElem!_pos _ j (by rw [Sort.size_flatK]; exact hj)]
        rfl
      · unfold World.frozen?; simp only [hh]; simp
    have eg : ∀ args w, (callFunc 62 args).run Tryd.prog w = .ok (.enter 62 args) w := enters_of Tryd.func62 (by kernel_rfl) rfl
    have hcon := AnyQ.slices_SortFunc Shs.shsSort 2 Tryd.isAgg28 Tryd.sizeOf28 enc28 (fun _ => rfl) (fun x v hv => by simp [enc28] at hv; rcases hv with rfl | rfl <;> rfl) (fun x y => Lib.compareInt x.f0 y.f0) lt_swo 62 #[] g 0 cap l.toArray w eg
      (fun _ _ _ _ x y => cmp_calls x y _) hF hg (by simpa using hl)
    refine Calls.mono hcon ?_
    rintro e w' ⟨rfl, d', n, os, hp, hs, rfl⟩
    obtain ⟨p1, _, p3⟩ := hp
    have hsz : d'.size = l.length := by rw [p1]; simp
    have p4 : d'.toList.Perm l := by
      have ea : d'.extract 0 l.toArray.size = d' := by rw [← p1]; simp
      rw [ea] at p3
      simpa using p3
    refine ⟨rfl, d'.toList, by rw [Array.length_toList, hsz], fun r => p4.mem_iff, ?_, ?_, ?_⟩
    · rw [List.pairwise_iff_getElem]
      intro i j hi hj hij
      rw [Array.length_toList] at hi hj
      have := hs i j (Nat.zero_le _) hij (by simpa [← hsz] using hj)
      rw [lt_eq, getElem!_pos d' i hi, getElem!_pos d' j hj] at this
      simpa using this
    · refine ⟨by rw [flat_length, Array.length_toList, hsz], Or.inr ⟨g, cap, Sort.putCells id 0 (Sort.flatK enc28 2 d') cur, rfl, hbg, ?_, hnc, hcm, ?_, ?_⟩⟩
      · show ((w.heap.modify g (Sort.onCells _)) ++ os)[g]? = _
        rw [Array.getElem?_append_left (by simpa using hg), Array.getElem?_modify, if_pos rfl, hh]
        rfl
      · rw [← hcs]; simp [Sort.putCells]
      · have := take_put (Sort.flatK enc28 2 d') cur (by rw [Sort.size_flatK, hsz]; exact hle)
        rw [Sort.size_flatK, hsz, flatK_eq] at this
        exact this
    · refine ⟨rfl, rfl, rfl, ?_, fun i hi => ?_⟩
      · show w.heap.size ≤ ((w.heap.modify g (Sort.onCells _)) ++ os).size
        simp
      · show ((w.heap.modify g (Sort.onCells _)) ++ os)[i]? = _
        rw [Array.getElem?_append_left (by simp; omega), Array.getElem?_modify, if_neg (by omega)]
end Go.Proofs.YtidcchopmbodkaaDoor.Sp
