/- span.united in the print's form: pieces whose ends may be, put together as the document puts them. -/
import Derived.Test.YtidcchopmbodkaaDoorUa
import Derived.StillTailTactics
namespace Go.Proofs.YtidcchopmbodkaaDoor.Sp
open Go.RowKit Go.Proofs.YtidcchopmbodkaaDoorW.PrintWords Go.Proofs.YtidcchopmbodkaaDoorW.PrintLast Go.Proofs.YtidcchopmbodkaaDoorW.PrintMore
open Canon
attribute [local go_sem] max2_int min2_int max_two min_two

theorem own_cells {w : World} {base g n cap : Nat} {l : List S28} (h : w.ownsRow base 28 2 (.slice (some ⟨g, 0, none⟩) n cap) n (flat l)) (j : Nat) (x : S28) (hx : l[j]? = some x) :
    w.cell? ⟨g, j * 2, none⟩ = some (.int .i64 x.f0) ∧ w.cell? ⟨g, j * 2 + 1, none⟩ = some (.int .i64 x.f1) ∧ w.frozen? ⟨g, j * 2 + 1, none⟩ = false ∧ g < w.heap.size := by
  obtain ⟨hlen, ho2⟩ := h
  rcases ho2 with ⟨he, _⟩ | ⟨g', cap', cur, he, hbg, hh, hnc, hcm, hcs, htk⟩
  · cases he
  · injection he with e1 e2 e3
    injection e1 with e1
    injection e1 with e1
    subst e1; subst e3
    obtain ⟨f1, f2⟩ := flat_at l j x hx
    have hjl : j < l.length := (List.getElem?_eq_some_iff.1 hx).1
    rw [flat_length] at hlen
    have hc : ∀ t, w.cell? ⟨g, t, none⟩ = cur[t]? := fun t => by unfold World.cell?; simp only [hh]; rfl
    have ht : ∀ t, t < n * 2 → cur[t]? = (flat l)[t]? := fun t ht => by rw [← htk, List.getElem?_take, if_pos ht, Array.getElem?_toList]
    refine ⟨by rw [hc, ht _ (by omega)]; exact f1, by rw [hc, ht _ (by omega)]; exact f2, ?_, (Array.getElem?_eq_some_iff.1 hh).1⟩
    unfold World.frozen?; simp only [hh]; simp
def pr (x : S28) : Rg := (x.f0, x.f1)
def un (r : Rg) : S28 := ⟨r.1, r.2⟩
def okB (x : S28) : Bool := decide (0 ≤ x.f0) && (decide (x.f0 ≤ x.f1) && decide (x.f1 ≤ 4294967295))
/-- The last piece's end grows. -/
theorem own_grow {w : World} {base g n cap : Nat} {l : List S28} (h : w.ownsRow base 28 2 (.slice (some ⟨g, 0, none⟩) n cap) n (flat l)) (j : Nat) (x : S28) (hx : l[j]? = some x) (u : Int) :
    (w.setCell ⟨g, j * 2 + 1, none⟩ (.int .i64 u)).ownsRow base 28 2 (.slice (some ⟨g, 0, none⟩) n cap) n (flat (l.set j ⟨x.f0, u⟩)) := by
  have hjl : j < l.length := (List.getElem?_eq_some_iff.1 hx).1
  obtain ⟨hlen, ho2⟩ := h
  rcases ho2 with ⟨he, _⟩ | ⟨g', cap', cur, he, hbg, hh, hnc, hcm, hcs, htk⟩
  · cases he
  · injection he with e1 e2 e3
    injection e1 with e1
    injection e1 with e1
    subst e1; subst e3
    rw [flat_length] at hlen
    have hset : flat (l.set j ⟨x.f0, u⟩) = (flat l).set (j * 2 + 1) (.int .i64 u) := by
      clear hh htk hcs hnc hcm hbg hlen
      induction l generalizing j with
      | nil => simp at hjl
      | cons y l ih =>
        cases j with
        | zero =>
          simp only [List.getElem?_cons_zero, Option.some.injEq] at hx
          subst hx
          rfl
        | succ j =>
          rw [List.getElem?_cons_succ] at hx
          rw [List.set_cons_succ, flat_cons, flat_cons, ih j hx (by simpa using hjl), show (j + 1) * 2 + 1 = j * 2 + 1 + 1 + 1 from by omega, List.set_cons_succ, List.set_cons_succ]
    refine ⟨by rw [flat_length]; simpa using hlen, Or.inr ⟨g, cap, cur.set! (j * 2 + 1) (.int .i64 u), rfl, hbg, ?_, hnc, hcm, by simpa using hcs, ?_⟩⟩
    · have hl : g < w.heap.size := (Array.getElem?_eq_some_iff.1 hh).1
      exact heap_setCell_same w _ _ _ _ _ hh
    · rw [hset, ← htk]
      simp [List.take_set]
theorem glue_last (a : List Rg) (e r : Rg) : glue (a ++ [e]) r = if r.1 ≤ e.2 + 1 then a ++ [(e.1, max e.2 r.2)] else a ++ [e] ++ [r] := by
  unfold glue
  rw [List.getLast?_concat]
  simp only [List.dropLast_concat]
theorem info28x : ∃ i, Tryd.prog.info? 28 = some i ∧ (i.zero = some (.agg #[.int .i64 0, .int .i64 0]) ∧ i.size = 2 ∧ i.bytes = 16) := by
  have := info28
  cases hh : Tryd.prog.info? 28 with
  | none => rw [hh] at this; cases this
  | some i => rw [hh] at this; simp only [Option.map_some, Option.some.injEq, Prod.mk.injEq] at this; exact ⟨i, rfl, this⟩
def span_united.f (l0 : List S28) : Option (List S28) := if l0.length * 16 ≤ 140737488355328 ∧ l0.all okB = true then some ((canon (l0.map pr)).map un) else none
theorem sort_none (A : Option Addr) (c : Nat) (fv : Value) (w : World) : Calls Tryd.prog 61 #[.slice A 0 c, fv] w fun e w' => e = .returned (.tuple #[]) ∧ w = w' :=
  (AnyF.slices_SortFunc_none Shs.shsSort A c fv w).mono fun _ _ h => ⟨h.1, h.2.symm⟩
set_option maxHeartbeats 4000000 in
set_option maxRecDepth 100000 in
theorem united_some (A : Option Addr) (c : Nat) (l : List S28) (w : World) (hr : Kd.C k28 w A l.length l) (hb : l.length * 16 ≤ 140737488355328) (hok : l.all okB = true) (hne : 0 < l.length) :
    Calls Tryd.prog 45 #[.slice A l.length c] w fun e w' => ∃ v0_ : Value, e = .returned v0_ ∧ w'.ownsRow w.heap.size 28 2 v0_ (canon (l.map pr)).length (flat ((canon (l.map pr)).map un)) ∧ Below w.heap.size w w' := by
  have hcl := clone_calls A c l w hr hb
  have HOK := Lib.hid hok
  have HBL := Lib.hid hb
  have HW := Lib.hid (Below.refl w.heap.size w)
  clear hr hok hb
  go_enter Tryd.func45, Tryd.ntmps45
  go_wp2_with (go_at_call 60; refine hcl.mono ?_; rintro e w1 ⟨v, rfl, hown, hb1⟩)
  obtain ⟨g, cp, rfl, hg1, hg2⟩ := hown.form hne
  have hsort := sort_calls w.heap.size g cp l w1 hown (by have := HBL.out; omega)
  have HB1 := Lib.hid hb1
  clear hcl hown hb1
  go_wp2_with (go_at_call 61; refine hsort.mono ?_; rintro e w2 ⟨rfl, d, hdl, hdm, hdp, hd, hb2⟩)
  have HB2 := Lib.hid (HB1.out.trans hb2)
  have HD := Lib.hid hd
  have HDL := Lib.hid hdl
  have HDM := Lib.hid hdm
  have HDP := Lib.hid hdp
  have hg3 : g < w2.heap.size := Nat.lt_of_lt_of_le hg2 hb2.size
  have hw2 : w.heap.size ≤ w2.heap.size := HB2.out.size
  clear hb2 hd hdl hdm hdp hsort HB1
  obtain ⟨i0, hi0, hz⟩ := info28x
  have HI := Lib.hid hi0
  have HZ := Lib.hid hz
  clear hi0 hz
  go_loopw [3, 13] (fun o i W => ∃ (k : Nat) (out : List S28), i = .int .i64 k ∧ k ≤ l.length ∧ out.length ≤ k ∧ Aside0 (W.ownsRow w2.heap.size 28 2 o out.length (flat out)) ∧ Aside0 (out.map pr = ((d.take k).map pr).foldl glue []) ∧ Aside0 (out.all okB = true) ∧
    Aside0 (W.ownsRow w.heap.size 28 2 (.slice (some ⟨g, 0, none⟩) l.length cp) l.length (flat d)) ∧ Aside0 (Below w.heap.size w W) ∧ w2.heap.size ≤ W.heap.size) (fun _ i _ => l.length - (intOf i).toNat)
  case atStart => exact ⟨0, [], rfl, Nat.zero_le _, Nat.zero_le _, ⟨own_nil _ _ _ _⟩, ⟨rfl⟩, ⟨rfl⟩, ⟨HD.out⟩, ⟨HB2.out⟩, Nat.le_refl _⟩
  case round =>
    obtain ⟨k, out, rfl, hk, hol, ho, hout, hoo, hd, hB, hsz⟩ := hrel
    by_cases hlt : k < l.length
    · have hkd : k < d.length := by rw [HDL.out]; exact hlt
      obtain ⟨x, hx⟩ : ∃ x, d[k]? = some x := ⟨d[k], List.getElem?_eq_getElem hkd⟩
      have HX := Lib.hid hx
      obtain ⟨c1, c2, _, hgw⟩ := own_cells hd.out k x hx
      have hl63 : l.length ≤ 8796093022208 := by have := HBL.out; omega
      have hts : d.take (k + 1) = d.take k ++ [x] := by
        rw [List.take_succ_eq_append_getElem hkd]
        congr 1
        rw [List.getElem?_eq_getElem hkd] at hx
        rw [Option.some.inj hx]
      have HTS := Lib.hid hts
      have hxo : 0 ≤ x.f0 ∧ x.f0 ≤ x.f1 ∧ x.f1 ≤ 4294967295 := by
        have hm : x ∈ l := (HDM.out x).1 (List.mem_of_getElem? hx)
        have := List.all_eq_true.1 HOK.out x hm
        simpa [okB] using this
      obtain ⟨hx0, hx1, hx2⟩ := hxo
      have hX : ∀ (W : World) (n : Nat), n = W.heap.size → ∀ (j : Nat) (u : Value), [Value.int .i64 x.f0, Value.int .i64 x.f1][j]? = some u → (W.alloc (.cells #[.int .i64 x.f0, .int .i64 x.f1] 28)).cell? (Addr.add ⟨n, 0, none⟩ j) = some u := by
        intro W n hn j u hu
        subst hn
        have hj : j < 2 := (List.getElem?_eq_some_iff.1 hu).1
        rcases (by omega : j = 0 ∨ j = 1) with rfl | rfl
        · rw [← hu]; simp [Addr.add]
        · rw [← hu]; simp [Addr.add]
      have HXC := Lib.hid hX
      have hxok : okB x = true := by simp [okB]; omega
      have HXO := Lib.hid hxok
      clear hX hx hts hxok
      by_cases h0 : out.length = 0
      · have e : out = [] := List.length_eq_zero_iff.1 h0
        subst e
        obtain ⟨A3, c3, rfl⟩ := own_slice ho.out
        go_wp2_with fail
        go_quiet (fail)
        go_wp2_with (at_builtin; go_loud (refine wpList_append_own _ rfl _ _ 23 rfl w2.heap.size 28 i0 _ 2 16 Tryd.underlying23 HI.out HZ.out.1 HZ.out.2.1 HZ.out.2.2 rfl (by decide) (.slice A3 0 c3) 0 [] (by rfl) (own_alloc (pw_own_drewN (own_alloc ho.out _) _) _) ⟨wr.heap.size + 1, 0, none⟩ 1 1 [.int .i64 x.f0, .int .i64 x.f1] (by rfl) (by rfl) (HXC.out _ _ (by simp)) (by exact flat_one [x]) (by unfold maxLen; omega) (by omega) (by simp; omega) ?_))
        intro v' W3 hown3 hgrow _
        have HO3 := Lib.hid hown3
        have hd3 := own_other (own_alloc (pw_own_drewN (own_alloc hd.out (.cells #[.int .i64 x.f0, .int .i64 x.f1] 28)) nq) (.cells #[.int .i64 x.f0, .int .i64 x.f1] 28)) hgrow (own_apart (n := w2.heap.size) (by intro k hk; simp only [Value.ownBlock, Option.some.injEq] at hk; omega) (fun k hk => own_base ho.out k hk))
        have HD3 := Lib.hid hd3
        have hB3 := pw_below_grown (below_alloc (pw_below_drewN (below_alloc hB.out (.cells #[.int .i64 x.f0, .int .i64 x.f1] 28)) nq) (.cells #[.int .i64 x.f0, .int .i64 x.f1] 28)) _ (by simp; omega) hgrow (fun k hk => by have := own_base ho.out k hk; omega)
        have HB3 := Lib.hid hB3
        have hs3 : w2.heap.size ≤ W3.heap.size := by have := hgrow.size; simp at this; omega
        clear hown3 hgrow hd3 hB3
        go_wp2
        exact ⟨⟨k + 1, [x], by go_num, by omega, by simp, ⟨HO3.out⟩, ⟨by rw [HTS.out, List.map_append, List.foldl_append, ← hout.out]; rfl⟩, ⟨by simp [HXO.out]⟩, ⟨HD3.out⟩, ⟨HB3.out⟩, hs3⟩, by simp [intOf]; omega⟩
      · obtain ⟨out', y, rfl⟩ : ∃ out' y, out = out' ++ [y] := by
          rcases List.eq_nil_or_concat out with e | ⟨a, b, e⟩
          · subst e; simp at h0
          · exact ⟨a, b, by rw [e, List.concat_eq_append]⟩
        have el : (out' ++ [y]).length = out'.length + 1 := by simp
        rw [el] at ho hol
        obtain ⟨h, c4, rfl, hh1, hh2⟩ := ho.out.form (by omega)
        have hy : (out' ++ [y])[out'.length]? = some y := by simp
        obtain ⟨y1, y2, y3, _⟩ := own_cells ho.out out'.length y hy
        have hyo : 0 ≤ y.f0 ∧ y.f0 ≤ y.f1 ∧ y.f1 ≤ 4294967295 := by
          have := List.all_eq_true.1 hoo.out y (by simp)
          simpa [okB] using this
        obtain ⟨hy0, hy1, hy2⟩ := hyo
        have hm63 : out'.length ≤ 8796093022208 := by omega
        have hgl : ((d.take (k + 1)).map pr).foldl glue [] = glue ((out' ++ [y]).map pr) (pr x) := by rw [HTS.out, List.map_append, List.foldl_append, ← hout.out]; rfl
        have HGL := Lib.hid hgl
        have HY := Lib.hid hy
        clear hgl hy el h0
        have hw1 : IntKind.i64.wrap (y.f1 + 1) = y.f1 + 1 := IntWalk.i64_in _ (by omega)
        by_cases hc : x.f0 ≤ y.f1 + 1
        · have dc : decide (x.f0 ≤ y.f1 + 1) = true := decide_eq_true hc
          go_wp2_with fail
          go_quiet (fail)
          go_wp2_with fail
          have hbw := own_base ho.out h rfl
          have ho1 := own_alloc ho.out (.cells #[.int .i64 x.f0, .int .i64 x.f1] 28)
          have hd1 := own_alloc hd.out (.cells #[.int .i64 x.f0, .int .i64 x.f1] 28)
          have hb1 := below_alloc hB.out (.cells #[.int .i64 x.f0, .int .i64 x.f1] 28)
          have z1 : ((wr.alloc (.cells #[.int .i64 x.f0, .int .i64 x.f1] 28)).drewN nq).cell? ⟨wr.heap.size, 1, none⟩ = some (.int .i64 x.f1) := by simp
          have z2 : wr.heap.size < ((wr.alloc (.cells #[.int .i64 x.f0, .int .i64 x.f1] 28)).drewN nq).heap.size := by simp
          obtain ⟨W4, hW4⟩ : ∃ W4 : World, W4 = ((wr.alloc (.cells #[.int .i64 x.f0, .int .i64 x.f1] 28)).drewN nq) := ⟨_, rfl⟩
          have ho4 : W4.ownsRow w2.heap.size 28 2 (.slice (some ⟨h, 0, none⟩) (out'.length + 1) c4) (out'.length + 1) (flat (out' ++ [y])) := by rw [hW4]; exact pw_own_drewN ho1 nq
          have hd4 : W4.ownsRow w.heap.size 28 2 (.slice (some ⟨g, 0, none⟩) l.length cp) l.length (flat d) := by rw [hW4]; exact pw_own_drewN hd1 nq
          have hb4 : Below w.heap.size w W4 := by rw [hW4]; exact pw_below_drewN hb1 nq
          rw [← hW4] at z1 z2
          rw [← hW4]
          have HO4 := Lib.hid ho4
          have HD4 := Lib.hid hd4
          have HB4 := Lib.hid hb4
          obtain ⟨y4, y5, y6, y7⟩ := own_cells ho4 out'.length y HY.out
          clear hW4 ho1 hd1 hb1 ho4 hd4 hb4 c1 c2 y1 y2 y3
          have i1 : (0 : Int) ≤ (out'.length : Int) := by omega
          have i2 : (out'.length : Int) < ((out'.length + 1 : Nat) : Int) := by omega
          have hrun : ∀ W, (Instr.indexAt 23 (.slice (some ⟨h, 0, none⟩) (out'.length + 1) c4) (.int .i64 (out'.length : Int))).run Tryd.prog W = .ok (.pointer (some ⟨h, out'.length * 2, none⟩)) W := by
            intro W
            go_simp
            intro hcc
            omega
          go_still_tail 12, (by kernel_rfl)
          change wpList _ _ _ _ _ (World.drew _)
          have ho5 := own_grow (show W4.drew.ownsRow w2.heap.size 28 2 (.slice (some ⟨h, 0, none⟩) (out'.length + 1) c4) (out'.length + 1) (flat (out' ++ [y])) from HO4.out) out'.length y HY.out (if y.f1 < x.f1 then x.f1 else y.f1)
          have hd5 := own_setCell (show W4.drew.ownsRow w.heap.size 28 2 (.slice (some ⟨g, 0, none⟩) l.length cp) l.length (flat d) from HD4.out) (p := ⟨h, out'.length * 2 + 1, none⟩) (by simp only [Value.ownBlock, ne_eq, Option.some.injEq]; omega) (.int .i64 (if y.f1 < x.f1 then x.f1 else y.f1))
          have hb5 := below_drew1 (HB4.out.setCell (p := ⟨h, out'.length * 2 + 1, none⟩) (by show w.heap.size ≤ h; omega) (.int .i64 (if y.f1 < x.f1 then x.f1 else y.f1)))
          have hs5 : w2.heap.size ≤ (W4.drew.setCell ⟨h, out'.length * 2 + 1, none⟩ (.int .i64 (if y.f1 < x.f1 then x.f1 else y.f1))).heap.size := by simp; omega
          have eset : (out' ++ [y]).set out'.length ⟨y.f0, (if y.f1 < x.f1 then x.f1 else y.f1)⟩ = out' ++ [⟨y.f0, (if y.f1 < x.f1 then x.f1 else y.f1)⟩] := by simp
          rw [eset] at ho5
          have HO5 := Lib.hid ho5
          have HD5 := Lib.hid hd5
          have HB5 := Lib.hid hb5
          have HS5 := Lib.hid hs5
          have hM : (if y.f1 < x.f1 then x.f1 else y.f1) = max y.f1 x.f1 := by split <;> omega
          have HM := Lib.hid hM
          have hmo : okB ⟨y.f0, (if y.f1 < x.f1 then x.f1 else y.f1)⟩ = true := by simp [okB]; split <;> omega
          have HMO := Lib.hid hmo
          clear ho5 hd5 hb5 hs5 eset hrun hM hmo
          generalize (if y.f1 < x.f1 then x.f1 else y.f1) = M at *
          go_wp2
          exact ⟨⟨k + 1, out' ++ [⟨y.f0, M⟩], by go_num, by omega, by simp; omega, ⟨by rw [show (out' ++ [(⟨y.f0, M⟩ : S28)]).length = out'.length + 1 from by simp]; exact HO5.out⟩,
            ⟨by rw [HGL.out, List.map_append, List.map_append, List.map_cons, List.map_nil, List.map_cons, List.map_nil, glue_last, if_pos (show (pr x).1 ≤ (pr y).2 + 1 from hc), HM.out]; rfl⟩,
            ⟨by have := hoo.out; simp only [List.all_append, List.all_cons, List.all_nil, Bool.and_true, Bool.and_eq_true] at this ⊢; exact ⟨this.1, HMO.out⟩⟩, ⟨HD5.out⟩, ⟨HB5.out⟩, HS5.out⟩, by simp [intOf]; omega⟩
        · have dc : decide (x.f0 ≤ y.f1 + 1) = false := decide_eq_false hc
          go_wp2_with fail
          go_quiet (fail)
          go_wp2_with (at_builtin; go_loud (refine wpList_append_own _ rfl _ _ 23 rfl w2.heap.size 28 i0 _ 2 16 Tryd.underlying23 HI.out HZ.out.1 HZ.out.2.1 HZ.out.2.2 rfl (by decide) (.slice (some ⟨h, 0, none⟩) (out'.length + 1) c4) (out'.length + 1) (flat (out' ++ [y])) (by rfl) (own_alloc (pw_own_drewN (own_alloc ho.out _) _) _) ⟨wr.heap.size + 1, 0, none⟩ 1 1 [.int .i64 x.f0, .int .i64 x.f1] (by rfl) (by rfl) (HXC.out _ _ (by simp)) (by exact flat_one [x]) (by unfold maxLen; omega) (by omega) (by simp; omega) ?_))
          intro v' W3 hown3 hgrow _
          have hbw := own_base ho.out h rfl
          have HO3 := Lib.hid hown3
          have hd3 := own_other (own_alloc (pw_own_drewN (own_alloc hd.out (.cells #[.int .i64 x.f0, .int .i64 x.f1] 28)) nq) (.cells #[.int .i64 x.f0, .int .i64 x.f1] 28)) hgrow (own_apart (n := w2.heap.size) (by intro k hk; simp only [Value.ownBlock, Option.some.injEq] at hk; omega) (fun k hk => own_base ho.out k hk))
          have HD3 := Lib.hid hd3
          have hB3 := pw_below_grown (below_alloc (pw_below_drewN (below_alloc hB.out (.cells #[.int .i64 x.f0, .int .i64 x.f1] 28)) nq) (.cells #[.int .i64 x.f0, .int .i64 x.f1] 28)) _ (by simp; omega) hgrow (fun k hk => by have := own_base ho.out k hk; omega)
          have HB3 := Lib.hid hB3
          have hs3 : w2.heap.size ≤ W3.heap.size := by have := hgrow.size; simp at this; omega
          clear hown3 hgrow hd3 hB3
          go_wp2
          exact ⟨⟨k + 1, out' ++ [y] ++ [x], by go_num, by omega, by simp; omega, ⟨by rw [show (out' ++ [y] ++ [x]).length = out'.length + 1 + 1 from by simp, flat_append]; exact HO3.out⟩,
            ⟨by rw [HGL.out, List.map_append, List.map_append, List.map_cons, List.map_nil, List.map_cons, List.map_nil, glue_last, if_neg (show ¬ (pr x).1 ≤ (pr y).2 + 1 from by show ¬ x.f0 ≤ y.f1 + 1; omega)]⟩,
            ⟨by rw [List.all_append, hoo.out]; simp [HXO.out]⟩, ⟨HD3.out⟩, ⟨HB3.out⟩, hs3⟩, by simp [intOf]; omega⟩
    · have hk' : k = l.length := by omega
      have hfin : out = (canon (l.map pr)).map un := by
        rw [hk', ← HDL.out, List.take_length] at hout
        have h1 := united_eq (l.map pr) (d.map pr) (fun r => by simp only [List.mem_map]; constructor <;> (rintro ⟨x, hx, e⟩; first | exact ⟨x, (HDM.out x).1 hx, e⟩ | exact ⟨x, (HDM.out x).2 hx, e⟩))
          (fun r hr => by
            obtain ⟨x, hx, rfl⟩ := List.mem_map.1 hr
            have := List.all_eq_true.1 HOK.out x hx
            simp [okB] at this
            exact this.2.1)
          (by rw [List.pairwise_map]; exact HDP.out)
        rw [← h1, ← hout.out, List.map_map]
        exact (List.map_id' out).symm.trans (List.map_congr_left fun x _ => rfl)
      have hfl : out.length = (canon (l.map pr)).length := by rw [hfin, List.length_map]
      have HO9 := Lib.hid (show wr.ownsRow w.heap.size 28 2 u3 (canon (l.map pr)).length (flat ((canon (l.map pr)).map un)) from by
        rw [← hfl, ← hfin]; exact own_weaken ho.out hw2)
      clear hfin hfl hout
      have hlt' : ¬ (k : Int) < (l.length : Int) := by omega
      go_wp2
      go_ret
      exact ⟨_, rfl, HO9.out, hB.out⟩
theorem R_of_own {W : World} {base : Nat} {v : Value} {l : List S28} (h : W.ownsRow base 28 2 v l.length (flat l)) : Kd.R k28 28 W base (fun _ => True) v l := by
  refine ⟨fun _ _ => trivial, flat l, h, by rw [flat_length]; rfl, fun j p hj => ?_⟩
  obtain ⟨f1, f2⟩ := flat_at l j p hj
  have e : ((flat l).drop (j * k28.sz)).take k28.sz = [.int .i64 p.f0, .int .i64 p.f1] := by
    show ((flat l).drop (j * 2)).take 2 = _
    apply List.ext_getElem?
    intro i
    rw [List.getElem?_take, List.getElem?_drop]
    rcases (by omega : i = 0 ∨ i = 1 ∨ 2 ≤ i) with rfl | rfl | hi
    · rw [if_pos (by omega), Nat.add_zero, f1]; rfl
    · rw [if_pos (by omega), f2]; rfl
    · rw [if_neg (by omega), List.getElem?_eq_none (by simp; omega)]
  rw [e]
  exact k28_mkM _ _ _ p
theorem span_united.calls (A0 : Option Addr) (c0 : Nat) (l0 r : List S28) (w : World) (hr0 : Kd.C k28 w A0 l0.length l0) (_hc0 : l0.length ≤ c0) (h : span_united.f l0 = some r) :
    Calls Tryd.prog 45 #[.slice A0 l0.length c0] w fun e w' => ∃ v0_ : Value, e = .returned v0_ ∧ Kd.R k28 28 w' w.heap.size (fun _ => True) v0_ r ∧ Below w.heap.size w w' := by
  unfold span_united.f at h
  split at h
  · rename_i hb
    obtain rfl := Option.some.inj h
    by_cases hne : 0 < l0.length
    · refine (united_some A0 c0 l0 w hr0 hb.1 hb.2 hne).mono ?_
      rintro e w' ⟨v, he, ho, hB⟩
      exact ⟨v, he, R_of_own (by rw [List.length_map]; exact ho), hB⟩
    · have e : l0 = [] := List.length_eq_zero_iff.1 (by omega)
      subst e
      have hcl := clone_calls A0 c0 [] w hr0 hb.1
      clear hr0 h hb hne
      have e2 : (canon (List.map pr [])).map un = [] := rfl
      rw [e2]
      clear e2
      go_enter Tryd.func45, Tryd.ntmps45
      go_wp2_with (go_at_call 60; refine hcl.mono ?_; rintro e w1 ⟨v, rfl, hown, hb1⟩)
      obtain ⟨A1, c1, rfl⟩ := own_slice hown
      have HB1 := Lib.hid hb1
      clear hcl hown hb1
      go_wp2_with (go_at_call 61; refine (sort_none _ _ _ _).mono ?_; rintro e w2 ⟨rfl, rfl⟩)
      refine wp_loop_rounds 1 ?_
      rw [rounds_succ]
      go_wp2
      go_ret
      exact ⟨_, rfl, Kd.R_nil _ _ _ _ _, HB1.out⟩
  · cases h
end Go.Proofs.YtidcchopmbodkaaDoor.Sp
