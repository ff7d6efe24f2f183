import Derived.Test.YtidcchopmbodkaaDoorQj2
import Derived.Laws.CopyOwn
import Derived.Deep.RegionHeld3
section
namespace Go.Proofs.YtidcchopmbodkaaDoor.Sp
open Go.RowKit Go.Proofs.YtidcchopmbodkaaDoorW.PrintWords
theorem reps_flat {R : S28 → List Value → Prop} (h : ∀ x cs, R x cs → cs = enc28 x) {l : List S28} {cs : List Value} (hr : Reps R 2 l cs) : cs = flat l := by
  obtain ⟨h1, h2⟩ := hr
  apply List.ext_getElem?
  intro j
  by_cases hj : j < cs.length
  · have hjl : j / 2 < l.length := by omega
    have e := h _ _ (h2 (j / 2) _ (List.getElem?_eq_getElem hjl))
    have e1 : cs[j]? = ((cs.drop (j / 2 * 2)).take 2)[j % 2]? := by
      rw [List.getElem?_take, if_pos (by omega), List.getElem?_drop, show j / 2 * 2 + j % 2 = j from by omega]
    rw [e1, e]
    obtain ⟨f1, f2⟩ := flat_at l (j / 2) _ (List.getElem?_eq_getElem hjl)
    rcases (by omega : j % 2 = 0 ∨ j % 2 = 1) with h0 | h0
    · rw [h0, show (flat l)[j]? = (flat l)[j / 2 * 2]? from congrArg (fun i => (flat l)[i]?) (by omega), f1]; rfl
    · rw [h0, show (flat l)[j]? = (flat l)[j / 2 * 2 + 1]? from congrArg (fun i => (flat l)[i]?) (by omega), f2]; rfl
  · rw [List.getElem?_eq_none (by omega), List.getElem?_eq_none (by rw [flat_length]; omega)]
theorem own_of_R28 {W : World} {base : Nat} {ok : Nat → Prop} {v : Value} {l : List S28} (h : Kd.R k28 28 W base ok v l) : W.ownsRow base 28 2 v l.length (flat l) := by
  obtain ⟨_, inner, ho, hr⟩ := h
  have := reps_flat (fun x cs h => k28_open (k28.K_of_M h)) hr
  subst this
  exact ho
theorem R_of_own' {W : World} {base : Nat} {ok : Nat → Prop} {v : Value} {l : List S28} (h : W.ownsRow base 28 2 v l.length (flat l)) (hok : ∀ k, v.ownBlock = some k → ok k) : Kd.R k28 28 W base ok v l := by
  obtain ⟨_, inner, ho, hr⟩ := R_of_own h
  exact ⟨hok, inner, ho, hr.imp_ (fun p c hc => by
    have e : c = enc28 p := k28_open (k28.K_of_M hc)
    subst e
    exact k28_mkM _ _ _ p)⟩
theorem c28_src {w : World} {A : Option Addr} {l : List S28} (h : Kd.C k28 w A l.length l) (hn : 0 < l.length) : ∃ ad, A = some ad ∧ ∀ j u, (flat l)[j]? = some u → w.cell? (ad.add j) = some u := by
  obtain ⟨b, off, rfl, _, hc⟩ := c28_form h hn
  refine ⟨_, rfl, fun j u hu => ?_⟩
  obtain ⟨x, hx, hu2⟩ := flat_of hu
  obtain ⟨k0, k1⟩ := hc _ _ hx
  rw [show Addr.add ⟨b, off, none⟩ j = ⟨b, off + j, none⟩ from by simp [Addr.add]]
  rcases (by omega : j % 2 = 0 ∨ j % 2 = 1) with h0 | h0
  · rw [h0] at hu2
    rw [show off + j = off + j / 2 * 2 from by omega, k0]
    exact hu2
  · rw [h0] at hu2
    rw [show off + j = off + j / 2 * 2 + 1 from by omega, k1]
    exact hu2
theorem run_copy28 {P : Program} (w : World) (dT sT ty elem : TypeId) (g dLen dCap : Nat) (A : Option Addr) (sLen sCap : Nat) (cur : Array Value) (t : TypeId) (cs : List Value)
    (hu : P.underlying dT = some (.slice elem)) (hs : (P.info? elem).map (·.size) = some 2)
    (hg : w.heap[g]? = some (.cells cur t (0, 0))) (hle : sLen ≤ dLen) (hn : cs.length = sLen * 2)
    (hsrc : 0 < cs.length → ∃ a, A = some a ∧ ∀ j v, cs[j]? = some v → w.cell? (a.add j) = some v) (hfit : cs.length ≤ cur.size) (h1 : ∀ v ∈ cs, v.oneCell' = true) :
    (Builtin.copy_ #[dT, sT] ty #[.slice (some ⟨g, 0, none⟩) dLen dCap, .slice A sLen sCap]).run P w =
      .ok (goInt sLen) (w.setRow g (cs ++ cur.toList.drop cs.length).toArray) := by
  have hst := run_storeCells_at P g 0 t cs 0 cur w hg (by simpa using hfit) h1
  have hmin : Nat.min sLen dLen = sLen := Nat.min_eq_left hle
  cases hq : P.info? elem with
  | none => simp [hq] at hs
  | some i =>
    have hi : i.size = 2 := by simpa [hq] using hs
    cases A with
    | none =>
      have h0 : cs = [] := by
        cases cs with
        | nil => rfl
        | cons c r => obtain ⟨a, ha, _⟩ := hsrc (by simp); cases ha
      subst h0
      have h00 : sLen = 0 := by simp at hn; omega
      subst h00
      simp only [List.nil_append, List.length_nil, Nat.add_zero, List.drop_zero, List.take_zero, Array.toArray_toList] at hst ⊢
      simp [Builtin.copy_, run_underlying hu, Builtin.lenOf, Builtin.firstCells, sizeOf, typeInfo, hq, storeCells, setRow_self w g cur t (0, 0) hg]
    | some a =>
      have hl : (loadCells a cs.length).run P w = .ok cs.toArray w := by
        by_cases h0 : 0 < cs.length
        · obtain ⟨a', ha, hc⟩ := hsrc h0
          injection ha with ha; subst ha
          exact run_loadCells_list (P := P) w a cs hc
        · have : cs = [] := List.eq_nil_of_length_eq_zero (by omega)
          subst this
          simpa using run_loadCells_list (P := P) w a [] (by simp)
      rw [hn] at hl
      simp [Builtin.copy_, run_underlying hu, Builtin.lenOf, Builtin.firstCells, sizeOf, typeInfo, hq, hi, hmin, hl, hst]
theorem R_copy28 {P : Program} {ops : Array Oper} {Q : Exit → Act → World → Prop} {rest : List Oper} {a : Act} {o : Oper} {w0 W : World} (base : Nat) (hgd : o.guard = none) (s x : Operand) (t t' e : TypeId)
    (ho : o.op = .call { callee := .builtin .copy, args := #[s, x], argTypes := #[t, t'] }) (ht : P.underlying t = some (.slice e)) (hinfo : (P.info? e).map (·.size) = some 2)
    (v : Value) (xs ys : List S28) (A : Option Addr) (c : Nat) (ok : Nat → Prop) (hs : a.eval s = v) (hx : a.eval x = .slice A ys.length c)
    (HO : Kd.R k28 28 W base ok v xs) (HR : Kd.C k28 W A ys.length ys) (hle : ys.length ≤ xs.length) (hpos : 0 < xs.length) (HB : Below base w0 W) (hbase : base ≤ W.heap.size)
    (h : ∀ w1, Kd.R k28 28 w1 base ok v (ys ++ xs.drop ys.length) → Below base w0 w1 → W.grownBy w1 v.ownBlock → wpList P ops Q rest (a.put o.dst (.int .i64 ((ys.length : Nat) : Int))) w1) :
    wpList P ops Q (o :: rest) a W := by
  have hok := HO.1
  have hown := own_of_R28 HO
  rcases hown.2 with ⟨_, h0⟩ | ⟨g, cap, cur, rfl, hg, hh, hnc, hcm, hsz, htk⟩
  · omega
  have hf : (flat ys).length = ys.length * 2 := flat_length ys
  have hr := run_copy28 (P := P) W t t' o.type e g xs.length cap A ys.length c cur 28 (flat ys) ht hinfo hh hle hf (fun hp => c28_src HR (by omega)) (by rw [hf, hsz]; omega) (flat_one ys)
  have hgr : W.grownBy (W.setRow g ((flat ys) ++ cur.toList.drop (flat ys).length).toArray) (Value.slice (some ⟨g, 0, none⟩) xs.length cap).ownBlock := by
    refine ⟨rfl, rfl, rfl, by simp [World.setRow], fun k hk hne => setRow_other W g k _ fun e => hne (by rw [e]; rfl)⟩
  have hrow : (W.setRow g ((flat ys) ++ cur.toList.drop (flat ys).length).toArray).ownsRow base 28 2 (.slice (some ⟨g, 0, none⟩) xs.length cap) (ys ++ xs.drop ys.length).length (flat (ys ++ xs.drop ys.length)) := by
    have hl : (ys ++ xs.drop ys.length).length = xs.length := by rw [List.length_append, List.length_drop]; omega
    rw [hl]
    refine ⟨by rw [flat_length, hl], Or.inr ⟨g, cap, _, rfl, hg, setRow_heap W g cur _ 28 _ hh, hnc, hcm, ?_, ?_⟩⟩
    · simp only [List.size_toArray, List.length_append, List.length_drop, Array.length_toList]; rw [hf, hsz]; omega
    · rw [flat_append]
      have e2 : cur.toList = flat xs ++ cur.toList.drop (xs.length * 2) := by
        have := List.take_append_drop (xs.length * 2) cur.toList
        rw [htk] at this
        exact this.symm
      have e3 : flat (xs.drop ys.length) = (flat xs).drop (flat ys).length := by
        have : flat xs = flat (xs.take ys.length) ++ flat (xs.drop ys.length) := by rw [← flat_append, List.take_append_drop]
        have hl0 : (flat (xs.take ys.length)).length = (flat ys).length := by rw [hf, flat_length, List.length_take]; omega
        rw [this, ← hl0, List.drop_left]
      simp only
      rw [e2, List.drop_append_of_le_length (by rw [hf, flat_length]; omega), ← e3, ← List.append_assoc, ← flat_append]
      rw [List.take_append_of_le_length (by rw [flat_length, hl]; exact Nat.le_refl _), List.take_of_length_le (by rw [flat_length, hl]; exact Nat.le_refl _)]
  refine wpList_plain hgd fun K hK => ?_
  unfold Oper.wp execOp
  simp only [ho, resolve, invoke, builtin, Sem.run_bind, Sem.run_pure, Result.andThen_ok, List.map_toArray, List.map_cons, List.map_nil, hs, hx, hr]
  exact hK _ _ (h _ (R_of_own' hrow hok) (HB.grown hgr hbase (own_base hown)) hgr)
end Go.Proofs.YtidcchopmbodkaaDoor.Sp
end
section
namespace Go.Proofs.YtidcchopmbodkaaDoor.Sp
open Go.RowKit Go.Proofs.YtidcchopmbodkaaDoorW.PrintWords Go.Proofs.YtidcchopmbodkaaDoorW.PrintLast Go.Proofs.YtidcchopmbodkaaDoorW.PrintMore
theorem size28 : (Tryd.prog.info? 28).map (·.size) = some 2 := by kernel_rfl
def markB (i : Nat) : S28 := ⟨-7 - (i : Int), -9⟩
def roomB (n m : Nat) : Nat := if n < m + 4 then 2 * m + 40 else n
def layA (n : Nat) (l : List S28) : List S28 := l ++ (List.range' l.length (n - l.length)).map markB
theorem layA_len (n : Nat) (l : List S28) (h : l.length ≤ n) : (layA n l).length = n := by
  unfold layA; simp; omega
theorem layA_at (n : Nat) (l : List S28) (i : Nat) (h0 : l.length ≤ i) (h : i < n) : (layA n l)[i]? = some (markB i) := by
  unfold layA
  rw [List.getElem?_append_right h0, List.getElem?_map, List.getElem?_range' (by omega)]
  simp; congr 1; omega
def midA (n : Nat) (l xs : List S28) (i : Nat) : List S28 := (layA n l).take i ++ (l ++ xs.drop l.length).drop i
theorem midA_first (l xs : List S28) : midA xs.length l xs l.length = l ++ xs.drop l.length := by
  unfold midA layA
  rw [List.take_left, List.drop_left]
theorem midA_last (l xs : List S28) (h : l.length ≤ xs.length) : midA xs.length l xs xs.length = layA xs.length l := by
  unfold midA
  rw [List.take_of_length_le (by rw [layA_len _ _ h]; exact Nat.le_refl _), List.drop_of_length_le (by simp; omega), List.append_nil]
theorem midA_len (l xs : List S28) (i : Nat) (h : l.length ≤ xs.length) (hi : i ≤ xs.length) : (midA xs.length l xs i).length = xs.length := by
  unfold midA
  rw [List.length_append, List.length_take, layA_len _ _ h, List.length_drop, List.length_append, List.length_drop]
  omega
theorem midA_step (l xs : List S28) (i : Nat) (h : l.length ≤ i) (hi : i < xs.length) : (midA xs.length l xs i).set i (markB i) = midA xs.length l xs (i + 1) := by
  have hl := layA_len xs.length l (by omega)
  have ha := layA_at xs.length l i h hi
  unfold midA
  apply List.ext_getElem?
  intro j
  rw [List.getElem?_set]
  have hlen : ((layA xs.length l).take i ++ (l ++ xs.drop l.length).drop i).length = xs.length := midA_len l xs i (by omega) (by omega)
  have t1 : ((layA xs.length l).take i).length = i := by rw [List.length_take, hl]; omega
  have t2 : ((layA xs.length l).take (i + 1)).length = i + 1 := by rw [List.length_take, hl]; omega
  rcases (by omega : j < i ∨ j = i ∨ i < j) with hj | hj | hj
  · rw [if_neg (by omega), List.getElem?_append_left (by omega), List.getElem?_append_left (by omega), List.getElem?_take, List.getElem?_take, if_pos hj, if_pos (by omega)]
  · subst hj
    rw [if_pos rfl, if_pos (by rw [hlen]; exact hi), List.getElem?_append_left (by omega), List.getElem?_take, if_pos (by omega), ha]
  · rw [if_neg (by omega), List.getElem?_append_right (by omega), List.getElem?_append_right (by omega), List.getElem?_drop, List.getElem?_drop, t1, t2]
    congr 1; omega
set_option maxHeartbeats 4000000 in
set_option maxRecDepth 100000 in
theorem lay_calls (B : Nat) (v : Value) (xs : List S28) (A : Option Addr) (c : Nat) (l : List S28) (w : World) (ok : Nat → Prop) (hv : Kd.R k28 28 w B ok v xs) (hB : B ≤ w.heap.size)
    (hl : ∀ W', Kept w W' (fun k => some k = v.ownBlock) → Kd.C k28 W' A l.length l) (hn : l.length ≤ 100000) (hx : xs.length ≤ 8000000000000) :
    Calls Tryd.prog 58 #[v, .slice A l.length c] w fun e w' => ∃ v', e = .returned v' ∧ Kd.R k28 28 w' B (fun k => some k = v'.ownBlock) v' (layA (roomB xs.length l.length) l) ∧ (v'.ownBlock = v.ownBlock ∨ ∃ g, v'.ownBlock = some g ∧ w.heap.size ≤ g) ∧ Kept w w' (fun k => some k = v.ownBlock) ∧ Below B w w' := by
  have HV := Lib.hid (Kd.R_tight rfl hv)
  have HL := Lib.hid hl
  obtain ⟨A0, c0, rfl⟩ := Kd.R_slice hv
  have HBB := Lib.hid (Kd.R_base hv)
  clear hv hl
  go_enter Tryd.func58, Tryd.ntmps58
  go_upto_if 11 with fail
  go_cut [0] (fun v0 wc => ∃ (A1 : Option Addr) (c1 : Nat) (Y : List S28), v0 = .slice A1 Y.length c1 ∧ Aside0 (Y.length = roomB xs.length l.length) ∧ Aside0 (Kd.R k28 28 wc B (fun k => some k = (Value.slice A1 Y.length c1).ownBlock) (.slice A1 Y.length c1) Y) ∧
    Aside0 ((Value.slice A1 Y.length c1).ownBlock = (Value.slice A0 xs.length c0).ownBlock ∨ ∃ g, (Value.slice A1 Y.length c1).ownBlock = some g ∧ w.heap.size ≤ g) ∧ Aside0 (Kept w wc (fun k => some k = (Value.slice A0 xs.length c0).ownBlock)) ∧ Aside0 (Below B w wc))
  case first =>
    by_cases hlt : xs.length < l.length + 4
    · have d1 : decide ((xs.length : Int) < (l.length : Int) + 4) = true := decide_eq_true (by omega)
      have i1 : ((2 * (l.length : Int) + 40)).toNat = 2 * l.length + 40 := by omega
      go_wp2_with ((with_reducible refine gate_dst (N := 16) rfl ?_); refine Kd.R_make k28 B 28 rfl (N := 16) rfl 23 _ _ rfl (2 * (l.length : Int) + 40) rfl rfl Tryd.underlying23 (.agg #[(.int .i64 0), (.int .i64 0)]) 16 info28 rfl (by decide) (by omega) z28 (ok := fun _ => True) (okp := fun _ => True) (k28_mkM _ _ _ z28) (fun _ hk => hk) trivial (by omega) (by omega) (Below.refl _ _) hB ?_; intro v1 w1 hR hb hg hnew; have HBA := Lib.hid hb; clear hb)
      rw [i1] at hR
      have hR' := Kd.R_tight rfl hR
      obtain ⟨A1, c1, rfl⟩ := Kd.R_slice hR
      rw [List.length_replicate] at hR'
      have HR' := Lib.hid hR'
      have HN' := Lib.hid hnew
      have HG' := Lib.hid hg
      clear hR hR' hnew hg
      go_wp2
      go_meet
      exact ⟨A1, c1, List.replicate (2 * l.length + 40) z28, by rw [List.length_replicate], ⟨by unfold roomB; rw [if_pos hlt, List.length_replicate]⟩, ⟨by rw [List.length_replicate]; exact HR'.out⟩, ⟨Or.inr (by rw [List.length_replicate] at *; exact HN'.out)⟩, ⟨(Kept.refl _ _).of_grown HG'.out (fun k hk => by cases hk)⟩, ⟨HBA.out⟩⟩
    · have d1 : decide ((xs.length : Int) < (l.length : Int) + 4) = false := decide_eq_false (by omega)
      go_wp2
      go_meet
      exact ⟨A0, c0, xs, rfl, ⟨by unfold roomB; rw [if_neg hlt]⟩, ⟨HV.out⟩, ⟨Or.inl rfl⟩, ⟨Kept.refl _ _⟩, ⟨Below.refl _ _⟩⟩
  case rest =>
    obtain ⟨A1, c1, Y, rfl, HN, HR, HO, HK, HBC⟩ := hcut
    have hY : l.length + 4 ≤ Y.length := by rw [HN.out]; unfold roomB; split <;> omega
    have hY2 : Y.length ≤ 8000000000000 := by rw [HN.out]; unfold roomB; split <;> omega
    have hBc : B ≤ wc.heap.size := Nat.le_trans hB HK.out.1
    go_wp2_with ((with_reducible refine gate_dst (N := 19) rfl ?_); go_loud (refine R_copy28 (w0 := wc) B rfl _ _ 23 23 28 rfl Tryd.underlying23 size28 (.slice A1 Y.length c1) Y l A c _ rfl rfl HR.out (HL.out wc HK.out) (by omega) (by omega) (Below.refl _ _) hBc ?_); intro w1 hR hb hg; have HB1 := Lib.hid (HBC.out.trans hb); clear hb HBC)
    have hm0 := midA_first l Y
    rw [← hm0] at hR
    have HR1 := Lib.hid hR
    have HK1 := Lib.hid (HK.out.of_grown hg (fun k hk => by
      rcases HO.out with h | ⟨g, h, hle⟩
      · exact Or.inl (by rw [← hk, h])
      · exact Or.inr (by rw [h] at hk; injection hk with hk; omega)))
    clear hR hm0 hg
    go_wp2_with fail
    go_loopw [5] (fun i W => ∃ k : Nat, i = .int .i64 k ∧ l.length ≤ k ∧ k ≤ Y.length ∧ Aside0 (Kd.R k28 28 W B (fun k => some k = (Value.slice A1 Y.length c1).ownBlock) (.slice A1 Y.length c1) (midA Y.length l Y k)) ∧ Aside0 (Kept w W (fun k => some k = (Value.slice A0 xs.length c0).ownBlock)) ∧ Aside0 (Below B w W)) (fun i _ => Y.length - (intOf i).toNat)
    case atStart => exact ⟨l.length, rfl, Nat.le_refl _, by omega, ⟨HR1.out⟩, ⟨HK1.out⟩, ⟨HB1.out⟩⟩
    case round =>
      obtain ⟨k, rfl, hk1, hk2, HRk, HKk, HBk⟩ := hrel
      clear HR1 HK1 HR HK HB1
      by_cases hlt : k < Y.length
      · have hst := midA_step l Y k hk1 hlt
        have hml := midA_len l Y k (by omega) (by omega)
        have HST := Lib.hid hst
        obtain ⟨g, cp, e, hg1, hg2, _⟩ := Kd.R_form HRk.out (by omega)
        rw [hml] at e
        injection e with e1 e2 e3
        subst e1; subst e3
        have hBw : B ≤ wr.heap.size := Nat.le_trans hB HKk.out.1
        obtain ⟨ce, hcl, hM, hcc, _⟩ := Kd.R_elem HRk.out z28 (k : Int) (by omega) (by omega)
        have HCC := Lib.hid hcc
        have HCL := Lib.hid hcl
        have hne : IntKind.i64.wrap (-7 - (k : Int)) = -7 - (k : Int) := IntWalk.i64_in _ (by omega)
        clear hst hml hM hcc hcl
        have i1 : (0 : Int) ≤ (k : Int) := by omega
        have i2 : (k : Int) < (Y.length : Int) := by omega
        go_wp2_with ((with_reducible refine gate_store (t := 28) (p := 33) rfl ?_); go_loud (refine Kd.R_store k28 (w0 := wr) B rfl rfl 28 _ _ rfl 28 (k : Int) 0 (midA Y.length l Y k) (markB k) (.agg #[.int .i64 (-7 - (k : Int)), .int .i64 (-9)]) [.int .i64 (-7 - (k : Int)), .int .i64 (-9)] ce _ (fun _ => False) (by rfl) (by simp; rfl) (by rfl) rfl size28 (by simp [Value.oneCell']) HRk.out i1 i2 HCL.out HCC.out (show 0 + 2 ≤ 2 from by omega) (by rw [List.take_zero, List.nil_append, List.drop_of_length_le (by rw [HCL.out]; exact Nat.le_refl 2), List.append_nil]; exact k28_mkM _ _ _ (markB k)) (fun _ hk => hk.elim) (Below.refl _ _) ?_); intro w2 hR2 hb2 hg2; have HB2 := Lib.hid (HBk.out.trans hb2); clear hb2)
        rw [show (k : Int).toNat = k from by omega, HST.out] at hR2
        have HR2 := Lib.hid hR2
        have HK2 := Lib.hid (HKk.out.of_grown hg2 (fun q hq => by
          rcases HO.out with h | ⟨g', h, hle⟩
          · exact Or.inl (by rw [← hq, ← h]; rfl)
          · have h1 : some g = some g' := h
            injection h1 with h1
            injection hq with hq
            exact Or.inr (by omega)))
        clear hR2 hg2
        go_wp2
        exact ⟨⟨k + 1, by go_num, by omega, by omega, ⟨HR2.out⟩, ⟨HK2.out⟩, ⟨HB2.out⟩⟩, by simp [intOf]; omega⟩
      · have hk' : k = Y.length := by omega
        subst hk'
        have hlast := midA_last l Y (by omega)
        go_wp2
        go_ret
        exact ⟨_, rfl, by rw [← HN.out, ← hlast]; exact HRk.out, HO.out, HKk.out, HBk.out⟩
end Go.Proofs.YtidcchopmbodkaaDoor.Sp
end
section
namespace Go.Proofs.YtidcchopmbodkaaDoor.Sp
open Go.RowKit Go.Proofs.YtidcchopmbodkaaDoorW.PrintWords
def ones (vs : List Value) : List (List Value) := vs.map fun v => [v]
theorem ones_len (vs : List Value) : (ones vs).length = vs.length := List.length_map _
theorem ones_set (vs : List Value) (i : Nat) (v : Value) : (ones vs).set i [v] = ones (vs.set i v) := by unfold ones; rw [List.map_set]
theorem ones_snoc (vs : List Value) (v : Value) : ones vs ++ [[v]] = ones (vs ++ [v]) := by unfold ones; rw [List.map_append]; rfl
theorem ones_at (vs : List Value) (i : Nat) (v : Value) (h : vs[i]? = some v) : (ones vs)[i]? = some [v] := by unfold ones; rw [List.getElem?_map, h]; rfl
structure Dj (B p : Nat) (W : World) (iv tv : Value) (vals : List Value) (xss : List (List S28)) (tvs : List Value) : Prop where
  hp : W.heap[p]? = some (.cells #[.slice none 0 0, .slice none 0 0, iv, tv] 55 (0, 0))
  pB : B ≤ p
  ri : (Kd.raw 1).R 23 W B (fun k => some k = iv.ownBlock) iv (ones vals)
  rt : (Kd.raw 1).R 23 W B (fun k => some k = tv.ownBlock) tv (ones tvs)
  len : vals.length = xss.length
  rows : ∀ (i : Nat) (v : Value) (xs : List S28), vals[i]? = some v → xss[i]? = some xs → Kd.R k28 28 W B (fun k => some k = v.ownBlock) v xs
  nd : ∀ (i j : Nat) (v u : Value), i ≠ j → vals[i]? = some v → vals[j]? = some u → ∀ k, v.ownBlock = some k → u.ownBlock ≠ some k
  it : ∀ k, iv.ownBlock = some k → tv.ownBlock ≠ some k
  sz : ∀ xs ∈ xss, xs.length ≤ 6040
  n1 : xss.length ≤ 3000
  n2 : tvs.length ≤ 6040
def DM (p : Nat) (iv tv : Value) (vals : List Value) : Nat → Prop := Mset p (iv :: tv :: vals)
section
variable {B p : Nat} {W W1 : World} {iv tv : Value} {vals : List Value} {xss : List (List S28)} {tvs : List Value}
theorem Dj.row (h : Dj B p W iv tv vals xss tvs) (i : Nat) (v : Value) (hv : vals[i]? = some v) : ∃ xs, xss[i]? = some xs ∧ Kd.R k28 28 W B (fun k => some k = v.ownBlock) v xs ∧ xs.length ≤ 6040 := by
  have hi : i < vals.length := (List.getElem?_eq_some_iff.1 hv).1
  have hx : xss[i]? = some (xss[i]'(by have := h.len; omega)) := List.getElem?_eq_getElem (by have := h.len; omega)
  exact ⟨_, hx, h.rows i v _ hv hx, h.sz _ (List.getElem_mem _)⟩
theorem Dj.base (h : Dj B p W iv tv vals xss tvs) : ∀ k, DM p iv tv vals k → B ≤ k ∧ k < W.heap.size := by
  rintro k (rfl | ⟨v, hm, ho⟩)
  · exact ⟨h.pB, blk_lt h.hp⟩
  · rcases List.mem_cons.1 hm with rfl | hm
    · exact ⟨Kd.R_base h.ri k ho, Kd.R_lt h.ri k ho⟩
    rcases List.mem_cons.1 hm with rfl | hm
    · exact ⟨Kd.R_base h.rt k ho, Kd.R_lt h.rt k ho⟩
    obtain ⟨i, hi⟩ := List.mem_iff_getElem?.1 hm
    obtain ⟨xs, _, hr, _⟩ := h.row i v hi
    exact ⟨Kd.R_base hr k ho, Kd.R_lt hr k ho⟩
theorem Dj.below (h : Dj B p W iv tv vals xss tvs) (hb : Below W.heap.size W W1) : Dj B p W1 iv tv vals xss tvs :=
  ⟨blk_below h.hp hb, h.pB, Kd.R_below h.ri hb, Kd.R_below h.rt hb, h.len, fun i v xs h1 h2 => Kd.R_below (h.rows i v xs h1 h2) hb, h.nd, h.it, h.sz, h.n1, h.n2⟩
theorem Dj.kept {S : Nat → Prop} (h : Dj B p W iv tv vals xss tvs) (hk : Kept W W1 S) (hS : ∀ k, DM p iv tv vals k → ¬ S k) : Dj B p W1 iv tv vals xss tvs :=
  ⟨blk_kept h.hp hk (hS p (Or.inl rfl)), h.pB, Kd.R_kept h.ri hk (fun k hk => hS k (Or.inr ⟨iv, by simp, hk.symm⟩)), Kd.R_kept h.rt hk (fun k hk => hS k (Or.inr ⟨tv, by simp, hk.symm⟩)), h.len,
    fun i v xs h1 h2 => Kd.R_kept (h.rows i v xs h1 h2) hk (fun k hk => hS k (Or.inr ⟨v, by simp [List.mem_of_getElem? h1], hk.symm⟩)), h.nd, h.it, h.sz, h.n1, h.n2⟩
theorem Dj.neI (h : Dj B p W iv tv vals xss tvs) (i : Nat) (v : Value) (hv : vals[i]? = some v) (k : Nat) (hk : v.ownBlock = some k) : some k ≠ iv.ownBlock ∧ some k ≠ tv.ownBlock ∧ k ≠ p := by
  obtain ⟨xs, _, hr, _⟩ := h.row i v hv
  obtain ⟨cells, hc⟩ := Kd.R_typed hr k hk
  exact ⟨Kd.R_ne h.ri hc (by decide), Kd.R_ne h.rt hc (by decide), fun e => blk_ne hc h.hp (by decide) e⟩
theorem Dj.neP (h : Dj B p W iv tv vals xss tvs) : some p ≠ iv.ownBlock ∧ some p ≠ tv.ownBlock := ⟨Kd.R_ne h.ri h.hp (by decide), Kd.R_ne h.rt h.hp (by decide)⟩
theorem Dj.push (h : Dj B p W iv tv vals xss tvs) {v1 : Value} (hk : Kept W W1 (fun k => some k = iv.ownBlock)) (hR : (Kd.raw 1).R 23 W1 B (fun k => some k = v1.ownBlock) v1 (ones (vals ++ [Value.slice none 0 0]))) (hat : Onto W iv v1) (hn : xss.length < 3000) :
    Dj B p (W1.setCell ⟨p, 2, none⟩ v1) v1 tv (vals ++ [Value.slice none 0 0]) (xss ++ [[]]) tvs := by
  have hlt : ∀ k, tv.ownBlock = some k → v1.ownBlock ≠ some k := by
    intro k h1 h2
    rcases hat with hat | ⟨b, hb, hle⟩
    · exact h.it k (hat ▸ h2) h1
    · rw [hb] at h2
      injection h2 with h2
      have := Kd.R_lt h.rt k h1
      omega
  have hp1 := blk_kept h.hp hk h.neP.1
  have hpv : ∀ k, some k = v1.ownBlock → k ≠ p := fun k hk he => Kd.R_ne hR hp1 (by decide) (by rw [← he]; exact hk)
  refine ⟨blk_put hp1 2 v1 rfl, h.pB, Kd.R_far (p := ⟨p, 2, none⟩) hR hpv v1, Kd.R_far (p := ⟨p, 2, none⟩) (Kd.R_kept h.rt hk (fun k h1 h2 => h.it k h2.symm h1.symm)) (fun k h1 he => h.neP.2 (by rw [← h1, he])) v1, by simp [h.len], fun i v xs h1 h2 => ?_, fun i j v u hij h1 h2 k h3 => ?_, fun k h1 h2 => hlt k h2 h1, fun xs hx => ?_, by simp; omega, h.n2⟩
  · by_cases hi : i < vals.length
    · rw [List.getElem?_append_left hi] at h1
      rw [List.getElem?_append_left (by have := h.len; omega)] at h2
      exact Kd.R_far (p := ⟨p, 2, none⟩) (Kd.R_kept (h.rows i v xs h1 h2) hk (fun k h3 h4 => (h.neI i v h1 k h3.symm).1 h4)) (fun k h3 he => (h.neI i v h1 k h3.symm).2.2 he) v1
    · have hi2 : i < (vals ++ [Value.slice none 0 0]).length := (List.getElem?_eq_some_iff.1 h1).1
      have hi3 : i = vals.length := by simp at hi2; omega
      subst hi3
      rw [List.getElem?_append_right (Nat.le_refl _), Nat.sub_self] at h1
      rw [List.getElem?_append_right (by have := h.len; omega), show vals.length - xss.length = 0 from by have := h.len; omega] at h2
      simp only [List.getElem?_cons_zero, Option.some.injEq] at h1 h2
      subst h1; subst h2
      exact Kd.R_nil _ _ _ _ _
  · have hnil : ∀ (i : Nat) (v : Value), (vals ++ [Value.slice none 0 0])[i]? = some v → vals[i]? = some v ∨ v = Value.slice none 0 0 := by
      intro i v hv
      by_cases hi : i < vals.length
      · rw [List.getElem?_append_left hi] at hv; exact Or.inl hv
      · rw [List.getElem?_append_right (by omega)] at hv
        have := List.mem_of_getElem? hv
        exact Or.inr (List.mem_singleton.1 this)
    rcases hnil i v h1 with h1 | rfl
    · rcases hnil j u h2 with h2 | rfl
      · exact h.nd i j v u hij h1 h2 k h3
      · simp [Value.ownBlock]
    · simp [Value.ownBlock] at h3
  · rcases List.mem_append.1 hx with hx | hx
    · exact h.sz xs hx
    · rw [List.mem_singleton.1 hx]; simp
theorem Dj.news (h : Dj B p W iv tv vals xss tvs) {v1 : Value} {ts : List Value} (hb : Below W.heap.size W W1) (hR : (Kd.raw 1).R 23 W1 B (fun k => some k = v1.ownBlock) v1 (ones ts)) (hat : ∀ k, v1.ownBlock = some k → W.heap.size ≤ k) (hn : ts.length ≤ 6040) :
    Dj B p (W1.setCell ⟨p, 3, none⟩ v1) iv v1 vals xss ts := by
  have hp1 := blk_below h.hp hb
  have hpv : ∀ k, some k = v1.ownBlock → k ≠ p := fun k hk he => Kd.R_ne hR hp1 (by decide) (by rw [← he]; exact hk)
  refine ⟨blk_put hp1 3 v1 rfl, h.pB, Kd.R_far (p := ⟨p, 3, none⟩) (Kd.R_below h.ri hb) (fun k h1 he => h.neP.1 (by rw [← h1, he])) v1, Kd.R_far (p := ⟨p, 3, none⟩) hR hpv v1, h.len, fun i v xs h1 h2 => ?_, h.nd, fun k h1 h2 => ?_, h.sz, h.n1, hn⟩
  · exact Kd.R_far (p := ⟨p, 3, none⟩) (Kd.R_below (h.rows i v xs h1 h2) hb) (fun k h3 he => (h.neI i v h1 k h3.symm).2.2 he) v1
  · have := hat k h2
    have := Kd.R_lt h.ri k h1
    omega
theorem Dj.put (h : Dj B p W iv tv vals xss tvs) {ts : List Value} (hk : Kept W W1 (fun k => some k = tv.ownBlock)) (hR : (Kd.raw 1).R 23 W1 B (fun k => some k = tv.ownBlock) tv (ones ts)) (hn : ts.length ≤ 6040) : Dj B p W1 iv tv vals xss ts :=
  ⟨blk_kept h.hp hk h.neP.2, h.pB, Kd.R_kept h.ri hk (fun k h1 h2 => h.it k h1.symm h2.symm), hR, h.len, fun i v xs h1 h2 => Kd.R_kept (h.rows i v xs h1 h2) hk (fun k h3 h4 => (h.neI i v h1 k h3.symm).2.1 h4), h.nd, h.it, h.sz, h.n1, hn⟩
theorem Dj.relay (h : Dj B p W iv tv vals xss tvs) {W2 : World} {i : Nat} {v v1 : Value} {xs1 : List S28} (hv : vals[i]? = some v) (hk : Kept W W1 (fun k => some k = v.ownBlock)) (hR : Kd.R k28 28 W1 B (fun k => some k = v1.ownBlock) v1 xs1) (hat : Onto W v v1) (hx1 : xs1.length ≤ 6040)
    (hk2 : Kept W1 W2 (fun k => some k = iv.ownBlock)) (hR2 : (Kd.raw 1).R 23 W2 B (fun k => some k = iv.ownBlock) iv (ones (vals.set i v1))) : Dj B p W2 iv tv (vals.set i v1) (xss.set i xs1) tvs := by
  have hown : ∀ k, some k = v.ownBlock → some k ≠ iv.ownBlock ∧ some k ≠ tv.ownBlock ∧ k ≠ p := fun k hk => h.neI i v hv k hk.symm
  have hil : i < vals.length := (List.getElem?_eq_some_iff.1 hv).1
  have hri1 := Kd.R_kept h.ri hk (fun k h1 h2 => (hown k h2).1 h1)
  have hv1i : ∀ k, some k = v1.ownBlock → some k ≠ iv.ownBlock := by
    intro k hk1
    obtain ⟨cells, hc⟩ := Kd.R_typed hR k hk1.symm
    exact Kd.R_ne hri1 hc (by decide)
  refine ⟨blk_kept (blk_kept h.hp hk (fun h1 => (hown p h1).2.2 rfl)) hk2 h.neP.1, h.pB, hR2, Kd.R_kept (Kd.R_kept h.rt hk (fun k h1 h2 => (hown k h2).2.1 h1)) hk2 (fun k h1 h2 => h.it k h2.symm h1.symm), by simp [h.len], fun j u ys h1 h2 => ?_, fun j l u z hjl h1 h2 k h3 => ?_, h.it, fun ys hy => ?_, by simp; exact h.n1, h.n2⟩
  · by_cases hj : i = j
    · subst hj
      rw [List.getElem?_set_self hil] at h1
      rw [List.getElem?_set_self (by have := h.len; omega)] at h2
      obtain rfl := Option.some.inj h1
      obtain rfl := Option.some.inj h2
      exact Kd.R_kept hR hk2 hv1i
    · rw [List.getElem?_set_ne hj] at h1 h2
      exact Kd.R_kept (Kd.R_kept (h.rows j u ys h1 h2) hk (fun k h3 h4 => h.nd i j v u hj hv h1 k h4.symm h3.symm)) hk2 (fun k h3 h4 => (h.neI j u h1 k h3.symm).1 h4)
  · have hnew : ∀ (j : Nat) (u : Value), i ≠ j → vals[j]? = some u → ∀ k, u.ownBlock = some k → v1.ownBlock ≠ some k := by
      intro j u hj hu k hk1 hk2'
      rcases hat with hat | ⟨b, hb, hle⟩
      · exact h.nd i j v u hj hv hu k (hat ▸ hk2') hk1
      · rw [hb] at hk2'
        injection hk2' with hk2'
        obtain ⟨xs, _, hr, _⟩ := h.row j u hu
        have := Kd.R_lt hr k hk1
        omega
    by_cases hj : i = j
    · subst hj
      rw [List.getElem?_set_self hil] at h1
      obtain rfl := Option.some.inj h1
      rw [List.getElem?_set_ne hjl] at h2
      exact fun h4 => hnew l z hjl h2 k h4 h3
    · rw [List.getElem?_set_ne hj] at h1
      by_cases hl : i = l
      · subst hl
        rw [List.getElem?_set_self hil] at h2
        obtain rfl := Option.some.inj h2
        exact hnew j u hj h1 k h3
      · rw [List.getElem?_set_ne hl] at h2
        exact h.nd j l u z hjl h1 h2 k h3
  · rcases List.mem_or_eq_of_mem_set hy with hy | rfl
    · exact h.sz ys hy
    · exact hx1
end
theorem raw_cell {W : World} {B g n cap : Nat} {ok : Nat → Prop} {vs : List Value} (h : (Kd.raw 1).R 23 W B ok (.slice (some ⟨g, 0, none⟩) n cap) (ones vs)) (i : Nat) (v : Value) (hv : vs[i]? = some v) : W.cell? ⟨g, i, none⟩ = some v ∧ W.frozen? ⟨g, i, none⟩ = false ∧ g < W.heap.size ∧ B ≤ g := by
  have hil : i < vs.length := (List.getElem?_eq_some_iff.1 hv).1
  have hn : n = vs.length := by rw [(Kd.R_reads' h).1, ones_len]
  obtain ⟨c, _, hM, hcc, hfz⟩ := Kd.R_elem h [] (i : Int) (by omega) (by omega)
  rw [Int.toNat_natCast] at hM hcc hfz
  have e : (ones vs).getD i [] = [v] := by rw [List.getD_eq_getElem?_getD, ones_at vs i v hv]; rfl
  rw [e] at hM
  have e4 : c = [v] := hM.1
  subst e4
  have h1 := hcc 0 _ rfl
  rw [show i * (Kd.raw 1).sz + 0 = i from by show i * 1 + 0 = i; omega] at h1
  obtain ⟨cells, hc⟩ := Kd.R_typed h g rfl
  exact ⟨h1, blk_frozen hc i, blk_lt hc, Kd.R_base h g rfl⟩
theorem raw_set {W : World} {B g n cap : Nat} {ok : Nat → Prop} {vs : List Value} (h : (Kd.raw 1).R 23 W B ok (.slice (some ⟨g, 0, none⟩) n cap) (ones vs)) (i : Nat) (hi : i < vs.length) (u : Value) (hu : u.oneCell' = true) :
    (Kd.raw 1).R 23 (W.setCell ⟨g, i, none⟩ u) B ok (.slice (some ⟨g, 0, none⟩) n cap) (ones (vs.set i u)) ∧ W.grownBy (W.setCell ⟨g, i, none⟩ u) (some g) := by
  have hn : n = vs.length := by rw [(Kd.R_reads' h).1, ones_len]
  obtain ⟨c, hcl, hM, hcc, _⟩ := Kd.R_elem h [] (i : Int) (by omega) (by omega)
  rw [Int.toNat_natCast] at hcc
  have hcl' : c.length = 1 := hcl
  have hs := Kd.R_seg (okp := fun _ => False) (x' := [u]) (seg := [u]) (j := 0) h (i : Int) (by omega) (by omega) hcl (by rw [Int.toNat_natCast]; exact hcc) (show 0 + 1 ≤ 1 from by omega) (by
    rw [List.take_zero, List.nil_append, List.drop_of_length_le (by rw [hcl']; exact Nat.le_refl 1), List.append_nil]
    exact ⟨rfl, rfl, fun q hq => by rw [List.mem_singleton.1 hq]; exact hu⟩) (fun _ hk => hk.elim)
  rw [Int.toNat_natCast, ones_set, show i * (Kd.raw 1).sz + 0 = i from by show i * 1 + 0 = i; omega] at hs
  exact hs
end Go.Proofs.YtidcchopmbodkaaDoor.Sp
end
section
namespace Go
section
variable {P : Program} {ops : Array Oper} {Q : Exit → Act → World → Prop} {md : Region.Mode} {S S1 : World → Prop}
end
end Go
end
section
namespace Go.Proofs.YtidcchopmbodkaaDoor.Sp
open Go.RowKit Go.Proofs.YtidcchopmbodkaaDoorW.PrintWords
end Go.Proofs.YtidcchopmbodkaaDoor.Sp
end
section
namespace Go.Proofs.YtidcchopmbodkaaDoor.Sp
open Go.RowKit Go.Proofs.YtidcchopmbodkaaDoorW.PrintWords Go.Proofs.YtidcchopmbodkaaDoorW.PrintLast Go.Proofs.YtidcchopmbodkaaDoorW.PrintMore
def markN (i : Nat) : Int := -7 - (i : Int)
def layN (n : Nat) (l : List Int) : List Int := l ++ (List.range' l.length (n - l.length)).map markN
theorem layN_len (n : Nat) (l : List Int) (h : l.length ≤ n) : (layN n l).length = n := by
  unfold layN; simp; omega
theorem layN_take (n : Nat) (l : List Int) : (layN n l).take l.length = l := by unfold layN; exact List.take_left
theorem roomB_ge' (n m : Nat) : m + 4 ≤ roomB n m := by unfold roomB; split <;> omega
end Go.Proofs.YtidcchopmbodkaaDoor.Sp
end
section
namespace Go.Proofs.YtidcchopmbodkaaDoor.Sp
open Go.RowKit Go.Proofs.YtidcchopmbodkaaDoorW.PrintWords Go.Proofs.YtidcchopmbodkaaDoorW.PrintLast Go.Proofs.YtidcchopmbodkaaDoorW.PrintMore
attribute [local go_sem] max2_int min2_int max_two min_two max_three min_three max_four min_four   -- for this text's walks alone
set_option linter.unusedVariables false
set_option linter.unusedSimpArgs false
theorem eqA28 (d : Nat) (w : World) (x0 y0 : Int) (x1 y1 : Int) :
    (Op.equalIn (d + 2) 28 (.agg #[.int .i64 x0, .int .i64 x1]) (.agg #[.int .i64 y0, .int .i64 y1])).run Tryd.prog w = .ok (x0 == y0 && (x1 == y1)) w := by
  refine eqA_of Tryd.underlying28 (by kernel_rfl) ?_
  refine eqf_cons (by rfl) (by go_simp; rfl) (by go_simp; rfl) (by go_simp) ?_
  exact eqf_last (by rfl) (by go_simp; rfl) (by go_simp; rfl) (by go_simp)
end Go.Proofs.YtidcchopmbodkaaDoor.Sp
end
section
namespace Go.Proofs.YtidcchopmbodkaaDoor.Sp
open Go.RowKit Go.Proofs.YtidcchopmbodkaaDoorW.PrintWords Go.Proofs.YtidcchopmbodkaaDoorW.PrintLast Go.Proofs.YtidcchopmbodkaaDoorW.PrintMore
attribute [local go_sem] max2_int min2_int max_two min_two max_three min_three max_four min_four   -- for this text's walks alone
set_option linter.unusedVariables false
set_option linter.unusedSimpArgs false
end Go.Proofs.YtidcchopmbodkaaDoor.Sp
end
section
namespace Go.Proofs.YtidcchopmbodkaaDoor.Sp
open Go.RowKit Go.Proofs.YtidcchopmbodkaaDoorW.PrintWords Go.Proofs.YtidcchopmbodkaaDoorW.PrintLast Go.Proofs.YtidcchopmbodkaaDoorW.PrintMore
attribute [local go_sem] max2_int min2_int max_two min_two max_three min_three max_four min_four   -- for this text's walks alone
set_option linter.unusedVariables false
set_option linter.unusedSimpArgs false
def span_Least.l0 : Nat → List (S28) → List Int → Int → Int → Option ((List (S28)))
 | 0, _, _, _, _ => none
 | k + 1, x3, x6, x7, x8 => if x8 < x7 then (if 0 ≤ x8 then (if x8 < (x6.length : Int) then (if (rd x6 x8) ≥ 1 then (if (rd x6 x8) ≤ 4294967295 then (if x3.length < 8796093022208 then (span_Least.l0 k (x3 ++ [(⟨rd x6 x8, rd x6 x8⟩ : S28)]) x6 x7 (wrap64 (x8 + 1))) else (none)) else (span_Least.l0 k x3 x6 x7 (wrap64 (x8 + 1)))) else (span_Least.l0 k x3 x6 x7 (wrap64 (x8 + 1)))) else (none)) else (none)) else ((span_united.f x3).bind fun t105 => (some t105))
def span_Least.f (k : Nat) (l0 : List Int) : Option ((List (S28))) := span_Least.l0 k ([] : List (S28)) l0 (l0.length : Int) 0
set_option maxHeartbeats 8000000 in
set_option maxRecDepth 100000 in
theorem span_Least.calls (k : Nat) (A0 : Option Addr) (c0 : Nat) (l0 : List Int) (r : List (S28)) (w : World) (hr0 : Kd.C (Kd.int .i64) w A0 l0.length l0) (hc0 : l0.length ≤ c0) (h : span_Least.f k l0 = some r) :
  Calls Tryd.prog 15 #[.slice A0 l0.length c0] w fun e w' => ∃ v0_ : Value, e = .returned (v0_) ∧ Kd.R k28 28 w' w.heap.size (fun _ => True) v0_ r ∧ Below w.heap.size w w' := by
 have hu28 := Tryd.underlying28
 have HR0 := Aside0.mk hr0
 have HC0 := Aside0.mk hc0
 clear hr0 hc0
 have HB := Aside0.mk (Below.refl w.heap.size w)
 have H : (span_Least.l0 k ([] : List (S28)) l0 (l0.length : Int) 0) = some r := h
 clear h
 have H' := Aside0.mk H
 clear H
 go_enter Tryd.func15, Tryd.ntmps15
 go_wp2
 go_loopg [3, 8] k (fun kq v3 v8 w' => ∃ (x3_1 : List (S28)) (x8_1 : Int), v8 = .int .i64 x8_1 ∧ Aside0 (span_Least.l0 kq x3_1 l0 (l0.length : Int) x8_1 = some r) ∧ Aside0 (kq ≤ k) ∧ Aside0 (Kd.R k28 28 w' w.heap.size (fun _ => True) v3 x3_1) ∧ Aside0 (Below w.heap.size w w'))
 case atStart => exact ⟨(([] : List (S28))), (0), (by first | rfl | (simp; done) | (simp [*]; done)), H', ⟨Nat.le_refl _⟩, ⟨by first | exact Kd.R_nil _ _ _ _ _ | exact Kd.N_nil _ _ _ _ _ | exact Kd.V_nil _ _ _ _ _ | exact Kd.Q_nil _ _ _ _ _ | exact Kd.S_nil _ _ _ _ _⟩, ⟨by repeat (first | (with_reducible first | exact HB.out | apply below_alloc | apply pw_below_drewN | apply below_drew1) | exact HB.out)⟩⟩
 case round =>
  clear H'
  try clear c1
  obtain ⟨x3_1, x8_1, rfl, HA, HK1, HO_3, HB⟩ := hrel
  cases gk with
  | zero => exact absurd HA.out (by simp [span_Least.l0])
  | succ k1 =>
   have H := HA.out
   clear HA
   simp only [span_Least.l0] at H
   by_cases c2 : x8_1 < (l0.length : Int)
   ·rw [if_pos c2] at H
    have c2b0 : decide (x8_1 < (l0.length : Int)) = true := decide_eq_true c2
    clear c2
    by_cases c3 : 0 ≤ x8_1
    ·rw [if_pos c3] at H
     have c3b0 : decide (0 ≤ x8_1) = true := decide_eq_true c3
     clear c3
     by_cases c4 : x8_1 < (l0.length : Int)
     ·rw [if_pos c4] at H
      have c4b0 : decide (x8_1 < (l0.length : Int)) = true := decide_eq_true c4
      clear c4
      by_cases c5 : (rd l0 x8_1) ≥ 1
      ·rw [if_pos c5] at H
       have c5b0 : decide (1 ≤ (rd l0 x8_1)) = true := decide_eq_true c5
       clear c5
       by_cases c6 : (rd l0 x8_1) ≤ 4294967295
       ·rw [if_pos c6] at H
        have c6b0 : decide ((rd l0 x8_1) ≤ 4294967295) = true := decide_eq_true c6
        clear c6
        by_cases c7 : x3_1.length < 8796093022208
        ·rw [if_pos c7] at H
         have LMc7 := Aside0.mk c7
         clear c7
         obtain ⟨y102, hy102⟩ : ∃ y_ : List (S28), y_ = (x3_1 ++ [(⟨rd l0 x8_1, rd l0 x8_1⟩ : S28)]) := ⟨_, rfl⟩
         replace H : (span_Least.l0 k1 y102 l0 (l0.length : Int) (wrap64 (x8_1 + 1))) = some r := by first | (rw [hy102]; with_reducible exact H) | (have H2_ := (Option.bind_some _ _).symm.trans H; rw [hy102]; with_reducible exact H2_) | (have H2_ := (Option.bind_some _ _).symm.trans H; with_reducible exact H2_) | with_reducible exact H | (rw [hy102]; exact H) | exact H
         have Ny102 := Aside0.mk hy102
         clear hy102
         have H' := Aside0.mk H
         clear H
         have p101 : 0 ≤ (x8_1 : Int) := of_decide_eq_true (by first | (with_reducible assumption) | assumption)
         have q101 : x8_1 < (l0.length : Int) := of_decide_eq_true (by first | (with_reducible assumption) | assumption)
         obtain ⟨ad101, e101, hx101_0⟩ := Kd.at_int HR0.out x8_1 p101 q101
         cases e101
         replace hx101_0 := (HB.out.cell (World.block_lt_of_cell? w _ hx101_0)).trans hx101_0
         replace p101 := eq_true p101
         replace q101 := eq_true q101
         go_wp2_with (first | ((with_reducible refine gate_builtin (b := .append) (xs := #[.tmp 18, .tmp 22]) rfl ?_); at_builtin; refine Kd.R_append k28 (w0 := w) w.heap.size rfl (.tmp 18) (.tmp 22) 23 28 (.agg #[(.int .i64 0), (.int .i64 0)]) 16 rfl Tryd.underlying23 info28 rfl (by decide) (by omega) u3 x3_1 (⟨rd l0 x8_1, rd l0 x8_1⟩ : S28) [.int .i64 (rd l0 x8_1), .int .i64 (rd l0 x8_1)] (fun _ => True) (fun _ => False) rfl rfl ?aP (fun _ hk => hk.elim) ?aF ?aO ?aB ?aS ?aL ?_; (case aP => exact k28_mkM _ _ _ (⟨rd l0 x8_1, rd l0 x8_1⟩ : S28)); (case aB => exact (by repeat (first | (with_reducible first | exact HB.out | apply below_alloc | apply pw_below_drewN | apply below_drew1) | exact HB.out))); (case aF => exact (fun _ _ => trivial)); (case aO => exact (by (with_reducible repeat (first | apply Kd.R_alloc | apply Kd.R_drewN | apply Kd.R_drew)); exact HO_3.out)); (case aS => exact (below_size (by repeat (first | (with_reducible first | exact HB.out | apply below_alloc | apply pw_below_drewN | apply below_drew1) | exact HB.out)))); (case aL => have := LMc7.out; omega); intro v103 w8 ho hb hg hat; rw [← Ny102.out] at ho; have n0_ := Aside0.mk (hb); have n1_ := Aside0.mk (ho); clear HB; clear HO_3; have HB := n0_; have HO104 := n1_; clear n0_ n1_; clear ho hb hg hat))
         go_roundg k1
         case measure => have := HK1.out; omega
         case rel => exact ⟨(y102), (wrap64 (x8_1 + 1)), (by first | rfl | (simp; done) | (simp [*]; done)), H', ⟨by have := HK1.out; omega⟩, ⟨by (with_reducible repeat (first | apply Kd.R_alloc | apply Kd.R_drewN | apply Kd.R_drew)); exact HO104.out⟩, ⟨by repeat (first | (with_reducible first | exact HB.out | apply below_alloc | apply pw_below_drewN | apply below_drew1) | exact HB.out)⟩⟩
        ·rw [if_neg c7] at H
         exact absurd H (by simp)
       ·rw [if_neg c6] at H
        have c6b0 : decide ((rd l0 x8_1) ≤ 4294967295) = false := decide_eq_false c6
        clear c6
        have H' := Aside0.mk H
        clear H
        have p101 : 0 ≤ (x8_1 : Int) := of_decide_eq_true (by first | (with_reducible assumption) | assumption)
        have q101 : x8_1 < (l0.length : Int) := of_decide_eq_true (by first | (with_reducible assumption) | assumption)
        obtain ⟨ad101, e101, hx101_0⟩ := Kd.at_int HR0.out x8_1 p101 q101
        cases e101
        replace hx101_0 := (HB.out.cell (World.block_lt_of_cell? w _ hx101_0)).trans hx101_0
        replace p101 := eq_true p101
        replace q101 := eq_true q101
        go_wp2
        go_roundg k1
        case measure => have := HK1.out; omega
        case rel => exact ⟨(x3_1), (wrap64 (x8_1 + 1)), (by first | rfl | (simp; done) | (simp [*]; done)), H', ⟨by have := HK1.out; omega⟩, ⟨by (with_reducible repeat (first | apply Kd.R_alloc | apply Kd.R_drewN | apply Kd.R_drew)); exact HO_3.out⟩, ⟨by repeat (first | (with_reducible first | exact HB.out | apply below_alloc | apply pw_below_drewN | apply below_drew1) | exact HB.out)⟩⟩
      ·rw [if_neg c5] at H
       have c5b0 : decide (1 ≤ (rd l0 x8_1)) = false := decide_eq_false c5
       clear c5
       have H' := Aside0.mk H
       clear H
       have p101 : 0 ≤ (x8_1 : Int) := of_decide_eq_true (by first | (with_reducible assumption) | assumption)
       have q101 : x8_1 < (l0.length : Int) := of_decide_eq_true (by first | (with_reducible assumption) | assumption)
       obtain ⟨ad101, e101, hx101_0⟩ := Kd.at_int HR0.out x8_1 p101 q101
       cases e101
       replace hx101_0 := (HB.out.cell (World.block_lt_of_cell? w _ hx101_0)).trans hx101_0
       replace p101 := eq_true p101
       replace q101 := eq_true q101
       go_wp2
       go_roundg k1
       case measure => have := HK1.out; omega
       case rel => exact ⟨(x3_1), (wrap64 (x8_1 + 1)), (by first | rfl | (simp; done) | (simp [*]; done)), H', ⟨by have := HK1.out; omega⟩, ⟨by (with_reducible repeat (first | apply Kd.R_alloc | apply Kd.R_drewN | apply Kd.R_drew)); exact HO_3.out⟩, ⟨by repeat (first | (with_reducible first | exact HB.out | apply below_alloc | apply pw_below_drewN | apply below_drew1) | exact HB.out)⟩⟩
     ·rw [if_neg c4] at H
      exact absurd H (by simp)
    ·rw [if_neg c3] at H
     exact absurd H (by simp)
   ·rw [if_neg c2] at H
    have c2b0 : decide (x8_1 < (l0.length : Int)) = false := decide_eq_false c2
    clear c2
    replace H := Option.bind_eq_some_iff.mp H
    obtain ⟨t105, A90, H⟩ := H
    replace H : (some t105) = some r := H
    have A9 := Aside0.mk A90
    clear A90
    obtain rfl := Option.some.inj H
    obtain ⟨Ao10, co10, eo10⟩ := Kd.R_slice HO_3.out
    subst eo10
    go_wp2_with (first | ((with_reducible refine gate_callee (f := 45) rfl ?_); refine goesL_ (some 26) rfl rfl Tryd.func45 (by kernel_rfl) rfl #[.slice Ao10 x3_1.length co10] rfl (by (try simp only [List.map_toArray, List.map_cons, List.map_nil]); first | done | rfl | (simp only [List.length_drop, List.length_take]; rfl)) ?_; (with_reducible refine (span_united.calls _ _ x3_1 t105 _ ?side1 ?side2 A9.out).mono ?_); (case side1 => repeat (first | exact (Kd.R_reads' HO_3.out).2.2 | (with_reducible refine Kd.C_alloc ?_ _) | (with_reducible refine Kd.C_drewN ?_ _) | (with_reducible refine Kd.C_drew ?_))); (case side2 => exact (Kd.R_reads' HO_3.out).2.1); rintro e w11 ⟨v106, rfl, ho0, hb⟩; refine ⟨_, rfl, ?_⟩; have n0_ := Aside0.mk (Kd.R_elder' (by (with_reducible repeat (first | apply Kd.R_alloc | apply Kd.R_drewN | apply Kd.R_drew)); exact HO_3.out) (Kd.R_base ho0) hb); have n1_ := Aside0.mk (Kd.R_lower (Kd.R_new' ho0 (Kd.R_lt (by (with_reducible repeat (first | apply Kd.R_alloc | apply Kd.R_drewN | apply Kd.R_drew)); exact HO_3.out))) (below_size (by repeat (first | (with_reducible first | exact HB.out | apply below_alloc | apply pw_below_drewN | apply below_drew1) | exact HB.out)))); have n2_ := Aside0.mk (below_step (by repeat (first | (with_reducible first | exact HB.out | apply below_alloc | apply pw_below_drewN | apply below_drew1) | exact HB.out)) hb); clear HO_3; clear HB; have HO_3 := n0_; have HO107 := n1_; have HB := n2_; clear n0_ n1_ n2_; (try clear hb); (try clear hb2); (try clear hk); (try clear hi); (try clear ho0)))
    go_ret
    exact ⟨_, by first | rfl | (simp [errW_none, errW_some] <;> rfl) | (simp [*, errW_none, errW_some] <;> rfl), by (with_reducible repeat (first | apply Kd.R_alloc | apply Kd.R_drewN | apply Kd.R_drew)); exact Kd.R_mono HO107.out (fun _ hk => trivial), by repeat (first | (with_reducible first | exact HB.out | apply below_alloc | apply pw_below_drewN | apply below_drew1) | exact HB.out)⟩
end Go.Proofs.YtidcchopmbodkaaDoor.Sp
end
section
namespace Go.Proofs.YtidcchopmbodkaaDoor.Sp
open Go.RowKit Go.Proofs.YtidcchopmbodkaaDoorW.PrintWords Go.Proofs.YtidcchopmbodkaaDoorW.PrintLast Go.Proofs.YtidcchopmbodkaaDoorW.PrintMore
attribute [local go_sem] max2_int min2_int max_two min_two max_three min_three max_four min_four   -- for this text's walks alone
set_option linter.unusedVariables false
set_option linter.unusedSimpArgs false
def span_Of.l0 : Nat → List (S28) → List Int → List Int → List Int → Int → Int → Option (List Int)
 | 0, _, _, _, _, _, _ => none
 | k + 1, x0, x1, x5, x8, x9, x10 => if x10 < x9 then (if 0 ≤ x10 then (if x10 < (x8.length : Int) then (if 0 ≤ (wrap64 ((x1.length : Int) - 1)) then (if (wrap64 ((x1.length : Int) - 1)) < (x1.length : Int) then ((span_Has.f x0 (rd x8 x10) (rd x1 (wrap64 ((x1.length : Int) - 1)))).bind fun t118 => (if t118 = true then (if x5.length < 17592186044416 then (span_Of.l0 k x0 x1 (x5 ++ [rd x8 x10]) x8 x9 (wrap64 (x10 + 1))) else (none)) else (span_Of.l0 k x0 x1 x5 x8 x9 (wrap64 (x10 + 1))))) else (none)) else (none)) else (none)) else (none)) else (some x5)
def span_Of.f (k : Nat) (l0 : List (S28)) (l1 : List Int) : Option (List Int) := span_Of.l0 k l0 l1 ([] : List Int) l1 (l1.length : Int) 0
set_option maxHeartbeats 8000000 in
set_option maxRecDepth 100000 in
theorem span_Of.calls (k : Nat) (A0 : Option Addr) (c0 : Nat) (l0 : List (S28)) (A1 : Option Addr) (c1 : Nat) (l1 : List Int) (r : List Int) (w : World) (hr0 : Kd.C k28 w A0 l0.length l0) (hc0 : l0.length ≤ c0) (hr1 : Kd.C (Kd.int .i64) w A1 l1.length l1) (hc1 : l1.length ≤ c1) (h : span_Of.f k l0 l1 = some r) :
  Calls Tryd.prog 19 #[.slice A0 l0.length c0, .slice A1 l1.length c1] w fun e w' => ∃ v0_ : Value, e = .returned (v0_) ∧ Kd.R (Kd.int .i64) 3 w' w.heap.size (fun _ => True) v0_ r ∧ Below w.heap.size w w' := by
 have HR0 := Aside0.mk hr0
 have HC0 := Aside0.mk hc0
 clear hr0 hc0
 have HR1 := Aside0.mk hr1
 have HC1 := Aside0.mk hc1
 clear hr1 hc1
 have HB := Aside0.mk (Below.refl w.heap.size w)
 have H : (span_Of.l0 k l0 l1 ([] : List Int) l1 (l1.length : Int) 0) = some r := h
 clear h
 have H' := Aside0.mk H
 clear H
 go_enter Tryd.func19, Tryd.ntmps19
 go_wp2
 go_loopg [5, 10] k (fun kq v5 v10 w' => ∃ (x5_1 : List Int) (x10_1 : Int), v10 = .int .i64 x10_1 ∧ Aside0 (span_Of.l0 kq l0 l1 x5_1 l1 (l1.length : Int) x10_1 = some r) ∧ Aside0 (kq ≤ k) ∧ Aside0 (Kd.R (Kd.int .i64) 3 w' w.heap.size (fun _ => True) v5 x5_1) ∧ Aside0 (Below w.heap.size w w'))
 case atStart => exact ⟨(([] : List Int)), (0), (by first | rfl | (simp; done) | (simp [*]; done)), H', ⟨Nat.le_refl _⟩, ⟨by first | exact Kd.R_nil _ _ _ _ _ | exact Kd.N_nil _ _ _ _ _ | exact Kd.V_nil _ _ _ _ _ | exact Kd.Q_nil _ _ _ _ _ | exact Kd.S_nil _ _ _ _ _⟩, ⟨by repeat (first | (with_reducible first | exact HB.out | apply below_alloc | apply pw_below_drewN | apply below_drew1) | exact HB.out)⟩⟩
 case round =>
  clear H'
  try clear c1
  try clear p2
  obtain ⟨x5_1, x10_1, rfl, HA, HK1, HO_5, HB⟩ := hrel
  cases gk with
  | zero => exact absurd HA.out (by simp [span_Of.l0])
  | succ k1 =>
   have H := HA.out
   clear HA
   simp only [span_Of.l0] at H
   by_cases c3 : x10_1 < (l1.length : Int)
   ·rw [if_pos c3] at H
    have c3b0 : decide (x10_1 < (l1.length : Int)) = true := decide_eq_true c3
    clear c3
    by_cases c4 : 0 ≤ x10_1
    ·rw [if_pos c4] at H
     have c4b0 : decide (0 ≤ x10_1) = true := decide_eq_true c4
     clear c4
     by_cases c5 : x10_1 < (l1.length : Int)
     ·rw [if_pos c5] at H
      have c5b0 : decide (x10_1 < (l1.length : Int)) = true := decide_eq_true c5
      clear c5
      obtain ⟨ji6, hji6⟩ : ∃ j_ : Int, (wrap64 ((l1.length : Int) - 1)) = j_ := ⟨_, rfl⟩
      replace H : (if 0 ≤ (ji6) then (if (ji6) < (l1.length : Int) then ((span_Has.f l0 (rd l1 x10_1) (rd l1 (ji6))).bind fun t118 => (if t118 = true then (if x5_1.length < 17592186044416 then (span_Of.l0 k1 l0 l1 (x5_1 ++ [rd l1 x10_1]) l1 (l1.length : Int) (wrap64 (x10_1 + 1))) else (none)) else (span_Of.l0 k1 l0 l1 x5_1 l1 (l1.length : Int) (wrap64 (x10_1 + 1))))) else (none)) else (none)) = some r := by first | (rw [hji6] at H; exact H) | (simp only [hji6] at H ⊢; exact H)
      have hji6w : (IntKind.i64.wrap ((l1.length : Int) - 1)) = ji6 := (i64_w _).trans hji6
      by_cases c7 : 0 ≤ (ji6)
      ·rw [if_pos c7] at H
       have c7b0 : decide (0 ≤ (ji6)) = true := decide_eq_true c7
       clear c7
       by_cases c8 : (ji6) < (l1.length : Int)
       ·rw [if_pos c8] at H
        have c8b0 : decide ((ji6) < (l1.length : Int)) = true := decide_eq_true c8
        clear c8
        replace H := Option.bind_eq_some_iff.mp H
        obtain ⟨t118, A90, H⟩ := H
        replace H : (if t118 = true then (if x5_1.length < 17592186044416 then (span_Of.l0 k1 l0 l1 (x5_1 ++ [rd l1 x10_1]) l1 (l1.length : Int) (wrap64 (x10_1 + 1))) else (none)) else (span_Of.l0 k1 l0 l1 x5_1 l1 (l1.length : Int) (wrap64 (x10_1 + 1)))) = some r := H
        have A9 := Aside0.mk A90
        clear A90
        by_cases c10 : t118 = true
        ·subst c10
         have H1 : (if x5_1.length < 17592186044416 then (span_Of.l0 k1 l0 l1 (x5_1 ++ [rd l1 x10_1]) l1 (l1.length : Int) (wrap64 (x10_1 + 1))) else (none)) = some r := by rw [if_pos rfl] at H; exact H
         clear H
         have H := H1
         clear H1
         by_cases c11 : x5_1.length < 17592186044416
         ·rw [if_pos c11] at H
          have LMc11 := Aside0.mk c11
          clear c11
          obtain ⟨y119, hy119⟩ : ∃ y_ : List Int, y_ = (x5_1 ++ [rd l1 x10_1]) := ⟨_, rfl⟩
          replace H : (span_Of.l0 k1 l0 l1 y119 l1 (l1.length : Int) (wrap64 (x10_1 + 1))) = some r := by first | (rw [hy119]; with_reducible exact H) | (have H2_ := (Option.bind_some _ _).symm.trans H; rw [hy119]; with_reducible exact H2_) | (have H2_ := (Option.bind_some _ _).symm.trans H; with_reducible exact H2_) | with_reducible exact H | (rw [hy119]; exact H) | exact H
          have Ny119 := Aside0.mk hy119
          clear hy119
          have H' := Aside0.mk H
          clear H
          have p116 : 0 ≤ (x10_1 : Int) := of_decide_eq_true (by first | (with_reducible assumption) | assumption)
          have q116 : x10_1 < (l1.length : Int) := of_decide_eq_true (by first | (with_reducible assumption) | assumption)
          obtain ⟨ad116, e116, hx116_0⟩ := Kd.at_int HR1.out x10_1 p116 q116
          cases e116
          replace hx116_0 := (HB.out.cell (World.block_lt_of_cell? w _ hx116_0)).trans hx116_0
          replace p116 := eq_true p116
          replace q116 := eq_true q116
          have p117 : 0 ≤ ((ji6) : Int) := of_decide_eq_true (by first | (with_reducible assumption) | assumption)
          have q117 : (ji6) < (l1.length : Int) := of_decide_eq_true (by first | (with_reducible assumption) | assumption)
          obtain ⟨ad117, e117, hx117_0⟩ := Kd.at_int HR1.out (ji6) p117 q117
          obtain rfl : ad116 = ad117 := (by injection e117)
          replace hx117_0 := (HB.out.cell (World.block_lt_of_cell? w _ hx117_0)).trans hx117_0
          replace p117 := eq_true p117
          replace q117 := eq_true q117
          go_wp2_with (first | ((with_reducible refine gate_callee (f := 17) rfl ?_); refine goesL_ (some 22) rfl rfl Tryd.func17 (by kernel_rfl) rfl #[.slice A0 l0.length c0, .int .i64 (rd l1 x10_1), .int .i64 (rd l1 (ji6))] rfl (by (try simp only [List.map_toArray, List.map_cons, List.map_nil]); first | done | (simp only [hji6]; rfl) | rfl | (simp only [List.length_drop, List.length_take]; rfl)) ?_; (with_reducible refine (span_Has.calls _ _ l0 (rd l1 x10_1) (rd l1 (ji6)) true _ ?side1 ?side2 A9.out).mono ?_); (case side1 => repeat (first | exact (Kd.C_below HR0.out HB.out) | (with_reducible refine Kd.C_alloc ?_ _) | (with_reducible refine Kd.C_drewN ?_ _) | (with_reducible refine Kd.C_drew ?_))); (case side2 => exact HC0.out); rintro e w12 ⟨rfl, hb⟩; refine ⟨_, rfl, ?_⟩; have n0_ := Aside0.mk (Kd.R_below (by (with_reducible repeat (first | apply Kd.R_alloc | apply Kd.R_drewN | apply Kd.R_drew)); exact HO_5.out) hb); have n1_ := Aside0.mk (below_step (by repeat (first | (with_reducible first | exact HB.out | apply below_alloc | apply pw_below_drewN | apply below_drew1) | exact HB.out)) hb); clear HO_5; clear HB; have HO_5 := n0_; have HB := n1_; clear n0_ n1_; (try clear hb); (try clear hb2); (try clear hk); (try clear hi)) | ((with_reducible refine gate_builtin (b := .append) (xs := #[.tmp 23, .tmp 25]) rfl ?_); at_builtin; refine Kd.R_append (Kd.int .i64) (w0 := w) w.heap.size rfl (.tmp 23) (.tmp 25) 22 3 (.int .i64 0) 8 rfl Tryd.underlying22 info3 rfl (by decide) (by omega) u5 x5_1 (rd l1 x10_1) [.int .i64 (rd l1 x10_1)] (fun _ => True) (fun _ => False) rfl rfl ?aP (fun _ hk => hk.elim) ?aF ?aO ?aB ?aS ?aL ?_; (case aP => exact rfl); (case aB => exact (by repeat (first | (with_reducible first | exact HB.out | apply below_alloc | apply pw_below_drewN | apply below_drew1) | exact HB.out))); (case aF => exact (fun _ _ => trivial)); (case aO => exact (by (with_reducible repeat (first | apply Kd.R_alloc | apply Kd.R_drewN | apply Kd.R_drew)); exact HO_5.out)); (case aS => exact (below_size (by repeat (first | (with_reducible first | exact HB.out | apply below_alloc | apply pw_below_drewN | apply below_drew1) | exact HB.out)))); (case aL => have := LMc11.out; omega); intro v120 w13 ho hb hg hat; rw [← Ny119.out] at ho; have n0_ := Aside0.mk (hb); have n1_ := Aside0.mk (ho); clear HB; clear HO_5; have HB := n0_; have HO121 := n1_; clear n0_ n1_; clear ho hb hg hat))
          go_roundg k1
          case measure => have := HK1.out; omega
          case rel => exact ⟨(y119), (wrap64 (x10_1 + 1)), (by first | rfl | (simp; done) | (simp [*]; done)), H', ⟨by have := HK1.out; omega⟩, ⟨by (with_reducible repeat (first | apply Kd.R_alloc | apply Kd.R_drewN | apply Kd.R_drew)); exact HO121.out⟩, ⟨by repeat (first | (with_reducible first | exact HB.out | apply below_alloc | apply pw_below_drewN | apply below_drew1) | exact HB.out)⟩⟩
         ·rw [if_neg c11] at H
          exact absurd H (by simp)
        ·replace c10 := Bool.eq_false_iff.mpr c10
         subst c10
         have H1 : (span_Of.l0 k1 l0 l1 x5_1 l1 (l1.length : Int) (wrap64 (x10_1 + 1))) = some r := by rw [if_neg (show ¬ (false = true) by decide)] at H; exact H
         clear H
         have H := H1
         clear H1
         have H' := Aside0.mk H
         clear H
         have p116 : 0 ≤ (x10_1 : Int) := of_decide_eq_true (by first | (with_reducible assumption) | assumption)
         have q116 : x10_1 < (l1.length : Int) := of_decide_eq_true (by first | (with_reducible assumption) | assumption)
         obtain ⟨ad116, e116, hx116_0⟩ := Kd.at_int HR1.out x10_1 p116 q116
         cases e116
         replace hx116_0 := (HB.out.cell (World.block_lt_of_cell? w _ hx116_0)).trans hx116_0
         replace p116 := eq_true p116
         replace q116 := eq_true q116
         have p117 : 0 ≤ ((ji6) : Int) := of_decide_eq_true (by first | (with_reducible assumption) | assumption)
         have q117 : (ji6) < (l1.length : Int) := of_decide_eq_true (by first | (with_reducible assumption) | assumption)
         obtain ⟨ad117, e117, hx117_0⟩ := Kd.at_int HR1.out (ji6) p117 q117
         obtain rfl : ad116 = ad117 := (by injection e117)
         replace hx117_0 := (HB.out.cell (World.block_lt_of_cell? w _ hx117_0)).trans hx117_0
         replace p117 := eq_true p117
         replace q117 := eq_true q117
         go_wp2_with (first | ((with_reducible refine gate_callee (f := 17) rfl ?_); refine goesL_ (some 22) rfl rfl Tryd.func17 (by kernel_rfl) rfl #[.slice A0 l0.length c0, .int .i64 (rd l1 x10_1), .int .i64 (rd l1 (ji6))] rfl (by (try simp only [List.map_toArray, List.map_cons, List.map_nil]); first | done | (simp only [hji6]; rfl) | rfl | (simp only [List.length_drop, List.length_take]; rfl)) ?_; (with_reducible refine (span_Has.calls _ _ l0 (rd l1 x10_1) (rd l1 (ji6)) false _ ?side1 ?side2 A9.out).mono ?_); (case side1 => repeat (first | exact (Kd.C_below HR0.out HB.out) | (with_reducible refine Kd.C_alloc ?_ _) | (with_reducible refine Kd.C_drewN ?_ _) | (with_reducible refine Kd.C_drew ?_))); (case side2 => exact HC0.out); rintro e w14 ⟨rfl, hb⟩; refine ⟨_, rfl, ?_⟩; have n0_ := Aside0.mk (Kd.R_below (by (with_reducible repeat (first | apply Kd.R_alloc | apply Kd.R_drewN | apply Kd.R_drew)); exact HO_5.out) hb); have n1_ := Aside0.mk (below_step (by repeat (first | (with_reducible first | exact HB.out | apply below_alloc | apply pw_below_drewN | apply below_drew1) | exact HB.out)) hb); clear HO_5; clear HB; have HO_5 := n0_; have HB := n1_; clear n0_ n1_; (try clear hb); (try clear hb2); (try clear hk); (try clear hi)))
         go_roundg k1
         case measure => have := HK1.out; omega
         case rel => exact ⟨(x5_1), (wrap64 (x10_1 + 1)), (by first | rfl | (simp; done) | (simp [*]; done)), H', ⟨by have := HK1.out; omega⟩, ⟨by (with_reducible repeat (first | apply Kd.R_alloc | apply Kd.R_drewN | apply Kd.R_drew)); exact HO_5.out⟩, ⟨by repeat (first | (with_reducible first | exact HB.out | apply below_alloc | apply pw_below_drewN | apply below_drew1) | exact HB.out)⟩⟩
       ·rw [if_neg c8] at H
        exact absurd H (by simp)
      ·rw [if_neg c7] at H
       exact absurd H (by simp)
     ·rw [if_neg c5] at H
      exact absurd H (by simp)
    ·rw [if_neg c4] at H
     exact absurd H (by simp)
   ·rw [if_neg c3] at H
    have c3b0 : decide (x10_1 < (l1.length : Int)) = false := decide_eq_false c3
    clear c3
    obtain rfl := Option.some.inj H
    go_wp2
    go_ret
    exact ⟨_, by first | rfl | (simp [errW_none, errW_some] <;> rfl) | (simp [*, errW_none, errW_some] <;> rfl), by (with_reducible repeat (first | apply Kd.R_alloc | apply Kd.R_drewN | apply Kd.R_drew)); exact HO_5.out, by repeat (first | (with_reducible first | exact HB.out | apply below_alloc | apply pw_below_drewN | apply below_drew1) | exact HB.out)⟩
end Go.Proofs.YtidcchopmbodkaaDoor.Sp
end
section
namespace Go.Proofs.YtidcchopmbodkaaDoor.Sp
open Go.RowKit Go.Proofs.YtidcchopmbodkaaDoorW.PrintWords Go.Proofs.YtidcchopmbodkaaDoorW.PrintLast Go.Proofs.YtidcchopmbodkaaDoorW.PrintMore
attribute [local go_sem] max2_int min2_int max_two min_two max_three min_three max_four min_four   -- for this text's walks alone
set_option linter.unusedVariables false
set_option linter.unusedSimpArgs false
end Go.Proofs.YtidcchopmbodkaaDoor.Sp
end
section
namespace Go.Proofs.YtidcchopmbodkaaDoor.Sp
open Go.RowKit Go.Proofs.YtidcchopmbodkaaDoorW.PrintWords Go.Proofs.YtidcchopmbodkaaDoorW.PrintLast Go.Proofs.YtidcchopmbodkaaDoorW.PrintMore
attribute [local go_sem] max2_int min2_int max_two min_two max_three min_three max_four min_four   -- for this text's walks alone
set_option linter.unusedVariables false
set_option linter.unusedSimpArgs false
attribute [local go_sem high] eqA28
def postbaglaw4_same.l0 : Nat → List (S28) → List (S28) → Int → Option (Bool)
 | 0, _, _, _ => none
 | k + 1, x0, x1, x5 => if x5 < (x0.length : Int) then (if 0 ≤ x5 then (if x5 < (x1.length : Int) then (if (!(((rd_T28 x0 x5).f0) == ((rd_T28 x1 x5).f0)) || (!(((rd_T28 x0 x5).f1) == ((rd_T28 x1 x5).f1)))) = true then (some false) else (postbaglaw4_same.l0 k x0 x1 (wrap64 (x5 + 1)))) else (none)) else (none)) else (some true)
def postbaglaw4_same.f (k : Nat) (l0 : List (S28)) (l1 : List (S28)) : Option (Bool) := if (l0.length : Int) = (l1.length : Int) then (postbaglaw4_same.l0 k l0 l1 0) else (some false)
set_option maxHeartbeats 8000000 in
set_option maxRecDepth 100000 in
theorem postbaglaw4_same.calls (k : Nat) (A0 : Option Addr) (c0 : Nat) (l0 : List (S28)) (A1 : Option Addr) (c1 : Nat) (l1 : List (S28)) (r : Bool) (w : World) (hr0 : Kd.C k28 w A0 l0.length l0) (hc0 : l0.length ≤ c0) (hr1 : Kd.C k28 w A1 l1.length l1) (hc1 : l1.length ≤ c1) (h : postbaglaw4_same.f k l0 l1 = some r) :
  Calls Tryd.prog 26 #[.slice A0 l0.length c0, .slice A1 l1.length c1] w fun e w' => e = .returned (.bool r) ∧ Drawn0 w w' := by
 have hu28 := Tryd.underlying28
 have HR0 := Aside0.mk hr0
 have HC0 := Aside0.mk hc0
 clear hr0 hc0
 have HR1 := Aside0.mk hr1
 have HC1 := Aside0.mk hc1
 clear hr1 hc1
 have H : (if (l0.length : Int) = (l1.length : Int) then (postbaglaw4_same.l0 k l0 l1 0) else (some false)) = some r := h
 clear h
 by_cases c3 : (l0.length : Int) = (l1.length : Int)
 ·rw [if_pos c3] at H
  have c3b0 : ((l0.length : Int) == (l1.length : Int)) = true := beq_iff_eq.mpr c3
  have c3b1 : ((l0.length : Int) != (l1.length : Int)) = false := bne_eq_false_iff_eq.mpr c3
  have c3b2 : (l0.length == l1.length) = true := by first | simpa using c3 | (simp at c3 ⊢; omega)
  clear c3
  have H' := Aside0.mk H
  clear H
  go_enter Tryd.func26, Tryd.ntmps26
  go_wp2
  repeat (go_quiet (fail); try go_wp2)
  go_loopg [5] k (fun kq v5 w' => ∃ (x5_1 : Int), v5 = .int .i64 x5_1 ∧ Aside0 (postbaglaw4_same.l0 kq l0 l1 x5_1 = some r) ∧ Aside0 (kq ≤ k) ∧ Drawn0 w w')
  case atStart => exact ⟨(0), (by first | rfl | (simp; done) | (simp [*]; done)), H', ⟨Nat.le_refl _⟩, by repeat (first | exact Drawn0.refl _ | apply Drawn0.step)⟩
  case round =>
   clear H'
   try clear c1
   try clear c2
   try clear p2
   try clear c3
   try clear c3b0
   try clear c3b1
   try clear c3b2
   obtain ⟨x5_1, rfl, HA, HK1, ⟨m1, rfl⟩⟩ := hrel
   cases gk with
   | zero => exact absurd HA.out (by simp [postbaglaw4_same.l0])
   | succ k1 =>
    have H := HA.out
    clear HA
    simp only [postbaglaw4_same.l0] at H
    by_cases c4 : x5_1 < (l0.length : Int)
    ·rw [if_pos c4] at H
     have c4b0 : decide (x5_1 < (l0.length : Int)) = true := decide_eq_true c4
     clear c4
     by_cases c5 : 0 ≤ x5_1
     ·rw [if_pos c5] at H
      have c5b0 : decide (0 ≤ x5_1) = true := decide_eq_true c5
      clear c5
      by_cases c6 : x5_1 < (l1.length : Int)
      ·rw [if_pos c6] at H
       have c6b0 : decide (x5_1 < (l1.length : Int)) = true := decide_eq_true c6
       clear c6
       by_cases c7 : (!(((rd_T28 l0 x5_1).f0) == ((rd_T28 l1 x5_1).f0)) || (!(((rd_T28 l0 x5_1).f1) == ((rd_T28 l1 x5_1).f1)))) = true
       ·rw [if_pos c7] at H
        have c7b0 : (!(((rd_T28 l0 x5_1).f0) == ((rd_T28 l1 x5_1).f0)) || (!(((rd_T28 l0 x5_1).f1) == ((rd_T28 l1 x5_1).f1)))) = true := c7
        clear c7
        obtain rfl := Option.some.inj H
        have p145 : 0 ≤ (x5_1 : Int) := of_decide_eq_true (by first | (with_reducible assumption) | assumption)
        have q145 : x5_1 < (l0.length : Int) := of_decide_eq_true (by first | (with_reducible assumption) | assumption)
        obtain ⟨ad145, e145, hx145_0, hx145_1⟩ := at_T28 HR0.out x5_1 p145 q145
        cases e145
        replace p145 := eq_true p145
        replace q145 := eq_true q145
        have p146 : 0 ≤ (x5_1 : Int) := of_decide_eq_true (by first | (with_reducible assumption) | assumption)
        have q146 : x5_1 < (l1.length : Int) := of_decide_eq_true (by first | (with_reducible assumption) | assumption)
        obtain ⟨ad146, e146, hx146_0, hx146_1⟩ := at_T28 HR1.out x5_1 p146 q146
        cases e146
        replace p146 := eq_true p146
        replace q146 := eq_true q146
        go_wp2
        repeat (go_quiet (fail); try go_wp2)
        go_ret
        exact ⟨by first | rfl | (simp; done) | (simp [*]; done), by repeat (first | exact Drawn0.refl _ | apply Drawn0.step)⟩
       ·rw [if_neg c7] at H
        have c7b0 : (!(((rd_T28 l0 x5_1).f0) == ((rd_T28 l1 x5_1).f0)) || (!(((rd_T28 l0 x5_1).f1) == ((rd_T28 l1 x5_1).f1)))) = false := by simpa using c7
        clear c7
        have H' := Aside0.mk H
        clear H
        have p145 : 0 ≤ (x5_1 : Int) := of_decide_eq_true (by first | (with_reducible assumption) | assumption)
        have q145 : x5_1 < (l0.length : Int) := of_decide_eq_true (by first | (with_reducible assumption) | assumption)
        obtain ⟨ad145, e145, hx145_0, hx145_1⟩ := at_T28 HR0.out x5_1 p145 q145
        cases e145
        replace p145 := eq_true p145
        replace q145 := eq_true q145
        have p146 : 0 ≤ (x5_1 : Int) := of_decide_eq_true (by first | (with_reducible assumption) | assumption)
        have q146 : x5_1 < (l1.length : Int) := of_decide_eq_true (by first | (with_reducible assumption) | assumption)
        obtain ⟨ad146, e146, hx146_0, hx146_1⟩ := at_T28 HR1.out x5_1 p146 q146
        cases e146
        replace p146 := eq_true p146
        replace q146 := eq_true q146
        go_wp2
        repeat (go_quiet (fail); try go_wp2)
        go_roundg k1
        case measure => have := HK1.out; omega
        case rel => exact ⟨(wrap64 (x5_1 + 1)), (by first | rfl | (simp; done) | (simp [*]; done)), H', ⟨by have := HK1.out; omega⟩, by repeat (first | exact Drawn0.refl _ | apply Drawn0.step)⟩
      ·rw [if_neg c6] at H
       exact absurd H (by simp)
     ·rw [if_neg c5] at H
      exact absurd H (by simp)
    ·rw [if_neg c4] at H
     have c4b0 : decide (x5_1 < (l0.length : Int)) = false := decide_eq_false c4
     clear c4
     obtain rfl := Option.some.inj H
     go_wp2
     repeat (go_quiet (fail); try go_wp2)
     go_ret
     exact ⟨by first | rfl | (simp; done) | (simp [*]; done), by repeat (first | exact Drawn0.refl _ | apply Drawn0.step)⟩
 ·rw [if_neg c3] at H
  have c3b0 : ((l0.length : Int) == (l1.length : Int)) = false := beq_eq_false_iff_ne.mpr c3
  have c3b1 : ((l0.length : Int) != (l1.length : Int)) = true := bne_iff_ne.mpr c3
  have c3b2 : (l0.length == l1.length) = false := by first | simpa using c3 | (simp at c3 ⊢; omega)
  obtain rfl := Option.some.inj H
  go_enter Tryd.func26, Tryd.ntmps26
  go_wp2
  repeat (go_quiet (fail); try go_wp2)
  go_ret
  exact ⟨by first | rfl | (simp; done) | (simp [*]; done), by repeat (first | exact Drawn0.refl _ | apply Drawn0.step)⟩
end Go.Proofs.YtidcchopmbodkaaDoor.Sp
end
section
namespace Go.Proofs.YtidcchopmbodkaaDoor.Sp
open Go.RowKit Go.Proofs.YtidcchopmbodkaaDoorW.PrintWords Go.Proofs.YtidcchopmbodkaaDoorW.PrintLast Go.Proofs.YtidcchopmbodkaaDoorW.PrintMore
open Canon
theorem w64n (i : Nat) (h : i < 4611686018427387904) : wrap64 ((i : Int) + 1) = ((i + 1 : Nat) : Int) := by unfold wrap64; omega
theorem rd28_at (l : List S28) (i : Nat) (h : i < l.length) : rd_T28 l (i : Int) = l[i] := by
  unfold rd_T28
  rw [List.getD_eq_getElem?_getD, show ((i : Int)).toNat = i from by omega, List.getElem?_eq_getElem h]
  rfl
theorem mn_eq (a b : Int) : mn a b = min a b := by unfold mn; split <;> omega
theorem mx_eq (a b : Int) : mx a b = max a b := by unfold mx; split <;> omega
theorem pr_un (l : List Rg) : (l.map un).map pr = l := by rw [List.map_map]; exact (List.map_congr_left fun x _ => rfl).trans (List.map_id l)
theorem un_pr (l : List S28) : (l.map pr).map un = l := by rw [List.map_map]; exact (List.map_congr_left fun x _ => rfl).trans (List.map_id l)
theorem same_l0 (a b : List S28) (hab : a.length = b.length) (hl : a.length ≤ 8000000000000) (d : Nat) : ∀ (i k : Nat), i + d = a.length → d < k →
    postbaglaw4_same.l0 k a b (i : Int) = some (decide ((a.drop i).map pr = (b.drop i).map pr)) := by
  induction d with
  | zero =>
    intro i k hi hk
    obtain ⟨k, rfl⟩ : ∃ j, k = j + 1 := ⟨k - 1, by omega⟩
    simp only [postbaglaw4_same.l0]
    rw [if_neg (by omega), List.drop_of_length_le (by omega), List.drop_of_length_le (by omega)]
    simp
  | succ d ih =>
    intro i k hi hk
    obtain ⟨k, rfl⟩ : ∃ j, k = j + 1 := ⟨k - 1, by omega⟩
    simp only [postbaglaw4_same.l0]
    rw [if_pos (by omega), if_pos (by omega), if_pos (by omega), rd28_at a i (by omega), rd28_at b i (by omega), w64n i (by omega), List.drop_eq_getElem_cons (show i < a.length by omega), List.drop_eq_getElem_cons (show i < b.length by omega)]
    generalize a[i] = x
    generalize b[i] = y
    by_cases h : pr x = pr y
    · have h1 : x.f0 = y.f0 := congrArg Prod.fst h
      have h2 : x.f1 = y.f1 := congrArg Prod.snd h
      rw [if_neg (by simp [h1, h2]), ih (i + 1) k (by omega) (by omega)]
      simp [h]
    · rw [if_pos, decide_eq_false]
      · intro e
        rw [List.map_cons, List.map_cons] at e
        exact h (List.cons.inj e).1
      · by_cases h1 : x.f0 = y.f0
        · by_cases h2 : x.f1 = y.f1
          · exact absurd (Prod.ext h1 h2) h
          · simp [h2]
        · simp [h1]
theorem same_f (a b : List S28) (hl : a.length ≤ 8000000000000) (k : Nat) (hk : a.length < k) : postbaglaw4_same.f k a b = some (decide (a.map pr = b.map pr)) := by
  unfold postbaglaw4_same.f
  by_cases h : a.length = b.length
  · rw [if_pos (by omega)]
    exact same_l0 a b h hl a.length 0 k (by omega) hk
  · rw [if_neg (by omega), decide_eq_false]
    intro e
    have := congrArg List.length e
    simp at this
    exact h this
end Go.Proofs.YtidcchopmbodkaaDoor.Sp
end
section
namespace Go.Proofs.YtidcchopmbodkaaDoor.Sp
open Go.RowKit Go.Proofs.YtidcchopmbodkaaDoorW.PrintWords Go.Proofs.YtidcchopmbodkaaDoorW.PrintLast Go.Proofs.YtidcchopmbodkaaDoorW.PrintMore
end Go.Proofs.YtidcchopmbodkaaDoor.Sp
end
section
namespace Go.Proofs.YtidcchopmbodkaaDoor.Sp
open Go.RowKit Go.Proofs.YtidcchopmbodkaaDoorW.PrintWords Go.Proofs.YtidcchopmbodkaaDoorW.PrintLast Go.Proofs.YtidcchopmbodkaaDoorW.PrintMore
theorem layA_take (n : Nat) (l : List S28) : (layA n l).take l.length = l := by unfold layA; exact List.take_left
end Go.Proofs.YtidcchopmbodkaaDoor.Sp
end
section
namespace Go.Proofs.YtidcchopmbodkaaDoor.Sp
open Go.RowKit Go.Proofs.YtidcchopmbodkaaDoorW.PrintWords
section
variable {α : Type} {d : Kd α} {et : Nat}
def LM (w : World) (r1 r2 vg vw : Value) : Nat → Prop := Mset w.heap.size [r1, r2, vg, vw]
structure LSt (d : Kd α) (et : Nat) (w W : World) (A : Option Addr) (c : Nat) (xs : List S28) (A2 : Option Addr) (c2 : Nat) (ns : List Int) (vg : Value) (gs : List (List α)) (vw : Value) (hs : List (List α)) : Prop where
  hx : xs.length ≤ 6040
  hn : ns.length ≤ 6040
  hp : W.heap[w.heap.size]? = some (.cells #[.slice A xs.length c, .slice A2 ns.length c2, .slice none 0 0, .slice none 0 0] 55 (0, 0))
  rx : Kd.R k28 28 W w.heap.size (fun k => some k = (Value.slice A xs.length c).ownBlock) (.slice A xs.length c) xs
  rn : Kd.R (Kd.int .i64) 3 W w.heap.size (fun k => some k = (Value.slice A2 ns.length c2).ownBlock) (.slice A2 ns.length c2) ns
  g : LS d et W w.heap.size (LM w (.slice A xs.length c) (.slice A2 ns.length c2) vg vw) vg gs
  v : LS d et W w.heap.size (LM w (.slice A xs.length c) (.slice A2 ns.length c2) vg vw) vw hs
  ne : ∀ k, vg.ownBlock = some k → vw.ownBlock ≠ some k
  bl : Below w.heap.size w W
theorem LM.base {w W : World} {A : Option Addr} {c : Nat} {xs : List S28} {A2 : Option Addr} {c2 : Nat} {ns : List Int} {vg vw : Value} {gs hs : List (List α)} (h : LSt d et w W A c xs A2 c2 ns vg gs vw hs) :
    ∀ k, LM w (.slice A xs.length c) (.slice A2 ns.length c2) vg vw k → w.heap.size ≤ k ∧ k < W.heap.size := by
  rintro k (rfl | ⟨v, hm, ho⟩)
  · exact ⟨Nat.le_refl _, blk_lt h.hp⟩
  · simp only [List.mem_cons, List.not_mem_nil, or_false] at hm
    rcases hm with rfl | rfl | rfl | rfl
    · exact ⟨Kd.R_base h.rx k ho, Kd.R_lt h.rx k ho⟩
    · exact ⟨Kd.R_base h.rn k ho, Kd.R_lt h.rn k ho⟩
    · exact ⟨h.g.base k ho, h.g.lt k ho⟩
    · exact ⟨h.v.base k ho, h.v.lt k ho⟩
variable {w W : World} {A : Option Addr} {c : Nat} {xs : List S28} {A2 : Option Addr} {c2 : Nat} {ns : List Int} {vg vw : Value} {gs hs : List (List α)}
theorem LSt.below (h : LSt d et w W A c xs A2 c2 ns vg gs vw hs) {W1 : World} (hb : Below W.heap.size W W1) : LSt d et w W1 A c xs A2 c2 ns vg gs vw hs :=
  ⟨h.hx, h.hn, blk_below h.hp hb, Kd.R_below h.rx hb, Kd.R_below h.rn hb, h.g.below hb, h.v.below hb, h.ne, below_step h.bl hb⟩
theorem LSt.drewN (h : LSt d et w W A c xs A2 c2 ns vg gs vw hs) (n : Nat) : LSt d et w (W.drewN n) A c xs A2 c2 ns vg gs vw hs := h.below (pw_below_drewN (Below.refl _ _) n)
theorem LSt.drew (h : LSt d et w W A c xs A2 c2 ns vg gs vw hs) : LSt d et w W.drew A c xs A2 c2 ns vg gs vw hs := h.below (below_drew (Below.refl _ _))
theorem LSt.apart (h : LSt d et w W A c xs A2 c2 ns vg gs vw hs) {g t : Nat} {cells : Array Value} (hb : W.heap[g]? = some (.cells cells t (0, 0))) (h1 : (55 : Nat) ≠ t) (h2 : (28 : Nat) ≠ t) (h3 : (3 : Nat) ≠ t) (h4 : et ≠ t) : ¬ LM w (.slice A xs.length c) (.slice A2 ns.length c2) vg vw g := by
  rintro (rfl | ⟨v, hm, ho⟩)
  · exact blk_ne h.hp hb h1 rfl
  · simp only [List.mem_cons, List.not_mem_nil, or_false] at hm
    rcases hm with rfl | rfl | rfl | rfl
    · exact Kd.R_ne h.rx hb h2 ho.symm
    · exact Kd.R_ne h.rn hb h3 ho.symm
    · exact h.g.ne hb h4 ho.symm
    · exact h.v.ne hb h4 ho.symm
theorem roomD_le (n m : Nat) (hn : n ≤ 6040) (hm : m ≤ 3000) : roomB n m ≤ 6040 := by unfold roomB; split <;> omega
theorem LSt.appG {P : Program} {ops : Array Oper} {rest : List Oper} {o : Oper} {a : Act} {Q : Exit → Act → World → Prop} (h : LSt d et w W A c xs A2 c2 ns vg gs vw hs) (het : (55 : Nat) ≠ et ∧ (3 : Nat) ≠ et ∧ (28 : Nat) ≠ et) (hgd : o.guard = none) (s x : Operand) (t : TypeId)
    (ho : o.op = .call { callee := .builtin .append, args := #[s, x], argTypes := #[t, t] }) (ht : P.underlying t = some (.slice et)) (hinfo : (P.info? et).map (fun i => (i.zero, i.size, i.bytes)) = some (some (.slice none 0 0), 1, 24))
    (l : List α) (A1 : Option Addr) (cc : Nat) (hs0 : a.eval s = vg) (hx0 : a.eval x = .slice (some ⟨W.heap.size, 0, none⟩) 1 1) (hcc : l.length ≤ cc) (hp1 : Safe (fun W => d.C W A1 l.length l) W (LM w (.slice A xs.length c) (.slice A2 ns.length c2) vg vw)) (hlen : gs.length ≤ 1000)
    (k : ∀ v1 w1, LSt d et w w1 A c xs A2 c2 ns v1 (gs ++ [l]) vw hs → Kept W w1 (LM w (.slice A xs.length c) (.slice A2 ns.length c2) vg vw) → (∀ k, LM w (.slice A xs.length c) (.slice A2 ns.length c2) v1 vw k → LM w (.slice A xs.length c) (.slice A2 ns.length c2) vg vw k ∨ W.heap.size ≤ k) → wpList P ops Q rest (a.put o.dst v1) w1) :
    wpList P ops Q (o :: rest) a (W.alloc (.cells #[.slice A1 l.length cc] et)) := by
  refine LS_append d (w0 := W) w.heap.size hgd s x t et ho ht hinfo vg gs l A1 cc _ hs0 hx0 hcc hp1 h.g (Below.refl _ _) h.bl.size (by omega) ?_
  intro v1 w1 hls hb hk hat
  have hS : ∀ k, some k = vg.ownBlock → LM w (.slice A xs.length c) (.slice A2 ns.length c2) vg vw k := fun k hk => Or.inr ⟨vg, by simp, hk.symm⟩
  have hmu : ∀ k, LM w (.slice A xs.length c) (.slice A2 ns.length c2) v1 vw k → LM w (.slice A xs.length c) (.slice A2 ns.length c2) vg vw k ∨ W.heap.size ≤ k := Mset.one (la := [.slice A xs.length c, .slice A2 ns.length c2]) (lb := [vw]) hat
  have hty : ∀ {g t : Nat} {cells : Array Value}, W.heap[g]? = some (.cells cells t (0, 0)) → t ≠ et → ¬ some g = vg.ownBlock := fun hb hne he => h.g.ne hb (Ne.symm hne) he
  refine k v1 w1 ⟨h.hx, h.hn, blk_kept h.hp hk (hty h.hp het.1), Kd.R_kept h.rx hk (fun k ho hn => ?_), Kd.R_kept h.rn hk (fun k ho hn => ?_), hls _ hmu (fun k ho => Or.inr ⟨v1, by simp, ho⟩), h.v.step hk hS (fun k ho hn => h.ne k hn.symm ho) hmu (fun k ho => Or.inr ⟨vw, by simp, ho⟩), fun k h1 h2 => ?_, h.bl.trans hb⟩ (hk.mono hS) hmu
  · obtain ⟨cells, hc⟩ := Kd.R_typed h.rx k ho.symm
    exact hty hc het.2.2 hn
  · obtain ⟨cells, hc⟩ := Kd.R_typed h.rn k ho.symm
    exact hty hc het.2.1 hn
  · rcases hat with hat | ⟨b, hb1, hle⟩
    · exact h.ne k (hat ▸ h1) h2
    · rw [hb1] at h1
      injection h1 with h1
      have := h.v.lt k h2
      omega
theorem LSt.appW {P : Program} {ops : Array Oper} {rest : List Oper} {o : Oper} {a : Act} {Q : Exit → Act → World → Prop} (h : LSt d et w W A c xs A2 c2 ns vg gs vw hs) (het : (55 : Nat) ≠ et ∧ (3 : Nat) ≠ et ∧ (28 : Nat) ≠ et) (hgd : o.guard = none) (s x : Operand) (t : TypeId)
    (ho : o.op = .call { callee := .builtin .append, args := #[s, x], argTypes := #[t, t] }) (ht : P.underlying t = some (.slice et)) (hinfo : (P.info? et).map (fun i => (i.zero, i.size, i.bytes)) = some (some (.slice none 0 0), 1, 24))
    (l : List α) (A1 : Option Addr) (cc : Nat) (hs0 : a.eval s = vw) (hx0 : a.eval x = .slice (some ⟨W.heap.size, 0, none⟩) 1 1) (hcc : l.length ≤ cc) (hp1 : Safe (fun W => d.C W A1 l.length l) W (LM w (.slice A xs.length c) (.slice A2 ns.length c2) vg vw)) (hlen : hs.length ≤ 1000)
    (k : ∀ v1 w1, LSt d et w w1 A c xs A2 c2 ns vg gs v1 (hs ++ [l]) → Kept W w1 (LM w (.slice A xs.length c) (.slice A2 ns.length c2) vg vw) → (∀ k, LM w (.slice A xs.length c) (.slice A2 ns.length c2) vg v1 k → LM w (.slice A xs.length c) (.slice A2 ns.length c2) vg vw k ∨ W.heap.size ≤ k) → wpList P ops Q rest (a.put o.dst v1) w1) :
    wpList P ops Q (o :: rest) a (W.alloc (.cells #[.slice A1 l.length cc] et)) := by
  refine LS_append d (w0 := W) w.heap.size hgd s x t et ho ht hinfo vw hs l A1 cc _ hs0 hx0 hcc hp1 h.v (Below.refl _ _) h.bl.size (by omega) ?_
  intro v1 w1 hls hb hk hat
  have hS : ∀ k, some k = vw.ownBlock → LM w (.slice A xs.length c) (.slice A2 ns.length c2) vg vw k := fun k hk => Or.inr ⟨vw, by simp, hk.symm⟩
  have hmu : ∀ k, LM w (.slice A xs.length c) (.slice A2 ns.length c2) vg v1 k → LM w (.slice A xs.length c) (.slice A2 ns.length c2) vg vw k ∨ W.heap.size ≤ k := Mset.one (la := [.slice A xs.length c, .slice A2 ns.length c2, vg]) (lb := []) hat
  have hty : ∀ {g t : Nat} {cells : Array Value}, W.heap[g]? = some (.cells cells t (0, 0)) → t ≠ et → ¬ some g = vw.ownBlock := fun hb hne he => h.v.ne hb (Ne.symm hne) he
  refine k v1 w1 ⟨h.hx, h.hn, blk_kept h.hp hk (hty h.hp het.1), Kd.R_kept h.rx hk (fun k ho hn => ?_), Kd.R_kept h.rn hk (fun k ho hn => ?_), h.g.step hk hS (fun k ho hn => h.ne k ho hn.symm) hmu (fun k ho => Or.inr ⟨vg, by simp, ho⟩), hls _ hmu (fun k ho => Or.inr ⟨v1, by simp, ho⟩), fun k h1 h2 => ?_, h.bl.trans hb⟩ (hk.mono hS) hmu
  · obtain ⟨cells, hc⟩ := Kd.R_typed h.rx k ho.symm
    exact hty hc het.2.2 hn
  · obtain ⟨cells, hc⟩ := Kd.R_typed h.rn k ho.symm
    exact hty hc het.2.1 hn
  · rcases hat with hat | ⟨b, hb1, hle⟩
    · exact h.ne k h1 (hat ▸ h2)
    · rw [hb1] at h2
      injection h2 with h2
      have := h.g.lt k h1
      omega
theorem LSt.listed {n : Nat} {l : List Int} (h : LSt d et w W A c xs A2 c2 (layN n l) vg gs vw hs) (hln : l.length ≤ n) : (Kd.int .i64).C W A2 l.length l ∧ n ≤ c2 ∧ (layN n l).length = n := by
  have hll := layN_len n l hln
  have h1 := Kd.R_take (m := l.length) h.rn (by omega)
  rw [layN_take] at h1
  have h2 := Kd.R_reads' h1
  have h3 := Kd.R_reads' h.rn
  exact ⟨h2.2.2, by omega, hll⟩
end
end Go.Proofs.YtidcchopmbodkaaDoor.Sp
end
