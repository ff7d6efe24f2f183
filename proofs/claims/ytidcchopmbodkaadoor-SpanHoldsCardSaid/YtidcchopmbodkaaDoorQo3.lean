import Derived.Test.YtidcchopmbodkaaDoorQo2
section
namespace Go.Proofs.YtidcchopmbodkaaDoor.Sp
open Go.RowKit Go.Proofs.YtidcchopmbodkaaDoorW.PrintWords Go.Proofs.YtidcchopmbodkaaDoorW.PrintLast Go.Proofs.YtidcchopmbodkaaDoorW.PrintMore
theorem size28 : (Tryd.prog.info? 28).map (·.size) = some 2 := by kernel_rfl
def markB (i : Nat) : S28 := ⟨-7 - (i : Int), -9⟩
def roomB (n m : Nat) : Nat := if n < m + 4 then 2 * m + 40 else n
def layA (n : Nat) (l : List S28) : List S28 := l ++ (List.range' l.length (n - l.length)).map markB
theorem layA_len (n : Nat) (l : List S28) (h : l.length ≤ n) : (layA n l).length = n := by
  unfold layA; simp; omega
theorem layA_at (n : Nat) (l : List S28) (i : Nat) (h0 : l.length ≤ i) (h : i < n) : (layA n l)[i]? = some (markB i) := by
  unfold layA
  rw [List.getElem?_append_right h0, List.getElem?_map, List.getElem?_range' (by omega)]
  simp; congr 1; omega
def midA (n : Nat) (l xs : List S28) (i : Nat) : List S28 := (layA n l).take i ++ (l ++ xs.drop l.length).drop i
theorem midA_first (l xs : List S28) : midA xs.length l xs l.length = l ++ xs.drop l.length := by
  unfold midA layA
  rw [List.take_left, List.drop_left]
theorem midA_last (l xs : List S28) (h : l.length ≤ xs.length) : midA xs.length l xs xs.length = layA xs.length l := by
  unfold midA
  rw [List.take_of_length_le (by rw [layA_len _ _ h]; exact Nat.le_refl _), List.drop_of_length_le (by simp; omega), List.append_nil]
theorem midA_len (l xs : List S28) (i : Nat) (h : l.length ≤ xs.length) (hi : i ≤ xs.length) : (midA xs.length l xs i).length = xs.length := by
  unfold midA
  rw [List.length_append, List.length_take, layA_len _ _ h, List.length_drop, List.length_append, List.length_drop]
  omega
theorem midA_step (l xs : List S28) (i : Nat) (h : l.length ≤ i) (hi : i < xs.length) : (midA xs.length l xs i).set i (markB i) = midA xs.length l xs (i + 1) := by
  have hl := layA_len xs.length l (by omega)
  have ha := layA_at xs.length l i h hi
  unfold midA
  apply List.ext_getElem?
  intro j
  rw [List.getElem?_set]
  have hlen : ((layA xs.length l).take i ++ (l ++ xs.drop l.length).drop i).length = xs.length := midA_len l xs i (by omega) (by omega)
  have t1 : ((layA xs.length l).take i).length = i := by rw [List.length_take, hl]; omega
  have t2 : ((layA xs.length l).take (i + 1)).length = i + 1 := by rw [List.length_take, hl]; omega
  rcases (by omega : j < i ∨ j = i ∨ i < j) with hj | hj | hj
  · rw [if_neg (by omega), List.getElem?_append_left (by omega), List.getElem?_append_left (by omega), List.getElem?_take, List.getElem?_take, if_pos hj, if_pos (by omega)]
  · subst hj
    rw [if_pos rfl, if_pos (by rw [hlen]; exact hi), List.getElem?_append_left (by omega), List.getElem?_take, if_pos (by omega), ha]
  · rw [if_neg (by omega), List.getElem?_append_right (by omega), List.getElem?_append_right (by omega), List.getElem?_drop, List.getElem?_drop, t1, t2]
    congr 1; omega
set_option maxHeartbeats 4000000 in
set_option maxRecDepth 100000 in
theorem lay_calls (B : Nat) (v : Value) (xs : List S28) (A : Option Addr) (c : Nat) (l : List S28) (w : World) (ok : Nat → Prop) (hv : Kd.R k28 28 w B ok v xs) (hB : B ≤ w.heap.size)
    (hl : ∀ W', Kept w W' (fun k => some k = v.ownBlock) → Kd.C k28 W' A l.length l) (hn : l.length ≤ 100000) (hx : xs.length ≤ 8000000000000) :
    Calls Tryd.prog 58 #[v, .slice A l.length c] w fun e w' => ∃ v', e = .returned v' ∧ Kd.R k28 28 w' B (fun k => some k = v'.ownBlock) v' (layA (roomB xs.length l.length) l) ∧ (v'.ownBlock = v.ownBlock ∨ ∃ g, v'.ownBlock = some g ∧ w.heap.size ≤ g) ∧ Kept w w' (fun k => some k = v.ownBlock) ∧ Below B w w' := by
  have HV := Lib.hid (Kd.R_tight rfl hv)
  have HL := Lib.hid hl
  obtain ⟨A0, c0, rfl⟩ := Kd.R_slice hv
  have HBB := Lib.hid (Kd.R_base hv)
  clear hv hl
  go_enter Tryd.func58, Tryd.ntmps58
  go_upto_if 11 with fail
  go_cut [0] (fun v0 wc => ∃ (A1 : Option Addr) (c1 : Nat) (Y : List S28), v0 = .slice A1 Y.length c1 ∧ Aside0 (Y.length = roomB xs.length l.length) ∧ Aside0 (Kd.R k28 28 wc B (fun k => some k = (Value.slice A1 Y.length c1).ownBlock) (.slice A1 Y.length c1) Y) ∧
    Aside0 ((Value.slice A1 Y.length c1).ownBlock = (Value.slice A0 xs.length c0).ownBlock ∨ ∃ g, (Value.slice A1 Y.length c1).ownBlock = some g ∧ w.heap.size ≤ g) ∧ Aside0 (Kept w wc (fun k => some k = (Value.slice A0 xs.length c0).ownBlock)) ∧ Aside0 (Below B w wc))
  case first =>
    by_cases hlt : xs.length < l.length + 4
    · have d1 : decide ((xs.length : Int) < (l.length : Int) + 4) = true := decide_eq_true (by omega)
      have i1 : ((2 * (l.length : Int) + 40)).toNat = 2 * l.length + 40 := by omega
      go_wp2_with ((with_reducible refine gate_dst (N := 16) rfl ?_); refine Kd.R_make k28 B 28 rfl (N := 16) rfl 23 _ _ rfl (2 * (l.length : Int) + 40) rfl rfl Tryd.underlying23 (.agg #[(.int .i64 0), (.int .i64 0)]) 16 info28 rfl (by decide) (by omega) z28 (ok := fun _ => True) (okp := fun _ => True) (k28_mkM _ _ _ z28) (fun _ hk => hk) trivial (by omega) (by omega) (Below.refl _ _) hB ?_; intro v1 w1 hR hb hg hnew; have HBA := Lib.hid hb; clear hb)
      rw [i1] at hR
      have hR' := Kd.R_tight rfl hR
      obtain ⟨A1, c1, rfl⟩ := Kd.R_slice hR
      rw [List.length_replicate] at hR'
      have HR' := Lib.hid hR'
      have HN' := Lib.hid hnew
      have HG' := Lib.hid hg
      clear hR hR' hnew hg
      go_wp2
      go_meet
      exact ⟨A1, c1, List.replicate (2 * l.length + 40) z28, by rw [List.length_replicate], ⟨by unfold roomB; rw [if_pos hlt, List.length_replicate]⟩, ⟨by rw [List.length_replicate]; exact HR'.out⟩, ⟨Or.inr (by rw [List.length_replicate] at *; exact HN'.out)⟩, ⟨(Kept.refl _ _).of_grown HG'.out (fun k hk => by cases hk)⟩, ⟨HBA.out⟩⟩
    · have d1 : decide ((xs.length : Int) < (l.length : Int) + 4) = false := decide_eq_false (by omega)
      go_wp2
      go_meet
      exact ⟨A0, c0, xs, rfl, ⟨by unfold roomB; rw [if_neg hlt]⟩, ⟨HV.out⟩, ⟨Or.inl rfl⟩, ⟨Kept.refl _ _⟩, ⟨Below.refl _ _⟩⟩
  case rest =>
    obtain ⟨A1, c1, Y, rfl, HN, HR, HO, HK, HBC⟩ := hcut
    have hY : l.length + 4 ≤ Y.length := by rw [HN.out]; unfold roomB; split <;> omega
    have hY2 : Y.length ≤ 8000000000000 := by rw [HN.out]; unfold roomB; split <;> omega
    have hBc : B ≤ wc.heap.size := Nat.le_trans hB HK.out.1
    go_wp2_with ((with_reducible refine gate_dst (N := 19) rfl ?_); go_loud (refine R_copy28 (w0 := wc) B rfl _ _ 23 23 28 rfl Tryd.underlying23 size28 (.slice A1 Y.length c1) Y l A c _ rfl rfl HR.out (HL.out wc HK.out) (by omega) (by omega) (Below.refl _ _) hBc ?_); intro w1 hR hb hg; have HB1 := Lib.hid (HBC.out.trans hb); clear hb HBC)
    have hm0 := midA_first l Y
    rw [← hm0] at hR
    have HR1 := Lib.hid hR
    have HK1 := Lib.hid (HK.out.of_grown hg (fun k hk => by
      rcases HO.out with h | ⟨g, h, hle⟩
      · exact Or.inl (by rw [← hk, h])
      · exact Or.inr (by rw [h] at hk; injection hk with hk; omega)))
    clear hR hm0 hg
    go_wp2_with fail
    go_loopw [5] (fun i W => ∃ k : Nat, i = .int .i64 k ∧ l.length ≤ k ∧ k ≤ Y.length ∧ Aside0 (Kd.R k28 28 W B (fun k => some k = (Value.slice A1 Y.length c1).ownBlock) (.slice A1 Y.length c1) (midA Y.length l Y k)) ∧ Aside0 (Kept w W (fun k => some k = (Value.slice A0 xs.length c0).ownBlock)) ∧ Aside0 (Below B w W)) (fun i _ => Y.length - (intOf i).toNat)
    case atStart => exact ⟨l.length, rfl, Nat.le_refl _, by omega, ⟨HR1.out⟩, ⟨HK1.out⟩, ⟨HB1.out⟩⟩
    case round =>
      obtain ⟨k, rfl, hk1, hk2, HRk, HKk, HBk⟩ := hrel
      clear HR1 HK1 HR HK HB1
      by_cases hlt : k < Y.length
      · have hst := midA_step l Y k hk1 hlt
        have hml := midA_len l Y k (by omega) (by omega)
        have HST := Lib.hid hst
        obtain ⟨g, cp, e, hg1, hg2, _⟩ := Kd.R_form HRk.out (by omega)
        rw [hml] at e
        injection e with e1 e2 e3
        subst e1; subst e3
        have hBw : B ≤ wr.heap.size := Nat.le_trans hB HKk.out.1
        obtain ⟨ce, hcl, hM, hcc, _⟩ := Kd.R_elem HRk.out z28 (k : Int) (by omega) (by omega)
        have HCC := Lib.hid hcc
        have HCL := Lib.hid hcl
        have hne : IntKind.i64.wrap (-7 - (k : Int)) = -7 - (k : Int) := IntWalk.i64_in _ (by omega)
        clear hst hml hM hcc hcl
        have i1 : (0 : Int) ≤ (k : Int) := by omega
        have i2 : (k : Int) < (Y.length : Int) := by omega
        go_wp2_with ((with_reducible refine gate_store (t := 28) (p := 33) rfl ?_); go_loud (refine Kd.R_store k28 (w0 := wr) B rfl rfl 28 _ _ rfl 28 (k : Int) 0 (midA Y.length l Y k) (markB k) (.agg #[.int .i64 (-7 - (k : Int)), .int .i64 (-9)]) [.int .i64 (-7 - (k : Int)), .int .i64 (-9)] ce _ (fun _ => False) (by rfl) (by simp; rfl) (by rfl) rfl size28 (by simp [Value.oneCell']) HRk.out i1 i2 HCL.out HCC.out (show 0 + 2 ≤ 2 from by omega) (by rw [List.take_zero, List.nil_append, List.drop_of_length_le (by rw [HCL.out]; exact Nat.le_refl 2), List.append_nil]; exact k28_mkM _ _ _ (markB k)) (fun _ hk => hk.elim) (Below.refl _ _) ?_); intro w2 hR2 hb2 hg2; have HB2 := Lib.hid (HBk.out.trans hb2); clear hb2)
        rw [show (k : Int).toNat = k from by omega, HST.out] at hR2
        have HR2 := Lib.hid hR2
        have HK2 := Lib.hid (HKk.out.of_grown hg2 (fun q hq => by
          rcases HO.out with h | ⟨g', h, hle⟩
          · exact Or.inl (by rw [← hq, ← h]; rfl)
          · have h1 : some g = some g' := h
            injection h1 with h1
            injection hq with hq
            exact Or.inr (by omega)))
        clear hR2 hg2
        go_wp2
        exact ⟨⟨k + 1, by go_num, by omega, by omega, ⟨HR2.out⟩, ⟨HK2.out⟩, ⟨HB2.out⟩⟩, by simp [intOf]; omega⟩
      · have hk' : k = Y.length := by omega
        subst hk'
        have hlast := midA_last l Y (by omega)
        go_wp2
        go_ret
        exact ⟨_, rfl, by rw [← HN.out, ← hlast]; exact HRk.out, HO.out, HKk.out, HBk.out⟩
end Go.Proofs.YtidcchopmbodkaaDoor.Sp
end
section
namespace Go.Proofs.YtidcchopmbodkaaDoor.Sp
open Go.RowKit Go.Proofs.YtidcchopmbodkaaDoorW.PrintWords Go.Proofs.YtidcchopmbodkaaDoorW.PrintLast Go.Proofs.YtidcchopmbodkaaDoorW.PrintMore
def markN (i : Nat) : Int := -7 - (i : Int)
def layN (n : Nat) (l : List Int) : List Int := l ++ (List.range' l.length (n - l.length)).map markN
theorem layN_len (n : Nat) (l : List Int) (h : l.length ≤ n) : (layN n l).length = n := by
  unfold layN; simp; omega
theorem layN_take (n : Nat) (l : List Int) : (layN n l).take l.length = l := by unfold layN; exact List.take_left
theorem roomB_ge' (n m : Nat) : m + 4 ≤ roomB n m := by unfold roomB; split <;> omega
end Go.Proofs.YtidcchopmbodkaaDoor.Sp
end
section
namespace Go.Proofs.YtidcchopmbodkaaDoor.Sp
open Go.RowKit Go.Proofs.YtidcchopmbodkaaDoorW.PrintWords Go.Proofs.YtidcchopmbodkaaDoorW.PrintLast Go.Proofs.YtidcchopmbodkaaDoorW.PrintMore
attribute [local go_sem] max2_int min2_int max_two min_two max_three min_three max_four min_four   -- for this text's walks alone
set_option linter.unusedVariables false
set_option linter.unusedSimpArgs false
theorem eqA28 (d : Nat) (w : World) (x0 y0 : Int) (x1 y1 : Int) :
    (Op.equalIn (d + 2) 28 (.agg #[.int .i64 x0, .int .i64 x1]) (.agg #[.int .i64 y0, .int .i64 y1])).run Tryd.prog w = .ok (x0 == y0 && (x1 == y1)) w := by
  refine eqA_of Tryd.underlying28 (by kernel_rfl) ?_
  refine eqf_cons (by rfl) (by go_simp; rfl) (by go_simp; rfl) (by go_simp) ?_
  exact eqf_last (by rfl) (by go_simp; rfl) (by go_simp; rfl) (by go_simp)
end Go.Proofs.YtidcchopmbodkaaDoor.Sp
end
section
namespace Go.Proofs.YtidcchopmbodkaaDoor.Sp
open Go.RowKit Go.Proofs.YtidcchopmbodkaaDoorW.PrintWords Go.Proofs.YtidcchopmbodkaaDoorW.PrintLast Go.Proofs.YtidcchopmbodkaaDoorW.PrintMore
attribute [local go_sem] max2_int min2_int max_two min_two max_three min_three max_four min_four   -- for this text's walks alone
set_option linter.unusedVariables false
set_option linter.unusedSimpArgs false
end Go.Proofs.YtidcchopmbodkaaDoor.Sp
end
section
namespace Go.Proofs.YtidcchopmbodkaaDoor.Sp
open Go.RowKit Go.Proofs.YtidcchopmbodkaaDoorW.PrintWords Go.Proofs.YtidcchopmbodkaaDoorW.PrintLast Go.Proofs.YtidcchopmbodkaaDoorW.PrintMore
attribute [local go_sem] max2_int min2_int max_two min_two max_three min_three max_four min_four   -- for this text's walks alone
set_option linter.unusedVariables false
set_option linter.unusedSimpArgs false
def span_Least.l0 : Nat → List (S28) → List Int → Int → Int → Option ((List (S28)))
 | 0, _, _, _, _ => none
 | k + 1, x3, x6, x7, x8 => if x8 < x7 then (if 0 ≤ x8 then (if x8 < (x6.length : Int) then (if (rd x6 x8) ≥ 1 then (if (rd x6 x8) ≤ 4294967295 then (if x3.length < 8796093022208 then (span_Least.l0 k (x3 ++ [(⟨rd x6 x8, rd x6 x8⟩ : S28)]) x6 x7 (wrap64 (x8 + 1))) else (none)) else (span_Least.l0 k x3 x6 x7 (wrap64 (x8 + 1)))) else (span_Least.l0 k x3 x6 x7 (wrap64 (x8 + 1)))) else (none)) else (none)) else ((span_united.f x3).bind fun t105 => (some t105))
def span_Least.f (k : Nat) (l0 : List Int) : Option ((List (S28))) := span_Least.l0 k ([] : List (S28)) l0 (l0.length : Int) 0
set_option maxHeartbeats 8000000 in
set_option maxRecDepth 100000 in
theorem span_Least.calls (k : Nat) (A0 : Option Addr) (c0 : Nat) (l0 : List Int) (r : List (S28)) (w : World) (hr0 : Kd.C (Kd.int .i64) w A0 l0.length l0) (hc0 : l0.length ≤ c0) (h : span_Least.f k l0 = some r) :
  Calls Tryd.prog 15 #[.slice A0 l0.length c0] w fun e w' => ∃ v0_ : Value, e = .returned (v0_) ∧ Kd.R k28 28 w' w.heap.size (fun _ => True) v0_ r ∧ Below w.heap.size w w' := by
 have hu28 := Tryd.underlying28
 have HR0 := Aside0.mk hr0
 have HC0 := Aside0.mk hc0
 clear hr0 hc0
 have HB := Aside0.mk (Below.refl w.heap.size w)
 have H : (span_Least.l0 k ([] : List (S28)) l0 (l0.length : Int) 0) = some r := h
 clear h
 have H' := Aside0.mk H
 clear H
 go_enter Tryd.func15, Tryd.ntmps15
 go_wp2
 go_loopg [3, 8] k (fun kq v3 v8 w' => ∃ (x3_1 : List (S28)) (x8_1 : Int), v8 = .int .i64 x8_1 ∧ Aside0 (span_Least.l0 kq x3_1 l0 (l0.length : Int) x8_1 = some r) ∧ Aside0 (kq ≤ k) ∧ Aside0 (Kd.R k28 28 w' w.heap.size (fun _ => True) v3 x3_1) ∧ Aside0 (Below w.heap.size w w'))
 case atStart => exact ⟨(([] : List (S28))), (0), (by first | rfl | (simp; done) | (simp [*]; done)), H', ⟨Nat.le_refl _⟩, ⟨by first | exact Kd.R_nil _ _ _ _ _ | exact Kd.N_nil _ _ _ _ _ | exact Kd.V_nil _ _ _ _ _ | exact Kd.Q_nil _ _ _ _ _ | exact Kd.S_nil _ _ _ _ _⟩, ⟨by repeat (first | (with_reducible first | exact HB.out | apply below_alloc | apply pw_below_drewN | apply below_drew1) | exact HB.out)⟩⟩
 case round =>
  clear H'
  try clear c1
  obtain ⟨x3_1, x8_1, rfl, HA, HK1, HO_3, HB⟩ := hrel
  cases gk with
  | zero => exact absurd HA.out (by simp [span_Least.l0])
  | succ k1 =>
   have H := HA.out
   clear HA
   simp only [span_Least.l0] at H
   by_cases c2 : x8_1 < (l0.length : Int)
   ·rw [if_pos c2] at H
    have c2b0 : decide (x8_1 < (l0.length : Int)) = true := decide_eq_true c2
    clear c2
    by_cases c3 : 0 ≤ x8_1
    ·rw [if_pos c3] at H
     have c3b0 : decide (0 ≤ x8_1) = true := decide_eq_true c3
     clear c3
     by_cases c4 : x8_1 < (l0.length : Int)
     ·rw [if_pos c4] at H
      have c4b0 : decide (x8_1 < (l0.length : Int)) = true := decide_eq_true c4
      clear c4
      by_cases c5 : (rd l0 x8_1) ≥ 1
      ·rw [if_pos c5] at H
       have c5b0 : decide (1 ≤ (rd l0 x8_1)) = true := decide_eq_true c5
       clear c5
       by_cases c6 : (rd l0 x8_1) ≤ 4294967295
       ·rw [if_pos c6] at H
        have c6b0 : decide ((rd l0 x8_1) ≤ 4294967295) = true := decide_eq_true c6
        clear c6
        by_cases c7 : x3_1.length < 8796093022208
        ·rw [if_pos c7] at H
         have LMc7 := Aside0.mk c7
         clear c7
         obtain ⟨y102, hy102⟩ : ∃ y_ : List (S28), y_ = (x3_1 ++ [(⟨rd l0 x8_1, rd l0 x8_1⟩ : S28)]) := ⟨_, rfl⟩
         replace H : (span_Least.l0 k1 y102 l0 (l0.length : Int) (wrap64 (x8_1 + 1))) = some r := by first | (rw [hy102]; with_reducible exact H) | (have H2_ := (Option.bind_some _ _).symm.trans H; rw [hy102]; with_reducible exact H2_) | (have H2_ := (Option.bind_some _ _).symm.trans H; with_reducible exact H2_) | with_reducible exact H | (rw [hy102]; exact H) | exact H
         have Ny102 := Aside0.mk hy102
         clear hy102
         have H' := Aside0.mk H
         clear H
         have p101 : 0 ≤ (x8_1 : Int) := of_decide_eq_true (by first | (with_reducible assumption) | assumption)
         have q101 : x8_1 < (l0.length : Int) := of_decide_eq_true (by first | (with_reducible assumption) | assumption)
         obtain ⟨ad101, e101, hx101_0⟩ := Kd.at_int HR0.out x8_1 p101 q101
         cases e101
         replace hx101_0 := (HB.out.cell (World.block_lt_of_cell? w _ hx101_0)).trans hx101_0
         replace p101 := eq_true p101
         replace q101 := eq_true q101
         go_wp2_with (first | ((with_reducible refine gate_builtin (b := .append) (xs := #[.tmp 18, .tmp 22]) rfl ?_); at_builtin; refine Kd.R_append k28 (w0 := w) w.heap.size rfl (.tmp 18) (.tmp 22) 23 28 (.agg #[(.int .i64 0), (.int .i64 0)]) 16 rfl Tryd.underlying23 info28 rfl (by decide) (by omega) u3 x3_1 (⟨rd l0 x8_1, rd l0 x8_1⟩ : S28) [.int .i64 (rd l0 x8_1), .int .i64 (rd l0 x8_1)] (fun _ => True) (fun _ => False) rfl rfl ?aP (fun _ hk => hk.elim) ?aF ?aO ?aB ?aS ?aL ?_; (case aP => exact k28_mkM _ _ _ (⟨rd l0 x8_1, rd l0 x8_1⟩ : S28)); (case aB => exact (by repeat (first | (with_reducible first | exact HB.out | apply below_alloc | apply pw_below_drewN | apply below_drew1) | exact HB.out))); (case aF => exact (fun _ _ => trivial)); (case aO => exact (by (with_reducible repeat (first | apply Kd.R_alloc | apply Kd.R_drewN | apply Kd.R_drew)); exact HO_3.out)); (case aS => exact (below_size (by repeat (first | (with_reducible first | exact HB.out | apply below_alloc | apply pw_below_drewN | apply below_drew1) | exact HB.out)))); (case aL => have := LMc7.out; omega); intro v103 w8 ho hb hg hat; rw [← Ny102.out] at ho; have n0_ := Aside0.mk (hb); have n1_ := Aside0.mk (ho); clear HB; clear HO_3; have HB := n0_; have HO104 := n1_; clear n0_ n1_; clear ho hb hg hat))
         go_roundg k1
         case measure => have := HK1.out; omega
         case rel => exact ⟨(y102), (wrap64 (x8_1 + 1)), (by first | rfl | (simp; done) | (simp [*]; done)), H', ⟨by have := HK1.out; omega⟩, ⟨by (with_reducible repeat (first | apply Kd.R_alloc | apply Kd.R_drewN | apply Kd.R_drew)); exact HO104.out⟩, ⟨by repeat (first | (with_reducible first | exact HB.out | apply below_alloc | apply pw_below_drewN | apply below_drew1) | exact HB.out)⟩⟩
        ·rw [if_neg c7] at H
         exact absurd H (by simp)
       ·rw [if_neg c6] at H
        have c6b0 : decide ((rd l0 x8_1) ≤ 4294967295) = false := decide_eq_false c6
        clear c6
        have H' := Aside0.mk H
        clear H
        have p101 : 0 ≤ (x8_1 : Int) := of_decide_eq_true (by first | (with_reducible assumption) | assumption)
        have q101 : x8_1 < (l0.length : Int) := of_decide_eq_true (by first | (with_reducible assumption) | assumption)
        obtain ⟨ad101, e101, hx101_0⟩ := Kd.at_int HR0.out x8_1 p101 q101
        cases e101
        replace hx101_0 := (HB.out.cell (World.block_lt_of_cell? w _ hx101_0)).trans hx101_0
        replace p101 := eq_true p101
        replace q101 := eq_true q101
        go_wp2
        go_roundg k1
        case measure => have := HK1.out; omega
        case rel => exact ⟨(x3_1), (wrap64 (x8_1 + 1)), (by first | rfl | (simp; done) | (simp [*]; done)), H', ⟨by have := HK1.out; omega⟩, ⟨by (with_reducible repeat (first | apply Kd.R_alloc | apply Kd.R_drewN | apply Kd.R_drew)); exact HO_3.out⟩, ⟨by repeat (first | (with_reducible first | exact HB.out | apply below_alloc | apply pw_below_drewN | apply below_drew1) | exact HB.out)⟩⟩
      ·rw [if_neg c5] at H
       have c5b0 : decide (1 ≤ (rd l0 x8_1)) = false := decide_eq_false c5
       clear c5
       have H' := Aside0.mk H
       clear H
       have p101 : 0 ≤ (x8_1 : Int) := of_decide_eq_true (by first | (with_reducible assumption) | assumption)
       have q101 : x8_1 < (l0.length : Int) := of_decide_eq_true (by first | (with_reducible assumption) | assumption)
       obtain ⟨ad101, e101, hx101_0⟩ := Kd.at_int HR0.out x8_1 p101 q101
       cases e101
       replace hx101_0 := (HB.out.cell (World.block_lt_of_cell? w _ hx101_0)).trans hx101_0
       replace p101 := eq_true p101
       replace q101 := eq_true q101
       go_wp2
       go_roundg k1
       case measure => have := HK1.out; omega
       case rel => exact ⟨(x3_1), (wrap64 (x8_1 + 1)), (by first | rfl | (simp; done) | (simp [*]; done)), H', ⟨by have := HK1.out; omega⟩, ⟨by (with_reducible repeat (first | apply Kd.R_alloc | apply Kd.R_drewN | apply Kd.R_drew)); exact HO_3.out⟩, ⟨by repeat (first | (with_reducible first | exact HB.out | apply below_alloc | apply pw_below_drewN | apply below_drew1) | exact HB.out)⟩⟩
     ·rw [if_neg c4] at H
      exact absurd H (by simp)
    ·rw [if_neg c3] at H
     exact absurd H (by simp)
   ·rw [if_neg c2] at H
    have c2b0 : decide (x8_1 < (l0.length : Int)) = false := decide_eq_false c2
    clear c2
    replace H := Option.bind_eq_some_iff.mp H
    obtain ⟨t105, A90, H⟩ := H
    replace H : (some t105) = some r := H
    have A9 := Aside0.mk A90
    clear A90
    obtain rfl := Option.some.inj H
    obtain ⟨Ao10, co10, eo10⟩ := Kd.R_slice HO_3.out
    subst eo10
    go_wp2_with (first | ((with_reducible refine gate_callee (f := 45) rfl ?_); refine goesL_ (some 26) rfl rfl Tryd.func45 (by kernel_rfl) rfl #[.slice Ao10 x3_1.length co10] rfl (by (try simp only [List.map_toArray, List.map_cons, List.map_nil]); first | done | rfl | (simp only [List.length_drop, List.length_take]; rfl)) ?_; (with_reducible refine (span_united.calls _ _ x3_1 t105 _ ?side1 ?side2 A9.out).mono ?_); (case side1 => repeat (first | exact (Kd.R_reads' HO_3.out).2.2 | (with_reducible refine Kd.C_alloc ?_ _) | (with_reducible refine Kd.C_drewN ?_ _) | (with_reducible refine Kd.C_drew ?_))); (case side2 => exact (Kd.R_reads' HO_3.out).2.1); rintro e w11 ⟨v106, rfl, ho0, hb⟩; refine ⟨_, rfl, ?_⟩; have n0_ := Aside0.mk (Kd.R_elder' (by (with_reducible repeat (first | apply Kd.R_alloc | apply Kd.R_drewN | apply Kd.R_drew)); exact HO_3.out) (Kd.R_base ho0) hb); have n1_ := Aside0.mk (Kd.R_lower (Kd.R_new' ho0 (Kd.R_lt (by (with_reducible repeat (first | apply Kd.R_alloc | apply Kd.R_drewN | apply Kd.R_drew)); exact HO_3.out))) (below_size (by repeat (first | (with_reducible first | exact HB.out | apply below_alloc | apply pw_below_drewN | apply below_drew1) | exact HB.out)))); have n2_ := Aside0.mk (below_step (by repeat (first | (with_reducible first | exact HB.out | apply below_alloc | apply pw_below_drewN | apply below_drew1) | exact HB.out)) hb); clear HO_3; clear HB; have HO_3 := n0_; have HO107 := n1_; have HB := n2_; clear n0_ n1_ n2_; (try clear hb); (try clear hb2); (try clear hk); (try clear hi); (try clear ho0)))
    go_ret
    exact ⟨_, by first | rfl | (simp [errW_none, errW_some] <;> rfl) | (simp [*, errW_none, errW_some] <;> rfl), by (with_reducible repeat (first | apply Kd.R_alloc | apply Kd.R_drewN | apply Kd.R_drew)); exact Kd.R_mono HO107.out (fun _ hk => trivial), by repeat (first | (with_reducible first | exact HB.out | apply below_alloc | apply pw_below_drewN | apply below_drew1) | exact HB.out)⟩
end Go.Proofs.YtidcchopmbodkaaDoor.Sp
end
section
namespace Go.Proofs.YtidcchopmbodkaaDoor.Sp
open Go.RowKit Go.Proofs.YtidcchopmbodkaaDoorW.PrintWords Go.Proofs.YtidcchopmbodkaaDoorW.PrintLast Go.Proofs.YtidcchopmbodkaaDoorW.PrintMore
attribute [local go_sem] max2_int min2_int max_two min_two max_three min_three max_four min_four   -- for this text's walks alone
set_option linter.unusedVariables false
set_option linter.unusedSimpArgs false
def span_Of.l0 : Nat → List (S28) → List Int → List Int → List Int → Int → Int → Option (List Int)
 | 0, _, _, _, _, _, _ => none
 | k + 1, x0, x1, x5, x8, x9, x10 => if x10 < x9 then (if 0 ≤ x10 then (if x10 < (x8.length : Int) then (if 0 ≤ (wrap64 ((x1.length : Int) - 1)) then (if (wrap64 ((x1.length : Int) - 1)) < (x1.length : Int) then ((span_Has.f x0 (rd x8 x10) (rd x1 (wrap64 ((x1.length : Int) - 1)))).bind fun t118 => (if t118 = true then (if x5.length < 17592186044416 then (span_Of.l0 k x0 x1 (x5 ++ [rd x8 x10]) x8 x9 (wrap64 (x10 + 1))) else (none)) else (span_Of.l0 k x0 x1 x5 x8 x9 (wrap64 (x10 + 1))))) else (none)) else (none)) else (none)) else (none)) else (some x5)
def span_Of.f (k : Nat) (l0 : List (S28)) (l1 : List Int) : Option (List Int) := span_Of.l0 k l0 l1 ([] : List Int) l1 (l1.length : Int) 0
set_option maxHeartbeats 8000000 in
set_option maxRecDepth 100000 in
theorem span_Of.calls (k : Nat) (A0 : Option Addr) (c0 : Nat) (l0 : List (S28)) (A1 : Option Addr) (c1 : Nat) (l1 : List Int) (r : List Int) (w : World) (hr0 : Kd.C k28 w A0 l0.length l0) (hc0 : l0.length ≤ c0) (hr1 : Kd.C (Kd.int .i64) w A1 l1.length l1) (hc1 : l1.length ≤ c1) (h : span_Of.f k l0 l1 = some r) :
  Calls Tryd.prog 19 #[.slice A0 l0.length c0, .slice A1 l1.length c1] w fun e w' => ∃ v0_ : Value, e = .returned (v0_) ∧ Kd.R (Kd.int .i64) 3 w' w.heap.size (fun _ => True) v0_ r ∧ Below w.heap.size w w' := by
 have HR0 := Aside0.mk hr0
 have HC0 := Aside0.mk hc0
 clear hr0 hc0
 have HR1 := Aside0.mk hr1
 have HC1 := Aside0.mk hc1
 clear hr1 hc1
 have HB := Aside0.mk (Below.refl w.heap.size w)
 have H : (span_Of.l0 k l0 l1 ([] : List Int) l1 (l1.length : Int) 0) = some r := h
 clear h
 have H' := Aside0.mk H
 clear H
 go_enter Tryd.func19, Tryd.ntmps19
 go_wp2
 go_loopg [5, 10] k (fun kq v5 v10 w' => ∃ (x5_1 : List Int) (x10_1 : Int), v10 = .int .i64 x10_1 ∧ Aside0 (span_Of.l0 kq l0 l1 x5_1 l1 (l1.length : Int) x10_1 = some r) ∧ Aside0 (kq ≤ k) ∧ Aside0 (Kd.R (Kd.int .i64) 3 w' w.heap.size (fun _ => True) v5 x5_1) ∧ Aside0 (Below w.heap.size w w'))
 case atStart => exact ⟨(([] : List Int)), (0), (by first | rfl | (simp; done) | (simp [*]; done)), H', ⟨Nat.le_refl _⟩, ⟨by first | exact Kd.R_nil _ _ _ _ _ | exact Kd.N_nil _ _ _ _ _ | exact Kd.V_nil _ _ _ _ _ | exact Kd.Q_nil _ _ _ _ _ | exact Kd.S_nil _ _ _ _ _⟩, ⟨by repeat (first | (with_reducible first | exact HB.out | apply below_alloc | apply pw_below_drewN | apply below_drew1) | exact HB.out)⟩⟩
 case round =>
  clear H'
  try clear c1
  try clear p2
  obtain ⟨x5_1, x10_1, rfl, HA, HK1, HO_5, HB⟩ := hrel
  cases gk with
  | zero => exact absurd HA.out (by simp [span_Of.l0])
  | succ k1 =>
   have H := HA.out
   clear HA
   simp only [span_Of.l0] at H
   by_cases c3 : x10_1 < (l1.length : Int)
   ·rw [if_pos c3] at H
    have c3b0 : decide (x10_1 < (l1.length : Int)) = true := decide_eq_true c3
    clear c3
    by_cases c4 : 0 ≤ x10_1
    ·rw [if_pos c4] at H
     have c4b0 : decide (0 ≤ x10_1) = true := decide_eq_true c4
     clear c4
     by_cases c5 : x10_1 < (l1.length : Int)
     ·rw [if_pos c5] at H
      have c5b0 : decide (x10_1 < (l1.length : Int)) = true := decide_eq_true c5
      clear c5
      obtain ⟨ji6, hji6⟩ : ∃ j_ : Int, (wrap64 ((l1.length : Int) - 1)) = j_ := ⟨_, rfl⟩
      replace H : (if 0 ≤ (ji6) then (if (ji6) < (l1.length : Int) then ((span_Has.f l0 (rd l1 x10_1) (rd l1 (ji6))).bind fun t118 => (if t118 = true then (if x5_1.length < 17592186044416 then (span_Of.l0 k1 l0 l1 (x5_1 ++ [rd l1 x10_1]) l1 (l1.length : Int) (wrap64 (x10_1 + 1))) else (none)) else (span_Of.l0 k1 l0 l1 x5_1 l1 (l1.length : Int) (wrap64 (x10_1 + 1))))) else (none)) else (none)) = some r := by first | (rw [hji6] at H; exact H) | (simp only [hji6] at H ⊢; exact H)
      have hji6w : (IntKind.i64.wrap ((l1.length : Int) - 1)) = ji6 := (i64_w _).trans hji6
      by_cases c7 : 0 ≤ (ji6)
      ·rw [if_pos c7] at H
       have c7b0 : decide (0 ≤ (ji6)) = true := decide_eq_true c7
       clear c7
       by_cases c8 : (ji6) < (l1.length : Int)
       ·rw [if_pos c8] at H
        have c8b0 : decide ((ji6) < (l1.length : Int)) = true := decide_eq_true c8
        clear c8
        replace H := Option.bind_eq_some_iff.mp H
        obtain ⟨t118, A90, H⟩ := H
        replace H : (if t118 = true then (if x5_1.length < 17592186044416 then (span_Of.l0 k1 l0 l1 (x5_1 ++ [rd l1 x10_1]) l1 (l1.length : Int) (wrap64 (x10_1 + 1))) else (none)) else (span_Of.l0 k1 l0 l1 x5_1 l1 (l1.length : Int) (wrap64 (x10_1 + 1)))) = some r := H
        have A9 := Aside0.mk A90
        clear A90
        by_cases c10 : t118 = true
        ·subst c10
         have H1 : (if x5_1.length < 17592186044416 then (span_Of.l0 k1 l0 l1 (x5_1 ++ [rd l1 x10_1]) l1 (l1.length : Int) (wrap64 (x10_1 + 1))) else (none)) = some r := by rw [if_pos rfl] at H; exact H
         clear H
         have H := H1
         clear H1
         by_cases c11 : x5_1.length < 17592186044416
         ·rw [if_pos c11] at H
          have LMc11 := Aside0.mk c11
          clear c11
          obtain ⟨y119, hy119⟩ : ∃ y_ : List Int, y_ = (x5_1 ++ [rd l1 x10_1]) := ⟨_, rfl⟩
          replace H : (span_Of.l0 k1 l0 l1 y119 l1 (l1.length : Int) (wrap64 (x10_1 + 1))) = some r := by first | (rw [hy119]; with_reducible exact H) | (have H2_ := (Option.bind_some _ _).symm.trans H; rw [hy119]; with_reducible exact H2_) | (have H2_ := (Option.bind_some _ _).symm.trans H; with_reducible exact H2_) | with_reducible exact H | (rw [hy119]; exact H) | exact H
          have Ny119 := Aside0.mk hy119
          clear hy119
          have H' := Aside0.mk H
          clear H
          have p116 : 0 ≤ (x10_1 : Int) := of_decide_eq_true (by first | (with_reducible assumption) | assumption)
          have q116 : x10_1 < (l1.length : Int) := of_decide_eq_true (by first | (with_reducible assumption) | assumption)
          obtain ⟨ad116, e116, hx116_0⟩ := Kd.at_int HR1.out x10_1 p116 q116
          cases e116
          replace hx116_0 := (HB.out.cell (World.block_lt_of_cell? w _ hx116_0)).trans hx116_0
          replace p116 := eq_true p116
          replace q116 := eq_true q116
          have p117 : 0 ≤ ((ji6) : Int) := of_decide_eq_true (by first | (with_reducible assumption) | assumption)
          have q117 : (ji6) < (l1.length : Int) := of_decide_eq_true (by first | (with_reducible assumption) | assumption)
          obtain ⟨ad117, e117, hx117_0⟩ := Kd.at_int HR1.out (ji6) p117 q117
          obtain rfl : ad116 = ad117 := (by injection e117)
          replace hx117_0 := (HB.out.cell (World.block_lt_of_cell? w _ hx117_0)).trans hx117_0
          replace p117 := eq_true p117
          replace q117 := eq_true q117
          go_wp2_with (first | ((with_reducible refine gate_callee (f := 17) rfl ?_); refine goesL_ (some 22) rfl rfl Tryd.func17 (by kernel_rfl) rfl #[.slice A0 l0.length c0, .int .i64 (rd l1 x10_1), .int .i64 (rd l1 (ji6))] rfl (by (try simp only [List.map_toArray, List.map_cons, List.map_nil]); first | done | (simp only [hji6]; rfl) | rfl | (simp only [List.length_drop, List.length_take]; rfl)) ?_; (with_reducible refine (span_Has.calls _ _ l0 (rd l1 x10_1) (rd l1 (ji6)) true _ ?side1 ?side2 A9.out).mono ?_); (case side1 => repeat (first | exact (Kd.C_below HR0.out HB.out) | (with_reducible refine Kd.C_alloc ?_ _) | (with_reducible refine Kd.C_drewN ?_ _) | (with_reducible refine Kd.C_drew ?_))); (case side2 => exact HC0.out); rintro e w12 ⟨rfl, hb⟩; refine ⟨_, rfl, ?_⟩; have n0_ := Aside0.mk (Kd.R_below (by (with_reducible repeat (first | apply Kd.R_alloc | apply Kd.R_drewN | apply Kd.R_drew)); exact HO_5.out) hb); have n1_ := Aside0.mk (below_step (by repeat (first | (with_reducible first | exact HB.out | apply below_alloc | apply pw_below_drewN | apply below_drew1) | exact HB.out)) hb); clear HO_5; clear HB; have HO_5 := n0_; have HB := n1_; clear n0_ n1_; (try clear hb); (try clear hb2); (try clear hk); (try clear hi)) | ((with_reducible refine gate_builtin (b := .append) (xs := #[.tmp 23, .tmp 25]) rfl ?_); at_builtin; refine Kd.R_append (Kd.int .i64) (w0 := w) w.heap.size rfl (.tmp 23) (.tmp 25) 22 3 (.int .i64 0) 8 rfl Tryd.underlying22 info3 rfl (by decide) (by omega) u5 x5_1 (rd l1 x10_1) [.int .i64 (rd l1 x10_1)] (fun _ => True) (fun _ => False) rfl rfl ?aP (fun _ hk => hk.elim) ?aF ?aO ?aB ?aS ?aL ?_; (case aP => exact rfl); (case aB => exact (by repeat (first | (with_reducible first | exact HB.out | apply below_alloc | apply pw_below_drewN | apply below_drew1) | exact HB.out))); (case aF => exact (fun _ _ => trivial)); (case aO => exact (by (with_reducible repeat (first | apply Kd.R_alloc | apply Kd.R_drewN | apply Kd.R_drew)); exact HO_5.out)); (case aS => exact (below_size (by repeat (first | (with_reducible first | exact HB.out | apply below_alloc | apply pw_below_drewN | apply below_drew1) | exact HB.out)))); (case aL => have := LMc11.out; omega); intro v120 w13 ho hb hg hat; rw [← Ny119.out] at ho; have n0_ := Aside0.mk (hb); have n1_ := Aside0.mk (ho); clear HB; clear HO_5; have HB := n0_; have HO121 := n1_; clear n0_ n1_; clear ho hb hg hat))
          go_roundg k1
          case measure => have := HK1.out; omega
          case rel => exact ⟨(y119), (wrap64 (x10_1 + 1)), (by first | rfl | (simp; done) | (simp [*]; done)), H', ⟨by have := HK1.out; omega⟩, ⟨by (with_reducible repeat (first | apply Kd.R_alloc | apply Kd.R_drewN | apply Kd.R_drew)); exact HO121.out⟩, ⟨by repeat (first | (with_reducible first | exact HB.out | apply below_alloc | apply pw_below_drewN | apply below_drew1) | exact HB.out)⟩⟩
         ·rw [if_neg c11] at H
          exact absurd H (by simp)
        ·replace c10 := Bool.eq_false_iff.mpr c10
         subst c10
         have H1 : (span_Of.l0 k1 l0 l1 x5_1 l1 (l1.length : Int) (wrap64 (x10_1 + 1))) = some r := by rw [if_neg (show ¬ (false = true) by decide)] at H; exact H
         clear H
         have H := H1
         clear H1
         have H' := Aside0.mk H
         clear H
         have p116 : 0 ≤ (x10_1 : Int) := of_decide_eq_true (by first | (with_reducible assumption) | assumption)
         have q116 : x10_1 < (l1.length : Int) := of_decide_eq_true (by first | (with_reducible assumption) | assumption)
         obtain ⟨ad116, e116, hx116_0⟩ := Kd.at_int HR1.out x10_1 p116 q116
         cases e116
         replace hx116_0 := (HB.out.cell (World.block_lt_of_cell? w _ hx116_0)).trans hx116_0
         replace p116 := eq_true p116
         replace q116 := eq_true q116
         have p117 : 0 ≤ ((ji6) : Int) := of_decide_eq_true (by first | (with_reducible assumption) | assumption)
         have q117 : (ji6) < (l1.length : Int) := of_decide_eq_true (by first | (with_reducible assumption) | assumption)
         obtain ⟨ad117, e117, hx117_0⟩ := Kd.at_int HR1.out (ji6) p117 q117
         obtain rfl : ad116 = ad117 := (by injection e117)
         replace hx117_0 := (HB.out.cell (World.block_lt_of_cell? w _ hx117_0)).trans hx117_0
         replace p117 := eq_true p117
         replace q117 := eq_true q117
         go_wp2_with (first | ((with_reducible refine gate_callee (f := 17) rfl ?_); refine goesL_ (some 22) rfl rfl Tryd.func17 (by kernel_rfl) rfl #[.slice A0 l0.length c0, .int .i64 (rd l1 x10_1), .int .i64 (rd l1 (ji6))] rfl (by (try simp only [List.map_toArray, List.map_cons, List.map_nil]); first | done | (simp only [hji6]; rfl) | rfl | (simp only [List.length_drop, List.length_take]; rfl)) ?_; (with_reducible refine (span_Has.calls _ _ l0 (rd l1 x10_1) (rd l1 (ji6)) false _ ?side1 ?side2 A9.out).mono ?_); (case side1 => repeat (first | exact (Kd.C_below HR0.out HB.out) | (with_reducible refine Kd.C_alloc ?_ _) | (with_reducible refine Kd.C_drewN ?_ _) | (with_reducible refine Kd.C_drew ?_))); (case side2 => exact HC0.out); rintro e w14 ⟨rfl, hb⟩; refine ⟨_, rfl, ?_⟩; have n0_ := Aside0.mk (Kd.R_below (by (with_reducible repeat (first | apply Kd.R_alloc | apply Kd.R_drewN | apply Kd.R_drew)); exact HO_5.out) hb); have n1_ := Aside0.mk (below_step (by repeat (first | (with_reducible first | exact HB.out | apply below_alloc | apply pw_below_drewN | apply below_drew1) | exact HB.out)) hb); clear HO_5; clear HB; have HO_5 := n0_; have HB := n1_; clear n0_ n1_; (try clear hb); (try clear hb2); (try clear hk); (try clear hi)))
         go_roundg k1
         case measure => have := HK1.out; omega
         case rel => exact ⟨(x5_1), (wrap64 (x10_1 + 1)), (by first | rfl | (simp; done) | (simp [*]; done)), H', ⟨by have := HK1.out; omega⟩, ⟨by (with_reducible repeat (first | apply Kd.R_alloc | apply Kd.R_drewN | apply Kd.R_drew)); exact HO_5.out⟩, ⟨by repeat (first | (with_reducible first | exact HB.out | apply below_alloc | apply pw_below_drewN | apply below_drew1) | exact HB.out)⟩⟩
       ·rw [if_neg c8] at H
        exact absurd H (by simp)
      ·rw [if_neg c7] at H
       exact absurd H (by simp)
     ·rw [if_neg c5] at H
      exact absurd H (by simp)
    ·rw [if_neg c4] at H
     exact absurd H (by simp)
   ·rw [if_neg c3] at H
    have c3b0 : decide (x10_1 < (l1.length : Int)) = false := decide_eq_false c3
    clear c3
    obtain rfl := Option.some.inj H
    go_wp2
    go_ret
    exact ⟨_, by first | rfl | (simp [errW_none, errW_some] <;> rfl) | (simp [*, errW_none, errW_some] <;> rfl), by (with_reducible repeat (first | apply Kd.R_alloc | apply Kd.R_drewN | apply Kd.R_drew)); exact HO_5.out, by repeat (first | (with_reducible first | exact HB.out | apply below_alloc | apply pw_below_drewN | apply below_drew1) | exact HB.out)⟩
end Go.Proofs.YtidcchopmbodkaaDoor.Sp
end
section
namespace Go.Proofs.YtidcchopmbodkaaDoor.Sp
open Go.RowKit Go.Proofs.YtidcchopmbodkaaDoorW.PrintWords Go.Proofs.YtidcchopmbodkaaDoorW.PrintLast Go.Proofs.YtidcchopmbodkaaDoorW.PrintMore
attribute [local go_sem] max2_int min2_int max_two min_two max_three min_three max_four min_four   -- for this text's walks alone
set_option linter.unusedVariables false
set_option linter.unusedSimpArgs false
end Go.Proofs.YtidcchopmbodkaaDoor.Sp
end
section
namespace Go.Proofs.YtidcchopmbodkaaDoor.Sp
open Go.RowKit Go.Proofs.YtidcchopmbodkaaDoorW.PrintWords Go.Proofs.YtidcchopmbodkaaDoorW.PrintLast Go.Proofs.YtidcchopmbodkaaDoorW.PrintMore
attribute [local go_sem] max2_int min2_int max_two min_two max_three min_three max_four min_four   -- for this text's walks alone
set_option linter.unusedVariables false
set_option linter.unusedSimpArgs false
attribute [local go_sem high] eqA28
def postbaglaw4_same.l0 : Nat → List (S28) → List (S28) → Int → Option (Bool)
 | 0, _, _, _ => none
 | k + 1, x0, x1, x5 => if x5 < (x0.length : Int) then (if 0 ≤ x5 then (if x5 < (x1.length : Int) then (if (!(((rd_T28 x0 x5).f0) == ((rd_T28 x1 x5).f0)) || (!(((rd_T28 x0 x5).f1) == ((rd_T28 x1 x5).f1)))) = true then (some false) else (postbaglaw4_same.l0 k x0 x1 (wrap64 (x5 + 1)))) else (none)) else (none)) else (some true)
def postbaglaw4_same.f (k : Nat) (l0 : List (S28)) (l1 : List (S28)) : Option (Bool) := if (l0.length : Int) = (l1.length : Int) then (postbaglaw4_same.l0 k l0 l1 0) else (some false)
set_option maxHeartbeats 8000000 in
set_option maxRecDepth 100000 in
theorem postbaglaw4_same.calls (k : Nat) (A0 : Option Addr) (c0 : Nat) (l0 : List (S28)) (A1 : Option Addr) (c1 : Nat) (l1 : List (S28)) (r : Bool) (w : World) (hr0 : Kd.C k28 w A0 l0.length l0) (hc0 : l0.length ≤ c0) (hr1 : Kd.C k28 w A1 l1.length l1) (hc1 : l1.length ≤ c1) (h : postbaglaw4_same.f k l0 l1 = some r) :
  Calls Tryd.prog 26 #[.slice A0 l0.length c0, .slice A1 l1.length c1] w fun e w' => e = .returned (.bool r) ∧ Drawn0 w w' := by
 have hu28 := Tryd.underlying28
 have HR0 := Aside0.mk hr0
 have HC0 := Aside0.mk hc0
 clear hr0 hc0
 have HR1 := Aside0.mk hr1
 have HC1 := Aside0.mk hc1
 clear hr1 hc1
 have H : (if (l0.length : Int) = (l1.length : Int) then (postbaglaw4_same.l0 k l0 l1 0) else (some false)) = some r := h
 clear h
 by_cases c3 : (l0.length : Int) = (l1.length : Int)
 ·rw [if_pos c3] at H
  have c3b0 : ((l0.length : Int) == (l1.length : Int)) = true := beq_iff_eq.mpr c3
  have c3b1 : ((l0.length : Int) != (l1.length : Int)) = false := bne_eq_false_iff_eq.mpr c3
  have c3b2 : (l0.length == l1.length) = true := by first | simpa using c3 | (simp at c3 ⊢; omega)
  clear c3
  have H' := Aside0.mk H
  clear H
  go_enter Tryd.func26, Tryd.ntmps26
  go_wp2
  repeat (go_quiet (fail); try go_wp2)
  go_loopg [5] k (fun kq v5 w' => ∃ (x5_1 : Int), v5 = .int .i64 x5_1 ∧ Aside0 (postbaglaw4_same.l0 kq l0 l1 x5_1 = some r) ∧ Aside0 (kq ≤ k) ∧ Drawn0 w w')
  case atStart => exact ⟨(0), (by first | rfl | (simp; done) | (simp [*]; done)), H', ⟨Nat.le_refl _⟩, by repeat (first | exact Drawn0.refl _ | apply Drawn0.step)⟩
  case round =>
   clear H'
   try clear c1
   try clear c2
   try clear p2
   try clear c3
   try clear c3b0
   try clear c3b1
   try clear c3b2
   obtain ⟨x5_1, rfl, HA, HK1, ⟨m1, rfl⟩⟩ := hrel
   cases gk with
   | zero => exact absurd HA.out (by simp [postbaglaw4_same.l0])
   | succ k1 =>
    have H := HA.out
    clear HA
    simp only [postbaglaw4_same.l0] at H
    by_cases c4 : x5_1 < (l0.length : Int)
    ·rw [if_pos c4] at H
     have c4b0 : decide (x5_1 < (l0.length : Int)) = true := decide_eq_true c4
     clear c4
     by_cases c5 : 0 ≤ x5_1
     ·rw [if_pos c5] at H
      have c5b0 : decide (0 ≤ x5_1) = true := decide_eq_true c5
      clear c5
      by_cases c6 : x5_1 < (l1.length : Int)
      ·rw [if_pos c6] at H
       have c6b0 : decide (x5_1 < (l1.length : Int)) = true := decide_eq_true c6
       clear c6
       by_cases c7 : (!(((rd_T28 l0 x5_1).f0) == ((rd_T28 l1 x5_1).f0)) || (!(((rd_T28 l0 x5_1).f1) == ((rd_T28 l1 x5_1).f1)))) = true
       ·rw [if_pos c7] at H
        have c7b0 : (!(((rd_T28 l0 x5_1).f0) == ((rd_T28 l1 x5_1).f0)) || (!(((rd_T28 l0 x5_1).f1) == ((rd_T28 l1 x5_1).f1)))) = true := c7
        clear c7
        obtain rfl := Option.some.inj H
        have p145 : 0 ≤ (x5_1 : Int) := of_decide_eq_true (by first | (with_reducible assumption) | assumption)
        have q145 : x5_1 < (l0.length : Int) := of_decide_eq_true (by first | (with_reducible assumption) | assumption)
        obtain ⟨ad145, e145, hx145_0, hx145_1⟩ := at_T28 HR0.out x5_1 p145 q145
        cases e145
        replace p145 := eq_true p145
        replace q145 := eq_true q145
        have p146 : 0 ≤ (x5_1 : Int) := of_decide_eq_true (by first | (with_reducible assumption) | assumption)
        have q146 : x5_1 < (l1.length : Int) := of_decide_eq_true (by first | (with_reducible assumption) | assumption)
        obtain ⟨ad146, e146, hx146_0, hx146_1⟩ := at_T28 HR1.out x5_1 p146 q146
        cases e146
        replace p146 := eq_true p146
        replace q146 := eq_true q146
        go_wp2
        repeat (go_quiet (fail); try go_wp2)
        go_ret
        exact ⟨by first | rfl | (simp; done) | (simp [*]; done), by repeat (first | exact Drawn0.refl _ | apply Drawn0.step)⟩
       ·rw [if_neg c7] at H
        have c7b0 : (!(((rd_T28 l0 x5_1).f0) == ((rd_T28 l1 x5_1).f0)) || (!(((rd_T28 l0 x5_1).f1) == ((rd_T28 l1 x5_1).f1)))) = false := by simpa using c7
        clear c7
        have H' := Aside0.mk H
        clear H
        have p145 : 0 ≤ (x5_1 : Int) := of_decide_eq_true (by first | (with_reducible assumption) | assumption)
        have q145 : x5_1 < (l0.length : Int) := of_decide_eq_true (by first | (with_reducible assumption) | assumption)
        obtain ⟨ad145, e145, hx145_0, hx145_1⟩ := at_T28 HR0.out x5_1 p145 q145
        cases e145
        replace p145 := eq_true p145
        replace q145 := eq_true q145
        have p146 : 0 ≤ (x5_1 : Int) := of_decide_eq_true (by first | (with_reducible assumption) | assumption)
        have q146 : x5_1 < (l1.length : Int) := of_decide_eq_true (by first | (with_reducible assumption) | assumption)
        obtain ⟨ad146, e146, hx146_0, hx146_1⟩ := at_T28 HR1.out x5_1 p146 q146
        cases e146
        replace p146 := eq_true p146
        replace q146 := eq_true q146
        go_wp2
        repeat (go_quiet (fail); try go_wp2)
        go_roundg k1
        case measure => have := HK1.out; omega
        case rel => exact ⟨(wrap64 (x5_1 + 1)), (by first | rfl | (simp; done) | (simp [*]; done)), H', ⟨by have := HK1.out; omega⟩, by repeat (first | exact Drawn0.refl _ | apply Drawn0.step)⟩
      ·rw [if_neg c6] at H
       exact absurd H (by simp)
     ·rw [if_neg c5] at H
      exact absurd H (by simp)
    ·rw [if_neg c4] at H
     have c4b0 : decide (x5_1 < (l0.length : Int)) = false := decide_eq_false c4
     clear c4
     obtain rfl := Option.some.inj H
     go_wp2
     repeat (go_quiet (fail); try go_wp2)
     go_ret
     exact ⟨by first | rfl | (simp; done) | (simp [*]; done), by repeat (first | exact Drawn0.refl _ | apply Drawn0.step)⟩
 ·rw [if_neg c3] at H
  have c3b0 : ((l0.length : Int) == (l1.length : Int)) = false := beq_eq_false_iff_ne.mpr c3
  have c3b1 : ((l0.length : Int) != (l1.length : Int)) = true := bne_iff_ne.mpr c3
  have c3b2 : (l0.length == l1.length) = false := by first | simpa using c3 | (simp at c3 ⊢; omega)
  obtain rfl := Option.some.inj H
  go_enter Tryd.func26, Tryd.ntmps26
  go_wp2
  repeat (go_quiet (fail); try go_wp2)
  go_ret
  exact ⟨by first | rfl | (simp; done) | (simp [*]; done), by repeat (first | exact Drawn0.refl _ | apply Drawn0.step)⟩
end Go.Proofs.YtidcchopmbodkaaDoor.Sp
end
section
namespace Go.Proofs.YtidcchopmbodkaaDoor.Sp
open Go.RowKit Go.Proofs.YtidcchopmbodkaaDoorW.PrintWords Go.Proofs.YtidcchopmbodkaaDoorW.PrintLast Go.Proofs.YtidcchopmbodkaaDoorW.PrintMore
open Canon
theorem w64n (i : Nat) (h : i < 4611686018427387904) : wrap64 ((i : Int) + 1) = ((i + 1 : Nat) : Int) := by unfold wrap64; omega
theorem rd28_at (l : List S28) (i : Nat) (h : i < l.length) : rd_T28 l (i : Int) = l[i] := by
  unfold rd_T28
  rw [List.getD_eq_getElem?_getD, show ((i : Int)).toNat = i from by omega, List.getElem?_eq_getElem h]
  rfl
def hasB (l : List S28) (n g : Int) : Bool := if g < 1 ∨ n < 1 then false else l.any (pieceB n g)
theorem has_f (l : List S28) (n g : Int) : span_Has.f l n g = some (hasB l n g) := rfl
theorem same_l0 (a b : List S28) (hab : a.length = b.length) (hl : a.length ≤ 8000000000000) (d : Nat) : ∀ (i k : Nat), i + d = a.length → d < k →
    postbaglaw4_same.l0 k a b (i : Int) = some (decide ((a.drop i).map pr = (b.drop i).map pr)) := by
  induction d with
  | zero =>
    intro i k hi hk
    obtain ⟨k, rfl⟩ : ∃ j, k = j + 1 := ⟨k - 1, by omega⟩
    simp only [postbaglaw4_same.l0]
    rw [if_neg (by omega), List.drop_of_length_le (by omega), List.drop_of_length_le (by omega)]
    simp
  | succ d ih =>
    intro i k hi hk
    obtain ⟨k, rfl⟩ : ∃ j, k = j + 1 := ⟨k - 1, by omega⟩
    simp only [postbaglaw4_same.l0]
    rw [if_pos (by omega), if_pos (by omega), if_pos (by omega), rd28_at a i (by omega), rd28_at b i (by omega), w64n i (by omega), List.drop_eq_getElem_cons (show i < a.length by omega), List.drop_eq_getElem_cons (show i < b.length by omega)]
    generalize a[i] = x
    generalize b[i] = y
    by_cases h : pr x = pr y
    · have h1 : x.f0 = y.f0 := congrArg Prod.fst h
      have h2 : x.f1 = y.f1 := congrArg Prod.snd h
      rw [if_neg (by simp [h1, h2]), ih (i + 1) k (by omega) (by omega)]
      simp [h]
    · rw [if_pos, decide_eq_false]
      · intro e
        rw [List.map_cons, List.map_cons] at e
        exact h (List.cons.inj e).1
      · by_cases h1 : x.f0 = y.f0
        · by_cases h2 : x.f1 = y.f1
          · exact absurd (Prod.ext h1 h2) h
          · simp [h2]
        · simp [h1]
theorem same_f (a b : List S28) (hl : a.length ≤ 8000000000000) (k : Nat) (hk : a.length < k) : postbaglaw4_same.f k a b = some (decide (a.map pr = b.map pr)) := by
  unfold postbaglaw4_same.f
  by_cases h : a.length = b.length
  · rw [if_pos (by omega)]
    exact same_l0 a b h hl a.length 0 k (by omega) hk
  · rw [if_neg (by omega), decide_eq_false]
    intro e
    have := congrArg List.length e
    simp at this
    exact h this
end Go.Proofs.YtidcchopmbodkaaDoor.Sp
end
section
namespace Go.Proofs.YtidcchopmbodkaaDoor.Sp
open Go.RowKit Go.Proofs.YtidcchopmbodkaaDoorW.PrintWords Go.Proofs.YtidcchopmbodkaaDoorW.PrintLast Go.Proofs.YtidcchopmbodkaaDoorW.PrintMore
end Go.Proofs.YtidcchopmbodkaaDoor.Sp
end
section
namespace Go.Proofs.YtidcchopmbodkaaDoor.Sp
open Go.RowKit Go.Proofs.YtidcchopmbodkaaDoorW.PrintWords Go.Proofs.YtidcchopmbodkaaDoorW.PrintLast Go.Proofs.YtidcchopmbodkaaDoorW.PrintMore
theorem roomB_ge (n m : Nat) : m + 4 ≤ roomB n m := by unfold roomB; split <;> omega
theorem layA_take (n : Nat) (l : List S28) : (layA n l).take l.length = l := by unfold layA; exact List.take_left
set_option maxHeartbeats 4000000 in
set_option maxRecDepth 100000 in
theorem ranges_calls (B p : Nat) (sv lv iv tv : Value) (xs : List S28) (A : Option Addr) (c : Nat) (l : List S28) (w : World) (ok : Nat → Prop) (hp : w.heap[p]? = some (.cells #[sv, lv, iv, tv] 55 (0, 0))) (hpB : B ≤ p) (hv : Kd.R k28 28 w B ok sv xs)
    (hl : ∀ W', Kept w W' (fun k => k = p ∨ some k = sv.ownBlock) → Kd.C k28 W' A l.length l) (hn : l.length ≤ 100000) (hx : xs.length ≤ 8000000000000) :
    Calls Tryd.prog 37 #[.pointer (some ⟨p, 0, none⟩), .slice A l.length c] w fun e w' => ∃ (A' : Option Addr) (c' : Nat), e = .returned (.slice A' l.length c') ∧ l.length ≤ c' ∧ Kd.R k28 28 w' B (fun k => some k = (Value.slice A' (roomB xs.length l.length) c').ownBlock) (.slice A' (roomB xs.length l.length) c') (layA (roomB xs.length l.length) l) ∧
      w'.heap[p]? = some (.cells #[.slice A' (roomB xs.length l.length) c', lv, iv, tv] 55 (0, 0)) ∧ ((Value.slice A' (roomB xs.length l.length) c').ownBlock = sv.ownBlock ∨ ∃ g, (Value.slice A' (roomB xs.length l.length) c').ownBlock = some g ∧ w.heap.size ≤ g) ∧ Kept w w' (fun k => k = p ∨ some k = sv.ownBlock) ∧ Below B w w' := by
  have hplt := blk_lt hp
  have hne : some p ≠ sv.ownBlock := Kd.R_ne hv hp (by decide)
  have hlc := lay_calls B sv xs A c l w ok hv (by omega) (fun W' hk => hl W' (hk.mono fun k h => Or.inr h)) hn hx
  have HP := Lib.hid hp
  have HNE := Lib.hid hne
  have hr := roomB_ge xs.length l.length
  have hll := layA_len (roomB xs.length l.length) l (by omega)
  have HLL := Lib.hid hll
  generalize roomB xs.length l.length = n at *
  have c0 := blk_cell hp 0
  have f0 := blk_frozen hp 0
  have hlm : l.length ≤ maxLen := (hl w (Kept.refl _ _)).2.1
  have hlm2 : l.length ≤ 9223372036854775807 := hlm
  clear hlm
  clear hp hl hne hll
  go_enter Tryd.func37, Tryd.ntmps37
  go_wp2_with fail
  go_at_call 58
  refine hlc.mono ?_
  rintro e w1 ⟨v, rfl, hR, hat, hk, hbl⟩
  clear hlc
  obtain ⟨A', c', rfl⟩ := Kd.R_slice hR
  rw [HLL.out] at hR hat
  rw [HLL.out]
  obtain ⟨-, hnc, -⟩ := Kd.R_reads' hR
  have hp1 := blk_kept HP.out hk HNE.out
  have d0 := blk_cell hp1 0
  have e0 := blk_frozen hp1 0
  have s1 := blk_lt hp1
  have hne1 : some p ≠ (Value.slice A' n c').ownBlock := by
    rcases hat with h | ⟨g, h, hle⟩
    · rw [h]; exact HNE.out
    · rw [h]; intro he; injection he with he; omega
  have hp2 := blk_put hp1 0 (.slice A' n c') rfl
  have hR2 := Kd.R_far (p := ⟨p, 0, none⟩) hR (fun k hk he => hne1 (by rw [← hk, he])) (.slice A' n c')
  have hk2 := (hk.mono (S' := fun k => k = p ∨ some k = sv.ownBlock) fun k h => Or.inr h).setCell (p := ⟨p, 0, none⟩) (Or.inl (Or.inl rfl)) (.slice A' n c')
  have HBL := Lib.hid (hbl.setCell (p := ⟨p, 0, none⟩) hpB (.slice A' n c'))
  have HP2 := Lib.hid hp2
  have HR2 := Lib.hid hR2
  have HK2 := Lib.hid hk2
  have HAT := Lib.hid hat
  clear hp2 hR2 hk2 hat hR hp1 hk hne1 hbl
  have i1 : (0 : Int) ≤ (l.length : Int) := by omega
  have i2 : (l.length : Int) ≤ (c' : Int) := by omega
  have i3 : (l.length : Int) ≤ (n : Int) := by omega
  go_wp2
  go_ret
  exact ⟨A', c', rfl, by omega, HR2.out, HP2.out, HAT.out, HK2.out, HBL.out⟩
end Go.Proofs.YtidcchopmbodkaaDoor.Sp
end
section
namespace Go.Proofs.YtidcchopmbodkaaDoor.Sp
open Go.RowKit Go.Proofs.YtidcchopmbodkaaDoorW.PrintWords
section
variable {α : Type} {d : Kd α} {et : Nat}
def LM (w : World) (r1 r2 vg vw : Value) : Nat → Prop := Mset w.heap.size [r1, r2, vg, vw]
structure LSt (d : Kd α) (et : Nat) (w W : World) (A : Option Addr) (c : Nat) (xs : List S28) (A2 : Option Addr) (c2 : Nat) (ns : List Int) (vg : Value) (gs : List (List α)) (vw : Value) (hs : List (List α)) : Prop where
  hx : xs.length ≤ 6040
  hn : ns.length ≤ 6040
  hp : W.heap[w.heap.size]? = some (.cells #[.slice A xs.length c, .slice A2 ns.length c2, .slice none 0 0, .slice none 0 0] 55 (0, 0))
  rx : Kd.R k28 28 W w.heap.size (fun k => some k = (Value.slice A xs.length c).ownBlock) (.slice A xs.length c) xs
  rn : Kd.R (Kd.int .i64) 3 W w.heap.size (fun k => some k = (Value.slice A2 ns.length c2).ownBlock) (.slice A2 ns.length c2) ns
  g : LS d et W w.heap.size (LM w (.slice A xs.length c) (.slice A2 ns.length c2) vg vw) vg gs
  v : LS d et W w.heap.size (LM w (.slice A xs.length c) (.slice A2 ns.length c2) vg vw) vw hs
  ne : ∀ k, vg.ownBlock = some k → vw.ownBlock ≠ some k
  bl : Below w.heap.size w W
theorem LM.base {w W : World} {A : Option Addr} {c : Nat} {xs : List S28} {A2 : Option Addr} {c2 : Nat} {ns : List Int} {vg vw : Value} {gs hs : List (List α)} (h : LSt d et w W A c xs A2 c2 ns vg gs vw hs) :
    ∀ k, LM w (.slice A xs.length c) (.slice A2 ns.length c2) vg vw k → w.heap.size ≤ k ∧ k < W.heap.size := by
  rintro k (rfl | ⟨v, hm, ho⟩)
  · exact ⟨Nat.le_refl _, blk_lt h.hp⟩
  · simp only [List.mem_cons, List.not_mem_nil, or_false] at hm
    rcases hm with rfl | rfl | rfl | rfl
    · exact ⟨Kd.R_base h.rx k ho, Kd.R_lt h.rx k ho⟩
    · exact ⟨Kd.R_base h.rn k ho, Kd.R_lt h.rn k ho⟩
    · exact ⟨h.g.base k ho, h.g.lt k ho⟩
    · exact ⟨h.v.base k ho, h.v.lt k ho⟩
variable {w W : World} {A : Option Addr} {c : Nat} {xs : List S28} {A2 : Option Addr} {c2 : Nat} {ns : List Int} {vg vw : Value} {gs hs : List (List α)}
theorem LSt.below (h : LSt d et w W A c xs A2 c2 ns vg gs vw hs) {W1 : World} (hb : Below W.heap.size W W1) : LSt d et w W1 A c xs A2 c2 ns vg gs vw hs :=
  ⟨h.hx, h.hn, blk_below h.hp hb, Kd.R_below h.rx hb, Kd.R_below h.rn hb, h.g.below hb, h.v.below hb, h.ne, below_step h.bl hb⟩
theorem LSt.drewN (h : LSt d et w W A c xs A2 c2 ns vg gs vw hs) (n : Nat) : LSt d et w (W.drewN n) A c xs A2 c2 ns vg gs vw hs := h.below (pw_below_drewN (Below.refl _ _) n)
theorem LSt.drew (h : LSt d et w W A c xs A2 c2 ns vg gs vw hs) : LSt d et w W.drew A c xs A2 c2 ns vg gs vw hs := h.below (below_drew (Below.refl _ _))
theorem LSt.apart (h : LSt d et w W A c xs A2 c2 ns vg gs vw hs) {g t : Nat} {cells : Array Value} (hb : W.heap[g]? = some (.cells cells t (0, 0))) (h1 : (55 : Nat) ≠ t) (h2 : (28 : Nat) ≠ t) (h3 : (3 : Nat) ≠ t) (h4 : et ≠ t) : ¬ LM w (.slice A xs.length c) (.slice A2 ns.length c2) vg vw g := by
  rintro (rfl | ⟨v, hm, ho⟩)
  · exact blk_ne h.hp hb h1 rfl
  · simp only [List.mem_cons, List.not_mem_nil, or_false] at hm
    rcases hm with rfl | rfl | rfl | rfl
    · exact Kd.R_ne h.rx hb h2 ho.symm
    · exact Kd.R_ne h.rn hb h3 ho.symm
    · exact h.g.ne hb h4 ho.symm
    · exact h.v.ne hb h4 ho.symm
theorem roomD_le (n m : Nat) (hn : n ≤ 6040) (hm : m ≤ 3000) : roomB n m ≤ 6040 := by unfold roomB; split <;> omega
theorem LSt.ranges (h : LSt d et w W A c xs A2 c2 ns vg gs vw hs) (het : et ≠ 55 ∧ et ≠ 28) (A1 : Option Addr) (c1 : Nat) (l : List S28) (hs1 : Safe (fun W => k28.C W A1 l.length l) W (LM w (.slice A xs.length c) (.slice A2 ns.length c2) vg vw)) (hl : l.length ≤ 3000) :
    Calls Tryd.prog 37 #[.pointer (some ⟨w.heap.size, 0, none⟩), .slice A1 l.length c1] W fun e W' => ∃ (A' : Option Addr) (c' n : Nat), e = .returned (.slice A' l.length c') ∧ l.length ≤ c' ∧ l.length ≤ n ∧ n ≤ 6040 ∧ LSt d et w W' A' c' (layA n l) A2 c2 ns vg gs vw hs ∧
      Kept W W' (LM w (.slice A xs.length c) (.slice A2 ns.length c2) vg vw) ∧ (∀ k, LM w (.slice A' (layA n l).length c') (.slice A2 ns.length c2) vg vw k → LM w (.slice A xs.length c) (.slice A2 ns.length c2) vg vw k ∨ W.heap.size ≤ k) := by
  have hS : ∀ k, (k = w.heap.size ∨ some k = (Value.slice A xs.length c).ownBlock) → LM w (.slice A xs.length c) (.slice A2 ns.length c2) vg vw k := by
    rintro k (rfl | hk)
    · exact Or.inl rfl
    · exact Or.inr ⟨_, by simp, hk.symm⟩
  have hr := roomB_ge' xs.length l.length
  refine (ranges_calls w.heap.size w.heap.size (.slice A xs.length c) (.slice A2 ns.length c2) (.slice none 0 0) (.slice none 0 0) xs A1 c1 l W _ h.hp (Nat.le_refl _) h.rx
    (fun W' hk => (hs1.step hk hS (M1 := LM w (.slice A xs.length c) (.slice A2 ns.length c2) vg vw) (fun k hk => Or.inl hk)).now) (by omega) (by have := h.hx; omega)).mono ?_
  rintro e W' ⟨A', c', rfl, h1, hR, hP, hat, hk, hb⟩
  have hll := layA_len (roomB xs.length l.length) l (by omega)
  have hmu : ∀ k, LM w (.slice A' (layA (roomB xs.length l.length) l).length c') (.slice A2 ns.length c2) vg vw k → LM w (.slice A xs.length c) (.slice A2 ns.length c2) vg vw k ∨ W.heap.size ≤ k := by
    rw [hll]
    exact Mset.one (la := []) (lb := [.slice A2 ns.length c2, vg, vw]) hat
  have hg1 : ∀ (u : Value) (us : List (List α)), LS d et W w.heap.size (LM w (.slice A xs.length c) (.slice A2 ns.length c2) vg vw) u us → ∀ k, u.ownBlock = some k → ¬ (k = w.heap.size ∨ some k = (Value.slice A xs.length c).ownBlock) := by
    intro u us hu k ho hn
    rcases hn with rfl | hn
    · exact hu.ne h.hp het.1 ho.symm
    · obtain ⟨cells, hc⟩ := Kd.R_typed h.rx k hn.symm
      exact hu.ne hc het.2 ho.symm
  have hxr : ∀ k, some k = (Value.slice A2 ns.length c2).ownBlock → ¬ (k = w.heap.size ∨ some k = (Value.slice A xs.length c).ownBlock) := by
    intro k ho hn
    rcases hn with rfl | hn
    · exact Kd.R_ne h.rn h.hp (by decide) ho
    · obtain ⟨cells, hc⟩ := Kd.R_typed h.rx k hn.symm
      exact Kd.R_ne h.rn hc (by decide) ho
  refine ⟨A', c', roomB xs.length l.length, rfl, h1, by omega, roomD_le _ _ h.hx hl, ⟨by rw [hll]; exact roomD_le _ _ h.hx hl, h.hn, by rw [hll]; exact hP, by rw [hll]; exact hR, Kd.R_kept h.rn hk hxr, ?_, ?_, h.ne, h.bl.trans hb⟩, hk.mono hS, hmu⟩
  · exact h.g.step hk hS (hg1 vg gs h.g) hmu (fun k ho => Or.inr ⟨vg, by simp, ho⟩)
  · exact h.v.step hk hS (hg1 vw hs h.v) hmu (fun k ho => Or.inr ⟨vw, by simp, ho⟩)
theorem LSt.listed {n : Nat} {l : List Int} (h : LSt d et w W A c xs A2 c2 (layN n l) vg gs vw hs) (hln : l.length ≤ n) : (Kd.int .i64).C W A2 l.length l ∧ n ≤ c2 ∧ (layN n l).length = n := by
  have hll := layN_len n l hln
  have h1 := Kd.R_take (m := l.length) h.rn (by omega)
  rw [layN_take] at h1
  have h2 := Kd.R_reads' h1
  have h3 := Kd.R_reads' h.rn
  exact ⟨h2.2.2, by omega, hll⟩
theorem LSt.laid {n : Nat} {l : List S28} (h : LSt d et w W A c (layA n l) A2 c2 ns vg gs vw hs) (hln : l.length ≤ n) : k28.C W A l.length l ∧ n ≤ c ∧ (layA n l).length = n := by
  have hll := layA_len n l hln
  have h1 := Kd.R_take (m := l.length) h.rx (by omega)
  rw [layA_take] at h1
  have h2 := Kd.R_reads' h1
  have h3 := Kd.R_reads' h.rx
  exact ⟨h2.2.2, by omega, hll⟩
end
end Go.Proofs.YtidcchopmbodkaaDoor.Sp
end
section
namespace Go.Proofs.YtidcchopmbodkaaDoor.Sp
open Go.RowKit Go.Proofs.YtidcchopmbodkaaDoorW.PrintWords Go.Proofs.YtidcchopmbodkaaDoorW.PrintLast Go.Proofs.YtidcchopmbodkaaDoorW.PrintMore
attribute [local go_sem] max2_int min2_int max_two min_two max_three min_three max_four min_four   -- for this text's walks alone
set_option linter.unusedVariables false
set_option linter.unusedSimpArgs false
def postbagref4_sound.f (a0 : Int) : Option (Bool) := if a0 ≥ 0 then (some (decide (a0 ≤ 4294967295))) else (some false)
set_option maxHeartbeats 8000000 in
set_option maxRecDepth 100000 in
theorem postbagref4_sound.calls (a0 : Int) (r : Bool) (w : World) (h : postbagref4_sound.f a0 = some r) :
  Calls Tryd.prog 54 #[.int .i64 a0] w fun e w' => e = .returned (.bool r) ∧ Drawn0 w w' := by
 have H : (if a0 ≥ 0 then (some (decide (a0 ≤ 4294967295))) else (some false)) = some r := h
 clear h
 by_cases c2 : a0 ≥ 0
 ·rw [if_pos c2] at H
  have c2b0 : decide (0 ≤ a0) = true := decide_eq_true c2
  clear c2
  obtain rfl := Option.some.inj H
  go_enter Tryd.func54, Tryd.ntmps54
  go_wp2
  go_ret
  exact ⟨by first | rfl | (simp; done) | (simp [*]; done), by repeat (first | exact Drawn0.refl _ | apply Drawn0.step)⟩
 ·rw [if_neg c2] at H
  have c2b0 : decide (0 ≤ a0) = false := decide_eq_false c2
  clear c2
  obtain rfl := Option.some.inj H
  go_enter Tryd.func54, Tryd.ntmps54
  go_wp2
  go_ret
  exact ⟨by first | rfl | (simp; done) | (simp [*]; done), by repeat (first | exact Drawn0.refl _ | apply Drawn0.step)⟩
end Go.Proofs.YtidcchopmbodkaaDoor.Sp
end
section
namespace Go.Proofs.YtidcchopmbodkaaDoor.Sp
open Go.RowKit Go.Proofs.YtidcchopmbodkaaDoorW.PrintWords Go.Proofs.YtidcchopmbodkaaDoorW.PrintLast Go.Proofs.YtidcchopmbodkaaDoorW.PrintMore
attribute [local go_sem] max2_int min2_int max_two min_two max_three min_three max_four min_four   -- for this text's walks alone
set_option linter.unusedVariables false
set_option linter.unusedSimpArgs false
def postbagref4_star.f (a0 : Int) (a1 : Int) : Option (Int) := if a0 = 0 then (some a1) else (some a0)
set_option maxHeartbeats 8000000 in
set_option maxRecDepth 100000 in
theorem postbagref4_star.calls (a0 : Int) (a1 : Int) (r : Int) (w : World) (h : postbagref4_star.f a0 a1 = some r) :
  Calls Tryd.prog 70 #[.int .i64 a0, .int .i64 a1] w fun e w' => e = .returned (.int .i64 r) ∧ Drawn0 w w' := by
 have H : (if a0 = 0 then (some a1) else (some a0)) = some r := h
 clear h
 by_cases c3 : a0 = 0
 ·rw [if_pos c3] at H
  have c3b0 : (a0 == 0) = true := beq_iff_eq.mpr c3
  have c3b1 : (a0 != 0) = false := bne_eq_false_iff_eq.mpr c3
  clear c3
  obtain rfl := Option.some.inj H
  go_enter Tryd.func70, Tryd.ntmps70
  go_wp2
  go_ret
  exact ⟨by first | rfl | (simp; done) | (simp [*]; done), by repeat (first | exact Drawn0.refl _ | apply Drawn0.step)⟩
 ·rw [if_neg c3] at H
  have c3b0 : (a0 == 0) = false := beq_eq_false_iff_ne.mpr c3
  have c3b1 : (a0 != 0) = true := bne_iff_ne.mpr c3
  obtain rfl := Option.some.inj H
  go_enter Tryd.func70, Tryd.ntmps70
  go_wp2
  go_ret
  exact ⟨by first | rfl | (simp; done) | (simp [*]; done), by repeat (first | exact Drawn0.refl _ | apply Drawn0.step)⟩
end Go.Proofs.YtidcchopmbodkaaDoor.Sp
end
section
namespace Go.Proofs.YtidcchopmbodkaaDoor.Sp
open Go.RowKit Go.Proofs.YtidcchopmbodkaaDoorW.PrintWords Go.Proofs.YtidcchopmbodkaaDoorW.PrintLast Go.Proofs.YtidcchopmbodkaaDoorW.PrintMore
attribute [local go_sem] max2_int min2_int max_two min_two max_three min_three max_four min_four   -- for this text's walks alone
set_option linter.unusedVariables false
set_option linter.unusedSimpArgs false
def postbagref4_in.j0 : Nat → Int → Int → Bool → Int → Int → Option (Bool)
 | 0, _, _, _, _, _ => none
 | k + 1, x1, x2, x18, x247000, x247001 => if x18 = true then (some false) else ((postbagref4_star.f x247000 x2).bind fun t249 => ((postbagref4_star.f x247001 x2).bind fun t250 => (if t249 ≤ x1 then (if x1 ≤ t250 then (some true) else (if t250 ≤ x1 then (some (decide (x1 ≤ t249))) else (some false))) else (if t250 ≤ x1 then (some (decide (x1 ≤ t249))) else (some false)))))
def postbagref4_in.f (k : Nat) (a0_0 : Int) (a0_1 : Int) (a1 : Int) (a2 : Int) : Option (Bool) := (postbagref4_sound.f a0_0).bind fun t247 => (if t247 = true then ((postbagref4_sound.f a0_1).bind fun t248 => (postbagref4_in.j0 k a1 a2 (!t248) a0_0 a0_1)) else (postbagref4_in.j0 k a1 a2 true a0_0 a0_1))
set_option maxHeartbeats 8000000 in
set_option maxRecDepth 100000 in
theorem postbagref4_in.calls (k : Nat) (a0_0 : Int) (a0_1 : Int) (a1 : Int) (a2 : Int) (r : Bool) (w : World) (h : postbagref4_in.f k a0_0 a0_1 a1 a2 = some r) :
  Calls Tryd.prog 59 #[.agg #[.int .i64 a0_0, .int .i64 a0_1], .int .i64 a1, .int .i64 a2] w fun e w' => e = .returned (.bool r) ∧ Below w.heap.size w w' := by
 have hu28 := Tryd.underlying28
 have HB := Aside0.mk (Below.refl w.heap.size w)
 have H : ((postbagref4_sound.f a0_0).bind fun t247 => (if t247 = true then ((postbagref4_sound.f a0_1).bind fun t248 => (postbagref4_in.j0 k a1 a2 (!t248) a0_0 a0_1)) else (postbagref4_in.j0 k a1 a2 true a0_0 a0_1))) = some r := h
 clear h
 have HC4 := Aside0.mk H
 clear H
 go_enter Tryd.func59, Tryd.ntmps59
 go_upto_region 1 with (first | ((with_reducible refine gate_dst (N := 3) rfl ?_); refine box_event ?hg (N := 3) ?hd (cs := #[.int .i64 a0_0, .int .i64 a0_1]) (t := 28) ?hr ?_; (case hd => rfl); (case hg => rfl); (case hr => first | (go_simp; done) | (go_simp; rfl)); intro gb246 hg w5 hbox hb; have n0_ := Aside0.mk (below_step (by repeat (first | (with_reducible first | exact HB.out | apply below_alloc | apply pw_below_drewN | apply below_drew1) | exact HB.out)) hb); have n1_ := Aside0.mk (hbox); have n2_ := Aside0.mk ((by rw [hg]; exact (below_size (by repeat (first | (with_reducible first | exact HB.out | apply below_alloc | apply pw_below_drewN | apply below_drew1) | exact HB.out))) : w.heap.size ≤ gb246)); have n3_ := Aside0.mk ((by rw [hg]; exact (below_size (by repeat (first | (with_reducible first | exact HB.out | apply below_alloc | apply pw_below_drewN | apply below_drew1) | exact HB.out))) : w.heap.size ≤ gb246)); clear HB; have HB := n0_; have BK246 := n1_; have GW246 := n2_; have GE246 := n3_; clear n0_ n1_ n2_ n3_; clear hb hbox hg))
 (try simp only [Act.put, s1_, s2_, s3_])
 go_cut [18] (fun v18 wc => ∃ (kq : Nat) (x18_3 : Bool), v18 = .bool x18_3 ∧ Aside0 (postbagref4_in.j0 kq a1 a2 x18_3 a0_0 a0_1 = some r) ∧ Aside0 (kq ≤ k) ∧ Aside0 (wc.heap[gb246]? = some (.cells #[.int .i64 a0_0, .int .i64 a0_1] 28 (0, 0))) ∧ Aside0 (Below w.heap.size w wc))
 case first =>
  have H := HC4.out
  clear HC4
  replace H := Option.bind_eq_some_iff.mp H
  obtain ⟨t247, A60, H⟩ := H
  replace H : (if t247 = true then ((postbagref4_sound.f a0_1).bind fun t248 => (postbagref4_in.j0 k a1 a2 (!t248) a0_0 a0_1)) else (postbagref4_in.j0 k a1 a2 true a0_0 a0_1)) = some r := H
  have A6 := Aside0.mk A60
  clear A60
  by_cases c7 : t247 = true
  ·subst c7
   have H1 : ((postbagref4_sound.f a0_1).bind fun t248 => (postbagref4_in.j0 k a1 a2 (!t248) a0_0 a0_1)) = some r := by rw [if_pos rfl] at H; exact H
   clear H
   have H := H1
   clear H1
   replace H := Option.bind_eq_some_iff.mp H
   obtain ⟨t248, A80, H⟩ := H
   replace H : (postbagref4_in.j0 k a1 a2 (!t248) a0_0 a0_1) = some r := H
   have A8 := Aside0.mk A80
   clear A80
   have H' := Aside0.mk H
   clear H
   have hcz9_0 : w5.cell? ⟨gb246, 0, none⟩ = some (.int .i64 a0_0) := (blk_cell BK246.out 0).trans rfl
   have hcz9_1 : w5.cell? ⟨gb246, 1, none⟩ = some (.int .i64 a0_1) := (blk_cell BK246.out 1).trans rfl
   have hfz9_0 := blk_frozen BK246.out 0
   have hfz9_1 := blk_frozen BK246.out 1
   go_wp2_with (first | ((with_reducible refine gate_callee (f := 54) rfl ?_); refine goesL_ (some 11) rfl rfl Tryd.func54 (by kernel_rfl) rfl #[.int .i64 a0_0] rfl (by (try simp only [List.map_toArray, List.map_cons, List.map_nil]); first | done | rfl | (simp only [List.length_drop, List.length_take]; rfl)) ?_; (with_reducible refine (postbagref4_sound.calls a0_0 true _ A6.out).mono ?_); rintro e w' ⟨rfl, ⟨nd, rfl⟩⟩; refine ⟨_, rfl, ?_⟩) | (go_at_call 54; (with_reducible refine (postbagref4_sound.calls a0_1 t248 _ A8.out).mono ?_); rintro e w' ⟨rfl, ⟨nd, rfl⟩⟩))
   go_meet
   case rel => exact ⟨_, (!t248), (by first | rfl | (simp; done) | (simp [*]; done)), H', ⟨by first | omega | exact Nat.le_refl _⟩, ⟨by (with_reducible repeat (first | refine blk_drewN ?_ _ | refine blk_drew ?_ | refine blk_alloc ?_ _)); exact BK246.out⟩, ⟨by repeat (first | (with_reducible first | exact HB.out | apply below_alloc | apply pw_below_drewN | apply below_drew1 | refine below_set ?_ GE246.out) | exact HB.out)⟩⟩
  ·replace c7 := Bool.eq_false_iff.mpr c7
   subst c7
   have H1 : (postbagref4_in.j0 k a1 a2 true a0_0 a0_1) = some r := by rw [if_neg (show ¬ (false = true) by decide)] at H; exact H
   clear H
   have H := H1
   clear H1
   have H' := Aside0.mk H
   clear H
   have hcz10_0 : w5.cell? ⟨gb246, 0, none⟩ = some (.int .i64 a0_0) := (blk_cell BK246.out 0).trans rfl
   have hcz10_1 : w5.cell? ⟨gb246, 1, none⟩ = some (.int .i64 a0_1) := (blk_cell BK246.out 1).trans rfl
   have hfz10_0 := blk_frozen BK246.out 0
   have hfz10_1 := blk_frozen BK246.out 1
   go_wp2_with (first | ((with_reducible refine gate_callee (f := 54) rfl ?_); refine goesL_ (some 11) rfl rfl Tryd.func54 (by kernel_rfl) rfl #[.int .i64 a0_0] rfl (by (try simp only [List.map_toArray, List.map_cons, List.map_nil]); first | done | rfl | (simp only [List.length_drop, List.length_take]; rfl)) ?_; (with_reducible refine (postbagref4_sound.calls a0_0 false _ A6.out).mono ?_); rintro e w' ⟨rfl, ⟨nd, rfl⟩⟩; refine ⟨_, rfl, ?_⟩))
   go_meet
   case rel => exact ⟨_, (true), (by first | rfl | (simp; done) | (simp [*]; done)), H', ⟨by first | omega | exact Nat.le_refl _⟩, ⟨by (with_reducible repeat (first | refine blk_drewN ?_ _ | refine blk_drew ?_ | refine blk_alloc ?_ _)); exact BK246.out⟩, ⟨by repeat (first | (with_reducible first | exact HB.out | apply below_alloc | apply pw_below_drewN | apply below_drew1 | refine below_set ?_ GE246.out) | exact HB.out)⟩⟩
 case rest =>
  clear HC4
  try clear p2
  try clear c5
  try clear c7
  try clear hcz10_0
  try clear hcz10_1
  try clear hcz9_0
  try clear hcz9_1
  try clear hfz10_0
  try clear hfz10_1
  try clear hfz9_0
  try clear hfz9_1
  obtain ⟨kq, x18_3, rfl, HA, HJ3, BK246, HB⟩ := hcut
  cases kq with
  | zero => exact absurd HA.out (by simp [postbagref4_in.j0])
  | succ kj3 =>
   have H := HA.out
   clear HA
   simp only [postbagref4_in.j0] at H
   by_cases c11 : x18_3 = true
   ·subst c11
    have H1 : (some false) = some r := by rw [if_pos rfl] at H; exact H
    clear H
    have H := H1
    clear H1
    obtain rfl := Option.some.inj H
    go_wp2
    go_ret
    exact ⟨by first | rfl | (simp [errW_none, errW_some] <;> rfl) | (simp [*, errW_none, errW_some] <;> rfl), by repeat (first | (with_reducible first | exact HB.out | apply below_alloc | apply pw_below_drewN | apply below_drew1 | refine below_set ?_ GE246.out) | exact HB.out)⟩
   ·replace c11 := Bool.eq_false_iff.mpr c11
    subst c11
    have H1 : ((postbagref4_star.f a0_0 a2).bind fun t249 => ((postbagref4_star.f a0_1 a2).bind fun t250 => (if t249 ≤ a1 then (if a1 ≤ t250 then (some true) else (if t250 ≤ a1 then (some (decide (a1 ≤ t249))) else (some false))) else (if t250 ≤ a1 then (some (decide (a1 ≤ t249))) else (some false))))) = some r := by rw [if_neg (show ¬ (false = true) by decide)] at H; exact H
    clear H
    have H := H1
    clear H1
    replace H := Option.bind_eq_some_iff.mp H
    obtain ⟨t249, A120, H⟩ := H
    replace H : ((postbagref4_star.f a0_1 a2).bind fun t250 => (if t249 ≤ a1 then (if a1 ≤ t250 then (some true) else (if t250 ≤ a1 then (some (decide (a1 ≤ t249))) else (some false))) else (if t250 ≤ a1 then (some (decide (a1 ≤ t249))) else (some false)))) = some r := H
    have A12 := Aside0.mk A120
    clear A120
    replace H := Option.bind_eq_some_iff.mp H
    obtain ⟨t250, A130, H⟩ := H
    replace H : (if t249 ≤ a1 then (if a1 ≤ t250 then (some true) else (if t250 ≤ a1 then (some (decide (a1 ≤ t249))) else (some false))) else (if t250 ≤ a1 then (some (decide (a1 ≤ t249))) else (some false))) = some r := H
    have A13 := Aside0.mk A130
    clear A130
    by_cases c14 : t249 ≤ a1
    ·rw [if_pos c14] at H
     have c14b0 : decide (t249 ≤ a1) = true := decide_eq_true c14
     clear c14
     by_cases c15 : a1 ≤ t250
     ·rw [if_pos c15] at H
      have c15b0 : decide (a1 ≤ t250) = true := decide_eq_true c15
      clear c15
      obtain rfl := Option.some.inj H
      have hcz16_0 : wc.cell? ⟨gb246, 0, none⟩ = some (.int .i64 a0_0) := (blk_cell BK246.out 0).trans rfl
      have hcz16_1 : wc.cell? ⟨gb246, 1, none⟩ = some (.int .i64 a0_1) := (blk_cell BK246.out 1).trans rfl
      have hfz16_0 := blk_frozen BK246.out 0
      have hfz16_1 := blk_frozen BK246.out 1
      go_wp2_with (first | ((with_reducible refine gate_callee (f := 70) rfl ?_); refine goesL_ (some 22) rfl rfl Tryd.func70 (by kernel_rfl) rfl #[.int .i64 a0_0, .int .i64 a2] rfl (by (try simp only [List.map_toArray, List.map_cons, List.map_nil]); first | done | rfl | (simp only [List.length_drop, List.length_take]; rfl)) ?_; (with_reducible refine (postbagref4_star.calls a0_0 a2 t249 _ A12.out).mono ?_); rintro e w' ⟨rfl, ⟨nd, rfl⟩⟩; refine ⟨_, rfl, ?_⟩) | ((with_reducible refine gate_callee (f := 70) rfl ?_); refine goesL_ (some 26) rfl rfl Tryd.func70 (by kernel_rfl) rfl #[.int .i64 a0_1, .int .i64 a2] rfl (by (try simp only [List.map_toArray, List.map_cons, List.map_nil]); first | done | rfl | (simp only [List.length_drop, List.length_take]; rfl)) ?_; (with_reducible refine (postbagref4_star.calls a0_1 a2 t250 _ A13.out).mono ?_); rintro e w' ⟨rfl, ⟨nd, rfl⟩⟩; refine ⟨_, rfl, ?_⟩))
      go_ret
      exact ⟨by first | rfl | (simp [errW_none, errW_some] <;> rfl) | (simp [*, errW_none, errW_some] <;> rfl), by repeat (first | (with_reducible first | exact HB.out | apply below_alloc | apply pw_below_drewN | apply below_drew1 | refine below_set ?_ GE246.out) | exact HB.out)⟩
     ·rw [if_neg c15] at H
      have c15b0 : decide (a1 ≤ t250) = false := decide_eq_false c15
      clear c15
      by_cases c17 : t250 ≤ a1
      ·rw [if_pos c17] at H
       have c17b0 : decide (t250 ≤ a1) = true := decide_eq_true c17
       clear c17
       obtain rfl := Option.some.inj H
       have hcz18_0 : wc.cell? ⟨gb246, 0, none⟩ = some (.int .i64 a0_0) := (blk_cell BK246.out 0).trans rfl
       have hcz18_1 : wc.cell? ⟨gb246, 1, none⟩ = some (.int .i64 a0_1) := (blk_cell BK246.out 1).trans rfl
       have hfz18_0 := blk_frozen BK246.out 0
       have hfz18_1 := blk_frozen BK246.out 1
       go_wp2_with (first | ((with_reducible refine gate_callee (f := 70) rfl ?_); refine goesL_ (some 22) rfl rfl Tryd.func70 (by kernel_rfl) rfl #[.int .i64 a0_0, .int .i64 a2] rfl (by (try simp only [List.map_toArray, List.map_cons, List.map_nil]); first | done | rfl | (simp only [List.length_drop, List.length_take]; rfl)) ?_; (with_reducible refine (postbagref4_star.calls a0_0 a2 t249 _ A12.out).mono ?_); rintro e w' ⟨rfl, ⟨nd, rfl⟩⟩; refine ⟨_, rfl, ?_⟩) | ((with_reducible refine gate_callee (f := 70) rfl ?_); refine goesL_ (some 26) rfl rfl Tryd.func70 (by kernel_rfl) rfl #[.int .i64 a0_1, .int .i64 a2] rfl (by (try simp only [List.map_toArray, List.map_cons, List.map_nil]); first | done | rfl | (simp only [List.length_drop, List.length_take]; rfl)) ?_; (with_reducible refine (postbagref4_star.calls a0_1 a2 t250 _ A13.out).mono ?_); rintro e w' ⟨rfl, ⟨nd, rfl⟩⟩; refine ⟨_, rfl, ?_⟩))
       go_ret
       exact ⟨by first | rfl | (simp [errW_none, errW_some] <;> rfl) | (simp [*, errW_none, errW_some] <;> rfl), by repeat (first | (with_reducible first | exact HB.out | apply below_alloc | apply pw_below_drewN | apply below_drew1 | refine below_set ?_ GE246.out) | exact HB.out)⟩
      ·rw [if_neg c17] at H
       have c17b0 : decide (t250 ≤ a1) = false := decide_eq_false c17
       clear c17
       obtain rfl := Option.some.inj H
       have hcz19_0 : wc.cell? ⟨gb246, 0, none⟩ = some (.int .i64 a0_0) := (blk_cell BK246.out 0).trans rfl
       have hcz19_1 : wc.cell? ⟨gb246, 1, none⟩ = some (.int .i64 a0_1) := (blk_cell BK246.out 1).trans rfl
       have hfz19_0 := blk_frozen BK246.out 0
       have hfz19_1 := blk_frozen BK246.out 1
       go_wp2_with (first | ((with_reducible refine gate_callee (f := 70) rfl ?_); refine goesL_ (some 22) rfl rfl Tryd.func70 (by kernel_rfl) rfl #[.int .i64 a0_0, .int .i64 a2] rfl (by (try simp only [List.map_toArray, List.map_cons, List.map_nil]); first | done | rfl | (simp only [List.length_drop, List.length_take]; rfl)) ?_; (with_reducible refine (postbagref4_star.calls a0_0 a2 t249 _ A12.out).mono ?_); rintro e w' ⟨rfl, ⟨nd, rfl⟩⟩; refine ⟨_, rfl, ?_⟩) | ((with_reducible refine gate_callee (f := 70) rfl ?_); refine goesL_ (some 26) rfl rfl Tryd.func70 (by kernel_rfl) rfl #[.int .i64 a0_1, .int .i64 a2] rfl (by (try simp only [List.map_toArray, List.map_cons, List.map_nil]); first | done | rfl | (simp only [List.length_drop, List.length_take]; rfl)) ?_; (with_reducible refine (postbagref4_star.calls a0_1 a2 t250 _ A13.out).mono ?_); rintro e w' ⟨rfl, ⟨nd, rfl⟩⟩; refine ⟨_, rfl, ?_⟩))
       go_ret
       exact ⟨by first | rfl | (simp [errW_none, errW_some] <;> rfl) | (simp [*, errW_none, errW_some] <;> rfl), by repeat (first | (with_reducible first | exact HB.out | apply below_alloc | apply pw_below_drewN | apply below_drew1 | refine below_set ?_ GE246.out) | exact HB.out)⟩
    ·rw [if_neg c14] at H
     have c14b0 : decide (t249 ≤ a1) = false := decide_eq_false c14
     clear c14
     by_cases c20 : t250 ≤ a1
     ·rw [if_pos c20] at H
      have c20b0 : decide (t250 ≤ a1) = true := decide_eq_true c20
      clear c20
      obtain rfl := Option.some.inj H
      have hcz21_0 : wc.cell? ⟨gb246, 0, none⟩ = some (.int .i64 a0_0) := (blk_cell BK246.out 0).trans rfl
      have hcz21_1 : wc.cell? ⟨gb246, 1, none⟩ = some (.int .i64 a0_1) := (blk_cell BK246.out 1).trans rfl
      have hfz21_0 := blk_frozen BK246.out 0
      have hfz21_1 := blk_frozen BK246.out 1
      go_wp2_with (first | ((with_reducible refine gate_callee (f := 70) rfl ?_); refine goesL_ (some 22) rfl rfl Tryd.func70 (by kernel_rfl) rfl #[.int .i64 a0_0, .int .i64 a2] rfl (by (try simp only [List.map_toArray, List.map_cons, List.map_nil]); first | done | rfl | (simp only [List.length_drop, List.length_take]; rfl)) ?_; (with_reducible refine (postbagref4_star.calls a0_0 a2 t249 _ A12.out).mono ?_); rintro e w' ⟨rfl, ⟨nd, rfl⟩⟩; refine ⟨_, rfl, ?_⟩) | ((with_reducible refine gate_callee (f := 70) rfl ?_); refine goesL_ (some 26) rfl rfl Tryd.func70 (by kernel_rfl) rfl #[.int .i64 a0_1, .int .i64 a2] rfl (by (try simp only [List.map_toArray, List.map_cons, List.map_nil]); first | done | rfl | (simp only [List.length_drop, List.length_take]; rfl)) ?_; (with_reducible refine (postbagref4_star.calls a0_1 a2 t250 _ A13.out).mono ?_); rintro e w' ⟨rfl, ⟨nd, rfl⟩⟩; refine ⟨_, rfl, ?_⟩))
      go_ret
      exact ⟨by first | rfl | (simp [errW_none, errW_some] <;> rfl) | (simp [*, errW_none, errW_some] <;> rfl), by repeat (first | (with_reducible first | exact HB.out | apply below_alloc | apply pw_below_drewN | apply below_drew1 | refine below_set ?_ GE246.out) | exact HB.out)⟩
     ·rw [if_neg c20] at H
      have c20b0 : decide (t250 ≤ a1) = false := decide_eq_false c20
      clear c20
      obtain rfl := Option.some.inj H
      have hcz22_0 : wc.cell? ⟨gb246, 0, none⟩ = some (.int .i64 a0_0) := (blk_cell BK246.out 0).trans rfl
      have hcz22_1 : wc.cell? ⟨gb246, 1, none⟩ = some (.int .i64 a0_1) := (blk_cell BK246.out 1).trans rfl
      have hfz22_0 := blk_frozen BK246.out 0
      have hfz22_1 := blk_frozen BK246.out 1
      go_wp2_with (first | ((with_reducible refine gate_callee (f := 70) rfl ?_); refine goesL_ (some 22) rfl rfl Tryd.func70 (by kernel_rfl) rfl #[.int .i64 a0_0, .int .i64 a2] rfl (by (try simp only [List.map_toArray, List.map_cons, List.map_nil]); first | done | rfl | (simp only [List.length_drop, List.length_take]; rfl)) ?_; (with_reducible refine (postbagref4_star.calls a0_0 a2 t249 _ A12.out).mono ?_); rintro e w' ⟨rfl, ⟨nd, rfl⟩⟩; refine ⟨_, rfl, ?_⟩) | ((with_reducible refine gate_callee (f := 70) rfl ?_); refine goesL_ (some 26) rfl rfl Tryd.func70 (by kernel_rfl) rfl #[.int .i64 a0_1, .int .i64 a2] rfl (by (try simp only [List.map_toArray, List.map_cons, List.map_nil]); first | done | rfl | (simp only [List.length_drop, List.length_take]; rfl)) ?_; (with_reducible refine (postbagref4_star.calls a0_1 a2 t250 _ A13.out).mono ?_); rintro e w' ⟨rfl, ⟨nd, rfl⟩⟩; refine ⟨_, rfl, ?_⟩))
      go_ret
      exact ⟨by first | rfl | (simp [errW_none, errW_some] <;> rfl) | (simp [*, errW_none, errW_some] <;> rfl), by repeat (first | (with_reducible first | exact HB.out | apply below_alloc | apply pw_below_drewN | apply below_drew1 | refine below_set ?_ GE246.out) | exact HB.out)⟩
end Go.Proofs.YtidcchopmbodkaaDoor.Sp
end
section
namespace Go.Proofs.YtidcchopmbodkaaDoor.Sp
open Go.RowKit Go.Proofs.YtidcchopmbodkaaDoorW.PrintWords Go.Proofs.YtidcchopmbodkaaDoorW.PrintLast Go.Proofs.YtidcchopmbodkaaDoorW.PrintMore
attribute [local go_sem] max2_int min2_int max_two min_two max_three min_three max_four min_four   -- for this text's walks alone
set_option linter.unusedVariables false
set_option linter.unusedSimpArgs false
mutual
def postbagref4_Has.j0 : Nat → List (S28) → Int → Int → Bool → Option (Bool)
 | 0, _, _, _, _ => none
 | k + 1, x0, x1, x2, x13 => if x13 = true then (some false) else (postbagref4_Has.l0 k x0 x1 x2 0)
def postbagref4_Has.l0 : Nat → List (S28) → Int → Int → Int → Option (Bool)
 | 0, _, _, _, _ => none
 | k + 1, x0, x1, x2, x7 => if x7 < (x0.length : Int) then (if 0 ≤ x7 then ((postbagref4_in.f k ((rd_T28 x0 x7).f0) ((rd_T28 x0 x7).f1) x1 x2).bind fun t252 => (if t252 = true then (some true) else (postbagref4_Has.l0 k x0 x1 x2 (wrap64 (x7 + 1))))) else (none)) else (some false)
end
def postbagref4_Has.f (k : Nat) (l0 : List (S28)) (a1 : Int) (a2 : Int) : Option (Bool) := if a2 < 1 then (postbagref4_Has.j0 k l0 a1 a2 true) else (postbagref4_Has.j0 k l0 a1 a2 (decide (a1 < 1)))
set_option maxHeartbeats 8000000 in
set_option maxRecDepth 100000 in
theorem postbagref4_Has.calls (k : Nat) (A0 : Option Addr) (c0 : Nat) (l0 : List (S28)) (a1 : Int) (a2 : Int) (r : Bool) (w : World) (hr0 : Kd.C k28 w A0 l0.length l0) (hc0 : l0.length ≤ c0) (h : postbagref4_Has.f k l0 a1 a2 = some r) :
  Calls Tryd.prog 39 #[.slice A0 l0.length c0, .int .i64 a1, .int .i64 a2] w fun e w' => e = .returned (.bool r) ∧ Below w.heap.size w w' := by
 have hu28 := Tryd.underlying28
 have HR0 := Aside0.mk hr0
 have HC0 := Aside0.mk hc0
 clear hr0 hc0
 have HB := Aside0.mk (Below.refl w.heap.size w)
 have H : (if a2 < 1 then (postbagref4_Has.j0 k l0 a1 a2 true) else (postbagref4_Has.j0 k l0 a1 a2 (decide (a1 < 1)))) = some r := h
 clear h
 have HC4 := Aside0.mk H
 clear H
 go_enter Tryd.func39, Tryd.ntmps39
 go_upto_region 1 with (fail)
 go_cut [13] (fun v13 wc => ∃ (kq : Nat) (x13_3 : Bool), v13 = .bool x13_3 ∧ Aside0 (postbagref4_Has.j0 kq l0 a1 a2 x13_3 = some r) ∧ Aside0 (kq ≤ k) ∧ Aside0 (Below w.heap.size w wc))
 case first =>
  have H := HC4.out
  clear HC4
  by_cases c5 : a2 < 1
  ·rw [if_pos c5] at H
   have c5b0 : decide (a2 < 1) = true := decide_eq_true c5
   clear c5
   (first | rw [c5b0] | (simp only [i64_w, i32_w]; rw [c5b0]) | skip)
   have H' := Aside0.mk H
   clear H
   go_wp2
   go_meet
   case rel => exact ⟨_, (true), (by first | rfl | (simp; done) | (simp [*]; done)), H', ⟨by first | omega | exact Nat.le_refl _⟩, ⟨by repeat (first | (with_reducible first | exact HB.out | apply below_alloc | apply pw_below_drewN | apply below_drew1) | exact HB.out)⟩⟩
  ·rw [if_neg c5] at H
   have c5b0 : decide (a2 < 1) = false := decide_eq_false c5
   clear c5
   (first | rw [c5b0] | (simp only [i64_w, i32_w]; rw [c5b0]) | skip)
   have H' := Aside0.mk H
   clear H
   go_wp2
   go_meet
   case rel => exact ⟨_, (decide (a1 < 1)), (by first | rfl | (simp; done) | (simp [*]; done)), H', ⟨by first | omega | exact Nat.le_refl _⟩, ⟨by repeat (first | (with_reducible first | exact HB.out | apply below_alloc | apply pw_below_drewN | apply below_drew1) | exact HB.out)⟩⟩
 case rest =>
  clear HC4
  try clear p2
  try clear c3
  try clear c5
  try clear c5b0
  obtain ⟨kq, x13_3, rfl, HA, HJ3, HB⟩ := hcut
  cases kq with
  | zero => exact absurd HA.out (by simp [postbagref4_Has.j0])
  | succ kj3 =>
   have H := HA.out
   clear HA
   simp only [postbagref4_Has.j0] at H
   by_cases c6 : x13_3 = true
   ·subst c6
    have H1 : (some false) = some r := by rw [if_pos rfl] at H; exact H
    clear H
    have H := H1
    clear H1
    obtain rfl := Option.some.inj H
    go_wp2
    go_ret
    exact ⟨by first | rfl | (simp [errW_none, errW_some] <;> rfl) | (simp [*, errW_none, errW_some] <;> rfl), by repeat (first | (with_reducible first | exact HB.out | apply below_alloc | apply pw_below_drewN | apply below_drew1) | exact HB.out)⟩
   ·replace c6 := Bool.eq_false_iff.mpr c6
    subst c6
    have H1 : (postbagref4_Has.l0 kj3 l0 a1 a2 0) = some r := by rw [if_neg (show ¬ (false = true) by decide)] at H; exact H
    clear H
    have H := H1
    clear H1
    have H' := Aside0.mk H
    clear H
    go_wp2
    go_loopg [7] kj3 (fun kq v7 w' => ∃ (x7_2 : Int), v7 = .int .i64 x7_2 ∧ Aside0 (postbagref4_Has.l0 kq l0 a1 a2 x7_2 = some r) ∧ Aside0 (kq ≤ kj3) ∧ Aside0 (Below w.heap.size w w'))
    case atStart => exact ⟨(0), (by first | rfl | (simp; done) | (simp [*]; done)), H', ⟨Nat.le_refl _⟩, ⟨by repeat (first | (with_reducible first | exact HB.out | apply below_alloc | apply pw_below_drewN | apply below_drew1) | exact HB.out)⟩⟩
    case round =>
     clear H'
     try clear p2
     try clear c3
     try clear c5
     try clear c5b0
     try clear c6
     try clear p2
     obtain ⟨x7_2, rfl, HA, HK2, HB⟩ := hrel
     cases gk with
     | zero => exact absurd HA.out (by simp [postbagref4_Has.l0])
     | succ k2 =>
      have H := HA.out
      clear HA
      simp only [postbagref4_Has.l0] at H
      by_cases c7 : x7_2 < (l0.length : Int)
      ·rw [if_pos c7] at H
       have c7b0 : decide (x7_2 < (l0.length : Int)) = true := decide_eq_true c7
       clear c7
       by_cases c8 : 0 ≤ x7_2
       ·rw [if_pos c8] at H
        have c8b0 : decide (0 ≤ x7_2) = true := decide_eq_true c8
        clear c8
        replace H := Option.bind_eq_some_iff.mp H
        obtain ⟨t252, A90, H⟩ := H
        replace H : (if t252 = true then (some true) else (postbagref4_Has.l0 k2 l0 a1 a2 (wrap64 (x7_2 + 1)))) = some r := H
        have A9 := Aside0.mk A90
        clear A90
        by_cases c10 : t252 = true
        ·subst c10
         have H1 : (some true) = some r := by rw [if_pos rfl] at H; exact H
         clear H
         have H := H1
         clear H1
         obtain rfl := Option.some.inj H
         have p251 : 0 ≤ (x7_2 : Int) := of_decide_eq_true (by first | (with_reducible assumption) | assumption)
         have q251 : x7_2 < (l0.length : Int) := of_decide_eq_true (by first | (with_reducible assumption) | assumption)
         obtain ⟨ad251, e251, hx251_0, hx251_1⟩ := at_T28 HR0.out x7_2 p251 q251
         cases e251
         replace hx251_0 := (HB.out.cell (World.block_lt_of_cell? w _ hx251_0)).trans hx251_0
         replace hx251_1 := (HB.out.cell (World.block_lt_of_cell? w _ hx251_1)).trans hx251_1
         replace p251 := eq_true p251
         replace q251 := eq_true q251
         go_wp2_with (first | ((with_reducible refine gate_callee (f := 59) rfl ?_); refine goesL_ (some 26) rfl rfl Tryd.func59 (by kernel_rfl) rfl #[.agg #[.int .i64 ((rd_T28 l0 x7_2).f0), .int .i64 ((rd_T28 l0 x7_2).f1)], .int .i64 a1, .int .i64 a2] rfl (by (try simp only [List.map_toArray, List.map_cons, List.map_nil]); first | done | rfl | (simp only [List.length_drop, List.length_take]; rfl)) ?_; (with_reducible refine (postbagref4_in.calls k2 ((rd_T28 l0 x7_2).f0) ((rd_T28 l0 x7_2).f1) a1 a2 true _ A9.out).mono ?_); rintro e w11 ⟨rfl, hb⟩; refine ⟨_, rfl, ?_⟩; have n0_ := Aside0.mk (below_step (by repeat (first | (with_reducible first | exact HB.out | apply below_alloc | apply pw_below_drewN | apply below_drew1) | exact HB.out)) hb); clear HB; have HB := n0_; clear n0_; (try clear hb); (try clear hb2); (try clear hk); (try clear hi)))
         go_ret
         exact ⟨by first | rfl | (simp [errW_none, errW_some] <;> rfl) | (simp [*, errW_none, errW_some] <;> rfl), by repeat (first | (with_reducible first | exact HB.out | apply below_alloc | apply pw_below_drewN | apply below_drew1) | exact HB.out)⟩
        ·replace c10 := Bool.eq_false_iff.mpr c10
         subst c10
         have H1 : (postbagref4_Has.l0 k2 l0 a1 a2 (wrap64 (x7_2 + 1))) = some r := by rw [if_neg (show ¬ (false = true) by decide)] at H; exact H
         clear H
         have H := H1
         clear H1
         have H' := Aside0.mk H
         clear H
         have p251 : 0 ≤ (x7_2 : Int) := of_decide_eq_true (by first | (with_reducible assumption) | assumption)
         have q251 : x7_2 < (l0.length : Int) := of_decide_eq_true (by first | (with_reducible assumption) | assumption)
         obtain ⟨ad251, e251, hx251_0, hx251_1⟩ := at_T28 HR0.out x7_2 p251 q251
         cases e251
         replace hx251_0 := (HB.out.cell (World.block_lt_of_cell? w _ hx251_0)).trans hx251_0
         replace hx251_1 := (HB.out.cell (World.block_lt_of_cell? w _ hx251_1)).trans hx251_1
         replace p251 := eq_true p251
         replace q251 := eq_true q251
         go_wp2_with (first | ((with_reducible refine gate_callee (f := 59) rfl ?_); refine goesL_ (some 26) rfl rfl Tryd.func59 (by kernel_rfl) rfl #[.agg #[.int .i64 ((rd_T28 l0 x7_2).f0), .int .i64 ((rd_T28 l0 x7_2).f1)], .int .i64 a1, .int .i64 a2] rfl (by (try simp only [List.map_toArray, List.map_cons, List.map_nil]); first | done | rfl | (simp only [List.length_drop, List.length_take]; rfl)) ?_; (with_reducible refine (postbagref4_in.calls k2 ((rd_T28 l0 x7_2).f0) ((rd_T28 l0 x7_2).f1) a1 a2 false _ A9.out).mono ?_); rintro e w12 ⟨rfl, hb⟩; refine ⟨_, rfl, ?_⟩; have n0_ := Aside0.mk (below_step (by repeat (first | (with_reducible first | exact HB.out | apply below_alloc | apply pw_below_drewN | apply below_drew1) | exact HB.out)) hb); clear HB; have HB := n0_; clear n0_; (try clear hb); (try clear hb2); (try clear hk); (try clear hi)))
         go_roundg k2
         case measure => have := HJ3.out; have := HK2.out; omega
         case rel => exact ⟨(wrap64 (x7_2 + 1)), (by first | rfl | (simp; done) | (simp [*]; done)), H', ⟨by have := HJ3.out; have := HK2.out; omega⟩, ⟨by repeat (first | (with_reducible first | exact HB.out | apply below_alloc | apply pw_below_drewN | apply below_drew1) | exact HB.out)⟩⟩
       ·rw [if_neg c8] at H
        exact absurd H (by simp)
      ·rw [if_neg c7] at H
       have c7b0 : decide (x7_2 < (l0.length : Int)) = false := decide_eq_false c7
       clear c7
       obtain rfl := Option.some.inj H
       go_wp2
       go_ret
       exact ⟨by first | rfl | (simp [errW_none, errW_some] <;> rfl) | (simp [*, errW_none, errW_some] <;> rfl), by repeat (first | (with_reducible first | exact HB.out | apply below_alloc | apply pw_below_drewN | apply below_drew1) | exact HB.out)⟩
end Go.Proofs.YtidcchopmbodkaaDoor.Sp
end
section
namespace Go.Proofs.YtidcchopmbodkaaDoor.Sp
open Go.RowKit Go.Proofs.YtidcchopmbodkaaDoorW.PrintWords Go.Proofs.YtidcchopmbodkaaDoorW.PrintLast Go.Proofs.YtidcchopmbodkaaDoorW.PrintMore
attribute [local go_sem] max2_int min2_int max_two min_two max_three min_three max_four min_four   -- for this text's walks alone
set_option linter.unusedVariables false
set_option linter.unusedSimpArgs false
end Go.Proofs.YtidcchopmbodkaaDoor.Sp
end
section
namespace Go.Proofs.YtidcchopmbodkaaDoor.Sp
open Go.RowKit Go.Proofs.YtidcchopmbodkaaDoorW.PrintWords Go.Proofs.YtidcchopmbodkaaDoorW.PrintLast Go.Proofs.YtidcchopmbodkaaDoorW.PrintMore
attribute [local go_sem] max2_int min2_int max_two min_two max_three min_three max_four min_four   -- for this text's walks alone
set_option linter.unusedVariables false
set_option linter.unusedSimpArgs false
attribute [local go_sem high] eqA28
def span_isRange.f (a0_0 : Int) (a0_1 : Int) : Option (Bool) := if (mn a0_0 a0_1) ≥ 0 then (some (decide ((mx a0_0 a0_1) ≤ 4294967295))) else (some false)
set_option maxHeartbeats 8000000 in
set_option maxRecDepth 100000 in
theorem span_isRange.calls (a0_0 : Int) (a0_1 : Int) (r : Bool) (w : World) (h : span_isRange.f a0_0 a0_1 = some r) :
  Calls Tryd.prog 49 #[.agg #[.int .i64 a0_0, .int .i64 a0_1]] w fun e w' => e = .returned (.bool r) ∧ Below w.heap.size w w' := by
 have hu28 := Tryd.underlying28
 have HB := Aside0.mk (Below.refl w.heap.size w)
 have H : (if (mn a0_0 a0_1) ≥ 0 then (some (decide ((mx a0_0 a0_1) ≤ 4294967295))) else (some false)) = some r := h
 clear h
 obtain ⟨ji2, hji2⟩ : ∃ j_ : Int, (mn a0_0 a0_1) = j_ := ⟨_, rfl⟩
 replace H : (if (ji2) ≥ 0 then (some (decide ((mx a0_0 a0_1) ≤ 4294967295))) else (some false)) = some r := by first | (rw [hji2] at H; exact H) | (simp only [hji2] at H ⊢; exact H)
 have hji2_ : (if a0_1 < a0_0 then a0_1 else a0_0) = ji2 := hji2
 by_cases c3 : (ji2) ≥ 0
 ·rw [if_pos c3] at H
  have c3b0 : decide (0 ≤ (ji2)) = true := decide_eq_true c3
  clear c3
  obtain ⟨ji4, hji4⟩ : ∃ j_ : Int, (mx a0_0 a0_1) = j_ := ⟨_, rfl⟩
  replace H : (some (decide ((ji4) ≤ 4294967295))) = some r := by first | (rw [hji4] at H; exact H) | (simp only [hji4] at H ⊢; exact H)
  have hji4_ : (if a0_0 < a0_1 then a0_1 else a0_0) = ji4 := hji4
  obtain rfl := Option.some.inj H
  go_enter Tryd.func49, Tryd.ntmps49
  go_wp2_with (first | ((with_reducible refine gate_dst (N := 1) rfl ?_); (try (refine gate_guard (by rfl) ?_; dsimp only)); refine box_event ?hg (N := 1) ?hd (cs := #[.int .i64 a0_0, .int .i64 a0_1]) (t := 28) ?hr ?_; (case hd => rfl); (case hg => rfl); (case hr => first | (go_simp; done) | (go_simp; rfl)); intro gb122 hg w5 hbox hb; have n0_ := Aside0.mk (below_step (by repeat (first | (with_reducible first | exact HB.out | apply below_alloc | apply pw_below_drewN | apply below_drew1) | exact HB.out)) hb); have n1_ := Aside0.mk (hbox); have n2_ := Aside0.mk ((by rw [hg]; exact (below_size (by repeat (first | (with_reducible first | exact HB.out | apply below_alloc | apply pw_below_drewN | apply below_drew1) | exact HB.out))) : w.heap.size ≤ gb122)); have n3_ := Aside0.mk ((by rw [hg]; exact (below_size (by repeat (first | (with_reducible first | exact HB.out | apply below_alloc | apply pw_below_drewN | apply below_drew1) | exact HB.out))) : w.heap.size ≤ gb122)); clear HB; have HB := n0_; have BK122 := n1_; have GW122 := n2_; have GE122 := n3_; clear n0_ n1_ n2_ n3_; clear hb hbox hg; have hcz6_0 : w5.cell? ⟨gb122, 0, none⟩ = some (.int .i64 a0_0) := (blk_cell BK122.out 0).trans rfl; have hcz6_1 : w5.cell? ⟨gb122, 1, none⟩ = some (.int .i64 a0_1) := (blk_cell BK122.out 1).trans rfl; have hfz6_0 := blk_frozen BK122.out 0; have hfz6_1 := blk_frozen BK122.out 1))
  go_ret
  exact ⟨by first | rfl | (simp [errW_none, errW_some] <;> rfl) | (simp only [← hji2, ← hji4]; first | rfl | (simp [errW_none, errW_some] <;> rfl)) | (simp [*, errW_none, errW_some] <;> rfl), by repeat (first | (with_reducible first | exact HB.out | apply below_alloc | apply pw_below_drewN | apply below_drew1 | refine below_set ?_ GE122.out) | exact HB.out)⟩
 ·rw [if_neg c3] at H
  have c3b0 : decide (0 ≤ (ji2)) = false := decide_eq_false c3
  clear c3
  obtain rfl := Option.some.inj H
  go_enter Tryd.func49, Tryd.ntmps49
  go_wp2_with (first | ((with_reducible refine gate_dst (N := 1) rfl ?_); (try (refine gate_guard (by rfl) ?_; dsimp only)); refine box_event ?hg (N := 1) ?hd (cs := #[.int .i64 a0_0, .int .i64 a0_1]) (t := 28) ?hr ?_; (case hd => rfl); (case hg => rfl); (case hr => first | (go_simp; done) | (go_simp; rfl)); intro gb122 hg w7 hbox hb; have n0_ := Aside0.mk (below_step (by repeat (first | (with_reducible first | exact HB.out | apply below_alloc | apply pw_below_drewN | apply below_drew1) | exact HB.out)) hb); have n1_ := Aside0.mk (hbox); have n2_ := Aside0.mk ((by rw [hg]; exact (below_size (by repeat (first | (with_reducible first | exact HB.out | apply below_alloc | apply pw_below_drewN | apply below_drew1) | exact HB.out))) : w.heap.size ≤ gb122)); have n3_ := Aside0.mk ((by rw [hg]; exact (below_size (by repeat (first | (with_reducible first | exact HB.out | apply below_alloc | apply pw_below_drewN | apply below_drew1) | exact HB.out))) : w.heap.size ≤ gb122)); clear HB; have HB := n0_; have BK122 := n1_; have GW122 := n2_; have GE122 := n3_; clear n0_ n1_ n2_ n3_; clear hb hbox hg; have hcz8_0 : w7.cell? ⟨gb122, 0, none⟩ = some (.int .i64 a0_0) := (blk_cell BK122.out 0).trans rfl; have hcz8_1 : w7.cell? ⟨gb122, 1, none⟩ = some (.int .i64 a0_1) := (blk_cell BK122.out 1).trans rfl; have hfz8_0 := blk_frozen BK122.out 0; have hfz8_1 := blk_frozen BK122.out 1))
  go_ret
  exact ⟨by first | rfl | (simp [errW_none, errW_some] <;> rfl) | (simp only [← hji2]; first | rfl | (simp [errW_none, errW_some] <;> rfl)) | (simp [*, errW_none, errW_some] <;> rfl), by repeat (first | (with_reducible first | exact HB.out | apply below_alloc | apply pw_below_drewN | apply below_drew1 | refine below_set ?_ GE122.out) | exact HB.out)⟩
end Go.Proofs.YtidcchopmbodkaaDoor.Sp
end
