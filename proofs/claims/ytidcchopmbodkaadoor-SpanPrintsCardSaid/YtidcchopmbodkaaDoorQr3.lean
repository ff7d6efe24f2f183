import Derived.Test.YtidcchopmbodkaaDoorQr2
import Derived.Lib.Hide
section
namespace Go.Proofs.YtidcchopmbodkaaDoor.Sp
open Go.RowKit Go.Proofs.YtidcchopmbodkaaDoorW.PrintWords Go.Proofs.YtidcchopmbodkaaDoorW.PrintLast Go.Proofs.YtidcchopmbodkaaDoorW.PrintMore
theorem size28 : (Tryd.prog.info? 28).map (·.size) = some 2 := by kernel_rfl
def markB (i : Nat) : S28 := ⟨-7 - (i : Int), -9⟩
def roomB (n m : Nat) : Nat := if n < m + 4 then 2 * m + 40 else n
def layA (n : Nat) (l : List S28) : List S28 := l ++ (List.range' l.length (n - l.length)).map markB
theorem layA_len (n : Nat) (l : List S28) (h : l.length ≤ n) : (layA n l).length = n := by
  unfold layA; simp; omega
theorem layA_at (n : Nat) (l : List S28) (i : Nat) (h0 : l.length ≤ i) (h : i < n) : (layA n l)[i]? = some (markB i) := by
  unfold layA
  rw [List.getElem?_append_right h0, List.getElem?_map, List.getElem?_range' (by omega)]
  simp; congr 1; omega
def midA (n : Nat) (l xs : List S28) (i : Nat) : List S28 := (layA n l).take i ++ (l ++ xs.drop l.length).drop i
theorem midA_first (l xs : List S28) : midA xs.length l xs l.length = l ++ xs.drop l.length := by
  unfold midA layA
  rw [List.take_left, List.drop_left]
theorem midA_last (l xs : List S28) (h : l.length ≤ xs.length) : midA xs.length l xs xs.length = layA xs.length l := by
  unfold midA
  rw [List.take_of_length_le (by rw [layA_len _ _ h]; exact Nat.le_refl _), List.drop_of_length_le (by simp; omega), List.append_nil]
theorem midA_len (l xs : List S28) (i : Nat) (h : l.length ≤ xs.length) (hi : i ≤ xs.length) : (midA xs.length l xs i).length = xs.length := by
  unfold midA
  rw [List.length_append, List.length_take, layA_len _ _ h, List.length_drop, List.length_append, List.length_drop]
  omega
theorem midA_step (l xs : List S28) (i : Nat) (h : l.length ≤ i) (hi : i < xs.length) : (midA xs.length l xs i).set i (markB i) = midA xs.length l xs (i + 1) := by
  have hl := layA_len xs.length l (by omega)
  have ha := layA_at xs.length l i h hi
  unfold midA
  apply List.ext_getElem?
  intro j
  rw [List.getElem?_set]
  have hlen : ((layA xs.length l).take i ++ (l ++ xs.drop l.length).drop i).length = xs.length := midA_len l xs i (by omega) (by omega)
  have t1 : ((layA xs.length l).take i).length = i := by rw [List.length_take, hl]; omega
  have t2 : ((layA xs.length l).take (i + 1)).length = i + 1 := by rw [List.length_take, hl]; omega
  rcases (by omega : j < i ∨ j = i ∨ i < j) with hj | hj | hj
  · rw [if_neg (by omega), List.getElem?_append_left (by omega), List.getElem?_append_left (by omega), List.getElem?_take, List.getElem?_take, if_pos hj, if_pos (by omega)]
  · subst hj
    rw [if_pos rfl, if_pos (by rw [hlen]; exact hi), List.getElem?_append_left (by omega), List.getElem?_take, if_pos (by omega), ha]
  · rw [if_neg (by omega), List.getElem?_append_right (by omega), List.getElem?_append_right (by omega), List.getElem?_drop, List.getElem?_drop, t1, t2]
    congr 1; omega
set_option maxHeartbeats 4000000 in
set_option maxRecDepth 100000 in
theorem lay_calls (B : Nat) (v : Value) (xs : List S28) (A : Option Addr) (c : Nat) (l : List S28) (w : World) (ok : Nat → Prop) (hv : Kd.R k28 28 w B ok v xs) (hB : B ≤ w.heap.size)
    (hl : ∀ W', Kept w W' (fun k => some k = v.ownBlock) → Kd.C k28 W' A l.length l) (hn : l.length ≤ 100000) (hx : xs.length ≤ 8000000000000) :
    Calls Tryd.prog 58 #[v, .slice A l.length c] w fun e w' => ∃ v', e = .returned v' ∧ Kd.R k28 28 w' B (fun k => some k = v'.ownBlock) v' (layA (roomB xs.length l.length) l) ∧ (v'.ownBlock = v.ownBlock ∨ ∃ g, v'.ownBlock = some g ∧ w.heap.size ≤ g) ∧ Kept w w' (fun k => some k = v.ownBlock) ∧ Below B w w' := by
  have HV := Lib.hid (Kd.R_tight rfl hv)
  have HL := Lib.hid hl
  obtain ⟨A0, c0, rfl⟩ := Kd.R_slice hv
  have HBB := Lib.hid (Kd.R_base hv)
  clear hv hl
  go_enter Tryd.func58, Tryd.ntmps58
  go_upto_if 11 with fail
  go_cut [0] (fun v0 wc => ∃ (A1 : Option Addr) (c1 : Nat) (Y : List S28), v0 = .slice A1 Y.length c1 ∧ Aside0 (Y.length = roomB xs.length l.length) ∧ Aside0 (Kd.R k28 28 wc B (fun k => some k = (Value.slice A1 Y.length c1).ownBlock) (.slice A1 Y.length c1) Y) ∧
    Aside0 ((Value.slice A1 Y.length c1).ownBlock = (Value.slice A0 xs.length c0).ownBlock ∨ ∃ g, (Value.slice A1 Y.length c1).ownBlock = some g ∧ w.heap.size ≤ g) ∧ Aside0 (Kept w wc (fun k => some k = (Value.slice A0 xs.length c0).ownBlock)) ∧ Aside0 (Below B w wc))
  case first =>
    by_cases hlt : xs.length < l.length + 4
    · have d1 : decide ((xs.length : Int) < (l.length : Int) + 4) = true := decide_eq_true (by omega)
      have i1 : ((2 * (l.length : Int) + 40)).toNat = 2 * l.length + 40 := by omega
      go_wp2_with ((with_reducible refine gate_dst (N := 16) rfl ?_); refine Kd.R_make k28 B 28 rfl (N := 16) rfl 23 _ _ rfl (2 * (l.length : Int) + 40) rfl rfl Tryd.underlying23 (.agg #[(.int .i64 0), (.int .i64 0)]) 16 info28 rfl (by decide) (by omega) z28 (ok := fun _ => True) (okp := fun _ => True) (k28_mkM _ _ _ z28) (fun _ hk => hk) trivial (by omega) (by omega) (Below.refl _ _) hB ?_; intro v1 w1 hR hb hg hnew; have HBA := Lib.hid hb; clear hb)
      rw [i1] at hR
      have hR' := Kd.R_tight rfl hR
      obtain ⟨A1, c1, rfl⟩ := Kd.R_slice hR
      rw [List.length_replicate] at hR'
      have HR' := Lib.hid hR'
      have HN' := Lib.hid hnew
      have HG' := Lib.hid hg
      clear hR hR' hnew hg
      go_wp2
      go_meet
      exact ⟨A1, c1, List.replicate (2 * l.length + 40) z28, by rw [List.length_replicate], ⟨by unfold roomB; rw [if_pos hlt, List.length_replicate]⟩, ⟨by rw [List.length_replicate]; exact HR'.out⟩, ⟨Or.inr (by rw [List.length_replicate] at *; exact HN'.out)⟩, ⟨(Kept.refl _ _).of_grown HG'.out (fun k hk => by cases hk)⟩, ⟨HBA.out⟩⟩
    · have d1 : decide ((xs.length : Int) < (l.length : Int) + 4) = false := decide_eq_false (by omega)
      go_wp2
      go_meet
      exact ⟨A0, c0, xs, rfl, ⟨by unfold roomB; rw [if_neg hlt]⟩, ⟨HV.out⟩, ⟨Or.inl rfl⟩, ⟨Kept.refl _ _⟩, ⟨Below.refl _ _⟩⟩
  case rest =>
    obtain ⟨A1, c1, Y, rfl, HN, HR, HO, HK, HBC⟩ := hcut
    have hY : l.length + 4 ≤ Y.length := by rw [HN.out]; unfold roomB; split <;> omega
    have hY2 : Y.length ≤ 8000000000000 := by rw [HN.out]; unfold roomB; split <;> omega
    have hBc : B ≤ wc.heap.size := Nat.le_trans hB HK.out.1
    go_wp2_with ((with_reducible refine gate_dst (N := 19) rfl ?_); go_loud (refine R_copy28 (w0 := wc) B rfl _ _ 23 23 28 rfl Tryd.underlying23 size28 (.slice A1 Y.length c1) Y l A c _ rfl rfl HR.out (HL.out wc HK.out) (by omega) (by omega) (Below.refl _ _) hBc ?_); intro w1 hR hb hg; have HB1 := Lib.hid (HBC.out.trans hb); clear hb HBC)
    have hm0 := midA_first l Y
    rw [← hm0] at hR
    have HR1 := Lib.hid hR
    have HK1 := Lib.hid (HK.out.of_grown hg (fun k hk => by
      rcases HO.out with h | ⟨g, h, hle⟩
      · exact Or.inl (by rw [← hk, h])
      · exact Or.inr (by rw [h] at hk; injection hk with hk; omega)))
    clear hR hm0 hg
    go_wp2_with fail
    go_loopw [5] (fun i W => ∃ k : Nat, i = .int .i64 k ∧ l.length ≤ k ∧ k ≤ Y.length ∧ Aside0 (Kd.R k28 28 W B (fun k => some k = (Value.slice A1 Y.length c1).ownBlock) (.slice A1 Y.length c1) (midA Y.length l Y k)) ∧ Aside0 (Kept w W (fun k => some k = (Value.slice A0 xs.length c0).ownBlock)) ∧ Aside0 (Below B w W)) (fun i _ => Y.length - (intOf i).toNat)
    case atStart => exact ⟨l.length, rfl, Nat.le_refl _, by omega, ⟨HR1.out⟩, ⟨HK1.out⟩, ⟨HB1.out⟩⟩
    case round =>
      obtain ⟨k, rfl, hk1, hk2, HRk, HKk, HBk⟩ := hrel
      clear HR1 HK1 HR HK HB1
      by_cases hlt : k < Y.length
      · have hst := midA_step l Y k hk1 hlt
        have hml := midA_len l Y k (by omega) (by omega)
        have HST := Lib.hid hst
        obtain ⟨g, cp, e, hg1, hg2, _⟩ := Kd.R_form HRk.out (by omega)
        rw [hml] at e
        injection e with e1 e2 e3
        subst e1; subst e3
        have hBw : B ≤ wr.heap.size := Nat.le_trans hB HKk.out.1
        obtain ⟨ce, hcl, hM, hcc, _⟩ := Kd.R_elem HRk.out z28 (k : Int) (by omega) (by omega)
        have HCC := Lib.hid hcc
        have HCL := Lib.hid hcl
        have hne : IntKind.i64.wrap (-7 - (k : Int)) = -7 - (k : Int) := IntWalk.i64_in _ (by omega)
        clear hst hml hM hcc hcl
        have i1 : (0 : Int) ≤ (k : Int) := by omega
        have i2 : (k : Int) < (Y.length : Int) := by omega
        go_wp2_with ((with_reducible refine gate_store (t := 28) (p := 33) rfl ?_); go_loud (refine Kd.R_store k28 (w0 := wr) B rfl rfl 28 _ _ rfl 28 (k : Int) 0 (midA Y.length l Y k) (markB k) (.agg #[.int .i64 (-7 - (k : Int)), .int .i64 (-9)]) [.int .i64 (-7 - (k : Int)), .int .i64 (-9)] ce _ (fun _ => False) (by rfl) (by simp; rfl) (by rfl) rfl size28 (by simp [Value.oneCell']) HRk.out i1 i2 HCL.out HCC.out (show 0 + 2 ≤ 2 from by omega) (by rw [List.take_zero, List.nil_append, List.drop_of_length_le (by rw [HCL.out]; exact Nat.le_refl 2), List.append_nil]; exact k28_mkM _ _ _ (markB k)) (fun _ hk => hk.elim) (Below.refl _ _) ?_); intro w2 hR2 hb2 hg2; have HB2 := Lib.hid (HBk.out.trans hb2); clear hb2)
        rw [show (k : Int).toNat = k from by omega, HST.out] at hR2
        have HR2 := Lib.hid hR2
        have HK2 := Lib.hid (HKk.out.of_grown hg2 (fun q hq => by
          rcases HO.out with h | ⟨g', h, hle⟩
          · exact Or.inl (by rw [← hq, ← h]; rfl)
          · have h1 : some g = some g' := h
            injection h1 with h1
            injection hq with hq
            exact Or.inr (by omega)))
        clear hR2 hg2
        go_wp2
        exact ⟨⟨k + 1, by go_num, by omega, by omega, ⟨HR2.out⟩, ⟨HK2.out⟩, ⟨HB2.out⟩⟩, by simp [intOf]; omega⟩
      · have hk' : k = Y.length := by omega
        subst hk'
        have hlast := midA_last l Y (by omega)
        go_wp2
        go_ret
        exact ⟨_, rfl, by rw [← HN.out, ← hlast]; exact HRk.out, HO.out, HKk.out, HBk.out⟩
end Go.Proofs.YtidcchopmbodkaaDoor.Sp
end
section
namespace Go.Proofs.YtidcchopmbodkaaDoor.Sp
open Go.RowKit Go.Proofs.YtidcchopmbodkaaDoorW.PrintWords Go.Proofs.YtidcchopmbodkaaDoorW.PrintLast Go.Proofs.YtidcchopmbodkaaDoorW.PrintMore
theorem roomB_ge (n m : Nat) : m + 4 ≤ roomB n m := by unfold roomB; split <;> omega
theorem layA_take (n : Nat) (l : List S28) : (layA n l).take l.length = l := by unfold layA; exact List.take_left
set_option maxHeartbeats 4000000 in
set_option maxRecDepth 100000 in
theorem ranges_calls (B p : Nat) (sv lv iv tv : Value) (xs : List S28) (A : Option Addr) (c : Nat) (l : List S28) (w : World) (ok : Nat → Prop) (hp : w.heap[p]? = some (.cells #[sv, lv, iv, tv] 55 (0, 0))) (hpB : B ≤ p) (hv : Kd.R k28 28 w B ok sv xs)
    (hl : ∀ W', Kept w W' (fun k => k = p ∨ some k = sv.ownBlock) → Kd.C k28 W' A l.length l) (hn : l.length ≤ 100000) (hx : xs.length ≤ 8000000000000) :
    Calls Tryd.prog 37 #[.pointer (some ⟨p, 0, none⟩), .slice A l.length c] w fun e w' => ∃ (A' : Option Addr) (c' : Nat), e = .returned (.slice A' l.length c') ∧ l.length ≤ c' ∧ Kd.R k28 28 w' B (fun k => some k = (Value.slice A' (roomB xs.length l.length) c').ownBlock) (.slice A' (roomB xs.length l.length) c') (layA (roomB xs.length l.length) l) ∧
      w'.heap[p]? = some (.cells #[.slice A' (roomB xs.length l.length) c', lv, iv, tv] 55 (0, 0)) ∧ ((Value.slice A' (roomB xs.length l.length) c').ownBlock = sv.ownBlock ∨ ∃ g, (Value.slice A' (roomB xs.length l.length) c').ownBlock = some g ∧ w.heap.size ≤ g) ∧ Kept w w' (fun k => k = p ∨ some k = sv.ownBlock) ∧ Below B w w' := by
  have hplt := blk_lt hp
  have hne : some p ≠ sv.ownBlock := Kd.R_ne hv hp (by decide)
  have hlc := lay_calls B sv xs A c l w ok hv (by omega) (fun W' hk => hl W' (hk.mono fun k h => Or.inr h)) hn hx
  have HP := Lib.hid hp
  have HNE := Lib.hid hne
  have hr := roomB_ge xs.length l.length
  have hll := layA_len (roomB xs.length l.length) l (by omega)
  have HLL := Lib.hid hll
  generalize roomB xs.length l.length = n at *
  have c0 := blk_cell hp 0
  have f0 := blk_frozen hp 0
  have hlm : l.length ≤ maxLen := (hl w (Kept.refl _ _)).2.1
  have hlm2 : l.length ≤ 9223372036854775807 := hlm
  clear hlm
  clear hp hl hne hll
  go_enter Tryd.func37, Tryd.ntmps37
  go_wp2_with fail
  go_at_call 58
  refine hlc.mono ?_
  rintro e w1 ⟨v, rfl, hR, hat, hk, hbl⟩
  clear hlc
  obtain ⟨A', c', rfl⟩ := Kd.R_slice hR
  rw [HLL.out] at hR hat
  rw [HLL.out]
  obtain ⟨-, hnc, -⟩ := Kd.R_reads' hR
  have hp1 := blk_kept HP.out hk HNE.out
  have d0 := blk_cell hp1 0
  have e0 := blk_frozen hp1 0
  have s1 := blk_lt hp1
  have hne1 : some p ≠ (Value.slice A' n c').ownBlock := by
    rcases hat with h | ⟨g, h, hle⟩
    · rw [h]; exact HNE.out
    · rw [h]; intro he; injection he with he; omega
  have hp2 := blk_put hp1 0 (.slice A' n c') rfl
  have hR2 := Kd.R_far (p := ⟨p, 0, none⟩) hR (fun k hk he => hne1 (by rw [← hk, he])) (.slice A' n c')
  have hk2 := (hk.mono (S' := fun k => k = p ∨ some k = sv.ownBlock) fun k h => Or.inr h).setCell (p := ⟨p, 0, none⟩) (Or.inl (Or.inl rfl)) (.slice A' n c')
  have HBL := Lib.hid (hbl.setCell (p := ⟨p, 0, none⟩) hpB (.slice A' n c'))
  have HP2 := Lib.hid hp2
  have HR2 := Lib.hid hR2
  have HK2 := Lib.hid hk2
  have HAT := Lib.hid hat
  clear hp2 hR2 hk2 hat hR hp1 hk hne1 hbl
  have i1 : (0 : Int) ≤ (l.length : Int) := by omega
  have i2 : (l.length : Int) ≤ (c' : Int) := by omega
  have i3 : (l.length : Int) ≤ (n : Int) := by omega
  go_wp2
  go_ret
  exact ⟨A', c', rfl, by omega, HR2.out, HP2.out, HAT.out, HK2.out, HBL.out⟩
end Go.Proofs.YtidcchopmbodkaaDoor.Sp
end
section
namespace Go.Proofs.YtidcchopmbodkaaDoor.Sp
open Go.RowKit Go.Proofs.YtidcchopmbodkaaDoorW.PrintWords Go.Proofs.YtidcchopmbodkaaDoorW.PrintLast Go.Proofs.YtidcchopmbodkaaDoorW.PrintMore
attribute [local go_sem] max2_int min2_int max_two min_two max_three min_three max_four min_four   -- for this text's walks alone
set_option linter.unusedVariables false
set_option linter.unusedSimpArgs false
theorem eqA28 (d : Nat) (w : World) (x0 y0 : Int) (x1 y1 : Int) :
    (Op.equalIn (d + 2) 28 (.agg #[.int .i64 x0, .int .i64 x1]) (.agg #[.int .i64 y0, .int .i64 y1])).run Tryd.prog w = .ok (x0 == y0 && (x1 == y1)) w := by
  refine eqA_of Tryd.underlying28 (by kernel_rfl) ?_
  refine eqf_cons (by rfl) (by go_simp; rfl) (by go_simp; rfl) (by go_simp) ?_
  exact eqf_last (by rfl) (by go_simp; rfl) (by go_simp; rfl) (by go_simp)
end Go.Proofs.YtidcchopmbodkaaDoor.Sp
end
section
namespace Go.Proofs.YtidcchopmbodkaaDoor.Sp
open Go.RowKit Go.Proofs.YtidcchopmbodkaaDoorW.PrintWords Go.Proofs.YtidcchopmbodkaaDoorW.PrintLast Go.Proofs.YtidcchopmbodkaaDoorW.PrintMore
attribute [local go_sem] max2_int min2_int max_two min_two max_three min_three max_four min_four   -- for this text's walks alone
set_option linter.unusedVariables false
set_option linter.unusedSimpArgs false
def postbagref4_sound.f (a0 : Int) : Option (Bool) := if a0 ≥ 0 then (some (decide (a0 ≤ 4294967295))) else (some false)
set_option maxHeartbeats 8000000 in
set_option maxRecDepth 100000 in
theorem postbagref4_sound.calls (a0 : Int) (r : Bool) (w : World) (h : postbagref4_sound.f a0 = some r) :
  Calls Tryd.prog 54 #[.int .i64 a0] w fun e w' => e = .returned (.bool r) ∧ Drawn0 w w' := by
 have H : (if a0 ≥ 0 then (some (decide (a0 ≤ 4294967295))) else (some false)) = some r := h
 clear h
 by_cases c2 : a0 ≥ 0
 ·rw [if_pos c2] at H
  have c2b0 : decide (0 ≤ a0) = true := decide_eq_true c2
  clear c2
  obtain rfl := Option.some.inj H
  go_enter Tryd.func54, Tryd.ntmps54
  go_wp2
  go_ret
  exact ⟨by first | rfl | (simp; done) | (simp [*]; done), by repeat (first | exact Drawn0.refl _ | apply Drawn0.step)⟩
 ·rw [if_neg c2] at H
  have c2b0 : decide (0 ≤ a0) = false := decide_eq_false c2
  clear c2
  obtain rfl := Option.some.inj H
  go_enter Tryd.func54, Tryd.ntmps54
  go_wp2
  go_ret
  exact ⟨by first | rfl | (simp; done) | (simp [*]; done), by repeat (first | exact Drawn0.refl _ | apply Drawn0.step)⟩
end Go.Proofs.YtidcchopmbodkaaDoor.Sp
end
section
namespace Go.Proofs.YtidcchopmbodkaaDoor.Sp
open Go.RowKit Go.Proofs.YtidcchopmbodkaaDoorW.PrintWords Go.Proofs.YtidcchopmbodkaaDoorW.PrintLast Go.Proofs.YtidcchopmbodkaaDoorW.PrintMore
attribute [local go_sem] max2_int min2_int max_two min_two max_three min_three max_four min_four   -- for this text's walks alone
set_option linter.unusedVariables false
set_option linter.unusedSimpArgs false
def postbagref4_written.l0 : Nat → Int → ByteArray → Option (ByteArray)
 | 0, _, _ => none
 | k + 1, x0, x3 => if x0 > 0 then ((some (([(wrap64 (48 + (Int.tmod x0 10))) % 256] : List Int) : List Int)).bind fun y385 => (if (strOfNums y385).size + x3.size ≤ 9223372036854775807 then (postbagref4_written.l0 k (wrap64 (Int.tdiv x0 10)) ((strOfNums y385) ++ x3)) else (none))) else (some x3)
def postbagref4_written.f (k : Nat) (a0 : Int) : Option (ByteArray) := if a0 = 0 then (some (⟨#[42]⟩ : ByteArray)) else (postbagref4_written.l0 k a0 (⟨#[]⟩ : ByteArray))
set_option maxHeartbeats 8000000 in
set_option maxRecDepth 100000 in
theorem postbagref4_written.calls (k : Nat) (a0 : Int) (r : ByteArray) (w : World) (h : postbagref4_written.f k a0 = some r) :
  Calls Tryd.prog 55 #[.int .i64 a0] w fun e w' => e = .returned (.string r) ∧ Below w.heap.size w w' := by
 have HB := Aside0.mk (Below.refl w.heap.size w)
 have H : (if a0 = 0 then (some (⟨#[42]⟩ : ByteArray)) else (postbagref4_written.l0 k a0 (⟨#[]⟩ : ByteArray))) = some r := h
 clear h
 by_cases c2 : a0 = 0
 ·rw [if_pos c2] at H
  have c2b0 : (a0 == 0) = true := beq_iff_eq.mpr c2
  have c2b1 : (a0 != 0) = false := bne_eq_false_iff_eq.mpr c2
  clear c2
  obtain rfl := Option.some.inj H
  go_enter Tryd.func55, Tryd.ntmps55
  go_wp2
  go_ret
  exact ⟨by first | rfl | (simp [errW_none, errW_some] <;> rfl) | (simp [*, errW_none, errW_some] <;> rfl), by repeat (first | (with_reducible first | exact HB.out | apply below_alloc | apply pw_below_drewN | apply below_drew1) | exact HB.out)⟩
 ·rw [if_neg c2] at H
  have c2b0 : (a0 == 0) = false := beq_eq_false_iff_ne.mpr c2
  have c2b1 : (a0 != 0) = true := bne_iff_ne.mpr c2
  have H' := Aside0.mk H
  clear H
  go_enter Tryd.func55, Tryd.ntmps55
  go_wp2
  go_loopg [0, 3] k (fun kq v0 v3 w' => ∃ (x0_1 : Int) (x3_1 : ByteArray), v0 = .int .i64 x0_1 ∧ v3 = .string x3_1 ∧ Aside0 (postbagref4_written.l0 kq x0_1 x3_1 = some r) ∧ Aside0 (kq ≤ k) ∧ Aside0 (Below w.heap.size w w'))
  case atStart => exact ⟨(a0), ((⟨#[]⟩ : ByteArray)), (by first | rfl | (simp; done) | (simp [*]; done)), (by first | rfl | (simp; done) | (simp [*]; done)), H', ⟨Nat.le_refl _⟩, ⟨by repeat (first | (with_reducible first | exact HB.out | apply below_alloc | apply pw_below_drewN | apply below_drew1) | exact HB.out)⟩⟩
  case round =>
   clear H'
   try clear c2
   try clear c2b0
   try clear c2b1
   try clear p2
   obtain ⟨x0_1, x3_1, rfl, rfl, HA, HK1, HB⟩ := hrel
   cases gk with
   | zero => exact absurd HA.out (by simp [postbagref4_written.l0])
   | succ k1 =>
    have H := HA.out
    clear HA
    simp only [postbagref4_written.l0] at H
    by_cases c3 : x0_1 > 0
    ·rw [if_pos c3] at H
     have c3b0 : decide (0 < x0_1) = true := decide_eq_true c3
     clear c3
     obtain ⟨y385, hy385⟩ : ∃ y_ : List Int, y_ = (([(wrap64 (48 + (Int.tmod x0_1 10))) % 256] : List Int)) := ⟨_, rfl⟩
     replace H : (if (strOfNums y385).size + x3_1.size ≤ 9223372036854775807 then (postbagref4_written.l0 k1 (wrap64 (Int.tdiv x0_1 10)) ((strOfNums y385) ++ x3_1)) else (none)) = some r := by first | (rw [hy385]; with_reducible exact H) | (have H2_ := (Option.bind_some _ _).symm.trans H; rw [hy385]; with_reducible exact H2_) | (have H2_ := (Option.bind_some _ _).symm.trans H; with_reducible exact H2_) | with_reducible exact H | (rw [hy385]; exact H) | exact H
     have Ny385 := Aside0.mk hy385
     clear hy385
     by_cases c4 : (strOfNums y385).size + x3_1.size ≤ 9223372036854775807
     ·rw [if_pos c4] at H
      have c4b0 := eq_true c4
      have c4b1 : decide ((strOfNums y385).size + x3_1.size ≤ 9223372036854775807) = true := decide_eq_true c4
      try have c4b2 : (9223372036854775807 < (strOfNums y385).size + x3_1.size) = False := eq_false (Nat.not_lt.2 c4)
      have H' := Aside0.mk H
      clear H
      go_wp2_with (first | ((with_reducible refine gate_dst (N := 12) rfl ?_); refine Kd.R_lit (Kd.int .u8) _ 5 ?hg (N := 12) ?hd (xs := ([(wrap64 (48 + (Int.tmod x0_1 10))) % 256] : List Int)) (inner := [.int .u8 ((wrap64 (48 + (Int.tmod x0_1 10))) % 256)]) (ok := fun _ => True) (okp := fun _ => True) ?hr ?hp (fun _ hk => hk) trivial (Below.refl _ _) (Nat.le_refl _) (by simp) ?_; (case hd => rfl); (case hg => rfl); (case hr => first | (go_simp; done) | (go_simp; rfl)); (case hp => exact (Reps.one (show Kd.M (Kd.int .u8) _ _ _ ((wrap64 (48 + (Int.tmod x0_1 10))) % 256) [.int .u8 ((wrap64 (48 + (Int.tmod x0_1 10))) % 256)] from rfl) (Reps.none _ _))); intro v386 w5 ho6 hb hg_ hnew_; clear hg_ hnew_; (first | rw [← Ny385.out] at ho6 | (simp only [Int.reduceToNat] at ho6; rw [← Ny385.out] at ho6)); have n0_ := Aside0.mk (Kd.R_lower ho6 (below_size (by repeat (first | (with_reducible first | exact HB.out | apply below_alloc | apply pw_below_drewN | apply below_drew1) | exact HB.out)))); have n1_ := Aside0.mk (below_step (by repeat (first | (with_reducible first | exact HB.out | apply below_alloc | apply pw_below_drewN | apply below_drew1) | exact HB.out)) hb); clear HB; have HO387 := n0_; have HB := n1_; clear n0_ n1_; clear hb ho6; have hcv7 := own_string (P := Tryd.prog) Tryd.underlying88 Tryd.underlying5 Tryd.underlying9 (Kd.own_of_R HO387.out)))
      go_roundg k1
      case measure => have := HK1.out; omega
      case rel => exact ⟨(wrap64 (Int.tdiv x0_1 10)), ((strOfNums y385) ++ x3_1), (by first | rfl | (simp; done) | (simp [*]; done)), (by first | rfl | (simp; done) | (simp [*]; done)), H', ⟨by have := HK1.out; omega⟩, ⟨by repeat (first | (with_reducible first | exact HB.out | apply below_alloc | apply pw_below_drewN | apply below_drew1) | exact HB.out)⟩⟩
     ·rw [if_neg c4] at H
      exact absurd H (by simp)
    ·rw [if_neg c3] at H
     have c3b0 : decide (0 < x0_1) = false := decide_eq_false c3
     clear c3
     obtain rfl := Option.some.inj H
     go_wp2
     go_ret
     exact ⟨by first | rfl | (simp [errW_none, errW_some] <;> rfl) | (simp [*, errW_none, errW_some] <;> rfl), by repeat (first | (with_reducible first | exact HB.out | apply below_alloc | apply pw_below_drewN | apply below_drew1) | exact HB.out)⟩
end Go.Proofs.YtidcchopmbodkaaDoor.Sp
end
section
namespace Go.Proofs.YtidcchopmbodkaaDoor.Sp
open Go.RowKit Go.Proofs.YtidcchopmbodkaaDoorW.PrintWords Go.Proofs.YtidcchopmbodkaaDoorW.PrintLast Go.Proofs.YtidcchopmbodkaaDoorW.PrintMore
attribute [local go_sem] max2_int min2_int max_two min_two max_three min_three max_four min_four   -- for this text's walks alone
set_option linter.unusedVariables false
set_option linter.unusedSimpArgs false
attribute [local go_sem high] eqA28
mutual
def postbagref4_Print.l0 : Nat → List (S28) → ByteArray → Int → Option (ByteArray × Int)
 | 0, _, _, _ => none
 | k + 1, x0, x4, x5 => if x5 < (x0.length : Int) then (if 0 ≤ x5 then ((postbagref4_sound.f ((rd_T28 x0 x5).f0)).bind fun t390 => (if t390 = true then ((postbagref4_sound.f ((rd_T28 x0 x5).f1)).bind fun t391 => (postbagref4_Print.j1 k x0 x4 x5 ((rd_T28 x0 x5).f0) ((rd_T28 x0 x5).f1) (!t391))) else (postbagref4_Print.j1 k x0 x4 x5 ((rd_T28 x0 x5).f0) ((rd_T28 x0 x5).f1) true))) else (none)) else (if x4.toList = ([] : List UInt8) then (some ((⟨#[]⟩ : ByteArray), 40)) else (some (x4, 0)))
def postbagref4_Print.j1 : Nat → List (S28) → ByteArray → Int → Int → Int → Bool → Option (ByteArray × Int)
 | 0, _, _, _, _, _, _ => none
 | k + 1, x0, x4, x5, x6, x7, x34 => if x34 = true then (some ((⟨#[]⟩ : ByteArray), 40)) else (if x5 > 0 then (if x4.size + 1 ≤ 9223372036854775807 then (postbagref4_Print.j2 k x0 (x4 ++ (⟨#[44]⟩ : ByteArray)) x5 x6 x7) else (none)) else (postbagref4_Print.j2 k x0 x4 x5 x6 x7))
def postbagref4_Print.j2 : Nat → List (S28) → ByteArray → Int → Int → Int → Option (ByteArray × Int)
 | 0, _, _, _, _, _ => none
 | k + 1, x0, x4, x5, x6, x7 => (postbagref4_written.f k x6).bind fun t392 => (if x4.size + t392.size ≤ 9223372036854775807 then (if x6 = x7 then (postbagref4_Print.l0 k x0 (x4 ++ t392) (wrap64 (x5 + 1))) else (if (x4 ++ t392).size + 1 ≤ 9223372036854775807 then ((postbagref4_written.f k x7).bind fun t393 => (if ((x4 ++ t392) ++ (⟨#[58]⟩ : ByteArray)).size + t393.size ≤ 9223372036854775807 then (postbagref4_Print.l0 k x0 (((x4 ++ t392) ++ (⟨#[58]⟩ : ByteArray)) ++ t393) (wrap64 (x5 + 1))) else (none))) else (none))) else (none))
end
def postbagref4_Print.f (k : Nat) (l0 : List (S28)) : Option (ByteArray × Int) := if (l0.length : Int) > 64 then (some ((⟨#[]⟩ : ByteArray), 41)) else (postbagref4_Print.l0 k l0 (⟨#[]⟩ : ByteArray) 0)
set_option maxHeartbeats 8000000 in
set_option maxRecDepth 100000 in
theorem postbagref4_Print.calls (k : Nat) (A0 : Option Addr) (c0 : Nat) (l0 : List (S28)) (r1 : ByteArray) (r2 : Int) (w : World) (hr0 : Kd.C k28 w A0 l0.length l0) (hc0 : l0.length ≤ c0) (h : postbagref4_Print.f k l0 = some (r1, r2)) :
  Calls Tryd.prog 35 #[.slice A0 l0.length c0] w fun e w' => e = .returned (.tuple #[.string r1, .int .i64 r2]) ∧ Below w.heap.size w w' := by
 have HR0 := Aside0.mk hr0
 have HC0 := Aside0.mk hc0
 clear hr0 hc0
 have HB := Aside0.mk (Below.refl w.heap.size w)
 have H : (if (l0.length : Int) > 64 then (some ((⟨#[]⟩ : ByteArray), 41)) else (postbagref4_Print.l0 k l0 (⟨#[]⟩ : ByteArray) 0)) = some (r1, r2) := h
 clear h
 by_cases c2 : (l0.length : Int) > 64
 ·rw [if_pos c2] at H
  have c2b0 : decide (64 < (l0.length : Int)) = true := decide_eq_true c2
  have c2b1 : decide (64 < l0.length) = true := decide_eq_true (by omega)
  clear c2
  simp only [Option.some.injEq, Prod.mk.injEq] at H
  obtain ⟨rfl, rfl⟩ := H
  go_enter Tryd.func35, Tryd.ntmps35
  go_wp2
  go_ret2
  exact ⟨by first | rfl | (simp [errW_none, errW_some] <;> rfl) | (simp [*, errW_none, errW_some] <;> rfl), by repeat (first | (with_reducible first | exact HB.out | apply below_alloc | apply pw_below_drewN | apply below_drew1) | exact HB.out)⟩
 ·rw [if_neg c2] at H
  have c2b0 : decide (64 < (l0.length : Int)) = false := decide_eq_false c2
  have c2b1 : decide (64 < l0.length) = false := decide_eq_false (by omega)
  clear c2
  have H' := Aside0.mk H
  clear H
  go_enter Tryd.func35, Tryd.ntmps35
  go_wp2
  go_loopg [4, 5] k (fun kq v4 v5 w' => ∃ (x4_1 : ByteArray) (x5_1 : Int), v4 = .string x4_1 ∧ v5 = .int .i64 x5_1 ∧ Aside0 (postbagref4_Print.l0 kq l0 x4_1 x5_1 = some (r1, r2)) ∧ Aside0 (kq ≤ k) ∧ Aside0 (Below w.heap.size w w'))
  case atStart => exact ⟨((⟨#[]⟩ : ByteArray)), (0), (by first | rfl | (simp; done) | (simp [*]; done)), (by first | rfl | (simp; done) | (simp [*]; done)), H', ⟨Nat.le_refl _⟩, ⟨by repeat (first | (with_reducible first | exact HB.out | apply below_alloc | apply pw_below_drewN | apply below_drew1) | exact HB.out)⟩⟩
  case round =>
   clear H'
   try clear c2
   try clear c2b0
   try clear c2b1
   try clear p2
   obtain ⟨x4_1, x5_1, rfl, rfl, HA, HK1, HB⟩ := hrel
   cases gk with
   | zero => exact absurd HA.out (by simp [postbagref4_Print.l0])
   | succ k1 =>
    have H := HA.out
    clear HA
    simp only [postbagref4_Print.l0] at H
    by_cases c3 : x5_1 < (l0.length : Int)
    ·rw [if_pos c3] at H
     have c3b0 : decide (x5_1 < (l0.length : Int)) = true := decide_eq_true c3
     clear c3
     by_cases c4 : 0 ≤ x5_1
     ·rw [if_pos c4] at H
      have c4b0 : decide (0 ≤ x5_1) = true := decide_eq_true c4
      clear c4
      have HC5 := Aside0.mk H
      clear H
      have p388 : 0 ≤ (x5_1 : Int) := of_decide_eq_true (by first | (with_reducible assumption) | assumption)
      have q388 : x5_1 < (l0.length : Int) := of_decide_eq_true (by first | (with_reducible assumption) | assumption)
      obtain ⟨ad388, e388, hx388_0, hx388_1⟩ := at_T28 HR0.out x5_1 p388 q388
      cases e388
      replace hx388_0 := (HB.out.cell (World.block_lt_of_cell? w _ hx388_0)).trans hx388_0
      replace hx388_1 := (HB.out.cell (World.block_lt_of_cell? w _ hx388_1)).trans hx388_1
      replace p388 := eq_true p388
      replace q388 := eq_true q388
      have p389 : 0 ≤ (x5_1 : Int) := of_decide_eq_true (by first | (with_reducible assumption) | assumption)
      have q389 : x5_1 < (l0.length : Int) := of_decide_eq_true (by first | (with_reducible assumption) | assumption)
      obtain ⟨ad389, e389, hx389_0, hx389_1⟩ := at_T28 HR0.out x5_1 p389 q389
      obtain rfl : ad388 = ad389 := (by injection e389)
      replace hx389_0 := (HB.out.cell (World.block_lt_of_cell? w _ hx389_0)).trans hx389_0
      replace hx389_1 := (HB.out.cell (World.block_lt_of_cell? w _ hx389_1)).trans hx389_1
      replace p389 := eq_true p389
      replace q389 := eq_true q389
      go_upto_region 9 with (fail)
      go_cut [34] (fun v34 wc => ∃ (kq : Nat) (x34_4 : Bool), v34 = .bool x34_4 ∧ Aside0 (postbagref4_Print.j1 kq l0 x4_1 x5_1 ((rd_T28 l0 x5_1).f0) ((rd_T28 l0 x5_1).f1) x34_4 = some (r1, r2)) ∧ Aside0 (kq ≤ k1) ∧ Aside0 (Below w.heap.size w wc))
      case first =>
       have H := HC5.out
       clear HC5
       replace H := Option.bind_eq_some_iff.mp H
       obtain ⟨t390, A60, H⟩ := H
       replace H : (if t390 = true then ((postbagref4_sound.f ((rd_T28 l0 x5_1).f1)).bind fun t391 => (postbagref4_Print.j1 k1 l0 x4_1 x5_1 ((rd_T28 l0 x5_1).f0) ((rd_T28 l0 x5_1).f1) (!t391))) else (postbagref4_Print.j1 k1 l0 x4_1 x5_1 ((rd_T28 l0 x5_1).f0) ((rd_T28 l0 x5_1).f1) true)) = some (r1, r2) := H
       have A6 := Aside0.mk A60
       clear A60
       by_cases c7 : t390 = true
       ·subst c7
        have H1 : ((postbagref4_sound.f ((rd_T28 l0 x5_1).f1)).bind fun t391 => (postbagref4_Print.j1 k1 l0 x4_1 x5_1 ((rd_T28 l0 x5_1).f0) ((rd_T28 l0 x5_1).f1) (!t391))) = some (r1, r2) := by rw [if_pos rfl] at H; exact H
        clear H
        have H := H1
        clear H1
        replace H := Option.bind_eq_some_iff.mp H
        obtain ⟨t391, A80, H⟩ := H
        replace H : (postbagref4_Print.j1 k1 l0 x4_1 x5_1 ((rd_T28 l0 x5_1).f0) ((rd_T28 l0 x5_1).f1) (!t391)) = some (r1, r2) := H
        have A8 := Aside0.mk A80
        clear A80
        have H' := Aside0.mk H
        clear H
        go_wp2_with (first | ((with_reducible refine gate_callee (f := 54) rfl ?_); refine goesL_ (some 28) rfl rfl Tryd.func54 (by kernel_rfl) rfl #[.int .i64 ((rd_T28 l0 x5_1).f0)] rfl (by (try simp only [List.map_toArray, List.map_cons, List.map_nil]); first | done | rfl | (simp only [List.length_drop, List.length_take]; rfl)) ?_; (with_reducible refine (postbagref4_sound.calls ((rd_T28 l0 x5_1).f0) true _ A6.out).mono ?_); rintro e w' ⟨rfl, ⟨nd, rfl⟩⟩; refine ⟨_, rfl, ?_⟩) | (go_at_call 54; (with_reducible refine (postbagref4_sound.calls ((rd_T28 l0 x5_1).f1) t391 _ A8.out).mono ?_); rintro e w' ⟨rfl, ⟨nd, rfl⟩⟩))
        go_meet
        case rel => exact ⟨_, (!t391), (by first | rfl | (simp; done) | (simp [*]; done)), H', ⟨by have := HK1.out; first | omega | exact Nat.le_refl _⟩, ⟨by repeat (first | (with_reducible first | exact HB.out | apply below_alloc | apply pw_below_drewN | apply below_drew1) | exact HB.out)⟩⟩
       ·replace c7 := Bool.eq_false_iff.mpr c7
        subst c7
        have H1 : (postbagref4_Print.j1 k1 l0 x4_1 x5_1 ((rd_T28 l0 x5_1).f0) ((rd_T28 l0 x5_1).f1) true) = some (r1, r2) := by rw [if_neg (show ¬ (false = true) by decide)] at H; exact H
        clear H
        have H := H1
        clear H1
        have H' := Aside0.mk H
        clear H
        go_wp2_with (first | ((with_reducible refine gate_callee (f := 54) rfl ?_); refine goesL_ (some 28) rfl rfl Tryd.func54 (by kernel_rfl) rfl #[.int .i64 ((rd_T28 l0 x5_1).f0)] rfl (by (try simp only [List.map_toArray, List.map_cons, List.map_nil]); first | done | rfl | (simp only [List.length_drop, List.length_take]; rfl)) ?_; (with_reducible refine (postbagref4_sound.calls ((rd_T28 l0 x5_1).f0) false _ A6.out).mono ?_); rintro e w' ⟨rfl, ⟨nd, rfl⟩⟩; refine ⟨_, rfl, ?_⟩))
        go_meet
        case rel => exact ⟨_, (true), (by first | rfl | (simp; done) | (simp [*]; done)), H', ⟨by have := HK1.out; first | omega | exact Nat.le_refl _⟩, ⟨by repeat (first | (with_reducible first | exact HB.out | apply below_alloc | apply pw_below_drewN | apply below_drew1) | exact HB.out)⟩⟩
      case rest =>
       clear HC5
       try clear c2
       try clear c2b0
       try clear c2b1
       try clear p2
       try clear c3
       try clear c3b0
       try clear p3
       try clear q3
       try clear hx3
       try clear c4
       try clear c4b0
       try clear c5
       try clear c7
       try clear hx388_0
       try clear hx388_1
       try clear hx389_0
       try clear hx389_1
       try clear p2
       try clear p388
       try clear p389
       try clear q388
       try clear q389
       obtain ⟨kq, x34_4, rfl, HA, HJ4, HB⟩ := hcut
       cases kq with
       | zero => exact absurd HA.out (by simp [postbagref4_Print.j1])
       | succ kj4 =>
        have H := HA.out
        clear HA
        simp only [postbagref4_Print.j1] at H
        by_cases c9 : x34_4 = true
        ·subst c9
         have H1 : (some ((⟨#[]⟩ : ByteArray), 40)) = some (r1, r2) := by rw [if_pos rfl] at H; exact H
         clear H
         have H := H1
         clear H1
         simp only [Option.some.injEq, Prod.mk.injEq] at H
         obtain ⟨rfl, rfl⟩ := H
         go_wp2
         go_ret2
         exact ⟨by first | rfl | (simp [errW_none, errW_some] <;> rfl) | (simp [*, errW_none, errW_some] <;> rfl), by repeat (first | (with_reducible first | exact HB.out | apply below_alloc | apply pw_below_drewN | apply below_drew1) | exact HB.out)⟩
        ·replace c9 := Bool.eq_false_iff.mpr c9
         subst c9
         have H1 : (if x5_1 > 0 then (if x4_1.size + 1 ≤ 9223372036854775807 then (postbagref4_Print.j2 kj4 l0 (x4_1 ++ (⟨#[44]⟩ : ByteArray)) x5_1 ((rd_T28 l0 x5_1).f0) ((rd_T28 l0 x5_1).f1)) else (none)) else (postbagref4_Print.j2 kj4 l0 x4_1 x5_1 ((rd_T28 l0 x5_1).f0) ((rd_T28 l0 x5_1).f1))) = some (r1, r2) := by rw [if_neg (show ¬ (false = true) by decide)] at H; exact H
         clear H
         have H := H1
         clear H1
         have HC10 := Aside0.mk H
         clear H
         go_upto_if 36 with (fail)
         go_cut [4] (fun v4 wc => ∃ (kq : Nat) (x4_9 : ByteArray), v4 = .string x4_9 ∧ Aside0 (postbagref4_Print.j2 kq l0 x4_9 x5_1 ((rd_T28 l0 x5_1).f0) ((rd_T28 l0 x5_1).f1) = some (r1, r2)) ∧ Aside0 (kq ≤ kj4) ∧ Aside0 (Below w.heap.size w wc))
         case first =>
          have H := HC10.out
          clear HC10
          by_cases c11 : x5_1 > 0
          ·rw [if_pos c11] at H
           have c11b0 : decide (0 < x5_1) = true := decide_eq_true c11
           clear c11
           (first | rw [c11b0] | (simp only [i64_w, i32_w]; rw [c11b0]) | skip)
           by_cases c12 : x4_1.size + 1 ≤ 9223372036854775807
           ·rw [if_pos c12] at H
            have c12b0 := eq_true c12
            have c12b1 : decide (x4_1.size + 1 ≤ 9223372036854775807) = true := decide_eq_true c12
            try have c12b2 : (9223372036854775807 < x4_1.size + 1) = False := eq_false (Nat.not_lt.2 c12)
            have H' := Aside0.mk H
            clear H
            go_wp2
            go_meet
            case rel => exact ⟨_, (x4_1 ++ (⟨#[44]⟩ : ByteArray)), (by first | rfl | (simp; done) | (simp [*]; done)), H', ⟨by have := HK1.out; have := HJ4.out; first | omega | exact Nat.le_refl _⟩, ⟨by repeat (first | (with_reducible first | exact HB.out | apply below_alloc | apply pw_below_drewN | apply below_drew1) | exact HB.out)⟩⟩
           ·rw [if_neg c12] at H
            exact absurd H (by simp)
          ·rw [if_neg c11] at H
           have c11b0 : decide (0 < x5_1) = false := decide_eq_false c11
           clear c11
           (first | rw [c11b0] | (simp only [i64_w, i32_w]; rw [c11b0]) | skip)
           have H' := Aside0.mk H
           clear H
           go_wp2
           go_meet
           case rel => exact ⟨_, (x4_1), (by first | rfl | (simp; done) | (simp [*]; done)), H', ⟨by have := HK1.out; have := HJ4.out; first | omega | exact Nat.le_refl _⟩, ⟨by repeat (first | (with_reducible first | exact HB.out | apply below_alloc | apply pw_below_drewN | apply below_drew1) | exact HB.out)⟩⟩
         case rest =>
          clear HC10
          try clear c1
          try clear c2
          try clear c2b0
          try clear c2b1
          try clear p2
          try clear c3
          try clear c3b0
          try clear p3
          try clear q3
          try clear hx3
          try clear c4
          try clear c4b0
          try clear c5
          try clear c7
          try clear c9
          try clear c11
          try clear c11b0
          try clear c12
          try clear c12b0
          try clear c12b1
          try clear c12b2
          try clear hx388_0
          try clear hx388_1
          try clear hx389_0
          try clear hx389_1
          try clear p2
          try clear p3
          try clear p388
          try clear p389
          try clear q3
          try clear q388
          try clear q389
          obtain ⟨kq, x4_9, rfl, HA, HJ9, HB⟩ := hcut
          cases kq with
          | zero => exact absurd HA.out (by simp [postbagref4_Print.j2])
          | succ kj9 =>
           have H := HA.out
           clear HA
           simp only [postbagref4_Print.j2] at H
           replace H := Option.bind_eq_some_iff.mp H
           obtain ⟨t392, A130, H⟩ := H
           replace H : (if x4_9.size + t392.size ≤ 9223372036854775807 then (if ((rd_T28 l0 x5_1).f0) = ((rd_T28 l0 x5_1).f1) then (postbagref4_Print.l0 kj9 l0 (x4_9 ++ t392) (wrap64 (x5_1 + 1))) else (if (x4_9 ++ t392).size + 1 ≤ 9223372036854775807 then ((postbagref4_written.f kj9 ((rd_T28 l0 x5_1).f1)).bind fun t393 => (if ((x4_9 ++ t392) ++ (⟨#[58]⟩ : ByteArray)).size + t393.size ≤ 9223372036854775807 then (postbagref4_Print.l0 kj9 l0 (((x4_9 ++ t392) ++ (⟨#[58]⟩ : ByteArray)) ++ t393) (wrap64 (x5_1 + 1))) else (none))) else (none))) else (none)) = some (r1, r2) := H
           have A13 := Aside0.mk A130
           clear A130
           by_cases c14 : x4_9.size + t392.size ≤ 9223372036854775807
           ·rw [if_pos c14] at H
            have c14b0 := eq_true c14
            have c14b1 : decide (x4_9.size + t392.size ≤ 9223372036854775807) = true := decide_eq_true c14
            try have c14b2 : (9223372036854775807 < x4_9.size + t392.size) = False := eq_false (Nat.not_lt.2 c14)
            by_cases c15 : ((rd_T28 l0 x5_1).f0) = ((rd_T28 l0 x5_1).f1)
            ·rw [if_pos c15] at H
             have c15b0 : (((rd_T28 l0 x5_1).f0) == ((rd_T28 l0 x5_1).f1)) = true := beq_iff_eq.mpr c15
             have c15b1 : (((rd_T28 l0 x5_1).f0) != ((rd_T28 l0 x5_1).f1)) = false := bne_eq_false_iff_eq.mpr c15
             clear c15
             have H' := Aside0.mk H
             clear H
             go_wp2_with (first | ((with_reducible refine gate_callee (f := 55) rfl ?_); refine goesL_ (some 41) rfl rfl Tryd.func55 (by kernel_rfl) rfl #[.int .i64 ((rd_T28 l0 x5_1).f0)] rfl (by (try simp only [List.map_toArray, List.map_cons, List.map_nil]); first | done | rfl | (simp only [List.length_drop, List.length_take]; rfl)) ?_; (with_reducible refine (postbagref4_written.calls kj9 ((rd_T28 l0 x5_1).f0) t392 _ A13.out).mono ?_); rintro e w16 ⟨rfl, hb⟩; refine ⟨_, rfl, ?_⟩; have n0_ := Aside0.mk (below_step (by repeat (first | (with_reducible first | exact HB.out | apply below_alloc | apply pw_below_drewN | apply below_drew1) | exact HB.out)) hb); clear HB; have HB := n0_; clear n0_; (try clear hb); (try clear hb2); (try clear hk); (try clear hi)))
             go_roundg kj9
             case measure => have := HK1.out; have := HJ4.out; have := HJ9.out; omega
             case rel => exact ⟨(x4_9 ++ t392), (wrap64 (x5_1 + 1)), (by first | rfl | (simp; done) | (simp [*]; done)), (by first | rfl | (simp; done) | (simp [*]; done)), H', ⟨by have := HK1.out; have := HJ4.out; have := HJ9.out; omega⟩, ⟨by repeat (first | (with_reducible first | exact HB.out | apply below_alloc | apply pw_below_drewN | apply below_drew1) | exact HB.out)⟩⟩
            ·rw [if_neg c15] at H
             have c15b0 : (((rd_T28 l0 x5_1).f0) == ((rd_T28 l0 x5_1).f1)) = false := beq_eq_false_iff_ne.mpr c15
             have c15b1 : (((rd_T28 l0 x5_1).f0) != ((rd_T28 l0 x5_1).f1)) = true := bne_iff_ne.mpr c15
             by_cases c17 : (x4_9 ++ t392).size + 1 ≤ 9223372036854775807
             ·rw [if_pos c17] at H
              have c17b0 := eq_true c17
              have c17b1 : decide ((x4_9 ++ t392).size + 1 ≤ 9223372036854775807) = true := decide_eq_true c17
              try have c17b2 : (9223372036854775807 < (x4_9 ++ t392).size + 1) = False := eq_false (Nat.not_lt.2 c17)
              try have c17b7 : (9223372036854775807 < x4_9.size + t392.size + 1) = False := eq_false (by have h_ := c17; simp only [ByteArray.size_append, ByteArray.size_extract] at h_; first | exact Nat.not_lt.2 h_ | omega | (simp at h_ ⊢; omega))
              try have c17b3 : (9223372036854775807 < x4_9.size + t392.size + 1) = False := eq_false (by have h_ := c17; simp only [ByteArray.size_append] at h_; omega)
              replace H := Option.bind_eq_some_iff.mp H
              obtain ⟨t393, A180, H⟩ := H
              replace H : (if ((x4_9 ++ t392) ++ (⟨#[58]⟩ : ByteArray)).size + t393.size ≤ 9223372036854775807 then (postbagref4_Print.l0 kj9 l0 (((x4_9 ++ t392) ++ (⟨#[58]⟩ : ByteArray)) ++ t393) (wrap64 (x5_1 + 1))) else (none)) = some (r1, r2) := H
              have A18 := Aside0.mk A180
              clear A180
              by_cases c19 : ((x4_9 ++ t392) ++ (⟨#[58]⟩ : ByteArray)).size + t393.size ≤ 9223372036854775807
              ·rw [if_pos c19] at H
               have c19b0 := eq_true c19
               have c19b1 : decide (((x4_9 ++ t392) ++ (⟨#[58]⟩ : ByteArray)).size + t393.size ≤ 9223372036854775807) = true := decide_eq_true c19
               try have c19b2 : (9223372036854775807 < ((x4_9 ++ t392) ++ (⟨#[58]⟩ : ByteArray)).size + t393.size) = False := eq_false (Nat.not_lt.2 c19)
               try have c19b7 : (9223372036854775807 < x4_9.size + t392.size + 1 + t393.size) = False := eq_false (by have h_ := c19; have e0_ : (⟨#[58]⟩ : ByteArray).size = 1 := rfl; (try dsimp only at e0_); simp only [ByteArray.size_append, ByteArray.size_extract] at h_; first | exact Nat.not_lt.2 h_ | omega | (simp at h_ ⊢; omega))
               try have c19b3 : (9223372036854775807 < x4_9.size + t392.size + (⟨#[58]⟩ : ByteArray).size + t393.size) = False := eq_false (by have h_ := c19; simp only [ByteArray.size_append] at h_; omega)
               have H' := Aside0.mk H
               clear H
               go_wp2_with (first | ((with_reducible refine gate_callee (f := 55) rfl ?_); refine goesL_ (some 41) rfl rfl Tryd.func55 (by kernel_rfl) rfl #[.int .i64 ((rd_T28 l0 x5_1).f0)] rfl (by (try simp only [List.map_toArray, List.map_cons, List.map_nil]); first | done | rfl | (simp only [List.length_drop, List.length_take]; rfl)) ?_; (with_reducible refine (postbagref4_written.calls kj9 ((rd_T28 l0 x5_1).f0) t392 _ A13.out).mono ?_); rintro e w20 ⟨rfl, hb⟩; refine ⟨_, rfl, ?_⟩; have n0_ := Aside0.mk (below_step (by repeat (first | (with_reducible first | exact HB.out | apply below_alloc | apply pw_below_drewN | apply below_drew1) | exact HB.out)) hb); clear HB; have HB := n0_; clear n0_; (try clear hb); (try clear hb2); (try clear hk); (try clear hi)) | ((with_reducible refine gate_callee (f := 55) rfl ?_); refine goesL_ (some 49) rfl rfl Tryd.func55 (by kernel_rfl) rfl #[.int .i64 ((rd_T28 l0 x5_1).f1)] rfl (by (try simp only [List.map_toArray, List.map_cons, List.map_nil]); first | done | rfl | (simp only [List.length_drop, List.length_take]; rfl)) ?_; (with_reducible refine (postbagref4_written.calls kj9 ((rd_T28 l0 x5_1).f1) t393 _ A18.out).mono ?_); rintro e w21 ⟨rfl, hb⟩; refine ⟨_, rfl, ?_⟩; have n0_ := Aside0.mk (below_step (by repeat (first | (with_reducible first | exact HB.out | apply below_alloc | apply pw_below_drewN | apply below_drew1) | exact HB.out)) hb); clear HB; have HB := n0_; clear n0_; (try clear hb); (try clear hb2); (try clear hk); (try clear hi)))
               go_roundg kj9
               case measure => have := HK1.out; have := HJ4.out; have := HJ9.out; omega
               case rel => exact ⟨(((x4_9 ++ t392) ++ (⟨#[58]⟩ : ByteArray)) ++ t393), (wrap64 (x5_1 + 1)), (by first | rfl | (simp; done) | (simp [*]; done)), (by first | rfl | (simp; done) | (simp [*]; done)), H', ⟨by have := HK1.out; have := HJ4.out; have := HJ9.out; omega⟩, ⟨by repeat (first | (with_reducible first | exact HB.out | apply below_alloc | apply pw_below_drewN | apply below_drew1) | exact HB.out)⟩⟩
              ·rw [if_neg c19] at H
               exact absurd H (by simp)
             ·rw [if_neg c17] at H
              exact absurd H (by simp)
           ·rw [if_neg c14] at H
            exact absurd H (by simp)
     ·rw [if_neg c4] at H
      exact absurd H (by simp)
    ·rw [if_neg c3] at H
     have c3b0 : decide (x5_1 < (l0.length : Int)) = false := decide_eq_false c3
     clear c3
     by_cases c22 : x4_1.toList = ([] : List UInt8)
     ·rw [if_pos c22] at H
      have c22b0 : (x4_1.toList == ([] : List UInt8)) = true := beq_iff_eq.mpr c22
      have c22b1 : (x4_1.toList != ([] : List UInt8)) = false := bne_eq_false_iff_eq.mpr c22
      clear c22
      simp only [Option.some.injEq, Prod.mk.injEq] at H
      obtain ⟨rfl, rfl⟩ := H
      go_wp2
      go_ret2
      exact ⟨by first | rfl | (simp [errW_none, errW_some] <;> rfl) | (simp [*, errW_none, errW_some] <;> rfl), by repeat (first | (with_reducible first | exact HB.out | apply below_alloc | apply pw_below_drewN | apply below_drew1) | exact HB.out)⟩
     ·rw [if_neg c22] at H
      have c22b0 : (x4_1.toList == ([] : List UInt8)) = false := beq_eq_false_iff_ne.mpr c22
      have c22b1 : (x4_1.toList != ([] : List UInt8)) = true := bne_iff_ne.mpr c22
      simp only [Option.some.injEq, Prod.mk.injEq] at H
      obtain ⟨rfl, rfl⟩ := H
      go_wp2
      go_ret2
      exact ⟨by first | rfl | (simp [errW_none, errW_some] <;> rfl) | (simp [*, errW_none, errW_some] <;> rfl), by repeat (first | (with_reducible first | exact HB.out | apply below_alloc | apply pw_below_drewN | apply below_drew1) | exact HB.out)⟩
end Go.Proofs.YtidcchopmbodkaaDoor.Sp
end
section
namespace Go.Proofs.YtidcchopmbodkaaDoor.Sp
open Go.RowKit Go.Proofs.YtidcchopmbodkaaDoorW.PrintWords Go.Proofs.YtidcchopmbodkaaDoorW.PrintLast Go.Proofs.YtidcchopmbodkaaDoorW.PrintMore
attribute [local go_sem] max2_int min2_int max_two min_two max_three min_three max_four min_four   -- for this text's walks alone
set_option linter.unusedVariables false
set_option linter.unusedSimpArgs false
attribute [local go_sem high] eqA28
def postbaglaw4_same.l0 : Nat → List (S28) → List (S28) → Int → Option (Bool)
 | 0, _, _, _ => none
 | k + 1, x0, x1, x5 => if x5 < (x0.length : Int) then (if 0 ≤ x5 then (if x5 < (x1.length : Int) then (if (!(((rd_T28 x0 x5).f0) == ((rd_T28 x1 x5).f0)) || (!(((rd_T28 x0 x5).f1) == ((rd_T28 x1 x5).f1)))) = true then (some false) else (postbaglaw4_same.l0 k x0 x1 (wrap64 (x5 + 1)))) else (none)) else (none)) else (some true)
def postbaglaw4_same.f (k : Nat) (l0 : List (S28)) (l1 : List (S28)) : Option (Bool) := if (l0.length : Int) = (l1.length : Int) then (postbaglaw4_same.l0 k l0 l1 0) else (some false)
set_option maxHeartbeats 8000000 in
set_option maxRecDepth 100000 in
theorem postbaglaw4_same.calls (k : Nat) (A0 : Option Addr) (c0 : Nat) (l0 : List (S28)) (A1 : Option Addr) (c1 : Nat) (l1 : List (S28)) (r : Bool) (w : World) (hr0 : Kd.C k28 w A0 l0.length l0) (hc0 : l0.length ≤ c0) (hr1 : Kd.C k28 w A1 l1.length l1) (hc1 : l1.length ≤ c1) (h : postbaglaw4_same.f k l0 l1 = some r) :
  Calls Tryd.prog 26 #[.slice A0 l0.length c0, .slice A1 l1.length c1] w fun e w' => e = .returned (.bool r) ∧ Drawn0 w w' := by
 have hu28 := Tryd.underlying28
 have HR0 := Aside0.mk hr0
 have HC0 := Aside0.mk hc0
 clear hr0 hc0
 have HR1 := Aside0.mk hr1
 have HC1 := Aside0.mk hc1
 clear hr1 hc1
 have H : (if (l0.length : Int) = (l1.length : Int) then (postbaglaw4_same.l0 k l0 l1 0) else (some false)) = some r := h
 clear h
 by_cases c3 : (l0.length : Int) = (l1.length : Int)
 ·rw [if_pos c3] at H
  have c3b0 : ((l0.length : Int) == (l1.length : Int)) = true := beq_iff_eq.mpr c3
  have c3b1 : ((l0.length : Int) != (l1.length : Int)) = false := bne_eq_false_iff_eq.mpr c3
  have c3b2 : (l0.length == l1.length) = true := by first | simpa using c3 | (simp at c3 ⊢; omega)
  clear c3
  have H' := Aside0.mk H
  clear H
  go_enter Tryd.func26, Tryd.ntmps26
  go_wp2
  repeat (go_quiet (fail); try go_wp2)
  go_loopg [5] k (fun kq v5 w' => ∃ (x5_1 : Int), v5 = .int .i64 x5_1 ∧ Aside0 (postbaglaw4_same.l0 kq l0 l1 x5_1 = some r) ∧ Aside0 (kq ≤ k) ∧ Drawn0 w w')
  case atStart => exact ⟨(0), (by first | rfl | (simp; done) | (simp [*]; done)), H', ⟨Nat.le_refl _⟩, by repeat (first | exact Drawn0.refl _ | apply Drawn0.step)⟩
  case round =>
   clear H'
   try clear c1
   try clear c2
   try clear p2
   try clear c3
   try clear c3b0
   try clear c3b1
   try clear c3b2
   obtain ⟨x5_1, rfl, HA, HK1, ⟨m1, rfl⟩⟩ := hrel
   cases gk with
   | zero => exact absurd HA.out (by simp [postbaglaw4_same.l0])
   | succ k1 =>
    have H := HA.out
    clear HA
    simp only [postbaglaw4_same.l0] at H
    by_cases c4 : x5_1 < (l0.length : Int)
    ·rw [if_pos c4] at H
     have c4b0 : decide (x5_1 < (l0.length : Int)) = true := decide_eq_true c4
     clear c4
     by_cases c5 : 0 ≤ x5_1
     ·rw [if_pos c5] at H
      have c5b0 : decide (0 ≤ x5_1) = true := decide_eq_true c5
      clear c5
      by_cases c6 : x5_1 < (l1.length : Int)
      ·rw [if_pos c6] at H
       have c6b0 : decide (x5_1 < (l1.length : Int)) = true := decide_eq_true c6
       clear c6
       by_cases c7 : (!(((rd_T28 l0 x5_1).f0) == ((rd_T28 l1 x5_1).f0)) || (!(((rd_T28 l0 x5_1).f1) == ((rd_T28 l1 x5_1).f1)))) = true
       ·rw [if_pos c7] at H
        have c7b0 : (!(((rd_T28 l0 x5_1).f0) == ((rd_T28 l1 x5_1).f0)) || (!(((rd_T28 l0 x5_1).f1) == ((rd_T28 l1 x5_1).f1)))) = true := c7
        clear c7
        obtain rfl := Option.some.inj H
        have p145 : 0 ≤ (x5_1 : Int) := of_decide_eq_true (by first | (with_reducible assumption) | assumption)
        have q145 : x5_1 < (l0.length : Int) := of_decide_eq_true (by first | (with_reducible assumption) | assumption)
        obtain ⟨ad145, e145, hx145_0, hx145_1⟩ := at_T28 HR0.out x5_1 p145 q145
        cases e145
        replace p145 := eq_true p145
        replace q145 := eq_true q145
        have p146 : 0 ≤ (x5_1 : Int) := of_decide_eq_true (by first | (with_reducible assumption) | assumption)
        have q146 : x5_1 < (l1.length : Int) := of_decide_eq_true (by first | (with_reducible assumption) | assumption)
        obtain ⟨ad146, e146, hx146_0, hx146_1⟩ := at_T28 HR1.out x5_1 p146 q146
        cases e146
        replace p146 := eq_true p146
        replace q146 := eq_true q146
        go_wp2
        repeat (go_quiet (fail); try go_wp2)
        go_ret
        exact ⟨by first | rfl | (simp; done) | (simp [*]; done), by repeat (first | exact Drawn0.refl _ | apply Drawn0.step)⟩
       ·rw [if_neg c7] at H
        have c7b0 : (!(((rd_T28 l0 x5_1).f0) == ((rd_T28 l1 x5_1).f0)) || (!(((rd_T28 l0 x5_1).f1) == ((rd_T28 l1 x5_1).f1)))) = false := by simpa using c7
        clear c7
        have H' := Aside0.mk H
        clear H
        have p145 : 0 ≤ (x5_1 : Int) := of_decide_eq_true (by first | (with_reducible assumption) | assumption)
        have q145 : x5_1 < (l0.length : Int) := of_decide_eq_true (by first | (with_reducible assumption) | assumption)
        obtain ⟨ad145, e145, hx145_0, hx145_1⟩ := at_T28 HR0.out x5_1 p145 q145
        cases e145
        replace p145 := eq_true p145
        replace q145 := eq_true q145
        have p146 : 0 ≤ (x5_1 : Int) := of_decide_eq_true (by first | (with_reducible assumption) | assumption)
        have q146 : x5_1 < (l1.length : Int) := of_decide_eq_true (by first | (with_reducible assumption) | assumption)
        obtain ⟨ad146, e146, hx146_0, hx146_1⟩ := at_T28 HR1.out x5_1 p146 q146
        cases e146
        replace p146 := eq_true p146
        replace q146 := eq_true q146
        go_wp2
        repeat (go_quiet (fail); try go_wp2)
        go_roundg k1
        case measure => have := HK1.out; omega
        case rel => exact ⟨(wrap64 (x5_1 + 1)), (by first | rfl | (simp; done) | (simp [*]; done)), H', ⟨by have := HK1.out; omega⟩, by repeat (first | exact Drawn0.refl _ | apply Drawn0.step)⟩
      ·rw [if_neg c6] at H
       exact absurd H (by simp)
     ·rw [if_neg c5] at H
      exact absurd H (by simp)
    ·rw [if_neg c4] at H
     have c4b0 : decide (x5_1 < (l0.length : Int)) = false := decide_eq_false c4
     clear c4
     obtain rfl := Option.some.inj H
     go_wp2
     repeat (go_quiet (fail); try go_wp2)
     go_ret
     exact ⟨by first | rfl | (simp; done) | (simp [*]; done), by repeat (first | exact Drawn0.refl _ | apply Drawn0.step)⟩
 ·rw [if_neg c3] at H
  have c3b0 : ((l0.length : Int) == (l1.length : Int)) = false := beq_eq_false_iff_ne.mpr c3
  have c3b1 : ((l0.length : Int) != (l1.length : Int)) = true := bne_iff_ne.mpr c3
  have c3b2 : (l0.length == l1.length) = false := by first | simpa using c3 | (simp at c3 ⊢; omega)
  obtain rfl := Option.some.inj H
  go_enter Tryd.func26, Tryd.ntmps26
  go_wp2
  repeat (go_quiet (fail); try go_wp2)
  go_ret
  exact ⟨by first | rfl | (simp; done) | (simp [*]; done), by repeat (first | exact Drawn0.refl _ | apply Drawn0.step)⟩
end Go.Proofs.YtidcchopmbodkaaDoor.Sp
end
section
namespace Go.Proofs.YtidcchopmbodkaaDoor.Sp
open Go.RowKit Go.Proofs.YtidcchopmbodkaaDoorW.PrintWords Go.Proofs.YtidcchopmbodkaaDoorW.PrintLast Go.Proofs.YtidcchopmbodkaaDoorW.PrintMore
attribute [local go_sem] max2_int min2_int max_two min_two max_three min_three max_four min_four   -- for this text's walks alone
set_option linter.unusedVariables false
set_option linter.unusedSimpArgs false
attribute [local go_sem high] eqA28
def postbaglaw4_lies.l0 : Nat → List (S28) → List (S28) → Int → Option (Bool)
 | 0, _, _, _ => none
 | k + 1, x0, x1, x5 => if x5 < (x0.length : Int) then (if 0 ≤ x5 then (if (!(((rd_T28 x0 x5).f0) == (wrap64 ((-7) - x5))) || (!(((rd_T28 x0 x5).f1) == (-9)))) = true then (some false) else (postbaglaw4_lies.l0 k x0 x1 (wrap64 (x5 + 1)))) else (none)) else (if (x0.length : Int) ≥ (x1.length : Int) then (if 0 ≤ (x1.length : Int) then (if (x1.length : Int) ≤ (x0.length : Int) then ((postbaglaw4_same.f k (x0.take ((x1.length : Int) : Int).toNat) x1).bind fun t402 => (some t402)) else (none)) else (none)) else (some false))
def postbaglaw4_lies.f (k : Nat) (l0 : List (S28)) (l1 : List (S28)) : Option (Bool) := postbaglaw4_lies.l0 k l0 l1 (l1.length : Int)
set_option maxHeartbeats 8000000 in
set_option maxRecDepth 100000 in
theorem postbaglaw4_lies.calls (k : Nat) (A0 : Option Addr) (c0 : Nat) (l0 : List (S28)) (A1 : Option Addr) (c1 : Nat) (l1 : List (S28)) (r : Bool) (w : World) (hr0 : Kd.C k28 w A0 l0.length l0) (hc0 : l0.length ≤ c0) (hr1 : Kd.C k28 w A1 l1.length l1) (hc1 : l1.length ≤ c1) (h : postbaglaw4_lies.f k l0 l1 = some r) :
  Calls Tryd.prog 38 #[.slice A0 l0.length c0, .slice A1 l1.length c1] w fun e w' => e = .returned (.bool r) ∧ Drawn0 w w' := by
 have hu28 := Tryd.underlying28
 have HR0 := Aside0.mk hr0
 have HC0 := Aside0.mk hc0
 clear hr0 hc0
 have HR1 := Aside0.mk hr1
 have HC1 := Aside0.mk hc1
 clear hr1 hc1
 have H : (postbaglaw4_lies.l0 k l0 l1 (l1.length : Int)) = some r := h
 clear h
 have H' := Aside0.mk H
 clear H
 go_enter Tryd.func38, Tryd.ntmps38
 go_wp2
 go_loopg [5] k (fun kq v5 w' => ∃ (x5_1 : Int), v5 = .int .i64 x5_1 ∧ Aside0 (postbaglaw4_lies.l0 kq l0 l1 x5_1 = some r) ∧ Aside0 (kq ≤ k) ∧ Drawn0 w w')
 case atStart => exact ⟨((l1.length : Int)), (by first | rfl | (simp; done) | (simp [*]; done)), H', ⟨Nat.le_refl _⟩, by repeat (first | exact Drawn0.refl _ | apply Drawn0.step)⟩
 case round =>
  clear H'
  try clear c1
  try clear p2
  obtain ⟨x5_1, rfl, HA, HK1, ⟨m1, rfl⟩⟩ := hrel
  cases gk with
  | zero => exact absurd HA.out (by simp [postbaglaw4_lies.l0])
  | succ k1 =>
   have H := HA.out
   clear HA
   simp only [postbaglaw4_lies.l0] at H
   by_cases c3 : x5_1 < (l0.length : Int)
   ·rw [if_pos c3] at H
    have c3b0 : decide (x5_1 < (l0.length : Int)) = true := decide_eq_true c3
    clear c3
    by_cases c4 : 0 ≤ x5_1
    ·rw [if_pos c4] at H
     have c4b0 : decide (0 ≤ x5_1) = true := decide_eq_true c4
     clear c4
     by_cases c5 : (!(((rd_T28 l0 x5_1).f0) == (wrap64 ((-7) - x5_1))) || (!(((rd_T28 l0 x5_1).f1) == (-9)))) = true
     ·rw [if_pos c5] at H
      have c5b0 : (!(((rd_T28 l0 x5_1).f0) == (wrap64 ((-7) - x5_1))) || (!(((rd_T28 l0 x5_1).f1) == (-9)))) = true := c5
      clear c5
      obtain rfl := Option.some.inj H
      have p397 : 0 ≤ (x5_1 : Int) := of_decide_eq_true (by first | (with_reducible assumption) | assumption)
      have q397 : x5_1 < (l0.length : Int) := of_decide_eq_true (by first | (with_reducible assumption) | assumption)
      obtain ⟨ad397, e397, hx397_0, hx397_1⟩ := at_T28 HR0.out x5_1 p397 q397
      cases e397
      replace p397 := eq_true p397
      replace q397 := eq_true q397
      go_wp2
      go_ret
      exact ⟨by first | rfl | (simp; done) | (simp [*]; done), by repeat (first | exact Drawn0.refl _ | apply Drawn0.step)⟩
     ·rw [if_neg c5] at H
      have c5b0 : (!(((rd_T28 l0 x5_1).f0) == (wrap64 ((-7) - x5_1))) || (!(((rd_T28 l0 x5_1).f1) == (-9)))) = false := by simpa using c5
      clear c5
      have H' := Aside0.mk H
      clear H
      have p397 : 0 ≤ (x5_1 : Int) := of_decide_eq_true (by first | (with_reducible assumption) | assumption)
      have q397 : x5_1 < (l0.length : Int) := of_decide_eq_true (by first | (with_reducible assumption) | assumption)
      obtain ⟨ad397, e397, hx397_0, hx397_1⟩ := at_T28 HR0.out x5_1 p397 q397
      cases e397
      replace p397 := eq_true p397
      replace q397 := eq_true q397
      go_wp2
      go_roundg k1
      case measure => have := HK1.out; omega
      case rel => exact ⟨(wrap64 (x5_1 + 1)), (by first | rfl | (simp; done) | (simp [*]; done)), H', ⟨by have := HK1.out; omega⟩, by repeat (first | exact Drawn0.refl _ | apply Drawn0.step)⟩
    ·rw [if_neg c4] at H
     exact absurd H (by simp)
   ·rw [if_neg c3] at H
    have c3b0 : decide (x5_1 < (l0.length : Int)) = false := decide_eq_false c3
    clear c3
    by_cases c6 : (l0.length : Int) ≥ (l1.length : Int)
    ·rw [if_pos c6] at H
     have c6b0 : decide ((l1.length : Int) ≤ (l0.length : Int)) = true := decide_eq_true c6
     have c6b1 : decide (l1.length ≤ l0.length) = true := decide_eq_true (Int.ofNat_le.mp c6)
     clear c6
     by_cases c7 : 0 ≤ (l1.length : Int)
     ·rw [if_pos c7] at H
      have c7b0 := eq_true c7
      have c7b1 : decide (0 ≤ (l1.length : Int)) = true := decide_eq_true c7
      clear c7
      by_cases c8 : (l1.length : Int) ≤ (l0.length : Int)
      ·rw [if_pos c8] at H
       have c8b0 := eq_true c8
       have c8b1 : decide ((l1.length : Int) ≤ (l0.length : Int)) = true := decide_eq_true c8
       clear c8
       obtain ⟨y398, hy398⟩ : ∃ y_ : List (S28), y_ = (l0.take ((l1.length : Int) : Int).toNat) := ⟨_, rfl⟩
       replace H : ((postbaglaw4_same.f k1 y398 l1).bind fun t402 => (some t402)) = some r := by first | (rw [hy398]; with_reducible exact H) | (have H2_ := (Option.bind_some _ _).symm.trans H; rw [hy398]; with_reducible exact H2_) | (have H2_ := (Option.bind_some _ _).symm.trans H; with_reducible exact H2_) | with_reducible exact H | (rw [hy398]; exact H) | exact H
       have Ny398 := Aside0.mk hy398
       clear hy398
       replace H := Option.bind_eq_some_iff.mp H
       obtain ⟨t402, A90, H⟩ := H
       replace H : (some t402) = some r := H
       have A9 := Aside0.mk A90
       clear A90
       obtain rfl := Option.some.inj H
       have q10 : ((l1.length : Int) : Int) ≤ ((l0.length : Int) : Int) := of_decide_eq_true (by first | (with_reducible assumption) | assumption)
       obtain ⟨i010, hi010, _, hsz10, _⟩ := info_parts info28
       have hroom10 : l0.length ≤ c0 := HC0.out
       have hC10 : Kd.C k28 _ A0 l0.length l0 := HR0.out
       have hcut10 := cut_to (P := Tryd.prog) 23 28 .i64 Tryd.underlying23 hi010 A0 l0.length c0 (l1.length : Int) (of_decide_eq_true (by first | (with_reducible assumption) | assumption)) q10 hroom10
       have hr10 := Kd.C_take (m := ((l1.length : Int) : Int).toNat) hC10 (by omega)
       have hy10 : y398.length = ((l1.length : Int) : Int).toNat := (by rw [Ny398.out, List.length_take]; omega)
       rw [← Ny398.out] at hr10
       rw [← hy10] at hcut10
       have HR401 := Aside0.mk hr10
       have HC401 := Aside0.mk (show y398.length ≤ c0 from by omega)
       clear hr10 hC10 hroom10 hi010 hsz10
       have KY10 := Aside0.mk hy10
       clear hy10
       replace q10 := eq_true q10
       go_wp2_with (first | (go_at_call 26; (with_reducible refine (postbaglaw4_same.calls k1 _ _ y398 _ _ l1 t402 _ ?side1 ?side2 ?side3 ?side4 A9.out).mono ?_); (case side1 => repeat (first | exact HR401.out | (with_reducible refine Kd.C_alloc ?_ _) | (with_reducible refine Kd.C_drewN ?_ _) | (with_reducible refine Kd.C_drew ?_))); (case side2 => exact HC401.out); (case side3 => repeat (first | exact HR1.out | (with_reducible refine Kd.C_alloc ?_ _) | (with_reducible refine Kd.C_drewN ?_ _) | (with_reducible refine Kd.C_drew ?_))); (case side4 => exact HC1.out); rintro e w' ⟨rfl, ⟨nd, rfl⟩⟩))
       go_ret
       exact ⟨by first | rfl | (simp; done) | (simp [*]; done), by repeat (first | exact Drawn0.refl _ | apply Drawn0.step)⟩
      ·rw [if_neg c8] at H
       exact absurd H (by simp)
     ·rw [if_neg c7] at H
      exact absurd H (by simp)
    ·rw [if_neg c6] at H
     have c6b0 : decide ((l1.length : Int) ≤ (l0.length : Int)) = false := decide_eq_false c6
     have c6b1 : decide (l1.length ≤ l0.length) = false := decide_eq_false (fun h => c6 (Int.ofNat_le.mpr h))
     clear c6
     obtain rfl := Option.some.inj H
     go_wp2
     go_ret
     exact ⟨by first | rfl | (simp; done) | (simp [*]; done), by repeat (first | exact Drawn0.refl _ | apply Drawn0.step)⟩
end Go.Proofs.YtidcchopmbodkaaDoor.Sp
end
section
namespace Go.Proofs.YtidcchopmbodkaaDoor.Sp
open Go.RowKit Go.Proofs.YtidcchopmbodkaaDoorW.PrintWords Go.Proofs.YtidcchopmbodkaaDoorW.PrintLast Go.Proofs.YtidcchopmbodkaaDoorW.PrintMore
attribute [local go_sem] max2_int min2_int max_two min_two max_three min_three max_four min_four   -- for this text's walks alone
set_option linter.unusedVariables false
set_option linter.unusedSimpArgs false
attribute [local go_sem high] eqA28
def span_isRange.f (a0_0 : Int) (a0_1 : Int) : Option (Bool) := if (mn a0_0 a0_1) ≥ 0 then (some (decide ((mx a0_0 a0_1) ≤ 4294967295))) else (some false)
set_option maxHeartbeats 8000000 in
set_option maxRecDepth 100000 in
theorem span_isRange.calls (a0_0 : Int) (a0_1 : Int) (r : Bool) (w : World) (h : span_isRange.f a0_0 a0_1 = some r) :
  Calls Tryd.prog 49 #[.agg #[.int .i64 a0_0, .int .i64 a0_1]] w fun e w' => e = .returned (.bool r) ∧ Below w.heap.size w w' := by
 have hu28 := Tryd.underlying28
 have HB := Aside0.mk (Below.refl w.heap.size w)
 have H : (if (mn a0_0 a0_1) ≥ 0 then (some (decide ((mx a0_0 a0_1) ≤ 4294967295))) else (some false)) = some r := h
 clear h
 obtain ⟨ji2, hji2⟩ : ∃ j_ : Int, (mn a0_0 a0_1) = j_ := ⟨_, rfl⟩
 replace H : (if (ji2) ≥ 0 then (some (decide ((mx a0_0 a0_1) ≤ 4294967295))) else (some false)) = some r := by first | (rw [hji2] at H; exact H) | (simp only [hji2] at H ⊢; exact H)
 have hji2_ : (if a0_1 < a0_0 then a0_1 else a0_0) = ji2 := hji2
 by_cases c3 : (ji2) ≥ 0
 ·rw [if_pos c3] at H
  have c3b0 : decide (0 ≤ (ji2)) = true := decide_eq_true c3
  clear c3
  obtain ⟨ji4, hji4⟩ : ∃ j_ : Int, (mx a0_0 a0_1) = j_ := ⟨_, rfl⟩
  replace H : (some (decide ((ji4) ≤ 4294967295))) = some r := by first | (rw [hji4] at H; exact H) | (simp only [hji4] at H ⊢; exact H)
  have hji4_ : (if a0_0 < a0_1 then a0_1 else a0_0) = ji4 := hji4
  obtain rfl := Option.some.inj H
  go_enter Tryd.func49, Tryd.ntmps49
  go_wp2_with (first | ((with_reducible refine gate_dst (N := 1) rfl ?_); (try (refine gate_guard (by rfl) ?_; dsimp only)); refine box_event ?hg (N := 1) ?hd (cs := #[.int .i64 a0_0, .int .i64 a0_1]) (t := 28) ?hr ?_; (case hd => rfl); (case hg => rfl); (case hr => first | (go_simp; done) | (go_simp; rfl)); intro gb122 hg w5 hbox hb; have n0_ := Aside0.mk (below_step (by repeat (first | (with_reducible first | exact HB.out | apply below_alloc | apply pw_below_drewN | apply below_drew1) | exact HB.out)) hb); have n1_ := Aside0.mk (hbox); have n2_ := Aside0.mk ((by rw [hg]; exact (below_size (by repeat (first | (with_reducible first | exact HB.out | apply below_alloc | apply pw_below_drewN | apply below_drew1) | exact HB.out))) : w.heap.size ≤ gb122)); have n3_ := Aside0.mk ((by rw [hg]; exact (below_size (by repeat (first | (with_reducible first | exact HB.out | apply below_alloc | apply pw_below_drewN | apply below_drew1) | exact HB.out))) : w.heap.size ≤ gb122)); clear HB; have HB := n0_; have BK122 := n1_; have GW122 := n2_; have GE122 := n3_; clear n0_ n1_ n2_ n3_; clear hb hbox hg; have hcz6_0 : w5.cell? ⟨gb122, 0, none⟩ = some (.int .i64 a0_0) := (blk_cell BK122.out 0).trans rfl; have hcz6_1 : w5.cell? ⟨gb122, 1, none⟩ = some (.int .i64 a0_1) := (blk_cell BK122.out 1).trans rfl; have hfz6_0 := blk_frozen BK122.out 0; have hfz6_1 := blk_frozen BK122.out 1))
  go_ret
  exact ⟨by first | rfl | (simp [errW_none, errW_some] <;> rfl) | (simp only [← hji2, ← hji4]; first | rfl | (simp [errW_none, errW_some] <;> rfl)) | (simp [*, errW_none, errW_some] <;> rfl), by repeat (first | (with_reducible first | exact HB.out | apply below_alloc | apply pw_below_drewN | apply below_drew1 | refine below_set ?_ GE122.out) | exact HB.out)⟩
 ·rw [if_neg c3] at H
  have c3b0 : decide (0 ≤ (ji2)) = false := decide_eq_false c3
  clear c3
  obtain rfl := Option.some.inj H
  go_enter Tryd.func49, Tryd.ntmps49
  go_wp2_with (first | ((with_reducible refine gate_dst (N := 1) rfl ?_); (try (refine gate_guard (by rfl) ?_; dsimp only)); refine box_event ?hg (N := 1) ?hd (cs := #[.int .i64 a0_0, .int .i64 a0_1]) (t := 28) ?hr ?_; (case hd => rfl); (case hg => rfl); (case hr => first | (go_simp; done) | (go_simp; rfl)); intro gb122 hg w7 hbox hb; have n0_ := Aside0.mk (below_step (by repeat (first | (with_reducible first | exact HB.out | apply below_alloc | apply pw_below_drewN | apply below_drew1) | exact HB.out)) hb); have n1_ := Aside0.mk (hbox); have n2_ := Aside0.mk ((by rw [hg]; exact (below_size (by repeat (first | (with_reducible first | exact HB.out | apply below_alloc | apply pw_below_drewN | apply below_drew1) | exact HB.out))) : w.heap.size ≤ gb122)); have n3_ := Aside0.mk ((by rw [hg]; exact (below_size (by repeat (first | (with_reducible first | exact HB.out | apply below_alloc | apply pw_below_drewN | apply below_drew1) | exact HB.out))) : w.heap.size ≤ gb122)); clear HB; have HB := n0_; have BK122 := n1_; have GW122 := n2_; have GE122 := n3_; clear n0_ n1_ n2_ n3_; clear hb hbox hg; have hcz8_0 : w7.cell? ⟨gb122, 0, none⟩ = some (.int .i64 a0_0) := (blk_cell BK122.out 0).trans rfl; have hcz8_1 : w7.cell? ⟨gb122, 1, none⟩ = some (.int .i64 a0_1) := (blk_cell BK122.out 1).trans rfl; have hfz8_0 := blk_frozen BK122.out 0; have hfz8_1 := blk_frozen BK122.out 1))
  go_ret
  exact ⟨by first | rfl | (simp [errW_none, errW_some] <;> rfl) | (simp only [← hji2]; first | rfl | (simp [errW_none, errW_some] <;> rfl)) | (simp [*, errW_none, errW_some] <;> rfl), by repeat (first | (with_reducible first | exact HB.out | apply below_alloc | apply pw_below_drewN | apply below_drew1 | refine below_set ?_ GE122.out) | exact HB.out)⟩
end Go.Proofs.YtidcchopmbodkaaDoor.Sp
end
section
namespace Go.Proofs.YtidcchopmbodkaaDoor.Sp
open Go.RowKit Go.Proofs.YtidcchopmbodkaaDoorW.PrintWords Go.Proofs.YtidcchopmbodkaaDoorW.PrintLast Go.Proofs.YtidcchopmbodkaaDoorW.PrintMore
structure Laid (w : World) : Prop where
  tab : Lib.TabIs Tryd.prog w "internal/strconv.uint64pow10" .u64 Lib.pow10Tab
theorem laid_below {w w1 : World} (h : Laid w) (hb : Below w.heap.size w w1) : Laid w1 := by
  have h := h.tab
  refine ⟨?_⟩
  unfold Lib.TabIs World.var? at h ⊢
  cases hg : Tryd.prog.globalNamed "internal/strconv.uint64pow10" with
  | none => rw [hg] at h; cases h
  | some g =>
    rw [hg] at h
    simp only [Option.bind_some] at h ⊢
    have hlt : g < w.heap.size := by
      rcases Nat.lt_or_ge g w.heap.size with h' | h'
      · exact h'
      · rw [Array.getElem?_eq_none h'] at h; cases h
    rw [hb.block g hlt]
    exact h
theorem laid_drawn {w w1 : World} (h : Laid w) (hd : Drawn0 w w1) : Laid w1 := laid_below h hd.below
theorem below_grow (w : World) (k : Nat) (os : Array Obj) : Below w.heap.size w (Sort.grow (w.drewN k) os) :=
  ⟨rfl, rfl, rfl, by simp [Sort.grow], fun i hi => by show (w.heap ++ os)[i]? = w.heap[i]?; exact Array.getElem?_append_left hi⟩
def span_word.f (a0 : Int) : Option ByteArray := if a0 = 0 then some ⟨#[42]⟩ else if -9223372036854775808 ≤ a0 ∧ a0 ≤ 9223372036854775807 then some ⟨(Lib.itoa a0).toArray⟩ else none
theorem span_word.calls (a0 : Int) (r : ByteArray) (w : World) (h : span_word.f a0 = some r) (hL : Laid w) :
    Calls Tryd.prog 56 #[.int .i64 a0] w fun e w' => e = .returned (.string r) ∧ Below w.heap.size w w' := by
  unfold span_word.f at h
  by_cases h0 : a0 = 0
  · rw [if_pos h0] at h
    injection h with h; subst h; subst h0
    go_enter Tryd.func56, Tryd.ntmps56
    go_wp2
    go_ret
    exact ⟨rfl, Below.refl _ _⟩
  · rw [if_neg h0] at h
    split at h
    · rename_i h1
      obtain rfl := Option.some.inj h
      clear h
      have h2 : (a0 == 0) = false := by simpa using h0
      have hcon := Shl.strconv_Itoa a0 h1.1 h1.2 w hL.tab
      generalize (⟨(Lib.itoa a0).toArray⟩ : ByteArray) = t at *
      clear hL h1
      go_enter Tryd.func56, Tryd.ntmps56
      go_wp2_with (go_at_call 66; refine hcon.mono ?_; rintro e w' ⟨rfl, k, os, rfl⟩)
      go_ret
      exact ⟨rfl, below_grow _ _ _⟩
    · cases h
theorem cs_form {w : World} {A : Option Addr} {l : List ByteArray} (h : Kd.C Kd.string w A l.length l) (hn : 0 < l.length) :
    ∃ b off, A = some ⟨b, off, none⟩ ∧ b < w.heap.size ∧ ∀ (j : Nat) (x : ByteArray), l[j]? = some x → w.cell? ⟨b, off + j, none⟩ = some (.string x) := by
  obtain ⟨_, _, h3⟩ := h
  obtain ⟨ad, rfl, hc⟩ := h3 hn
  obtain ⟨b, off, sp⟩ := ad
  have key : ∀ j (x : ByteArray), l[j]? = some x → w.cell? (Addr.add ⟨b, off, sp⟩ j) = some (.string x) := by
    intro j x hx
    obtain ⟨c, _, hk, hcell⟩ := hc j x hx
    have hk : c = [.string x] := hk
    subst hk
    have := hcell 0 _ rfl
    rwa [show Kd.string.sz = 1 from rfl, Nat.mul_one, Nat.add_zero] at this
  have hl : ∃ x, l[0]? = some x := ⟨l[0]'hn, List.getElem?_eq_getElem hn⟩
  obtain ⟨x, hx⟩ := hl
  have k0 := key 0 x hx
  have hs : sp = none := by
    cases sp with
    | none => rfl
    | some s =>
      exfalso
      have e : Addr.add ⟨b, off, some s⟩ 0 = ⟨b, off, some s⟩ := rfl
      rw [e] at k0
      unfold World.cell? at k0
      split at k0
      · simp at k0
      · cases k0
  subst hs
  have e : ∀ k, Addr.add ⟨b, off, none⟩ k = ⟨b, off + k, none⟩ := fun k => by
    unfold Addr.add
    split
    · rename_i h0; subst h0; rfl
    · rfl
  refine ⟨b, off, rfl, ?_, fun j x hx => ?_⟩
  · rw [e] at k0
    exact World.block_lt_of_cell? w _ k0
  · have := key j x hx
    rw [e] at this
    exact this
def joinB (l : List ByteArray) (sep : ByteArray) : ByteArray := ⟨(Lib.join (l.map (·.data.toList)) sep.data.toList).toArray⟩
def strings_Join.f (l0 : List ByteArray) (a1 : ByteArray) : Option ByteArray := if l0.length ≤ 140737488355328 ∧ (joinB l0 a1).size ≤ 140737488355328 then some (joinB l0 a1) else none
theorem strings_Join.calls (A0 : Option Addr) (c0 : Nat) (l0 : List ByteArray) (a1 r : ByteArray) (w : World) (hr0 : Kd.C Kd.string w A0 l0.length l0) (hc0 : l0.length ≤ c0) (h : strings_Join.f l0 a1 = some r) :
    Calls Tryd.prog 57 #[.slice A0 l0.length c0, .string a1] w fun e w' => e = .returned (.string r) ∧ Below w.heap.size w w' := by
  unfold strings_Join.f at h
  split at h
  · rename_i hb
    obtain rfl := Option.some.inj h
    by_cases h0 : l0.length = 0
    · have e : l0 = [] := List.length_eq_zero_iff.1 h0
      subst e
      exact (Shl.strings_Join_none A0 c0 a1 w).mono fun e w' ⟨he, hw⟩ => ⟨he, hw ▸ Below.refl _ _⟩
    · obtain ⟨b, off, rfl, hbk, hc⟩ := cs_form hr0 (by omega)
      exact Shl.strings_Join b off c0 l0 a1 w hc hbk hb.1 hc0 hb.2
  · cases h
end Go.Proofs.YtidcchopmbodkaaDoor.Sp
end
