import Derived.Test.YtidcchopmbodkaaDoorQf6
import Derived.Test.YtidcchopmbodkaaDoorQf4
import Derived.Test.YtidcchopmbodkaaDoorQf2
import Derived.Test.YtidcchopmbodkaaDoorQf3
import Derived.Lib.Hide
import Derived.IntWalk
import Derived.Test.YtidcchopmbodkaaDoorRows
import Derived.ProofKit
import Derived.LaidMore
import Derived.OpenShut
import Derived.Stop.Joined
import Derived.Lib.LaidTab
section
namespace Go.Proofs.YtidcchopmbodkaaDoor.Sp
open Go.RowKit Go.Proofs.YtidcchopmbodkaaDoorW.PrintWords Go.Proofs.YtidcchopmbodkaaDoorW.PrintLast Go.Proofs.YtidcchopmbodkaaDoorW.PrintMore
theorem known_50 : postbaglaw4_known.f 50 = some true := by kernel_rfl
end Go.Proofs.YtidcchopmbodkaaDoor.Sp
end
section
namespace Go.Proofs.YtidcchopmbodkaaDoor.Sp
open Go.RowKit Go.Proofs.YtidcchopmbodkaaDoorW.PrintWords Go.Proofs.YtidcchopmbodkaaDoorW.PrintLast Go.Proofs.YtidcchopmbodkaaDoorW.PrintMore
set_option linter.unusedSimpArgs false
def FormFits (l : List Int) (sets : List (List S28)) : Prop := l.length ≤ 17592186044416 ∧ sets.length ≤ 5864062014805 ∧ ∀ y ∈ sets, y.length ≤ 8796093022208
open Classical in
noncomputable def postbaglaw4_SpanForm.f (_k : Nat) (l : List Int) (sets : List (List S28)) (_c : Int) : Option Bool := if FormFits l sets then some true else none
theorem info28q : ∃ i, Tryd.prog.info? 28 = some i ∧ i.size = 2 := by
  have := info28
  cases hh : Tryd.prog.info? 28 with
  | none => rw [hh] at this; cases this
  | some i => rw [hh] at this; simp only [Option.map_some, Option.some.injEq, Prod.mk.injEq] at this; exact ⟨i, rfl, this.2.1⟩
inductive LitC (W : World) : List Value → List (List S28) → Prop
  | nil : LitC W [] []
  | cons {A : Option Addr} {c n : Nat} {l : List S28} {vs : List Value} {ls : List (List S28)} (hn : n = l.length) (hc : l.length ≤ c) (h : Kd.C k28 W A l.length l) (t : LitC W vs ls) : LitC W (.slice A n c :: vs) (l :: ls)
theorem LitC.len {W : World} {vs : List Value} {ls : List (List S28)} (h : LitC W vs ls) : vs.length = ls.length := by
  induction h with
  | nil => rfl
  | cons _ _ _ _ ih => simp [ih]
theorem LitC.at {W : World} {vs : List Value} {ls : List (List S28)} (h : LitC W vs ls) : ∀ (j : Nat) (l : List S28), ls[j]? = some l → ∃ A c, vs[j]? = some (.slice A l.length c) ∧ l.length ≤ c ∧ Kd.C k28 W A l.length l := by
  induction h with
  | nil => intro j l h; simp at h
  | @cons A c n l vs ls hn hc h t ih =>
    intro j l' hj
    cases j with
    | zero =>
      simp only [List.getElem?_cons_zero, Option.some.injEq] at hj
      subst hj
      exact ⟨A, c, by rw [← hn]; rfl, hc, h⟩
    | succ j =>
      rw [List.getElem?_cons_succ] at hj
      obtain ⟨A', c', h1, h2, h3⟩ := ih j l' hj
      exact ⟨A', c', by rw [List.getElem?_cons_succ]; exact h1, h2, h3⟩
theorem C_lits {W : World} {g : Nat} {vs : List Value} {ls : List (List S28)} (hb : W.heap[g]? = some (.cells vs.toArray 23 (0, 0))) (hl : LitC W vs ls) (hm : ls.length ≤ 1000) : Kd.C (Kd.slice 28 k28) W (some ⟨g, 0, none⟩) ls.length ls := by
  refine ⟨rfl, Nat.le_trans hm (by decide), fun _ => ⟨_, rfl, fun j l hj => ?_⟩⟩
  obtain ⟨A, c, h1, h2, h3⟩ := hl.at j l hj
  refine ⟨[.slice A l.length c], rfl, ⟨A, c, rfl, h2, h3⟩, fun i u hu => ?_⟩
  cases i with
  | zero =>
    simp only [List.getElem?_cons_zero, Option.some.injEq] at hu
    subst hu
    rw [add_at, Nat.zero_add, show j * (Kd.slice 28 k28).sz + 0 = j from (show j * 1 + 0 = j by omega), blk_cell hb]
    simpa using h1
  | succ i => simp at hu
theorem join_lit (n g : Nat) (vs : List Value) (ls : List (List S28)) (J : List S28) (W : World) (hb : W.heap[g]? = some (.cells vs.toArray 23 (0, 0))) (hl : LitC W vs ls) (hn : ls.length = n) (hm : n ≤ 1000) (hf : span_Join.f 10000 ls = some J) :
    Calls Tryd.prog 25 #[.slice (some ⟨g, 0, none⟩) n n] W fun e w' => ∃ v0_ : Value, e = .returned (v0_) ∧ Kd.R k28 28 w' W.heap.size (fun _ => True) v0_ J ∧ Below W.heap.size W w' := by
  subst hn
  exact span_Join.calls 10000 _ _ ls J W (C_lits hb hl hm) (Nat.le_refl _) hf
theorem flat_take (sets : List (List S28)) (q : Nat) (h : q < sets.length) : (sets.take (q + 1)).flatten.length = (sets.take q).flatten.length + sets[q].length := by
  rw [List.take_succ_eq_append_getElem h, List.flatten_append, List.length_append]
  simp
set_option maxHeartbeats 8000000 in
set_option maxRecDepth 100000 in
theorem postbaglaw4_SpanForm.calls (k : Nat) (A0 : Option Addr) (c0 : Nat) (l0 : List Int) (A1 : Option Addr) (c1 : Nat) (l1 : List (List S28)) (a2 : Int) (r : Bool) (w : World) (hr0 : Kd.C (Kd.int .i64) w A0 l0.length l0) (hc0 : l0.length ≤ c0) (hr1 : Kd.C (Kd.slice 28 k28) w A1 l1.length l1) (hc1 : l1.length ≤ c1) (h : postbaglaw4_SpanForm.f k l0 l1 a2 = some r) (hL_ : Laid w) :
    Calls Tryd.prog 14 #[.slice A0 l0.length c0, .slice A1 l1.length c1, .int .i64 a2] w fun e w' => e = .returned (.bool r) ∧ Below w.heap.size w w' := by
  have hff : FormFits l0 l1 ∧ r = true := by
    unfold postbaglaw4_SpanForm.f at h
    split at h
    · rename_i hh
      exact ⟨hh, (Option.some.inj h).symm⟩
    · cases h
  obtain ⟨⟨f1, f2, f3⟩, rfl⟩ := hff
  have HL_ := Aside0.mk hL_
  have HR0 := Aside0.mk hr0
  have HR1 := Aside0.mk hr1
  have HF3 := Lib.hid f3
  clear h hL_ hr0 hr1 f3
  go_enter Tryd.func14, Tryd.ntmps14
  go_wp2_with fail
  go_loop [7, 8] (fun n i => ∃ (q : Nat) (m : Int), i = .int .i64 q ∧ n = .int .i64 m ∧ q ≤ l1.length ∧ Aside0 (m = (l0.length : Int) + (l1.length : Int) + (((l1.take q).flatten.length : Nat) : Int)) ∧ 0 ≤ m ∧ m ≤ 30000000000000) (fun _ i => l1.length - (intOf i).toNat)
  case atStart => exact ⟨0, _, rfl, rfl, Nat.zero_le _, ⟨by simp⟩, by omega, by omega⟩
  case round =>
    obtain ⟨q, m, rfl, rfl, hq, HM, hm0, hm1⟩ := hrel
    by_cases hbig : m ≤ 400
    · have d2 : decide (m ≤ 400) = true := decide_eq_true hbig
      by_cases hql : q < l1.length
      · have d1 : decide ((q : Int) < (l1.length : Int)) = true := decide_eq_true (by omega)
        have p1 : (0 : Int) ≤ (q : Int) := by omega
        have p2 : (q : Int) < (l1.length : Int) := by omega
        obtain ⟨ad, A2, c2, e0, x0, hc2, hC2⟩ := at_L2 HR1.out (q : Int) p1 p2
        subst e0
        rw [show rd_L2 l1 (q : Int) = l1[q] from rdL2j_at l1 q hql] at x0 hc2 hC2
        rw [Int.toNat_natCast] at x0
        have hy := HF3.out l1[q] (List.getElem_mem hql)
        have hft := flat_take l1 q hql
        have HFT := Lib.hid hft
        generalize l1[q] = y at *
        clear hft hC2
        go_wp2
        go_round
        case rel => exact ⟨q + 1, m + (y.length : Int), by go_num, rfl, by omega, ⟨by rw [HFT.out, HM.out]; omega⟩, by omega, by omega⟩
        case measure => simp [intOf]; omega
      · have d1 : decide ((q : Int) < (l1.length : Int)) = false := decide_eq_false (by omega)
        have hql' : q = l1.length := by omega
        have hfl : l0.length ≤ 400 ∧ l1.length ≤ 400 ∧ l1.flatten.length ≤ 400 := by
          have := HM.out
          rw [hql', List.take_length] at this
          omega
        obtain ⟨g0, g1, g2⟩ := hfl
        have d3 : decide (m > 400) = false := decide_eq_false (by omega)
        have hlf := least_f l0 (by omega) 10000 (by omega)
        have hjf := join_f l1 (by omega) (by omega) 10000 (by rw [cost_le]; omega)
        have hll := (least_form l0).2.2
        have hlj := least_jform l0
        obtain ⟨P, st, lo, hj⟩ := join_form l1.flatten
        have hjl : (joinA l1.flatten).length ≤ 402 := by
          have h1 := jfold_len l1.flatten j0
          have h2 : (joinA l1.flatten).length ≤ (l1.flatten.foldl jstep j0).p.length + 2 := by
            unfold joinA jfin
            simp only
            have h3 := canon_len ((if (l1.flatten.foldl jstep j0).lo = (l1.flatten.foldl jstep j0).hi then (l1.flatten.foldl jstep j0).p else (l1.flatten.foldl jstep j0).p ++ [⟨(l1.flatten.foldl jstep j0).lo, (l1.flatten.foldl jstep j0).hi⟩]).map pr)
            rw [List.length_map] at h3
            have h4 : (if (l1.flatten.foldl jstep j0).lo = (l1.flatten.foldl jstep j0).hi then (l1.flatten.foldl jstep j0).p else (l1.flatten.foldl jstep j0).p ++ [⟨(l1.flatten.foldl jstep j0).lo, (l1.flatten.foldl jstep j0).hi⟩]).length ≤ (l1.flatten.foldl jstep j0).p.length + 1 := by split <;> simp
            split <;> simp only [List.length_append, List.length_map, List.length_singleton] <;> omega
          have h5 : j0.p.length = 0 := rfl
          omega
        generalize leastA l0 = L at *
        generalize joinA l1.flatten = J at *
        have hsl := span_Least.calls 10000 A0 c0 l0 L w HR0.out hc0 hlf
        have HJF := Lib.hid hjf
        have HJ := Lib.hid hj
        have HLJ := Lib.hid hlj
        have HJL := Lib.hid hjl
        have HLL := Lib.hid (show L.length ≤ 400 by omega)
        clear hlf hjf hll hlj hj hjl
        go_wp2_with fail
        go_at_call 15
        refine hsl.mono ?_
        rintro e w1 ⟨v9, rfl, hR1, hb1⟩
        obtain ⟨A9, c9, rfl⟩ := Kd.R_slice hR1
        have hsj := span_Join.calls 10000 A1 c1 l1 J w1 (Kd.C_below HR1.out (hb1.mono (Nat.le_refl _))) hc1 HJF.out
        have HB1 := Aside0.mk hb1
        have HR9 := Aside0.mk hR1
        clear hsl hb1 hR1
        go_wp2_with fail
        go_at_call 25
        refine hsj.mono ?_
        rintro e w2 ⟨v10, rfl, hR2, hb2⟩
        obtain ⟨A10, c10, rfl⟩ := Kd.R_slice hR2
        have HB2 := Aside0.mk (below_step HB1.out hb2)
        have HN9 := Aside0.mk (Kd.R_below HR9.out hb2)
        have HN10 := Aside0.mk hR2
        clear hsj hb2 hR2 HB1 HR9
        have hPL : P.length ≤ J.length := by have := HJ.out.eq; rw [this]; simp
        have hj402 : J.length ≤ 402 := HJL.out
        go_upto_region 11 with fail
        go_cut [52] (fun v52 wc => v52 = .bool st ∧ w2 = wc)
        case first =>
          by_cases hJ0 : J.length = 0
          · have d4 : decide ((J.length : Int) > 0) = false := decide_eq_false (by omega)
            have hst : st = false := by
              cases st with
              | false => rfl
              | true => exfalso; have := HJ.out.eq; rw [this] at hJ0; simp at hJ0
            subst hst
            go_wp2
            go_meet
            exact ⟨rfl, rfl⟩
          · have d4 : decide ((J.length : Int) > 0) = true := decide_eq_true (by omega)
            have p1 : (0 : Int) ≤ (J.length : Int) - 1 := by omega
            have p2 : (J.length : Int) - 1 < (J.length : Int) := by omega
            obtain ⟨ad, e0, z0, z1⟩ := at_T28 (Kd.R_reads' HN10.out).2.2 ((J.length : Int) - 1) p1 p2
            subst e0
            have i1 : ((J.length : Int) - 1).toNat = J.length - 1 := by omega
            have hlast : (rd_T28 J ((J.length : Int) - 1)).f1 = 0 ↔ st = true := by
              have hq := HJ.out
              rw [show (J.length : Int) - 1 = ((J.length - 1 : Nat) : Int) from by omega, rd28_at J _ (by omega)]
              have e := hq.eq
              cases st with
              | true =>
                simp only [iff_true]
                have e2 : J[J.length - 1]? = some ⟨lo, 0⟩ := by
                  rw [e]; simp
                rw [List.getElem?_eq_getElem (by omega)] at e2
                rw [Option.some.inj e2]
              | false =>
                simp only [Bool.false_eq_true, iff_false]
                have e3 : J = P := by rw [e]; simp
                have hm : J[J.length - 1] ∈ P := by rw [← e3]; exact List.getElem_mem _
                have h1 := hq.form.le _ hm
                have h2 := (hq.form.ends _ hm).1
                omega
            have d5 : ((rd_T28 J ((J.length : Int) - 1)).f1 == 0) = st := by
              rw [Bool.eq_iff_iff, beq_iff_eq]; exact hlast
            generalize (rd_T28 J ((J.length : Int) - 1)).f1 = X at *
            rw [i1] at z0 z1
            have i2 : IntKind.i64.wrap ((J.length : Int) - 1) = (J.length : Int) - 1 := IntWalk.i64_in _ (by omega)
            clear hlast z0
            go_wp2
            go_meet
            exact ⟨rfl, rfl⟩
        case rest =>
          obtain ⟨rfl, rfl⟩ := hcut
          go_upto_if 52 with fail
          go_cut [11] (fun v11 wc => v11 = .int .i64 (P.length : Int) ∧ w2 = wc)
          case first =>
            have hq := HJ.out.eq
            cases st with
            | true =>
              have e1 : J.length = P.length + 1 := by rw [hq]; simp
              have e2 : ((J.length : Int) - 1) = (P.length : Int) := by omega
              clear hq
              go_wp2
              go_meet
              exact ⟨rfl, rfl⟩
            | false =>
              have e1 : J = P := by rw [hq]; simp
              clear hq
              go_wp2
              go_meet
              exact ⟨by rw [e1], rfl⟩
          case rest =>
            obtain ⟨rfl, rfl⟩ := hcut
            go_upto_region 13 with fail
            go_cut [78] (fun v78 wc => v78 = .bool false ∧ Drawn0 w2 wc)
            case first =>
              have hr9 := Kd.R_reads' HN9.out
              have hr10 := Kd.R_reads' HN10.out
              have hri := postbaglaw4_rises.calls 5000 A9 c9 L true w2 hr9.2.2 hr9.2.1 (rises_f L (by have := HLL.out; omega) HLJ.out.form.rises HLJ.out.form.ends 5000 (by have := HLL.out; omega))
              have htk := Kd.R_take (m := P.length) HN10.out hPL
              rw [show J.take P.length = P from by rw [HJ.out.eq]; exact List.take_left] at htk
              have hrt := Kd.R_reads' htk
              have hrj := fun nd => postbaglaw4_rises.calls 5000 A10 c10 P true (w2.drewN nd) (Kd.C_drewN hrt.2.2 nd) hrt.2.1 (rises_f P (by omega) HJ.out.form.rises HJ.out.form.ends 5000 (by omega))
              have HRJ := Aside0.mk hrj
              have i1 : (0 : Int) ≤ (P.length : Int) := by omega
              have i2 : (P.length : Int) ≤ (c10 : Int) := by have := hrt.2.1; omega
              have i3 : (P.length : Int) ≤ (J.length : Int) := by omega
              have hq := HJ.out.eq
              have hlo := HJ.out.lo0
              cases st with
              | true =>
                have e1 : J.length = P.length + 1 := by rw [hq]; simp
                have i4 : (P.length : Int) < (J.length : Int) := by omega
                have d6 : decide ((P.length : Int) < (J.length : Int)) = true := decide_eq_true i4
                obtain ⟨ad, e0, z0, z1⟩ := at_T28 hr10.2.2 (P.length : Int) i1 i4
                subst e0
                have e2 : rd_T28 J (P.length : Int) = ⟨lo, 0⟩ := by
                  rw [rd28_at J P.length (by omega)]
                  have e3 : J[P.length]? = some ⟨lo, 0⟩ := by rw [hq]; simp
                  rw [List.getElem?_eq_getElem (by omega)] at e3
                  exact Option.some.inj e3
                rw [e2, Int.toNat_natCast] at z0
                have d7 : decide (lo < 0) = false := decide_eq_false (by omega)
                clear z1 e2 hq hrj htk hrt hr9 hr10 e1
                go_wp2_with fail
                refine hri.mono ?_
                rintro e w' ⟨rfl, ⟨nd, rfl⟩⟩
                go_wp2_with fail
                refine (HRJ.out nd).mono ?_
                rintro e w' ⟨rfl, ⟨nd2, rfl⟩⟩
                go_wp2
                go_meet
                exact ⟨rfl, ⟨⟨_, rfl⟩⟩⟩
              | false =>
                have e1 : J.length = P.length := by rw [hq]; simp
                have d6 : decide ((P.length : Int) < (J.length : Int)) = false := decide_eq_false (by omega)
                have d7 : decide (P.length < J.length) = false := decide_eq_false (by omega)
                clear hq hrj htk hrt hr9 hr10 e1
                go_wp2_with fail
                refine hri.mono ?_
                rintro e w' ⟨rfl, ⟨nd, rfl⟩⟩
                go_wp2_with fail
                refine (HRJ.out nd).mono ?_
                rintro e w' ⟨rfl, ⟨nd2, rfl⟩⟩
                go_wp2
                go_meet
                exact ⟨rfl, ⟨⟨_, rfl⟩⟩⟩
            case rest =>
              obtain ⟨rfl, ⟨nd, rfl⟩⟩ := hcut
              have HB3 := Aside0.mk (pw_below_drewN HB2.out nd)
              have HM9 := Aside0.mk (Kd.R_drewN HN9.out nd)
              have HM10 := Aside0.mk (Kd.R_drewN HN10.out nd)
              obtain ⟨w3, hw3⟩ : ∃ w3 : World, w3 = w2.drewN nd := ⟨_, rfl⟩
              rw [← hw3] at HB3 HM9 HM10
              rw [← hw3]
              clear HB2 HN9 HN10 hw3
              go_upto_region 15 with fail
              go_cut [86] (fun v86 wc => v86 = .bool (decide (a2 < 0) || decide (a2 > (J.length : Int))) ∧ w3 = wc)
              case first =>
                by_cases ha : a2 < 0
                · have d6 : decide (a2 < 0) = true := decide_eq_true ha
                  go_wp2
                  go_meet
                  exact ⟨by simp [d6], rfl⟩
                · have d6 : decide (a2 < 0) = false := decide_eq_false ha
                  by_cases hb : a2 > (J.length : Int)
                  · have d7 : decide (a2 > (J.length : Int)) = true := decide_eq_true hb
                    go_wp2
                    go_meet
                    exact ⟨by simp [d6, d7], rfl⟩
                  · have d7 : decide (a2 > (J.length : Int)) = false := decide_eq_false hb
                    go_wp2
                    go_meet
                    exact ⟨by simp [d6, d7], rfl⟩
              case rest =>
                obtain ⟨rfl, rfl⟩ := hcut
                go_upto_if 86 with fail
                go_cut [2] (fun v2 wc => ∃ cN : Nat, v2 = .int .i64 (cN : Int) ∧ cN ≤ J.length ∧ w3 = wc)
                case first =>
                  by_cases hb : (decide (a2 < 0) || decide (a2 > (J.length : Int))) = true
                  · rw [hb]
                    go_wp2
                    go_meet
                    exact ⟨J.length, rfl, Nat.le_refl _, rfl⟩
                  · have hb2 := Bool.eq_false_iff.mpr hb
                    have hb3 : 0 ≤ a2 ∧ a2 ≤ (J.length : Int) := by
                      simp only [Bool.or_eq_false_iff, decide_eq_false_iff_not] at hb2
                      omega
                    rw [hb2]
                    go_wp2
                    go_meet
                    exact ⟨a2.toNat, by rw [show ((a2.toNat : Nat) : Int) = a2 from by omega], by omega, rfl⟩
                case rest =>
                  obtain ⟨cN, rfl, hcN, rfl⟩ := hcut
                  have hr10 := Kd.R_reads' HM10.out
                  have hr9 := Kd.R_reads' HM9.out
                  have HC10 := Aside0.mk hr10.2.1
                  have HC9 := Aside0.mk hr9.2.1
                  have i1 : (0 : Int) ≤ (cN : Int) := by omega
                  have i2 : (cN : Int) ≤ (J.length : Int) := by omega
                  have i3 : (cN : Int) ≤ (c10 : Int) := by have := hr10.2.1; omega
                  obtain ⟨i0, hi0, hz⟩ := info28q
                  have hrun1 := cut_from (P := Tryd.prog) 23 28 .i64 Tryd.underlying23 hi0 2 hz A10 J.length c10 (cN : Int) i1 i2
                  have hrun2 := cut_to (P := Tryd.prog) 23 28 .i64 Tryd.underlying23 hi0 A10 J.length c10 (cN : Int) i1 i2 hr10.2.1
                  rw [Int.toNat_natCast] at hrun1 hrun2
                  have hdr : ∀ W, Kd.C k28 W A10 J.length J → Kd.C k28 W (if c10 = cN then A10 else A10.map (·.add (cN * 2))) (J.drop cN).length (J.drop cN) := fun W h => Kd.C_drop h hcN hr10.2.1
                  have htk : ∀ W, Kd.C k28 W A10 J.length J → Kd.C k28 W A10 (J.take cN).length (J.take cN) := fun W h => Kd.C_take h hcN
                  generalize (if c10 = cN then A10 else A10.map (·.add (cN * 2))) = A11 at *
                  have HDR := Lib.hid hdr
                  have HTK := Lib.hid htk
                  have HC11 := Aside0.mk (show (J.drop cN).length ≤ c10 - cN from by rw [List.length_drop]; have := hr10.2.1; omega)
                  have HC12 := Aside0.mk (show (J.take cN).length ≤ c10 from by rw [List.length_take]; have := hr10.2.1; omega)
                  have HJ1 := Lib.hid (show span_Join.f 10000 [J] = some J from by
                    rw [join_f [J] (by simp) (by have := HJL.out; simp; omega) 10000 (by rw [cost_le]; have := HJL.out; simp; omega), join_stay HJ.out]
                    intro x; simp)
                  have HJ2 := Lib.hid (show span_Join.f 10000 [J.drop cN, [], J.take cN] = some J from by
                    rw [join_f [J.drop cN, [], J.take cN] (by simp) (by have := HJL.out; simp; omega) 10000 (by rw [cost_le]; have := HJL.out; simp; omega), join_stay HJ.out]
                    intro x
                    have h1 : x ∈ J ↔ x ∈ J.take cN ++ J.drop cN := by rw [List.take_append_drop]
                    simp only [List.flatten_cons, List.flatten_nil, List.append_nil, List.nil_append, List.mem_append]
                    rw [h1, List.mem_append]
                    exact Or.comm)
                  have HJ3 := Lib.hid (show span_Join.f 10000 [L] = some L from by
                    rw [join_f [L] (by simp) (by have := HLL.out; simp; omega) 10000 (by rw [cost_le]; have := HLL.out; simp; omega), join_stay HLJ.out]
                    intro x; simp)
                  clear hr10 hr9 hdr htk hi0 hz
                  go_wp2_with fail
                  go_region_held3 (fun _ => True) (trivial) (((first | (go_at_call 25; (with_reducible refine (join_lit 1 _ [.slice A10 J.length c10] [J] J _ ?hb1 ?hl1 ?hn1 ?hm1 HJ1.out).mono ?_); (case hb1 => exact heap_alloc_new _ _); (case hl1 => exact LitC.cons (A := A10) (c := c10) rfl HC10.out (by first | exact (Kd.R_reads' HM10.out).2.2 | exact (Kd.R_reads' (Kd.R_drew HM10.out)).2.2 | exact (Kd.R_reads' (Kd.R_drewN HM10.out _)).2.2 | exact (Kd.R_reads' (Kd.R_alloc HM10.out _)).2.2 | exact (Kd.R_reads' (Kd.R_alloc (Kd.R_drew HM10.out) _)).2.2 | exact (Kd.R_reads' (Kd.R_alloc (Kd.R_drewN HM10.out _) _)).2.2) LitC.nil); (case hn1 => rfl); (case hm1 => decide); rintro e wj ⟨vj, rfl, hR, hb⟩; obtain ⟨Bj, bj, ej⟩ := Kd.R_slice hR; subst ej; (first | have HB3_ := Aside0.mk (below_step HB3.out hb) | have HB3_ := Aside0.mk (below_step (below_drew HB3.out) hb) | have HB3_ := Aside0.mk (below_step (pw_below_drewN HB3.out _) hb) | have HB3_ := Aside0.mk (below_step (below_alloc HB3.out _) hb) | have HB3_ := Aside0.mk (below_step (below_alloc (below_drew HB3.out) _) hb) | have HB3_ := Aside0.mk (below_step (below_alloc (pw_below_drewN HB3.out _) _) hb)); (first | have HM9_ := Aside0.mk (Kd.R_below HM9.out hb) | have HM9_ := Aside0.mk (Kd.R_below (Kd.R_drew HM9.out) hb) | have HM9_ := Aside0.mk (Kd.R_below (Kd.R_drewN HM9.out _) hb) | have HM9_ := Aside0.mk (Kd.R_below (Kd.R_alloc HM9.out _) hb) | have HM9_ := Aside0.mk (Kd.R_below (Kd.R_alloc (Kd.R_drew HM9.out) _) hb) | have HM9_ := Aside0.mk (Kd.R_below (Kd.R_alloc (Kd.R_drewN HM9.out _) _) hb)); (first | have HM10_ := Aside0.mk (Kd.R_below HM10.out hb) | have HM10_ := Aside0.mk (Kd.R_below (Kd.R_drew HM10.out) hb) | have HM10_ := Aside0.mk (Kd.R_below (Kd.R_drewN HM10.out _) hb) | have HM10_ := Aside0.mk (Kd.R_below (Kd.R_alloc HM10.out _) hb) | have HM10_ := Aside0.mk (Kd.R_below (Kd.R_alloc (Kd.R_drew HM10.out) _) hb) | have HM10_ := Aside0.mk (Kd.R_below (Kd.R_alloc (Kd.R_drewN HM10.out _) _) hb)); clear HB3 HM9 HM10; have HB3 := HB3_; have HM9 := HM9_; have HM10 := HM10_; clear HB3_ HM9_ HM10_; have HRj := Aside0.mk hR; clear hR hb) | (go_at_call 25; (with_reducible refine (join_lit 1 _ [.slice A9 L.length c9] [L] L _ ?hb1 ?hl1 ?hn1 ?hm1 HJ3.out).mono ?_); (case hb1 => exact heap_alloc_new _ _); (case hl1 => exact LitC.cons (A := A9) (c := c9) rfl HC9.out (by first | exact (Kd.R_reads' HM9.out).2.2 | exact (Kd.R_reads' (Kd.R_drew HM9.out)).2.2 | exact (Kd.R_reads' (Kd.R_drewN HM9.out _)).2.2 | exact (Kd.R_reads' (Kd.R_alloc HM9.out _)).2.2 | exact (Kd.R_reads' (Kd.R_alloc (Kd.R_drew HM9.out) _)).2.2 | exact (Kd.R_reads' (Kd.R_alloc (Kd.R_drewN HM9.out _) _)).2.2) LitC.nil); (case hn1 => rfl); (case hm1 => decide); rintro e wj ⟨vj, rfl, hR, hb⟩; obtain ⟨Bj, bj, ej⟩ := Kd.R_slice hR; subst ej; (first | have HB3_ := Aside0.mk (below_step HB3.out hb) | have HB3_ := Aside0.mk (below_step (below_drew HB3.out) hb) | have HB3_ := Aside0.mk (below_step (pw_below_drewN HB3.out _) hb) | have HB3_ := Aside0.mk (below_step (below_alloc HB3.out _) hb) | have HB3_ := Aside0.mk (below_step (below_alloc (below_drew HB3.out) _) hb) | have HB3_ := Aside0.mk (below_step (below_alloc (pw_below_drewN HB3.out _) _) hb)); (first | have HM9_ := Aside0.mk (Kd.R_below HM9.out hb) | have HM9_ := Aside0.mk (Kd.R_below (Kd.R_drew HM9.out) hb) | have HM9_ := Aside0.mk (Kd.R_below (Kd.R_drewN HM9.out _) hb) | have HM9_ := Aside0.mk (Kd.R_below (Kd.R_alloc HM9.out _) hb) | have HM9_ := Aside0.mk (Kd.R_below (Kd.R_alloc (Kd.R_drew HM9.out) _) hb) | have HM9_ := Aside0.mk (Kd.R_below (Kd.R_alloc (Kd.R_drewN HM9.out _) _) hb)); (first | have HM10_ := Aside0.mk (Kd.R_below HM10.out hb) | have HM10_ := Aside0.mk (Kd.R_below (Kd.R_drew HM10.out) hb) | have HM10_ := Aside0.mk (Kd.R_below (Kd.R_drewN HM10.out _) hb) | have HM10_ := Aside0.mk (Kd.R_below (Kd.R_alloc HM10.out _) hb) | have HM10_ := Aside0.mk (Kd.R_below (Kd.R_alloc (Kd.R_drew HM10.out) _) hb) | have HM10_ := Aside0.mk (Kd.R_below (Kd.R_alloc (Kd.R_drewN HM10.out _) _) hb)); clear HB3 HM9 HM10; have HB3 := HB3_; have HM9 := HM9_; have HM10 := HM10_; clear HB3_ HM9_ HM10_; have HRj := Aside0.mk hR; clear hR hb) | (go_at_call 25; (with_reducible refine (join_lit 3 _ [.slice A11 (J.length - cN) (c10 - cN), .slice none 0 0, .slice A10 cN c10] [J.drop cN, [], J.take cN] J _ ?hb1 ?hl1 ?hn1 ?hm1 HJ2.out).mono ?_); (case hb1 => exact heap_alloc_new _ _); (case hl1 => exact LitC.cons (A := A11) (c := c10 - cN) (by rw [List.length_drop]) HC11.out (by first | exact HDR.out _ (Kd.R_reads' HM10.out).2.2 | exact HDR.out _ (Kd.R_reads' (Kd.R_drew HM10.out)).2.2 | exact HDR.out _ (Kd.R_reads' (Kd.R_drewN HM10.out _)).2.2 | exact HDR.out _ (Kd.R_reads' (Kd.R_alloc HM10.out _)).2.2 | exact HDR.out _ (Kd.R_reads' (Kd.R_alloc (Kd.R_drew HM10.out) _)).2.2 | exact HDR.out _ (Kd.R_reads' (Kd.R_alloc (Kd.R_drewN HM10.out _) _)).2.2) (LitC.cons (A := none) (c := 0) rfl (Nat.le_refl _) (Kd.C_nil _ _) (LitC.cons (A := A10) (c := c10) (by rw [List.length_take, Nat.min_eq_left hcN]) HC12.out (by first | exact HTK.out _ (Kd.R_reads' HM10.out).2.2 | exact HTK.out _ (Kd.R_reads' (Kd.R_drew HM10.out)).2.2 | exact HTK.out _ (Kd.R_reads' (Kd.R_drewN HM10.out _)).2.2 | exact HTK.out _ (Kd.R_reads' (Kd.R_alloc HM10.out _)).2.2 | exact HTK.out _ (Kd.R_reads' (Kd.R_alloc (Kd.R_drew HM10.out) _)).2.2 | exact HTK.out _ (Kd.R_reads' (Kd.R_alloc (Kd.R_drewN HM10.out _) _)).2.2) LitC.nil))); (case hn1 => rfl); (case hm1 => decide); rintro e wj ⟨vj, rfl, hR, hb⟩; obtain ⟨Bj, bj, ej⟩ := Kd.R_slice hR; subst ej; (first | have HB3_ := Aside0.mk (below_step HB3.out hb) | have HB3_ := Aside0.mk (below_step (below_drew HB3.out) hb) | have HB3_ := Aside0.mk (below_step (pw_below_drewN HB3.out _) hb) | have HB3_ := Aside0.mk (below_step (below_alloc HB3.out _) hb) | have HB3_ := Aside0.mk (below_step (below_alloc (below_drew HB3.out) _) hb) | have HB3_ := Aside0.mk (below_step (below_alloc (pw_below_drewN HB3.out _) _) hb)); (first | have HM9_ := Aside0.mk (Kd.R_below HM9.out hb) | have HM9_ := Aside0.mk (Kd.R_below (Kd.R_drew HM9.out) hb) | have HM9_ := Aside0.mk (Kd.R_below (Kd.R_drewN HM9.out _) hb) | have HM9_ := Aside0.mk (Kd.R_below (Kd.R_alloc HM9.out _) hb) | have HM9_ := Aside0.mk (Kd.R_below (Kd.R_alloc (Kd.R_drew HM9.out) _) hb) | have HM9_ := Aside0.mk (Kd.R_below (Kd.R_alloc (Kd.R_drewN HM9.out _) _) hb)); (first | have HM10_ := Aside0.mk (Kd.R_below HM10.out hb) | have HM10_ := Aside0.mk (Kd.R_below (Kd.R_drew HM10.out) hb) | have HM10_ := Aside0.mk (Kd.R_below (Kd.R_drewN HM10.out _) hb) | have HM10_ := Aside0.mk (Kd.R_below (Kd.R_alloc HM10.out _) hb) | have HM10_ := Aside0.mk (Kd.R_below (Kd.R_alloc (Kd.R_drew HM10.out) _) hb) | have HM10_ := Aside0.mk (Kd.R_below (Kd.R_alloc (Kd.R_drewN HM10.out _) _) hb)); clear HB3 HM9 HM10; have HB3 := HB3_; have HM9 := HM9_; have HM10 := HM10_; clear HB3_ HM9_ HM10_; have HRj := Aside0.mk hR; clear hR hb) | (go_at_call 26; (with_reducible refine (postbaglaw4_same.calls 5000 Bj bj J A10 c10 J true _ ?s1 ?s2 ?s3 ?s4 ?s5).mono ?_); (case s1 => exact (Kd.R_reads' HRj.out).2.2); (case s2 => exact (Kd.R_reads' HRj.out).2.1); (case s3 => exact (by first | exact (Kd.R_reads' HM10.out).2.2 | exact (Kd.R_reads' (Kd.R_drew HM10.out)).2.2 | exact (Kd.R_reads' (Kd.R_drewN HM10.out _)).2.2 | exact (Kd.R_reads' (Kd.R_alloc HM10.out _)).2.2 | exact (Kd.R_reads' (Kd.R_alloc (Kd.R_drew HM10.out) _)).2.2 | exact (Kd.R_reads' (Kd.R_alloc (Kd.R_drewN HM10.out _) _)).2.2)); (case s4 => exact HC10.out); (case s5 => exact (by rw [same_f J J (by have := HJL.out; omega) 5000 (by have := HJL.out; omega), decide_eq_true rfl])); rintro e w' ⟨rfl, ⟨nd, rfl⟩⟩; clear HRj) | (go_at_call 26; (with_reducible refine (postbaglaw4_same.calls 5000 Bj bj L A9 c9 L true _ ?s1 ?s2 ?s3 ?s4 ?s5).mono ?_); (case s1 => exact (Kd.R_reads' HRj.out).2.2); (case s2 => exact (Kd.R_reads' HRj.out).2.1); (case s3 => exact (by first | exact (Kd.R_reads' HM9.out).2.2 | exact (Kd.R_reads' (Kd.R_drew HM9.out)).2.2 | exact (Kd.R_reads' (Kd.R_drewN HM9.out _)).2.2 | exact (Kd.R_reads' (Kd.R_alloc HM9.out _)).2.2 | exact (Kd.R_reads' (Kd.R_alloc (Kd.R_drew HM9.out) _)).2.2 | exact (Kd.R_reads' (Kd.R_alloc (Kd.R_drewN HM9.out _) _)).2.2)); (case s4 => exact HC9.out); (case s5 => exact (by rw [same_f L L (by have := HLL.out; omega) 5000 (by have := HLL.out; omega), decide_eq_true rfl])); rintro e w' ⟨rfl, ⟨nd, rfl⟩⟩; clear HRj) | (go_at_call 20; (with_reducible refine (postbaglaw4_known.calls 50 true _ known_50 ?hL1).mono ?_); (case hL1 => exact (by first | exact (laid_below HL_.out (Below.mono HB3.out (Nat.le_refl _))) | exact (laid_below HL_.out (Below.mono (below_drew HB3.out) (Nat.le_refl _))) | exact (laid_below HL_.out (Below.mono (pw_below_drewN HB3.out _) (Nat.le_refl _))) | exact (laid_below HL_.out (Below.mono (below_alloc HB3.out _) (Nat.le_refl _))) | exact (laid_below HL_.out (Below.mono (below_alloc (below_drew HB3.out) _) (Nat.le_refl _))) | exact (laid_below HL_.out (Below.mono (below_alloc (pw_below_drewN HB3.out _) _) (Nat.le_refl _))))); rintro e wk ⟨rfl, hb⟩; (first | have HB3_ := Aside0.mk (below_step HB3.out hb) | have HB3_ := Aside0.mk (below_step (below_drew HB3.out) hb) | have HB3_ := Aside0.mk (below_step (pw_below_drewN HB3.out _) hb) | have HB3_ := Aside0.mk (below_step (below_alloc HB3.out _) hb) | have HB3_ := Aside0.mk (below_step (below_alloc (below_drew HB3.out) _) hb) | have HB3_ := Aside0.mk (below_step (below_alloc (pw_below_drewN HB3.out _) _) hb)); (first | have HM9_ := Aside0.mk (Kd.R_below HM9.out hb) | have HM9_ := Aside0.mk (Kd.R_below (Kd.R_drew HM9.out) hb) | have HM9_ := Aside0.mk (Kd.R_below (Kd.R_drewN HM9.out _) hb) | have HM9_ := Aside0.mk (Kd.R_below (Kd.R_alloc HM9.out _) hb) | have HM9_ := Aside0.mk (Kd.R_below (Kd.R_alloc (Kd.R_drew HM9.out) _) hb) | have HM9_ := Aside0.mk (Kd.R_below (Kd.R_alloc (Kd.R_drewN HM9.out _) _) hb)); (first | have HM10_ := Aside0.mk (Kd.R_below HM10.out hb) | have HM10_ := Aside0.mk (Kd.R_below (Kd.R_drew HM10.out) hb) | have HM10_ := Aside0.mk (Kd.R_below (Kd.R_drewN HM10.out _) hb) | have HM10_ := Aside0.mk (Kd.R_below (Kd.R_alloc HM10.out _) hb) | have HM10_ := Aside0.mk (Kd.R_below (Kd.R_alloc (Kd.R_drew HM10.out) _) hb) | have HM10_ := Aside0.mk (Kd.R_below (Kd.R_alloc (Kd.R_drewN HM10.out _) _) hb)); clear HB3 HM9 HM10; have HB3 := HB3_; have HM9 := HM9_; have HM10 := HM10_; clear HB3_ HM9_ HM10_; clear hb))))
                  all_goals
                    go_wp2
                    go_ret
                    exact ⟨rfl, (by first | exact HB3.out | exact (below_drew HB3.out) | exact (pw_below_drewN HB3.out _) | exact (below_alloc HB3.out _) | exact (below_alloc (below_drew HB3.out) _) | exact (below_alloc (pw_below_drewN HB3.out _) _))⟩
    · have d2 : decide (m ≤ 400) = false := decide_eq_false hbig
      have d3 : decide (m > 400) = true := decide_eq_true (by omega)
      by_cases hql : q < l1.length
      · have d1 : decide ((q : Int) < (l1.length : Int)) = true := decide_eq_true (by omega)
        go_wp2
        go_ret
        exact ⟨rfl, Below.refl _ _⟩
      · have d1 : decide ((q : Int) < (l1.length : Int)) = false := decide_eq_false (by omega)
        go_wp2
        go_ret
        exact ⟨rfl, Below.refl _ _⟩
end Go.Proofs.YtidcchopmbodkaaDoor.Sp
end
section
namespace Go.Proofs.YtidcchopmbodkaaDoor.Pure
open Go.Proofs.YtidcchopmbodkaaDoor.Sp
theorem sizesF : Tryd.prog.bytesOf 28 = 16 ∧ Tryd.prog.bytesOf 3 = 8 ∧ Tryd.prog.bytesOf 23 = 24 := ⟨by kernel_rfl, by kernel_rfl, by kernel_rfl⟩
theorem SpanForm (l : List Int) (sets : List (List S28)) (c : Int) {Q R : Prop} {P : S28 → Prop} (h0 : Q ∧ l.length * Tryd.prog.bytesOf 3 ≤ 140737488351232) (h1 : (∀ y ∈ sets, (∀ z ∈ y, P z) ∧ y.length * Tryd.prog.bytesOf 28 ≤ 140737488351232) ∧ sets.length * Tryd.prog.bytesOf 23 ≤ 140737488351232) (_ : R) : ∃ k, postbaglaw4_SpanForm.f k l sets c = some true := by
  obtain ⟨s1, s2, s3⟩ := sizesF
  obtain ⟨h1, h11⟩ := h1
  have h0 := h0.2
  rw [s2] at h0
  rw [s3] at h11
  refine ⟨0, ?_⟩
  unfold postbaglaw4_SpanForm.f
  refine if_pos ⟨by omega, by omega, fun y hy => ?_⟩
  have := (h1 y hy).2
  rw [s1] at this
  omega
end Go.Proofs.YtidcchopmbodkaaDoor.Pure
end
section
namespace Go.Proofs.YtidcchopmbodkaaDoor.Sp
open Go.ChangeShapes Go.WideShapes Go.ChangeAt Go.RowKit
theorem gPow : Tryd.prog.globalNamed "internal/strconv.uint64pow10" = some 1 := by kernel_rfl
theorem tPow : (Tryd.prog.globals[1]?).map (·.type) = some 134 := by kernel_rfl
theorem door_met (os : Os) (args : Array Value) : laidMetH Tryd.prog [("math/bits.deBruijn32tab", Rows.laid_math_bits_deBruijn32tab), ("math/bits.deBruijn64tab", Rows.laid_math_bits_deBruijn64tab), ("internal/strconv.uint64pow10", Rows.laid_internal_strconv_uint64pow10)] ((World.doorLaid Tryd.prog 400 os).forCall (fun _ _ => 0) ⟨#[], args, []⟩).memory :=
  laidMetH_of_parts3 (fuel := 8) (laidMet_of_run' 8 (by kernel_rfl) (by kernel_rfl)) (by kernel_rfl) (by kernel_rfl)
theorem pow_data {H : Type} : (Rows.laid_internal_strconv_uint64pow10 : DataW H) = Lib.tabData .u64 Lib.pow10Tab := by kernel_rfl
theorem of_laid {W : World} (h : laidMetH Tryd.prog [("math/bits.deBruijn32tab", Rows.laid_math_bits_deBruijn32tab), ("math/bits.deBruijn64tab", Rows.laid_math_bits_deBruijn64tab), ("internal/strconv.uint64pow10", Rows.laid_internal_strconv_uint64pow10)] W) : Laid W := by
  rw [MakeChecks.laidMetH_plain _ _ _ (by kernel_rfl)] at h
  obtain ⟨ps, h1, _, _⟩ := h
  obtain ⟨_, _, _, _, _, _, _, _, _, _, h1, _⟩ := h1
  obtain ⟨_, _, _, _, _, _, _, _, _, _, h1, _⟩ := h1
  obtain ⟨g1, t1, cs1, f1, p1, q1, hg1, ht1, hv1, hd1, _, _⟩ := h1
  obtain rfl := Option.some.inj (gPow.symm.trans hg1)
  obtain rfl := Option.some.inj (tPow.symm.trans ht1)
  rw [pow_data] at hd1
  exact ⟨by unfold Lib.TabIs; rw [hv1, ← Lib.cells_of_tab Tryd.underlying134 Tryd.underlying113 (by kernel_rfl) (by kernel_rfl) hd1]⟩
end Go.Proofs.YtidcchopmbodkaaDoor.Sp
end
