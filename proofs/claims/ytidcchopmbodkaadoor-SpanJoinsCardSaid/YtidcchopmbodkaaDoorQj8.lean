import Derived.Test.YtidcchopmbodkaaDoorQj2
import Derived.Test.YtidcchopmbodkaaDoorQj3
import Derived.Test.YtidcchopmbodkaaDoorQj7
import Derived.Test.YtidcchopmbodkaaDoorQj4
section
namespace Go.Proofs.YtidcchopmbodkaaDoor.Sp
open Go.RowKit Go.Proofs.YtidcchopmbodkaaDoorW.PrintWords Go.Proofs.YtidcchopmbodkaaDoorW.PrintLast Go.Proofs.YtidcchopmbodkaaDoorW.PrintMore
attribute [local go_sem] max2_int min2_int max_two min_two max_three min_three max_four min_four   -- for this text's walks alone
set_option linter.unusedVariables false
set_option linter.unusedSimpArgs false
mutual
def postbagref4_Join.l0 : Nat → List (List (S28)) → List (S28) → Int → Int → Bool → Int → Option ((List (S28)))
 | 0, _, _, _, _, _, _ => none
 | k + 1, x0, x3, x4, x5, x6, x7 => if x7 < (x0.length : Int) then (postbagref4_Join.l1 k x0 x3 x4 x5 x6 x7 0) else (if x4 < x5 then ((postbagref4_put.f k x3 x4 x5).bind fun t294 => (if x6 = true then (if t294.length < 8796093022208 then (some (t294 ++ [(⟨x4, 0⟩ : S28)])) else (none)) else (some t294))) else (if x6 = true then (if x3.length < 8796093022208 then (some (x3 ++ [(⟨x4, 0⟩ : S28)])) else (none)) else (some x3)))
def postbagref4_Join.l1 : Nat → List (List (S28)) → List (S28) → Int → Int → Bool → Int → Int → Option ((List (S28)))
 | 0, _, _, _, _, _, _, _ => none
 | k + 1, x0, x3, x4, x5, x6, x7, x8 => if 0 ≤ x7 then (if x7 < (x0.length : Int) then (if x8 < ((rd_L2 x0 x7).length : Int) then (if 0 ≤ x8 then ((postbagref4_sound.f ((rd_T28 (rd_L2 x0 x7) x8).f0)).bind fun t289 => (if t289 = true then ((postbagref4_sound.f ((rd_T28 (rd_L2 x0 x7) x8).f1)).bind fun t290 => (postbagref4_Join.j2 k x0 x3 x4 x5 x6 x7 x8 (!t290) ((rd_T28 (rd_L2 x0 x7) x8).f0) ((rd_T28 (rd_L2 x0 x7) x8).f1))) else (postbagref4_Join.j2 k x0 x3 x4 x5 x6 x7 x8 true ((rd_T28 (rd_L2 x0 x7) x8).f0) ((rd_T28 (rd_L2 x0 x7) x8).f1)))) else (none)) else (postbagref4_Join.l0 k x0 x3 x4 x5 x6 (wrap64 (x7 + 1)))) else (none)) else (none)
def postbagref4_Join.j2 : Nat → List (List (S28)) → List (S28) → Int → Int → Bool → Int → Int → Bool → Int → Int → Option ((List (S28)))
 | 0, _, _, _, _, _, _, _, _, _, _ => none
 | k + 1, x0, x3, x4, x5, x6, x7, x8, x53, x289000, x289001 => if x53 = true then (postbagref4_Join.l1 k x0 x3 x4 x5 x6 x7 (wrap64 (x8 + 1))) else (if x289000 > 0 then (postbagref4_Join.j3 k x0 x3 x4 x5 x6 x7 x8 (decide (x289001 > 0)) x289000 x289001) else (postbagref4_Join.j3 k x0 x3 x4 x5 x6 x7 x8 false x289000 x289001))
def postbagref4_Join.j3 : Nat → List (List (S28)) → List (S28) → Int → Int → Bool → Int → Int → Bool → Int → Int → Option ((List (S28)))
 | 0, _, _, _, _, _, _, _, _, _, _ => none
 | k + 1, x0, x3, x4, x5, x6, x7, x8, x64, x289000, x289001 => if x64 = true then ((postbagref4_put.f k x3 (mn x289000 x289001) (mx x289000 x289001)).bind fun t291 => (postbagref4_Join.l1 k x0 t291 x4 x5 x6 x7 (wrap64 (x8 + 1)))) else (if (mx x289000 x289001) > 0 then (if x4 = 0 then (postbagref4_Join.l1 k x0 x3 (mx x289000 x289001) (mx x5 (mx x289000 x289001)) true x7 (wrap64 (x8 + 1))) else (if (mx x289000 x289001) < x4 then (postbagref4_Join.l1 k x0 x3 (mx x289000 x289001) (mx x5 (mx x289000 x289001)) true x7 (wrap64 (x8 + 1))) else (postbagref4_Join.l1 k x0 x3 x4 (mx x5 (mx x289000 x289001)) true x7 (wrap64 (x8 + 1))))) else (postbagref4_Join.l1 k x0 x3 x4 (mx x5 (mx x289000 x289001)) true x7 (wrap64 (x8 + 1))))
end
def postbagref4_Join.f (k : Nat) (l0 : List (List (S28))) : Option ((List (S28))) := postbagref4_Join.l0 k l0 ([] : List (S28)) 0 0 false 0
set_option maxHeartbeats 8000000 in
set_option maxRecDepth 100000 in
theorem postbagref4_Join.calls (k : Nat) (A0 : Option Addr) (c0 : Nat) (l0 : List (List (S28))) (r : List (S28)) (w : World) (hr0 : Kd.C (Kd.slice 28 k28) w A0 l0.length l0) (hc0 : l0.length ≤ c0) (h : postbagref4_Join.f k l0 = some r) :
  Calls Tryd.prog 29 #[.slice A0 l0.length c0] w fun e w' => ∃ v0_ : Value, e = .returned (v0_) ∧ Kd.R k28 28 w' w.heap.size (fun _ => True) v0_ r ∧ Below w.heap.size w w' := by
 have hu28 := Tryd.underlying28
 have HR0 := Aside0.mk hr0
 have HC0 := Aside0.mk hc0
 clear hr0 hc0
 have HB := Aside0.mk (Below.refl w.heap.size w)
 have H : (postbagref4_Join.l0 k l0 ([] : List (S28)) 0 0 false 0) = some r := h
 clear h
 have H' := Aside0.mk H
 clear H
 go_enter Tryd.func29, Tryd.ntmps29
 go_wp2
 go_loopg [3, 4, 5, 6, 7] k (fun kq v3 v4 v5 v6 v7 w' => ∃ (x3_1 : List (S28)) (x4_1 : Int) (x5_1 : Int) (x6_1 : Bool) (x7_1 : Int), v4 = .int .i64 x4_1 ∧ v5 = .int .i64 x5_1 ∧ v6 = .bool x6_1 ∧ v7 = .int .i64 x7_1 ∧ Aside0 (postbagref4_Join.l0 kq l0 x3_1 x4_1 x5_1 x6_1 x7_1 = some r) ∧ Aside0 (kq ≤ k) ∧ Aside0 (Kd.R k28 28 w' w.heap.size (fun _ => True) v3 x3_1) ∧ Aside0 (Below w.heap.size w w'))
 case atStart => exact ⟨(([] : List (S28))), (0), (0), (false), (0), (by first | rfl | (simp; done) | (simp [*]; done)), (by first | rfl | (simp; done) | (simp [*]; done)), (by first | rfl | (simp; done) | (simp [*]; done)), (by first | rfl | (simp; done) | (simp [*]; done)), H', ⟨Nat.le_refl _⟩, ⟨by first | exact Kd.R_nil _ _ _ _ _ | exact Kd.N_nil _ _ _ _ _ | exact Kd.V_nil _ _ _ _ _ | exact Kd.Q_nil _ _ _ _ _ | exact Kd.S_nil _ _ _ _ _⟩, ⟨by repeat (first | (with_reducible first | exact HB.out | apply below_alloc | apply pw_below_drewN | apply below_drew1) | exact HB.out)⟩⟩
 case round =>
  clear H'
  obtain ⟨x3_1, x4_1, x5_1, x6_1, x7_1, rfl, rfl, rfl, rfl, HA, HK1, HO_3, HB⟩ := hrel
  cases gk with
  | zero => exact absurd HA.out (by simp [postbagref4_Join.l0])
  | succ k1 =>
   have H := HA.out
   clear HA
   simp only [postbagref4_Join.l0] at H
   by_cases c2 : x7_1 < (l0.length : Int)
   ·rw [if_pos c2] at H
    have c2b0 : decide (x7_1 < (l0.length : Int)) = true := decide_eq_true c2
    clear c2
    have H' := Aside0.mk H
    clear H
    go_wp2
    go_loopg [3, 4, 5, 6, 8] k1 (fun kq v3 v4 v5 v6 v8 w' => ∃ (x3_2 : List (S28)) (x4_2 : Int) (x5_2 : Int) (x6_2 : Bool) (x8_2 : Int), v4 = .int .i64 x4_2 ∧ v5 = .int .i64 x5_2 ∧ v6 = .bool x6_2 ∧ v8 = .int .i64 x8_2 ∧ Aside0 (postbagref4_Join.l1 kq l0 x3_2 x4_2 x5_2 x6_2 x7_1 x8_2 = some r) ∧ Aside0 (kq ≤ k1) ∧ Aside0 (Kd.R k28 28 w' w.heap.size (fun _ => True) v3 x3_2) ∧ Aside0 (Below w.heap.size w w'))
    case atStart => exact ⟨(x3_1), (x4_1), (x5_1), (x6_1), (0), (by first | rfl | (simp; done) | (simp [*]; done)), (by first | rfl | (simp; done) | (simp [*]; done)), (by first | rfl | (simp; done) | (simp [*]; done)), (by first | rfl | (simp; done) | (simp [*]; done)), H', ⟨Nat.le_refl _⟩, ⟨by (with_reducible repeat (first | apply Kd.R_alloc | apply Kd.R_drewN | apply Kd.R_drew)); exact HO_3.out⟩, ⟨by repeat (first | (with_reducible first | exact HB.out | apply below_alloc | apply pw_below_drewN | apply below_drew1) | exact HB.out)⟩⟩
    case round =>
     clear H'
     try clear c2
     try clear c2b0
     try clear p2
     obtain ⟨x3_2, x4_2, x5_2, x6_2, x8_2, rfl, rfl, rfl, rfl, HA, HK2, HO_3, HB⟩ := hrel
     cases gk with
     | zero => exact absurd HA.out (by simp [postbagref4_Join.l1])
     | succ k2 =>
      have H := HA.out
      clear HA
      simp only [postbagref4_Join.l1] at H
      by_cases c3 : 0 ≤ x7_1
      ·rw [if_pos c3] at H
       have c3b0 : decide (0 ≤ x7_1) = true := decide_eq_true c3
       clear c3
       by_cases c4 : x7_1 < (l0.length : Int)
       ·rw [if_pos c4] at H
        have c4b0 : decide (x7_1 < (l0.length : Int)) = true := decide_eq_true c4
        clear c4
        by_cases c5 : x8_2 < ((rd_L2 l0 x7_1).length : Int)
        ·rw [if_pos c5] at H
         have c5b0 : decide (x8_2 < ((rd_L2 l0 x7_1).length : Int)) = true := decide_eq_true c5
         clear c5
         by_cases c6 : 0 ≤ x8_2
         ·rw [if_pos c6] at H
          have c6b0 : decide (0 ≤ x8_2) = true := decide_eq_true c6
          clear c6
          have HC7 := Aside0.mk H
          clear H
          have p285 : 0 ≤ (x7_1 : Int) := of_decide_eq_true (by first | (with_reducible assumption) | assumption)
          have q285 : x7_1 < (l0.length : Int) := of_decide_eq_true (by first | (with_reducible assumption) | assumption)
          obtain ⟨ad285, A285_0, c285_0, e285, hx285_0, hl285_0, hi285_0⟩ := at_L2 HR0.out x7_1 p285 q285
          cases e285
          replace hx285_0 := (HB.out.cell (World.block_lt_of_cell? w _ hx285_0)).trans hx285_0
          have HR285_0 := Aside0.mk hi285_0
          have HC285_0 := Aside0.mk hl285_0
          clear hi285_0 hl285_0
          replace p285 := eq_true p285
          replace q285 := eq_true q285
          have p286 : 0 ≤ (x7_1 : Int) := of_decide_eq_true (by first | (with_reducible assumption) | assumption)
          have q286 : x7_1 < (l0.length : Int) := of_decide_eq_true (by first | (with_reducible assumption) | assumption)
          obtain ⟨ad286, A286_0, c286_0, e286, hx286_0, hl286_0, hi286_0⟩ := at_L2 HR0.out x7_1 p286 q286
          obtain rfl : ad285 = ad286 := (by injection e286)
          replace hx286_0 := (HB.out.cell (World.block_lt_of_cell? w _ hx286_0)).trans hx286_0
          have HR286_0 := Aside0.mk hi286_0
          have HC286_0 := Aside0.mk hl286_0
          clear hi286_0 hl286_0
          replace p286 := eq_true p286
          replace q286 := eq_true q286
          have ea_ := Option.some.inj (hx285_0.symm.trans hx286_0)
          injection ea_ with ea_ en_ ec_
          subst ea_
          subst ec_
          clear en_
          have p287 : 0 ≤ (x8_2 : Int) := of_decide_eq_true (by first | (with_reducible assumption) | assumption)
          have q287 : x8_2 < ((rd_L2 l0 x7_1).length : Int) := of_decide_eq_true (by first | (with_reducible assumption) | assumption)
          obtain ⟨ad287, e287, hx287_0, hx287_1⟩ := at_T28 HR286_0.out x8_2 p287 q287
          cases e287
          replace hx287_0 := (HB.out.cell (World.block_lt_of_cell? w _ hx287_0)).trans hx287_0
          replace hx287_1 := (HB.out.cell (World.block_lt_of_cell? w _ hx287_1)).trans hx287_1
          replace p287 := eq_true p287
          replace q287 := eq_true q287
          go_upto_region 17 with (first | ((with_reducible refine gate_dst (N := 9) rfl ?_); refine box_event ?hg (N := 9) ?hd (cs := #[.int .i64 0, .int .i64 0]) (t := 28) ?hr ?_; (case hd => rfl); (case hg => rfl); (case hr => first | (go_simp; done) | (go_simp; rfl)); intro gb288 hg w8 hbox hb; have n0_ := Aside0.mk (Kd.R_below (Kd.R_elderB (by (with_reducible repeat (first | apply Kd.R_alloc | apply Kd.R_drewN | apply Kd.R_drew)); exact HO_3.out) gb288 (Nat.le_of_eq hg.symm)) hb); have n1_ := Aside0.mk (below_step (by repeat (first | (with_reducible first | exact HB.out | apply below_alloc | apply pw_below_drewN | apply below_drew1) | exact HB.out)) hb); have n2_ := Aside0.mk (hbox); have n3_ := Aside0.mk ((by rw [hg]; exact (below_size (by repeat (first | (with_reducible first | exact HB.out | apply below_alloc | apply pw_below_drewN | apply below_drew1) | exact HB.out))) : w.heap.size ≤ gb288)); have n4_ := Aside0.mk ((by rw [hg]; exact (below_size (by repeat (first | (with_reducible first | exact HB.out | apply below_alloc | apply pw_below_drewN | apply below_drew1) | exact HB.out))) : w.heap.size ≤ gb288)); clear HO_3; clear HB; have HO_3 := n0_; have HB := n1_; have BK288 := n2_; have GW288 := n3_; have GE288 := n4_; clear n0_ n1_ n2_ n3_ n4_; clear hb hbox hg; have hcz9_0 : w8.cell? ⟨gb288, 0, none⟩ = some (.int .i64 0) := (blk_cell BK288.out 0).trans rfl; have hcz9_1 : w8.cell? ⟨gb288, 1, none⟩ = some (.int .i64 0) := (blk_cell BK288.out 1).trans rfl; have hfz9_0 := blk_frozen BK288.out 0; have hfz9_1 := blk_frozen BK288.out 1))
          (try simp only [Act.put, s1_, s2_, s3_])
          go_cut [53] (fun v53 wc => ∃ (kq : Nat) (x53_6 : Bool), v53 = .bool x53_6 ∧ Aside0 (postbagref4_Join.j2 kq l0 x3_2 x4_2 x5_2 x6_2 x7_1 x8_2 x53_6 ((rd_T28 (rd_L2 l0 x7_1) x8_2).f0) ((rd_T28 (rd_L2 l0 x7_1) x8_2).f1) = some r) ∧ Aside0 (kq ≤ k2) ∧ Aside0 (Kd.R k28 28 wc w.heap.size (fun k_ => k_ ≠ gb288) u3 x3_2) ∧ Aside0 (wc.heap[gb288]? = some (.cells #[.int .i64 ((rd_T28 (rd_L2 l0 x7_1) x8_2).f0), .int .i64 ((rd_T28 (rd_L2 l0 x7_1) x8_2).f1)] 28 (0, 0))) ∧ Aside0 (Below w.heap.size w wc))
          case first =>
           have H := HC7.out
           clear HC7
           replace H := Option.bind_eq_some_iff.mp H
           obtain ⟨t289, A100, H⟩ := H
           replace H : (if t289 = true then ((postbagref4_sound.f ((rd_T28 (rd_L2 l0 x7_1) x8_2).f1)).bind fun t290 => (postbagref4_Join.j2 k2 l0 x3_2 x4_2 x5_2 x6_2 x7_1 x8_2 (!t290) ((rd_T28 (rd_L2 l0 x7_1) x8_2).f0) ((rd_T28 (rd_L2 l0 x7_1) x8_2).f1))) else (postbagref4_Join.j2 k2 l0 x3_2 x4_2 x5_2 x6_2 x7_1 x8_2 true ((rd_T28 (rd_L2 l0 x7_1) x8_2).f0) ((rd_T28 (rd_L2 l0 x7_1) x8_2).f1))) = some r := H
           have A10 := Aside0.mk A100
           clear A100
           by_cases c11 : t289 = true
           ·subst c11
            have H1 : ((postbagref4_sound.f ((rd_T28 (rd_L2 l0 x7_1) x8_2).f1)).bind fun t290 => (postbagref4_Join.j2 k2 l0 x3_2 x4_2 x5_2 x6_2 x7_1 x8_2 (!t290) ((rd_T28 (rd_L2 l0 x7_1) x8_2).f0) ((rd_T28 (rd_L2 l0 x7_1) x8_2).f1))) = some r := by rw [if_pos rfl] at H; exact H
            clear H
            have H := H1
            clear H1
            replace H := Option.bind_eq_some_iff.mp H
            obtain ⟨t290, A120, H⟩ := H
            replace H : (postbagref4_Join.j2 k2 l0 x3_2 x4_2 x5_2 x6_2 x7_1 x8_2 (!t290) ((rd_T28 (rd_L2 l0 x7_1) x8_2).f0) ((rd_T28 (rd_L2 l0 x7_1) x8_2).f1)) = some r := H
            have A12 := Aside0.mk A120
            clear A120
            have H' := Aside0.mk H
            clear H
            have hcz13_0 : w8.cell? ⟨gb288, 0, none⟩ = some (.int .i64 0) := (blk_cell BK288.out 0).trans rfl
            have hcz13_1 : w8.cell? ⟨gb288, 1, none⟩ = some (.int .i64 0) := (blk_cell BK288.out 1).trans rfl
            have hfz13_0 := blk_frozen BK288.out 0
            have hfz13_1 := blk_frozen BK288.out 1
            go_wp2_with (first | ((with_reducible refine gate_callee (f := 54) rfl ?_); refine goesL_ (some 56) rfl rfl Tryd.func54 (by kernel_rfl) rfl #[.int .i64 ((rd_T28 (rd_L2 l0 x7_1) x8_2).f0)] rfl (by (try simp only [List.map_toArray, List.map_cons, List.map_nil]); first | done | rfl | (simp only [List.length_drop, List.length_take]; rfl)) ?_; (with_reducible refine (postbagref4_sound.calls ((rd_T28 (rd_L2 l0 x7_1) x8_2).f0) true _ A10.out).mono ?_); rintro e w' ⟨rfl, ⟨nd, rfl⟩⟩; refine ⟨_, rfl, ?_⟩) | (go_at_call 54; (with_reducible refine (postbagref4_sound.calls ((rd_T28 (rd_L2 l0 x7_1) x8_2).f1) t290 _ A12.out).mono ?_); rintro e w' ⟨rfl, ⟨nd, rfl⟩⟩))
            go_meet
            case rel => exact ⟨_, (!t290), (by first | rfl | (simp; done) | (simp [*]; done)), H', ⟨by have := HK1.out; have := HK2.out; first | omega | exact Nat.le_refl _⟩, ⟨by (with_reducible repeat (first | apply Kd.R_alloc | apply Kd.R_drewN | apply Kd.R_drew)); exact Kd.R_mono (Kd.R_far (p := ⟨gb288, 1, none⟩) (Kd.R_far (p := ⟨gb288, 0, none⟩) (Kd.R_mono HO_3.out (fun k_ hk => (⟨hk, hk.2⟩ : _ ∧ k_ ≠ gb288))) (fun _ hk => hk.2) (.int .i64 ((rd_T28 (rd_L2 l0 x7_1) x8_2).f0))) (fun _ hk => hk.2) (.int .i64 ((rd_T28 (rd_L2 l0 x7_1) x8_2).f1))) (fun _ hk => hk.1.2)⟩, ⟨by (with_reducible repeat (first | refine blk_drewN ?_ _ | refine blk_drew ?_ | refine blk_alloc ?_ _)); refine blk_put (cs := #[.int .i64 ((rd_T28 (rd_L2 l0 x7_1) x8_2).f0), .int .i64 0]) ?_ 1 _ rfl; (with_reducible repeat (first | refine blk_drewN ?_ _ | refine blk_drew ?_ | refine blk_alloc ?_ _)); refine blk_put (cs := #[.int .i64 0, .int .i64 0]) ?_ 0 _ rfl; (with_reducible repeat (first | refine blk_drewN ?_ _ | refine blk_drew ?_ | refine blk_alloc ?_ _)); exact BK288.out⟩, ⟨by repeat (first | (with_reducible first | exact HB.out | apply below_alloc | apply pw_below_drewN | apply below_drew1 | refine below_set ?_ GE288.out) | exact HB.out)⟩⟩
           ·replace c11 := Bool.eq_false_iff.mpr c11
            subst c11
            have H1 : (postbagref4_Join.j2 k2 l0 x3_2 x4_2 x5_2 x6_2 x7_1 x8_2 true ((rd_T28 (rd_L2 l0 x7_1) x8_2).f0) ((rd_T28 (rd_L2 l0 x7_1) x8_2).f1)) = some r := by rw [if_neg (show ¬ (false = true) by decide)] at H; exact H
            clear H
            have H := H1
            clear H1
            have H' := Aside0.mk H
            clear H
            have hcz14_0 : w8.cell? ⟨gb288, 0, none⟩ = some (.int .i64 0) := (blk_cell BK288.out 0).trans rfl
            have hcz14_1 : w8.cell? ⟨gb288, 1, none⟩ = some (.int .i64 0) := (blk_cell BK288.out 1).trans rfl
            have hfz14_0 := blk_frozen BK288.out 0
            have hfz14_1 := blk_frozen BK288.out 1
            go_wp2_with (first | ((with_reducible refine gate_callee (f := 54) rfl ?_); refine goesL_ (some 56) rfl rfl Tryd.func54 (by kernel_rfl) rfl #[.int .i64 ((rd_T28 (rd_L2 l0 x7_1) x8_2).f0)] rfl (by (try simp only [List.map_toArray, List.map_cons, List.map_nil]); first | done | rfl | (simp only [List.length_drop, List.length_take]; rfl)) ?_; (with_reducible refine (postbagref4_sound.calls ((rd_T28 (rd_L2 l0 x7_1) x8_2).f0) false _ A10.out).mono ?_); rintro e w' ⟨rfl, ⟨nd, rfl⟩⟩; refine ⟨_, rfl, ?_⟩))
            go_meet
            case rel => exact ⟨_, (true), (by first | rfl | (simp; done) | (simp [*]; done)), H', ⟨by have := HK1.out; have := HK2.out; first | omega | exact Nat.le_refl _⟩, ⟨by (with_reducible repeat (first | apply Kd.R_alloc | apply Kd.R_drewN | apply Kd.R_drew)); exact Kd.R_mono (Kd.R_far (p := ⟨gb288, 1, none⟩) (Kd.R_far (p := ⟨gb288, 0, none⟩) (Kd.R_mono HO_3.out (fun k_ hk => (⟨hk, hk.2⟩ : _ ∧ k_ ≠ gb288))) (fun _ hk => hk.2) (.int .i64 ((rd_T28 (rd_L2 l0 x7_1) x8_2).f0))) (fun _ hk => hk.2) (.int .i64 ((rd_T28 (rd_L2 l0 x7_1) x8_2).f1))) (fun _ hk => hk.1.2)⟩, ⟨by (with_reducible repeat (first | refine blk_drewN ?_ _ | refine blk_drew ?_ | refine blk_alloc ?_ _)); refine blk_put (cs := #[.int .i64 ((rd_T28 (rd_L2 l0 x7_1) x8_2).f0), .int .i64 0]) ?_ 1 _ rfl; (with_reducible repeat (first | refine blk_drewN ?_ _ | refine blk_drew ?_ | refine blk_alloc ?_ _)); refine blk_put (cs := #[.int .i64 0, .int .i64 0]) ?_ 0 _ rfl; (with_reducible repeat (first | refine blk_drewN ?_ _ | refine blk_drew ?_ | refine blk_alloc ?_ _)); exact BK288.out⟩, ⟨by repeat (first | (with_reducible first | exact HB.out | apply below_alloc | apply pw_below_drewN | apply below_drew1 | refine below_set ?_ GE288.out) | exact HB.out)⟩⟩
          case rest =>
           clear HC7
           try clear c1
           try clear c2
           try clear c2b0
           try clear p2
           try clear q2
           try clear hx2
           try clear c3
           try clear c3b0
           try clear c4
           try clear c4b0
           try clear c5
           try clear c5b0
           try clear c6
           try clear c6b0
           try clear c11
           try clear hcz13_0
           try clear hcz13_1
           try clear hcz14_0
           try clear hcz14_1
           try clear hcz9_0
           try clear hcz9_1
           try clear hfz13_0
           try clear hfz13_1
           try clear hfz14_0
           try clear hfz14_1
           try clear hfz9_0
           try clear hfz9_1
           try clear hx285_0
           try clear hx286_0
           try clear hx287_0
           try clear hx287_1
           try clear p2
           try clear p285
           try clear p286
           try clear p287
           try clear q285
           try clear q286
           try clear q287
           obtain ⟨kq, x53_6, rfl, HA, HJ6, HO_3, BK288, HB⟩ := hcut
           cases kq with
           | zero => exact absurd HA.out (by simp [postbagref4_Join.j2])
           | succ kj6 =>
            have H := HA.out
            clear HA
            simp only [postbagref4_Join.j2] at H
            by_cases c15 : x53_6 = true
            ·subst c15
             have H1 : (postbagref4_Join.l1 kj6 l0 x3_2 x4_2 x5_2 x6_2 x7_1 (wrap64 (x8_2 + 1))) = some r := by rw [if_pos rfl] at H; exact H
             clear H
             have H := H1
             clear H1
             have H' := Aside0.mk H
             clear H
             go_wp2
             go_roundg kj6
             case measure => have := HK1.out; have := HK2.out; have := HJ6.out; omega
             case rel => exact ⟨(x3_2), (x4_2), (x5_2), (x6_2), (wrap64 (x8_2 + 1)), (by first | rfl | (simp; done) | (simp [*]; done)), (by first | rfl | (simp; done) | (simp [*]; done)), (by first | rfl | (simp; done) | (simp [*]; done)), (by first | rfl | (simp; done) | (simp [*]; done)), H', ⟨by have := HK1.out; have := HK2.out; have := HJ6.out; omega⟩, ⟨by (with_reducible repeat (first | apply Kd.R_alloc | apply Kd.R_drewN | apply Kd.R_drew)); exact Kd.R_mono HO_3.out (fun _ hk => trivial)⟩, ⟨by repeat (first | (with_reducible first | exact HB.out | apply below_alloc | apply pw_below_drewN | apply below_drew1 | refine below_set ?_ GE288.out) | exact HB.out)⟩⟩
            ·replace c15 := Bool.eq_false_iff.mpr c15
             subst c15
             have H1 : (if ((rd_T28 (rd_L2 l0 x7_1) x8_2).f0) > 0 then (postbagref4_Join.j3 kj6 l0 x3_2 x4_2 x5_2 x6_2 x7_1 x8_2 (decide (((rd_T28 (rd_L2 l0 x7_1) x8_2).f1) > 0)) ((rd_T28 (rd_L2 l0 x7_1) x8_2).f0) ((rd_T28 (rd_L2 l0 x7_1) x8_2).f1)) else (postbagref4_Join.j3 kj6 l0 x3_2 x4_2 x5_2 x6_2 x7_1 x8_2 false ((rd_T28 (rd_L2 l0 x7_1) x8_2).f0) ((rd_T28 (rd_L2 l0 x7_1) x8_2).f1))) = some r := by rw [if_neg (show ¬ (false = true) by decide)] at H; exact H
             clear H
             have H := H1
             clear H1
             have HC16 := Aside0.mk H
             clear H
             go_upto_region 18 with (fail)
             go_cut [64] (fun v64 wc => ∃ (kq : Nat) (x64_15 : Bool), v64 = .bool x64_15 ∧ Aside0 (postbagref4_Join.j3 kq l0 x3_2 x4_2 x5_2 x6_2 x7_1 x8_2 x64_15 ((rd_T28 (rd_L2 l0 x7_1) x8_2).f0) ((rd_T28 (rd_L2 l0 x7_1) x8_2).f1) = some r) ∧ Aside0 (kq ≤ kj6) ∧ Aside0 (Kd.R k28 28 wc w.heap.size (fun k_ => k_ ≠ gb288) u3 x3_2) ∧ Aside0 (wc.heap[gb288]? = some (.cells #[.int .i64 ((rd_T28 (rd_L2 l0 x7_1) x8_2).f0), .int .i64 ((rd_T28 (rd_L2 l0 x7_1) x8_2).f1)] 28 (0, 0))) ∧ Aside0 (Below w.heap.size w wc))
             case first =>
              have H := HC16.out
              clear HC16
              by_cases c17 : ((rd_T28 (rd_L2 l0 x7_1) x8_2).f0) > 0
              ·rw [if_pos c17] at H
               have c17b0 : decide (0 < ((rd_T28 (rd_L2 l0 x7_1) x8_2).f0)) = true := decide_eq_true c17
               clear c17
               (first | rw [c17b0] | (simp only [i64_w, i32_w]; rw [c17b0]) | skip)
               have H' := Aside0.mk H
               clear H
               have hcz18_0 : wc.cell? ⟨gb288, 0, none⟩ = some (.int .i64 ((rd_T28 (rd_L2 l0 x7_1) x8_2).f0)) := (blk_cell BK288.out 0).trans rfl
               have hcz18_1 : wc.cell? ⟨gb288, 1, none⟩ = some (.int .i64 ((rd_T28 (rd_L2 l0 x7_1) x8_2).f1)) := (blk_cell BK288.out 1).trans rfl
               have hfz18_0 := blk_frozen BK288.out 0
               have hfz18_1 := blk_frozen BK288.out 1
               go_wp2
               go_meet
               case rel => exact ⟨_, (decide (((rd_T28 (rd_L2 l0 x7_1) x8_2).f1) > 0)), (by first | rfl | (simp; done) | (simp [*]; done)), H', ⟨by have := HK1.out; have := HK2.out; have := HJ6.out; first | omega | exact Nat.le_refl _⟩, ⟨by (with_reducible repeat (first | apply Kd.R_alloc | apply Kd.R_drewN | apply Kd.R_drew)); exact HO_3.out⟩, ⟨by (with_reducible repeat (first | refine blk_drewN ?_ _ | refine blk_drew ?_ | refine blk_alloc ?_ _)); exact BK288.out⟩, ⟨by repeat (first | (with_reducible first | exact HB.out | apply below_alloc | apply pw_below_drewN | apply below_drew1 | refine below_set ?_ GE288.out) | exact HB.out)⟩⟩
              ·rw [if_neg c17] at H
               have c17b0 : decide (0 < ((rd_T28 (rd_L2 l0 x7_1) x8_2).f0)) = false := decide_eq_false c17
               clear c17
               (first | rw [c17b0] | (simp only [i64_w, i32_w]; rw [c17b0]) | skip)
               have H' := Aside0.mk H
               clear H
               have hcz19_0 : wc.cell? ⟨gb288, 0, none⟩ = some (.int .i64 ((rd_T28 (rd_L2 l0 x7_1) x8_2).f0)) := (blk_cell BK288.out 0).trans rfl
               have hcz19_1 : wc.cell? ⟨gb288, 1, none⟩ = some (.int .i64 ((rd_T28 (rd_L2 l0 x7_1) x8_2).f1)) := (blk_cell BK288.out 1).trans rfl
               have hfz19_0 := blk_frozen BK288.out 0
               have hfz19_1 := blk_frozen BK288.out 1
               go_wp2
               go_meet
               case rel => exact ⟨_, (false), (by first | rfl | (simp; done) | (simp [*]; done)), H', ⟨by have := HK1.out; have := HK2.out; have := HJ6.out; first | omega | exact Nat.le_refl _⟩, ⟨by (with_reducible repeat (first | apply Kd.R_alloc | apply Kd.R_drewN | apply Kd.R_drew)); exact HO_3.out⟩, ⟨by (with_reducible repeat (first | refine blk_drewN ?_ _ | refine blk_drew ?_ | refine blk_alloc ?_ _)); exact BK288.out⟩, ⟨by repeat (first | (with_reducible first | exact HB.out | apply below_alloc | apply pw_below_drewN | apply below_drew1 | refine below_set ?_ GE288.out) | exact HB.out)⟩⟩
             case rest =>
              clear HC16
              try clear c1
              try clear c2
              try clear c2b0
              try clear p2
              try clear q2
              try clear hx2
              try clear c3
              try clear c3b0
              try clear c4
              try clear c4b0
              try clear c5
              try clear c5b0
              try clear c6
              try clear c6b0
              try clear p6
              try clear c11
              try clear c15
              try clear c17
              try clear c17b0
              try clear hcz13_0
              try clear hcz13_1
              try clear hcz14_0
              try clear hcz14_1
              try clear hcz18_0
              try clear hcz18_1
              try clear hcz19_0
              try clear hcz19_1
              try clear hcz9_0
              try clear hcz9_1
              try clear hfz13_0
              try clear hfz13_1
              try clear hfz14_0
              try clear hfz14_1
              try clear hfz18_0
              try clear hfz18_1
              try clear hfz19_0
              try clear hfz19_1
              try clear hfz9_0
              try clear hfz9_1
              try clear hx285_0
              try clear hx286_0
              try clear hx287_0
              try clear hx287_1
              try clear p2
              try clear p285
              try clear p286
              try clear p287
              try clear q2
              try clear q285
              try clear q286
              try clear q287
              obtain ⟨kq, x64_15, rfl, HA, HJ15, HO_3, BK288, HB⟩ := hcut
              cases kq with
              | zero => exact absurd HA.out (by simp [postbagref4_Join.j3])
              | succ kj15 =>
               have H := HA.out
               clear HA
               simp only [postbagref4_Join.j3] at H
               by_cases c20 : x64_15 = true
               ·subst c20
                have H1 : ((postbagref4_put.f kj15 x3_2 (mn ((rd_T28 (rd_L2 l0 x7_1) x8_2).f0) ((rd_T28 (rd_L2 l0 x7_1) x8_2).f1)) (mx ((rd_T28 (rd_L2 l0 x7_1) x8_2).f0) ((rd_T28 (rd_L2 l0 x7_1) x8_2).f1))).bind fun t291 => (postbagref4_Join.l1 kj15 l0 t291 x4_2 x5_2 x6_2 x7_1 (wrap64 (x8_2 + 1)))) = some r := by rw [if_pos rfl] at H; exact H
                clear H
                have H := H1
                clear H1
                obtain ⟨ji21, hji21⟩ : ∃ j_ : Int, (mn ((rd_T28 (rd_L2 l0 x7_1) x8_2).f0) ((rd_T28 (rd_L2 l0 x7_1) x8_2).f1)) = j_ := ⟨_, rfl⟩
                replace H : ((postbagref4_put.f kj15 x3_2 (ji21) (mx ((rd_T28 (rd_L2 l0 x7_1) x8_2).f0) ((rd_T28 (rd_L2 l0 x7_1) x8_2).f1))).bind fun t291 => (postbagref4_Join.l1 kj15 l0 t291 x4_2 x5_2 x6_2 x7_1 (wrap64 (x8_2 + 1)))) = some r := by first | (rw [hji21] at H; exact H) | (simp only [hji21] at H ⊢; exact H)
                have hji21_ : (if ((rd_T28 (rd_L2 l0 x7_1) x8_2).f1) < ((rd_T28 (rd_L2 l0 x7_1) x8_2).f0) then ((rd_T28 (rd_L2 l0 x7_1) x8_2).f1) else ((rd_T28 (rd_L2 l0 x7_1) x8_2).f0)) = ji21 := hji21
                obtain ⟨ji22, hji22⟩ : ∃ j_ : Int, (mx ((rd_T28 (rd_L2 l0 x7_1) x8_2).f0) ((rd_T28 (rd_L2 l0 x7_1) x8_2).f1)) = j_ := ⟨_, rfl⟩
                replace H : ((postbagref4_put.f kj15 x3_2 (ji21) (ji22)).bind fun t291 => (postbagref4_Join.l1 kj15 l0 t291 x4_2 x5_2 x6_2 x7_1 (wrap64 (x8_2 + 1)))) = some r := by first | (rw [hji22] at H; exact H) | (simp only [hji22] at H ⊢; exact H)
                have hji22_ : (if ((rd_T28 (rd_L2 l0 x7_1) x8_2).f0) < ((rd_T28 (rd_L2 l0 x7_1) x8_2).f1) then ((rd_T28 (rd_L2 l0 x7_1) x8_2).f1) else ((rd_T28 (rd_L2 l0 x7_1) x8_2).f0)) = ji22 := hji22
                replace H := Option.bind_eq_some_iff.mp H
                obtain ⟨t291, A230, H⟩ := H
                replace H : (postbagref4_Join.l1 kj15 l0 t291 x4_2 x5_2 x6_2 x7_1 (wrap64 (x8_2 + 1))) = some r := H
                have A23 := Aside0.mk A230
                clear A230
                have H' := Aside0.mk H
                clear H
                have hcz24_0 : wc.cell? ⟨gb288, 0, none⟩ = some (.int .i64 ((rd_T28 (rd_L2 l0 x7_1) x8_2).f0)) := (blk_cell BK288.out 0).trans rfl
                have hcz24_1 : wc.cell? ⟨gb288, 1, none⟩ = some (.int .i64 ((rd_T28 (rd_L2 l0 x7_1) x8_2).f1)) := (blk_cell BK288.out 1).trans rfl
                have hfz24_0 := blk_frozen BK288.out 0
                have hfz24_1 := blk_frozen BK288.out 1
                obtain ⟨Ao25, co25, eo25⟩ := Kd.R_slice HO_3.out
                subst eo25
                go_wp2_with (first | ((with_reducible refine gate_callee (f := 53) rfl ?_); refine goesL_ (some 84) rfl rfl Tryd.func53 (by kernel_rfl) rfl #[.slice Ao25 x3_2.length co25, .int .i64 ji21, .int .i64 ji22] rfl (by (try simp only [List.map_toArray, List.map_cons, List.map_nil]); first | done | (simp only [hji21, hji22]; rfl) | rfl | (simp only [List.length_drop, List.length_take]; rfl)) ?_; (with_reducible refine (postbagref4_put.calls kj15 _ _ x3_2 ji21 ji22 t291 _ ?side1 ?side2 A23.out).mono ?_); (case side1 => repeat (first | exact (Kd.R_reads' HO_3.out).2.2 | (with_reducible refine Kd.C_alloc ?_ _) | (with_reducible refine Kd.C_drewN ?_ _) | (with_reducible refine Kd.C_drew ?_))); (case side2 => exact (Kd.R_reads' HO_3.out).2.1); rintro e w26 ⟨v292, rfl, ho0, hb⟩; refine ⟨_, rfl, ?_⟩; have n0_ := Aside0.mk (Kd.R_elder' (by (with_reducible repeat (first | apply Kd.R_alloc | apply Kd.R_drewN | apply Kd.R_drew)); exact HO_3.out) (Kd.R_base ho0) hb); have n1_ := Aside0.mk (Kd.R_lower (Kd.R_newB (Kd.R_new' ho0 (Kd.R_lt (by (with_reducible repeat (first | apply Kd.R_alloc | apply Kd.R_drewN | apply Kd.R_drew)); exact HO_3.out))) (g := gb288) (o := .cells #[.int .i64 ((rd_T28 (rd_L2 l0 x7_1) x8_2).f0), .int .i64 ((rd_T28 (rd_L2 l0 x7_1) x8_2).f1)] 28 (0, 0)) (by (with_reducible repeat (first | refine blk_drewN ?_ _ | refine blk_drew ?_ | refine blk_alloc ?_ _)); exact BK288.out)) (below_size (by repeat (first | (with_reducible first | exact HB.out | apply below_alloc | apply pw_below_drewN | apply below_drew1 | refine below_set ?_ GE288.out) | exact HB.out)))); have n2_ := Aside0.mk (blk_below (g := gb288) (o := .cells #[.int .i64 ((rd_T28 (rd_L2 l0 x7_1) x8_2).f0), .int .i64 ((rd_T28 (rd_L2 l0 x7_1) x8_2).f1)] 28 (0, 0)) (by (with_reducible repeat (first | refine blk_drewN ?_ _ | refine blk_drew ?_ | refine blk_alloc ?_ _)); exact BK288.out) hb); have n3_ := Aside0.mk (below_step (by repeat (first | (with_reducible first | exact HB.out | apply below_alloc | apply pw_below_drewN | apply below_drew1 | refine below_set ?_ GE288.out) | exact HB.out)) hb); clear HO_3; clear BK288; clear HB; have HO_3 := n0_; have HO293 := n1_; have BK288 := n2_; have HB := n3_; clear n0_ n1_ n2_ n3_; (try clear hb); (try clear hb2); (try clear hk); (try clear hi); (try clear ho0)))
                go_roundg kj15
                case measure => have := HK1.out; have := HK2.out; have := HJ6.out; have := HJ15.out; omega
                case rel => exact ⟨(t291), (x4_2), (x5_2), (x6_2), (wrap64 (x8_2 + 1)), (by first | rfl | (simp; done) | (simp [*]; done)), (by first | rfl | (simp; done) | (simp [*]; done)), (by first | rfl | (simp; done) | (simp [*]; done)), (by first | rfl | (simp; done) | (simp [*]; done)), H', ⟨by have := HK1.out; have := HK2.out; have := HJ6.out; have := HJ15.out; omega⟩, ⟨by (with_reducible repeat (first | apply Kd.R_alloc | apply Kd.R_drewN | apply Kd.R_drew)); exact Kd.R_mono HO293.out (fun _ hk => trivial)⟩, ⟨by repeat (first | (with_reducible first | exact HB.out | apply below_alloc | apply pw_below_drewN | apply below_drew1 | refine below_set ?_ GE288.out) | exact HB.out)⟩⟩
               ·replace c20 := Bool.eq_false_iff.mpr c20
                subst c20
                have H1 : (if (mx ((rd_T28 (rd_L2 l0 x7_1) x8_2).f0) ((rd_T28 (rd_L2 l0 x7_1) x8_2).f1)) > 0 then (if x4_2 = 0 then (postbagref4_Join.l1 kj15 l0 x3_2 (mx ((rd_T28 (rd_L2 l0 x7_1) x8_2).f0) ((rd_T28 (rd_L2 l0 x7_1) x8_2).f1)) (mx x5_2 (mx ((rd_T28 (rd_L2 l0 x7_1) x8_2).f0) ((rd_T28 (rd_L2 l0 x7_1) x8_2).f1))) true x7_1 (wrap64 (x8_2 + 1))) else (if (mx ((rd_T28 (rd_L2 l0 x7_1) x8_2).f0) ((rd_T28 (rd_L2 l0 x7_1) x8_2).f1)) < x4_2 then (postbagref4_Join.l1 kj15 l0 x3_2 (mx ((rd_T28 (rd_L2 l0 x7_1) x8_2).f0) ((rd_T28 (rd_L2 l0 x7_1) x8_2).f1)) (mx x5_2 (mx ((rd_T28 (rd_L2 l0 x7_1) x8_2).f0) ((rd_T28 (rd_L2 l0 x7_1) x8_2).f1))) true x7_1 (wrap64 (x8_2 + 1))) else (postbagref4_Join.l1 kj15 l0 x3_2 x4_2 (mx x5_2 (mx ((rd_T28 (rd_L2 l0 x7_1) x8_2).f0) ((rd_T28 (rd_L2 l0 x7_1) x8_2).f1))) true x7_1 (wrap64 (x8_2 + 1))))) else (postbagref4_Join.l1 kj15 l0 x3_2 x4_2 (mx x5_2 (mx ((rd_T28 (rd_L2 l0 x7_1) x8_2).f0) ((rd_T28 (rd_L2 l0 x7_1) x8_2).f1))) true x7_1 (wrap64 (x8_2 + 1)))) = some r := by rw [if_neg (show ¬ (false = true) by decide)] at H; exact H
                clear H
                have H := H1
                clear H1
                obtain ⟨ji27, hji27⟩ : ∃ j_ : Int, (mx ((rd_T28 (rd_L2 l0 x7_1) x8_2).f0) ((rd_T28 (rd_L2 l0 x7_1) x8_2).f1)) = j_ := ⟨_, rfl⟩
                replace H : (if (ji27) > 0 then (if x4_2 = 0 then (postbagref4_Join.l1 kj15 l0 x3_2 ji27 (mx x5_2 (ji27)) true x7_1 (wrap64 (x8_2 + 1))) else (if (ji27) < x4_2 then (postbagref4_Join.l1 kj15 l0 x3_2 ji27 (mx x5_2 (ji27)) true x7_1 (wrap64 (x8_2 + 1))) else (postbagref4_Join.l1 kj15 l0 x3_2 x4_2 (mx x5_2 (ji27)) true x7_1 (wrap64 (x8_2 + 1))))) else (postbagref4_Join.l1 kj15 l0 x3_2 x4_2 (mx x5_2 (ji27)) true x7_1 (wrap64 (x8_2 + 1)))) = some r := by first | (rw [hji27] at H; exact H) | (simp only [hji27] at H ⊢; exact H)
                have hji27_ : (if ((rd_T28 (rd_L2 l0 x7_1) x8_2).f0) < ((rd_T28 (rd_L2 l0 x7_1) x8_2).f1) then ((rd_T28 (rd_L2 l0 x7_1) x8_2).f1) else ((rd_T28 (rd_L2 l0 x7_1) x8_2).f0)) = ji27 := hji27
                by_cases c28 : (ji27) > 0
                ·rw [if_pos c28] at H
                 have c28b0 : decide (0 < (ji27)) = true := decide_eq_true c28
                 clear c28
                 by_cases c29 : x4_2 = 0
                 ·rw [if_pos c29] at H
                  have c29b0 : (x4_2 == 0) = true := beq_iff_eq.mpr c29
                  have c29b1 : (x4_2 != 0) = false := bne_eq_false_iff_eq.mpr c29
                  clear c29
                  obtain ⟨ji30, hji30⟩ : ∃ j_ : Int, (mx x5_2 (ji27)) = j_ := ⟨_, rfl⟩
                  replace H : (postbagref4_Join.l1 kj15 l0 x3_2 ji27 ji30 true x7_1 (wrap64 (x8_2 + 1))) = some r := by first | (rw [hji30] at H; exact H) | (simp only [hji30] at H ⊢; exact H)
                  have hji30_ : (if x5_2 < (ji27) then (ji27) else x5_2) = ji30 := hji30
                  have H' := Aside0.mk H
                  clear H
                  have hcz31_0 : wc.cell? ⟨gb288, 0, none⟩ = some (.int .i64 ((rd_T28 (rd_L2 l0 x7_1) x8_2).f0)) := (blk_cell BK288.out 0).trans rfl
                  have hcz31_1 : wc.cell? ⟨gb288, 1, none⟩ = some (.int .i64 ((rd_T28 (rd_L2 l0 x7_1) x8_2).f1)) := (blk_cell BK288.out 1).trans rfl
                  have hfz31_0 := blk_frozen BK288.out 0
                  have hfz31_1 := blk_frozen BK288.out 1
                  go_wp2
                  go_roundg kj15
                  case measure => have := HK1.out; have := HK2.out; have := HJ6.out; have := HJ15.out; omega
                  case rel => exact ⟨(x3_2), (ji27), (ji30), (true), (wrap64 (x8_2 + 1)), (by first | rfl | (simp; done) | (simp only [← hji27] <;> (first | rfl | simp)) | (simp [*]; done)), (by first | rfl | (simp; done) | (simp only [← hji30] <;> (first | rfl | simp)) | (simp [*]; done)), (by first | rfl | (simp; done) | (simp [*]; done)), (by first | rfl | (simp; done) | (simp [*]; done)), H', ⟨by have := HK1.out; have := HK2.out; have := HJ6.out; have := HJ15.out; omega⟩, ⟨by (with_reducible repeat (first | apply Kd.R_alloc | apply Kd.R_drewN | apply Kd.R_drew)); exact Kd.R_mono HO_3.out (fun _ hk => trivial)⟩, ⟨by repeat (first | (with_reducible first | exact HB.out | apply below_alloc | apply pw_below_drewN | apply below_drew1 | refine below_set ?_ GE288.out) | exact HB.out)⟩⟩
                 ·rw [if_neg c29] at H
                  have c29b0 : (x4_2 == 0) = false := beq_eq_false_iff_ne.mpr c29
                  have c29b1 : (x4_2 != 0) = true := bne_iff_ne.mpr c29
                  by_cases c32 : (ji27) < x4_2
                  ·rw [if_pos c32] at H
                   have c32b0 : decide ((ji27) < x4_2) = true := decide_eq_true c32
                   clear c32
                   obtain ⟨ji33, hji33⟩ : ∃ j_ : Int, (mx x5_2 (ji27)) = j_ := ⟨_, rfl⟩
                   replace H : (postbagref4_Join.l1 kj15 l0 x3_2 ji27 ji33 true x7_1 (wrap64 (x8_2 + 1))) = some r := by first | (rw [hji33] at H; exact H) | (simp only [hji33] at H ⊢; exact H)
                   have hji33_ : (if x5_2 < (ji27) then (ji27) else x5_2) = ji33 := hji33
                   have H' := Aside0.mk H
                   clear H
                   have hcz34_0 : wc.cell? ⟨gb288, 0, none⟩ = some (.int .i64 ((rd_T28 (rd_L2 l0 x7_1) x8_2).f0)) := (blk_cell BK288.out 0).trans rfl
                   have hcz34_1 : wc.cell? ⟨gb288, 1, none⟩ = some (.int .i64 ((rd_T28 (rd_L2 l0 x7_1) x8_2).f1)) := (blk_cell BK288.out 1).trans rfl
                   have hfz34_0 := blk_frozen BK288.out 0
                   have hfz34_1 := blk_frozen BK288.out 1
                   go_wp2
                   go_roundg kj15
                   case measure => have := HK1.out; have := HK2.out; have := HJ6.out; have := HJ15.out; omega
                   case rel => exact ⟨(x3_2), (ji27), (ji33), (true), (wrap64 (x8_2 + 1)), (by first | rfl | (simp; done) | (simp only [← hji27] <;> (first | rfl | simp)) | (simp [*]; done)), (by first | rfl | (simp; done) | (simp only [← hji33] <;> (first | rfl | simp)) | (simp [*]; done)), (by first | rfl | (simp; done) | (simp [*]; done)), (by first | rfl | (simp; done) | (simp [*]; done)), H', ⟨by have := HK1.out; have := HK2.out; have := HJ6.out; have := HJ15.out; omega⟩, ⟨by (with_reducible repeat (first | apply Kd.R_alloc | apply Kd.R_drewN | apply Kd.R_drew)); exact Kd.R_mono HO_3.out (fun _ hk => trivial)⟩, ⟨by repeat (first | (with_reducible first | exact HB.out | apply below_alloc | apply pw_below_drewN | apply below_drew1 | refine below_set ?_ GE288.out) | exact HB.out)⟩⟩
                  ·rw [if_neg c32] at H
                   have c32b0 : decide ((ji27) < x4_2) = false := decide_eq_false c32
                   clear c32
                   obtain ⟨ji35, hji35⟩ : ∃ j_ : Int, (mx x5_2 (ji27)) = j_ := ⟨_, rfl⟩
                   replace H : (postbagref4_Join.l1 kj15 l0 x3_2 x4_2 ji35 true x7_1 (wrap64 (x8_2 + 1))) = some r := by first | (rw [hji35] at H; exact H) | (simp only [hji35] at H ⊢; exact H)
                   have hji35_ : (if x5_2 < (ji27) then (ji27) else x5_2) = ji35 := hji35
                   have H' := Aside0.mk H
                   clear H
                   have hcz36_0 : wc.cell? ⟨gb288, 0, none⟩ = some (.int .i64 ((rd_T28 (rd_L2 l0 x7_1) x8_2).f0)) := (blk_cell BK288.out 0).trans rfl
                   have hcz36_1 : wc.cell? ⟨gb288, 1, none⟩ = some (.int .i64 ((rd_T28 (rd_L2 l0 x7_1) x8_2).f1)) := (blk_cell BK288.out 1).trans rfl
                   have hfz36_0 := blk_frozen BK288.out 0
                   have hfz36_1 := blk_frozen BK288.out 1
                   go_wp2
                   go_roundg kj15
                   case measure => have := HK1.out; have := HK2.out; have := HJ6.out; have := HJ15.out; omega
                   case rel => exact ⟨(x3_2), (x4_2), (ji35), (true), (wrap64 (x8_2 + 1)), (by first | rfl | (simp; done) | (simp [*]; done)), (by first | rfl | (simp; done) | (simp only [← hji35] <;> (first | rfl | simp)) | (simp [*]; done)), (by first | rfl | (simp; done) | (simp [*]; done)), (by first | rfl | (simp; done) | (simp [*]; done)), H', ⟨by have := HK1.out; have := HK2.out; have := HJ6.out; have := HJ15.out; omega⟩, ⟨by (with_reducible repeat (first | apply Kd.R_alloc | apply Kd.R_drewN | apply Kd.R_drew)); exact Kd.R_mono HO_3.out (fun _ hk => trivial)⟩, ⟨by repeat (first | (with_reducible first | exact HB.out | apply below_alloc | apply pw_below_drewN | apply below_drew1 | refine below_set ?_ GE288.out) | exact HB.out)⟩⟩
                ·rw [if_neg c28] at H
                 have c28b0 : decide (0 < (ji27)) = false := decide_eq_false c28
                 clear c28
                 obtain ⟨ji37, hji37⟩ : ∃ j_ : Int, (mx x5_2 (ji27)) = j_ := ⟨_, rfl⟩
                 replace H : (postbagref4_Join.l1 kj15 l0 x3_2 x4_2 ji37 true x7_1 (wrap64 (x8_2 + 1))) = some r := by first | (rw [hji37] at H; exact H) | (simp only [hji37] at H ⊢; exact H)
                 have hji37_ : (if x5_2 < (ji27) then (ji27) else x5_2) = ji37 := hji37
                 have H' := Aside0.mk H
                 clear H
                 have hcz38_0 : wc.cell? ⟨gb288, 0, none⟩ = some (.int .i64 ((rd_T28 (rd_L2 l0 x7_1) x8_2).f0)) := (blk_cell BK288.out 0).trans rfl
                 have hcz38_1 : wc.cell? ⟨gb288, 1, none⟩ = some (.int .i64 ((rd_T28 (rd_L2 l0 x7_1) x8_2).f1)) := (blk_cell BK288.out 1).trans rfl
                 have hfz38_0 := blk_frozen BK288.out 0
                 have hfz38_1 := blk_frozen BK288.out 1
                 go_wp2
                 go_roundg kj15
                 case measure => have := HK1.out; have := HK2.out; have := HJ6.out; have := HJ15.out; omega
                 case rel => exact ⟨(x3_2), (x4_2), (ji37), (true), (wrap64 (x8_2 + 1)), (by first | rfl | (simp; done) | (simp [*]; done)), (by first | rfl | (simp; done) | (simp only [← hji37] <;> (first | rfl | simp)) | (simp [*]; done)), (by first | rfl | (simp; done) | (simp [*]; done)), (by first | rfl | (simp; done) | (simp [*]; done)), H', ⟨by have := HK1.out; have := HK2.out; have := HJ6.out; have := HJ15.out; omega⟩, ⟨by (with_reducible repeat (first | apply Kd.R_alloc | apply Kd.R_drewN | apply Kd.R_drew)); exact Kd.R_mono HO_3.out (fun _ hk => trivial)⟩, ⟨by repeat (first | (with_reducible first | exact HB.out | apply below_alloc | apply pw_below_drewN | apply below_drew1 | refine below_set ?_ GE288.out) | exact HB.out)⟩⟩
         ·rw [if_neg c6] at H
          exact absurd H (by simp)
        ·rw [if_neg c5] at H
         have c5b0 : decide (x8_2 < ((rd_L2 l0 x7_1).length : Int)) = false := decide_eq_false c5
         clear c5
         have H' := Aside0.mk H
         clear H
         have p285 : 0 ≤ (x7_1 : Int) := of_decide_eq_true (by first | (with_reducible assumption) | assumption)
         have q285 : x7_1 < (l0.length : Int) := of_decide_eq_true (by first | (with_reducible assumption) | assumption)
         obtain ⟨ad285, A285_0, c285_0, e285, hx285_0, hl285_0, hi285_0⟩ := at_L2 HR0.out x7_1 p285 q285
         cases e285
         replace hx285_0 := (HB.out.cell (World.block_lt_of_cell? w _ hx285_0)).trans hx285_0
         have HR285_0 := Aside0.mk hi285_0
         have HC285_0 := Aside0.mk hl285_0
         clear hi285_0 hl285_0
         replace p285 := eq_true p285
         replace q285 := eq_true q285
         go_wp2
         go_roundg k2
         case measure => have := HK1.out; have := HK2.out; omega
         case rel => exact ⟨(x3_2), (x4_2), (x5_2), (x6_2), (wrap64 (x7_1 + 1)), (by first | rfl | (simp; done) | (simp [*]; done)), (by first | rfl | (simp; done) | (simp [*]; done)), (by first | rfl | (simp; done) | (simp [*]; done)), (by first | rfl | (simp; done) | (simp [*]; done)), H', ⟨by have := HK1.out; have := HK2.out; omega⟩, ⟨by (with_reducible repeat (first | apply Kd.R_alloc | apply Kd.R_drewN | apply Kd.R_drew)); exact HO_3.out⟩, ⟨by repeat (first | (with_reducible first | exact HB.out | apply below_alloc | apply pw_below_drewN | apply below_drew1) | exact HB.out)⟩⟩
       ·rw [if_neg c4] at H
        exact absurd H (by simp)
      ·rw [if_neg c3] at H
       exact absurd H (by simp)
   ·rw [if_neg c2] at H
    have c2b0 : decide (x7_1 < (l0.length : Int)) = false := decide_eq_false c2
    clear c2
    by_cases c39 : x4_1 < x5_1
    ·rw [if_pos c39] at H
     have c39b0 : decide (x4_1 < x5_1) = true := decide_eq_true c39
     clear c39
     replace H := Option.bind_eq_some_iff.mp H
     obtain ⟨t294, A400, H⟩ := H
     replace H : (if x6_1 = true then (if t294.length < 8796093022208 then (some (t294 ++ [(⟨x4_1, 0⟩ : S28)])) else (none)) else (some t294)) = some r := H
     have A40 := Aside0.mk A400
     clear A400
     by_cases c41 : x6_1 = true
     ·subst c41
      have H1 : (if t294.length < 8796093022208 then (some (t294 ++ [(⟨x4_1, 0⟩ : S28)])) else (none)) = some r := by rw [if_pos rfl] at H; exact H
      clear H
      have H := H1
      clear H1
      by_cases c42 : t294.length < 8796093022208
      ·rw [if_pos c42] at H
       have LMc42 := Aside0.mk c42
       clear c42
       obtain ⟨y297, hy297⟩ : ∃ y_ : List (S28), y_ = (t294 ++ [(⟨x4_1, 0⟩ : S28)]) := ⟨_, rfl⟩
       replace H : (some y297) = some r := by first | (rw [hy297]; with_reducible exact H) | (have H2_ := (Option.bind_some _ _).symm.trans H; rw [hy297]; with_reducible exact H2_) | (have H2_ := (Option.bind_some _ _).symm.trans H; with_reducible exact H2_) | with_reducible exact H | (rw [hy297]; exact H) | exact H
       have Ny297 := Aside0.mk hy297
       clear hy297
       obtain rfl := Option.some.inj H
       obtain ⟨Ao43, co43, eo43⟩ := Kd.R_slice HO_3.out
       subst eo43
       go_wp2_with (first | ((with_reducible refine gate_callee (f := 53) rfl ?_); refine goesL_ (some 91) rfl rfl Tryd.func53 (by kernel_rfl) rfl #[.slice Ao43 x3_1.length co43, .int .i64 x4_1, .int .i64 x5_1] rfl (by (try simp only [List.map_toArray, List.map_cons, List.map_nil]); first | done | rfl | (simp only [List.length_drop, List.length_take]; rfl)) ?_; (with_reducible refine (postbagref4_put.calls k1 _ _ x3_1 x4_1 x5_1 t294 _ ?side1 ?side2 A40.out).mono ?_); (case side1 => repeat (first | exact (Kd.R_reads' HO_3.out).2.2 | (with_reducible refine Kd.C_alloc ?_ _) | (with_reducible refine Kd.C_drewN ?_ _) | (with_reducible refine Kd.C_drew ?_))); (case side2 => exact (Kd.R_reads' HO_3.out).2.1); rintro e w44 ⟨v295, rfl, ho0, hb⟩; refine ⟨_, rfl, ?_⟩; have n0_ := Aside0.mk (Kd.R_elder' (by (with_reducible repeat (first | apply Kd.R_alloc | apply Kd.R_drewN | apply Kd.R_drew)); exact HO_3.out) (Kd.R_base ho0) hb); have n1_ := Aside0.mk (Kd.R_lower (Kd.R_new' ho0 (Kd.R_lt (by (with_reducible repeat (first | apply Kd.R_alloc | apply Kd.R_drewN | apply Kd.R_drew)); exact HO_3.out))) (below_size (by repeat (first | (with_reducible first | exact HB.out | apply below_alloc | apply pw_below_drewN | apply below_drew1) | exact HB.out)))); have n2_ := Aside0.mk (below_step (by repeat (first | (with_reducible first | exact HB.out | apply below_alloc | apply pw_below_drewN | apply below_drew1) | exact HB.out)) hb); clear HO_3; clear HB; have HO_3 := n0_; have HO296 := n1_; have HB := n2_; clear n0_ n1_ n2_; (try clear hb); (try clear hb2); (try clear hk); (try clear hi); (try clear ho0)) | ((with_reducible refine gate_builtin (b := .append) (xs := #[.tmp 93, .tmp 96]) rfl ?_); at_builtin; refine Kd.R_append k28 (w0 := w) w.heap.size rfl (.tmp 93) (.tmp 96) 23 28 (.agg #[(.int .i64 0), (.int .i64 0)]) 16 rfl Tryd.underlying23 info28 rfl (by decide) (by omega) v295 t294 (⟨x4_1, 0⟩ : S28) [.int .i64 x4_1, .int .i64 0] (fun k_ => some k_ ≠ (.slice Ao43 x3_1.length co43 : Value).ownBlock) (fun _ => False) rfl rfl ?aP (fun _ hk => hk.elim) ?aF ?aO ?aB ?aS ?aL ?_; (case aP => exact k28_mkM _ _ _ (⟨x4_1, 0⟩ : S28)); (case aB => exact (by repeat (first | (with_reducible first | exact HB.out | apply below_alloc | apply pw_below_drewN | apply below_drew1) | exact HB.out))); (case aF => exact (fun k_ hk => Kd.fresh' (Kd.R_lt (by (with_reducible repeat (first | apply Kd.R_alloc | apply Kd.R_drewN | apply Kd.R_drew)); exact HO_3.out)) k_ hk)); (case aO => exact (by (with_reducible repeat (first | apply Kd.R_alloc | apply Kd.R_drewN | apply Kd.R_drew)); exact Kd.R_mono HO296.out (fun _ hk => hk.2))); (case aS => exact (below_size (by repeat (first | (with_reducible first | exact HB.out | apply below_alloc | apply pw_below_drewN | apply below_drew1) | exact HB.out)))); (case aL => have := LMc42.out; omega); intro v298 w45 ho hb hg hat; rw [← Ny297.out] at ho; have n0_ := Aside0.mk (Kd.R_after (ok := (fun _ => True)) (by (with_reducible repeat (first | apply Kd.R_alloc | apply Kd.R_drewN | apply Kd.R_drew)); exact HO_3.out) hg hat); have n1_ := Aside0.mk (hb); have n2_ := Aside0.mk (ho); clear HO_3; clear HB; clear HO296; have HO_3 := n0_; have HB := n1_; have HO299 := n2_; clear n0_ n1_ n2_; clear ho hb hg hat))
       go_ret
       exact ⟨_, by first | rfl | (simp [errW_none, errW_some] <;> rfl) | (simp [*, errW_none, errW_some] <;> rfl), by (with_reducible repeat (first | apply Kd.R_alloc | apply Kd.R_drewN | apply Kd.R_drew)); exact Kd.R_mono HO299.out (fun _ hk => trivial), by repeat (first | (with_reducible first | exact HB.out | apply below_alloc | apply pw_below_drewN | apply below_drew1) | exact HB.out)⟩
      ·rw [if_neg c42] at H
       exact absurd H (by simp)
     ·replace c41 := Bool.eq_false_iff.mpr c41
      subst c41
      have H1 : (some t294) = some r := by rw [if_neg (show ¬ (false = true) by decide)] at H; exact H
      clear H
      have H := H1
      clear H1
      obtain rfl := Option.some.inj H
      obtain ⟨Ao46, co46, eo46⟩ := Kd.R_slice HO_3.out
      subst eo46
      go_wp2_with (first | ((with_reducible refine gate_callee (f := 53) rfl ?_); refine goesL_ (some 91) rfl rfl Tryd.func53 (by kernel_rfl) rfl #[.slice Ao46 x3_1.length co46, .int .i64 x4_1, .int .i64 x5_1] rfl (by (try simp only [List.map_toArray, List.map_cons, List.map_nil]); first | done | rfl | (simp only [List.length_drop, List.length_take]; rfl)) ?_; (with_reducible refine (postbagref4_put.calls k1 _ _ x3_1 x4_1 x5_1 t294 _ ?side1 ?side2 A40.out).mono ?_); (case side1 => repeat (first | exact (Kd.R_reads' HO_3.out).2.2 | (with_reducible refine Kd.C_alloc ?_ _) | (with_reducible refine Kd.C_drewN ?_ _) | (with_reducible refine Kd.C_drew ?_))); (case side2 => exact (Kd.R_reads' HO_3.out).2.1); rintro e w47 ⟨v295, rfl, ho0, hb⟩; refine ⟨_, rfl, ?_⟩; have n0_ := Aside0.mk (Kd.R_elder' (by (with_reducible repeat (first | apply Kd.R_alloc | apply Kd.R_drewN | apply Kd.R_drew)); exact HO_3.out) (Kd.R_base ho0) hb); have n1_ := Aside0.mk (Kd.R_lower (Kd.R_new' ho0 (Kd.R_lt (by (with_reducible repeat (first | apply Kd.R_alloc | apply Kd.R_drewN | apply Kd.R_drew)); exact HO_3.out))) (below_size (by repeat (first | (with_reducible first | exact HB.out | apply below_alloc | apply pw_below_drewN | apply below_drew1) | exact HB.out)))); have n2_ := Aside0.mk (below_step (by repeat (first | (with_reducible first | exact HB.out | apply below_alloc | apply pw_below_drewN | apply below_drew1) | exact HB.out)) hb); clear HO_3; clear HB; have HO_3 := n0_; have HO296 := n1_; have HB := n2_; clear n0_ n1_ n2_; (try clear hb); (try clear hb2); (try clear hk); (try clear hi); (try clear ho0)))
      go_ret
      exact ⟨_, by first | rfl | (simp [errW_none, errW_some] <;> rfl) | (simp [*, errW_none, errW_some] <;> rfl), by (with_reducible repeat (first | apply Kd.R_alloc | apply Kd.R_drewN | apply Kd.R_drew)); exact Kd.R_mono HO296.out (fun _ hk => trivial), by repeat (first | (with_reducible first | exact HB.out | apply below_alloc | apply pw_below_drewN | apply below_drew1) | exact HB.out)⟩
    ·rw [if_neg c39] at H
     have c39b0 : decide (x4_1 < x5_1) = false := decide_eq_false c39
     clear c39
     by_cases c48 : x6_1 = true
     ·subst c48
      have H1 : (if x3_1.length < 8796093022208 then (some (x3_1 ++ [(⟨x4_1, 0⟩ : S28)])) else (none)) = some r := by rw [if_pos rfl] at H; exact H
      clear H
      have H := H1
      clear H1
      by_cases c49 : x3_1.length < 8796093022208
      ·rw [if_pos c49] at H
       have LMc49 := Aside0.mk c49
       clear c49
       obtain ⟨y300, hy300⟩ : ∃ y_ : List (S28), y_ = (x3_1 ++ [(⟨x4_1, 0⟩ : S28)]) := ⟨_, rfl⟩
       replace H : (some y300) = some r := by first | (rw [hy300]; with_reducible exact H) | (have H2_ := (Option.bind_some _ _).symm.trans H; rw [hy300]; with_reducible exact H2_) | (have H2_ := (Option.bind_some _ _).symm.trans H; with_reducible exact H2_) | with_reducible exact H | (rw [hy300]; exact H) | exact H
       have Ny300 := Aside0.mk hy300
       clear hy300
       obtain rfl := Option.some.inj H
       go_wp2_with (first | ((with_reducible refine gate_builtin (b := .append) (xs := #[.tmp 93, .tmp 96]) rfl ?_); at_builtin; refine Kd.R_append k28 (w0 := w) w.heap.size rfl (.tmp 93) (.tmp 96) 23 28 (.agg #[(.int .i64 0), (.int .i64 0)]) 16 rfl Tryd.underlying23 info28 rfl (by decide) (by omega) u3 x3_1 (⟨x4_1, 0⟩ : S28) [.int .i64 x4_1, .int .i64 0] (fun _ => True) (fun _ => False) rfl rfl ?aP (fun _ hk => hk.elim) ?aF ?aO ?aB ?aS ?aL ?_; (case aP => exact k28_mkM _ _ _ (⟨x4_1, 0⟩ : S28)); (case aB => exact (by repeat (first | (with_reducible first | exact HB.out | apply below_alloc | apply pw_below_drewN | apply below_drew1) | exact HB.out))); (case aF => exact (fun _ _ => trivial)); (case aO => exact (by (with_reducible repeat (first | apply Kd.R_alloc | apply Kd.R_drewN | apply Kd.R_drew)); exact HO_3.out)); (case aS => exact (below_size (by repeat (first | (with_reducible first | exact HB.out | apply below_alloc | apply pw_below_drewN | apply below_drew1) | exact HB.out)))); (case aL => have := LMc49.out; omega); intro v301 w50 ho hb hg hat; rw [← Ny300.out] at ho; have n0_ := Aside0.mk (hb); have n1_ := Aside0.mk (ho); clear HB; clear HO_3; have HB := n0_; have HO302 := n1_; clear n0_ n1_; clear ho hb hg hat))
       go_ret
       exact ⟨_, by first | rfl | (simp [errW_none, errW_some] <;> rfl) | (simp [*, errW_none, errW_some] <;> rfl), by (with_reducible repeat (first | apply Kd.R_alloc | apply Kd.R_drewN | apply Kd.R_drew)); exact HO302.out, by repeat (first | (with_reducible first | exact HB.out | apply below_alloc | apply pw_below_drewN | apply below_drew1) | exact HB.out)⟩
      ·rw [if_neg c49] at H
       exact absurd H (by simp)
     ·replace c48 := Bool.eq_false_iff.mpr c48
      subst c48
      have H1 : (some x3_1) = some r := by rw [if_neg (show ¬ (false = true) by decide)] at H; exact H
      clear H
      have H := H1
      clear H1
      obtain rfl := Option.some.inj H
      go_wp2
      go_ret
      exact ⟨_, by first | rfl | (simp [errW_none, errW_some] <;> rfl) | (simp [*, errW_none, errW_some] <;> rfl), by (with_reducible repeat (first | apply Kd.R_alloc | apply Kd.R_drewN | apply Kd.R_drew)); exact HO_3.out, by repeat (first | (with_reducible first | exact HB.out | apply below_alloc | apply pw_below_drewN | apply below_drew1) | exact HB.out)⟩
end Go.Proofs.YtidcchopmbodkaaDoor.Sp
end
section
namespace Go.Proofs.YtidcchopmbodkaaDoor.Sp
open Go.RowKit Go.Proofs.YtidcchopmbodkaaDoorW.PrintWords Go.Proofs.YtidcchopmbodkaaDoorW.PrintLast Go.Proofs.YtidcchopmbodkaaDoorW.PrintMore
open Canon
structure AOk (acc : List S28) (s : JS) : Prop where
  eq : acc.map pr = canon (s.p.map pr)
  inn : ∀ x ∈ acc, In4 x
  len : acc.length ≤ s.p.length
theorem canon_snoc (l : List Rg) (a b : Int) : canon (l ++ [(a, b)]) = put (canon l) a b := by
  unfold canon
  rw [List.foldl_append]
  rfl
theorem aok_put {acc : List S28} {s : JS} (h : AOk acc s) (a b : Int) (h1 : 0 ≤ a) (h2 : a ≤ 4294967295) (h3 : 0 ≤ b) (h4 : b ≤ 4294967295) (s' : JS) (hs : s'.p = s.p ++ [⟨a, b⟩]) : AOk (putA acc a b) s' :=
  ⟨by rw [pr_putA, h.eq, hs, List.map_append]; exact (canon_snoc _ a b).symm, putA_in acc a b h.inn h1 h2 h3 h4, by have := putA_len acc a b; have := h.len; rw [hs, List.length_append, List.length_singleton]; omega⟩
theorem rjoin_l1 (sets : List (List S28)) (i : Nat) (hi : i < sets.length) (hn : sets.length ≤ 8000000000000) (X : List S28) (hX : sets[i] = X) (R : List S28) (K : Nat) (hK : 100000 ≤ K) (d : Nat) : ∀ (j k : Nat) (acc : List S28) (s : JS), j + d = X.length → JOk s → AOk acc s → s.p.length + d ≤ 50000 → X.length ≤ 50000 → K + 3 * d + 1 ≤ k →
    (∀ (k' : Nat) (acc' : List S28), K ≤ k' → AOk acc' ((X.drop j).foldl jstep s) → postbagref4_Join.l0 k' sets acc' ((X.drop j).foldl jstep s).lo ((X.drop j).foldl jstep s).hi ((X.drop j).foldl jstep s).st ((i + 1 : Nat) : Int) = some R) →
    postbagref4_Join.l1 k sets acc s.lo s.hi s.st (i : Int) (j : Int) = some R := by
  induction d with
  | zero =>
    intro j k acc s hj hs ha hp hx hk H
    obtain ⟨k, rfl⟩ : ∃ j, k = j + 1 := ⟨k - 1, by omega⟩
    rw [List.drop_of_length_le (by omega)] at H
    simp only [postbagref4_Join.l1]
    rw [rdL2j_at sets i hi, hX, if_pos (by omega), if_pos (by omega), if_neg (by omega), w64n i (by omega)]
    exact H k acc (by omega) ha
  | succ d ih =>
    intro j k acc s hj hs ha hp hx hk H
    have hjl : j < X.length := by omega
    obtain ⟨k, rfl⟩ : ∃ j, k = j + 3 := ⟨k - 3, by omega⟩
    have ih' := fun k acc s => ih (j + 1) k acc s (by omega)
    simp only [postbagref4_Join.l1]
    rw [rdL2j_at sets i hi, hX, if_pos (by omega), if_pos (by omega), if_pos (by omega), if_pos (by omega), rd28_at X j hjl]
    rw [List.drop_eq_getElem_cons hjl, List.foldl_cons] at H
    generalize X[j] = x at *
    have hsl := jstep_len s x
    have hso := jstep_ok s x hs
    rw [rsound_f, rsound_f, Option.bind_some, Option.bind_some]
    by_cases hr : rngB x = true
    · have hr4 := (rng_iff x).1 hr
      rw [decide_eq_true (show 0 ≤ x.f0 by omega), decide_eq_true (show 0 ≤ x.f1 by omega), decide_eq_true (show x.f0 ≤ 4294967295 by omega), decide_eq_true (show x.f1 ≤ 4294967295 by omega)]
      simp only [Bool.and_self, if_true, Bool.not_true, postbagref4_Join.j2]
      rw [if_neg (by decide)]
      have e : (if x.f0 > 0 then postbagref4_Join.j3 (k + 1) sets acc s.lo s.hi s.st (i : Int) (j : Int) (decide (x.f1 > 0)) x.f0 x.f1 else postbagref4_Join.j3 (k + 1) sets acc s.lo s.hi s.st (i : Int) (j : Int) false x.f0 x.f1) = postbagref4_Join.j3 (k + 1) sets acc s.lo s.hi s.st (i : Int) (j : Int) (decide (0 < min x.f0 x.f1)) x.f0 x.f1 := by
        by_cases h : x.f0 > 0
        · rw [if_pos h]
          congr 1
          rw [decide_eq_decide]
          omega
        · rw [if_neg h, decide_eq_false (by omega)]
      rw [e]
      simp only [postbagref4_Join.j3]
      rw [mn_eq, mx_eq, w64n j (by omega)]
      by_cases hm : 0 < min x.f0 x.f1
      · have e2 : jstep s x = { s with p := s.p ++ [⟨min x.f0 x.f1, max x.f0 x.f1⟩] } := by unfold jstep; rw [if_neg (by rw [hr]; simp), if_pos hm]
        rw [if_pos (decide_eq_true hm), rput_f acc (by have := ha.len; omega) ha.inn _ _ (by omega) (by omega) (by omega) (by omega) k (by have := ha.len; omega), Option.bind_some]
        rw [e2] at H hsl hso
        refine ih' k _ { s with p := s.p ++ [⟨min x.f0 x.f1, max x.f0 x.f1⟩] } hso (aok_put ha _ _ (by omega) (by omega) (by omega) (by omega) _ rfl) ?_ hx (by omega) H
        simp only [List.length_append, List.length_singleton]
        omega
      · have e2 : jstep s x = { p := s.p, st := true, lo := nlo s.lo (max x.f0 x.f1), hi := max s.hi (max x.f0 x.f1) } := by unfold jstep; rw [if_neg (by rw [hr]; simp), if_neg hm]
        rw [if_neg (by simpa using hm)]
        rw [e2] at H hsl hso
        have fin := ih' k acc { p := s.p, st := true, lo := nlo s.lo (max x.f0 x.f1), hi := max s.hi (max x.f0 x.f1) } hso ⟨ha.eq, ha.inn, ha.len⟩ (by show s.p.length + d ≤ 50000; omega) hx (by omega) H
        simp only [mx_eq]
        simp only at fin
        unfold nlo at fin
        by_cases h1 : max x.f0 x.f1 > 0
        · rw [if_pos h1]
          by_cases h2 : s.lo = 0
          · rw [if_pos h2]; rw [if_pos ⟨h1, Or.inl h2⟩] at fin; exact fin
          · rw [if_neg h2]
            by_cases h3 : max x.f0 x.f1 < s.lo
            · rw [if_pos h3]; rw [if_pos ⟨h1, Or.inr h3⟩] at fin; exact fin
            · rw [if_neg h3]; rw [if_neg (by rintro ⟨_, h | h⟩ <;> contradiction)] at fin; exact fin
        · rw [if_neg h1]; rw [if_neg (fun h => h1 h.1)] at fin; exact fin
    · have e2 : jstep s x = s := by unfold jstep; rw [if_pos (by simpa using hr)]
      rw [e2] at H
      have fin := ih' (k + 1) acc s hs ha (by omega) hx (by omega) H
      have hr4 := fun h => hr ((rng_iff x).2 h)
      have hj2 : postbagref4_Join.j2 (k + 2) sets acc s.lo s.hi s.st (i : Int) (j : Int) true x.f0 x.f1 = some R := by
        simp only [postbagref4_Join.j2]
        rw [if_pos trivial, w64n j (by omega)]
        exact fin
      by_cases h0 : (decide (0 ≤ x.f0) && decide (x.f0 ≤ 4294967295)) = true
      · have h1 : (decide (0 ≤ x.f1) && decide (x.f1 ≤ 4294967295)) = false := by
          simp only [Bool.and_eq_true, decide_eq_true_eq] at h0
          by_cases h : (decide (0 ≤ x.f1) && decide (x.f1 ≤ 4294967295)) = true
          · simp only [Bool.and_eq_true, decide_eq_true_eq] at h
            exact absurd ⟨h0.1, h.1, h0.2, h.2⟩ hr4
          · simpa using h
        rw [if_pos h0, h1]
        exact hj2
      · rw [if_neg h0]
        exact hj2
theorem rjoin_end (sets : List (List S28)) (acc : List S28) (s : JS) (hs : JOk s) (ha : AOk acc s) (hp : s.p.length ≤ 50000) (k : Nat) (hk : 60000 ≤ k) : postbagref4_Join.l0 (k + 1) sets acc s.lo s.hi s.st (sets.length : Int) = some (jfin s) := by
  simp only [postbagref4_Join.l0]
  rw [if_neg (by omega)]
  have hl := ha.len
  have := hs.lo0; have := hs.le; have := hs.hi1
  have eacc : (canon (s.p.map pr)).map un = acc := by rw [← ha.eq, un_pr]
  unfold jfin
  by_cases he : s.lo = s.hi
  · rw [if_neg (by omega)]
    simp only [if_pos he, eacc]
    by_cases h : s.st = true
    · rw [if_pos h, if_pos h, if_pos (by omega)]
    · rw [if_neg h, if_neg h]
  · have hpl := putA_len acc s.lo s.hi
    have ep : (canon ((s.p ++ [(⟨s.lo, s.hi⟩ : S28)]).map pr)).map un = putA acc s.lo s.hi := by
      rw [List.map_append]
      unfold putA
      rw [ha.eq]
      exact congrArg (List.map un) (canon_snoc _ _ _)
    rw [if_pos (by omega), rput_f acc (by omega) ha.inn _ _ (by omega) (by omega) (by omega) (by omega) k (by omega), Option.bind_some]
    simp only [if_neg he, ep]
    by_cases h : s.st = true
    · rw [if_pos h, if_pos h, if_pos (by omega)]
    · rw [if_neg h, if_neg h]
theorem rjoin_l0 (sets : List (List S28)) (hl : sets.length ≤ 8000000000000) (d : Nat) : ∀ (i k : Nat) (acc : List S28) (s : JS), i + d = sets.length → JOk s → AOk acc s → s.p.length + (sets.drop i).flatten.length ≤ 50000 → 100000 + 3 * (sets.drop i).flatten.length + 3 * d + 3 ≤ k →
    postbagref4_Join.l0 k sets acc s.lo s.hi s.st (i : Int) = some (jfin ((sets.drop i).flatten.foldl jstep s)) := by
  induction d with
  | zero =>
    intro i k acc s hi hs ha hp hk
    obtain ⟨k, rfl⟩ : ∃ j, k = j + 1 := ⟨k - 1, by omega⟩
    rw [List.drop_of_length_le (by omega)] at hp ⊢
    obtain rfl : i = sets.length := by omega
    rw [rjoin_end sets acc s hs ha (by omega) k (by omega)]
    rfl
  | succ d ih =>
    intro i k acc s hi hs ha hp hk
    have hil : i < sets.length := by omega
    rw [List.drop_eq_getElem_cons hil, List.flatten_cons, List.length_append] at hp hk
    rw [List.drop_eq_getElem_cons hil, List.flatten_cons, List.foldl_append]
    obtain ⟨k, rfl⟩ : ∃ j, k = j + 1 := ⟨k - 1, by omega⟩
    simp only [postbagref4_Join.l0]
    rw [if_pos (by omega)]
    refine rjoin_l1 sets i hil hl sets[i] rfl _ (100000 + 3 * (sets.drop (i + 1)).flatten.length + 3 * d + 3) (by omega) sets[i].length 0 k acc s (by omega) hs ha (by omega) (by omega) (by omega) ?_
    rw [List.drop_zero]
    intro k' acc' hk' ha'
    have hlen := jfold_len sets[i] s
    exact ih (i + 1) k' acc' _ (by omega) (jfold_ok _ s hs) ha' (by omega) hk'
theorem rjoin_f (sets : List (List S28)) (hl : sets.length ≤ 8000000000000) (hn : sets.flatten.length ≤ 50000) (k : Nat) (hk : 100000 + 3 * sets.flatten.length + 3 * sets.length + 3 ≤ k) : postbagref4_Join.f k sets = some (joinA sets.flatten) := by
  unfold postbagref4_Join.f
  have := rjoin_l0 sets hl sets.length 0 k [] j0 (by omega) j0_ok ⟨rfl, fun x hx => (by cases hx), Nat.le_refl _⟩ (by simpa [j0] using hn) (by simpa using hk)
  rw [List.drop_zero] at this
  exact this
end Go.Proofs.YtidcchopmbodkaaDoor.Sp
end
section
namespace Go.Proofs.YtidcchopmbodkaaDoor.Sp
open Go.RowKit Go.Proofs.YtidcchopmbodkaaDoorW.PrintWords Go.Proofs.YtidcchopmbodkaaDoorW.PrintLast Go.Proofs.YtidcchopmbodkaaDoorW.PrintMore
attribute [local go_sem] max2_int min2_int max_two min_two max_three min_three max_four min_four   -- for this text's walks alone
set_option linter.unusedVariables false
set_option linter.unusedSimpArgs false
mutual
def postbaglaw4_long.l0 : Nat → List (S38) → Int → Int → Option (Bool)
 | 0, _, _, _ => none
 | k + 1, x0, x3, x4 => if x4 < (x0.length : Int) then (postbaglaw4_long.j1 k x0 x3 x4 (decide (x4 < 30))) else (postbaglaw4_long.j1 k x0 x3 x4 false)
def postbaglaw4_long.j1 : Nat → List (S38) → Int → Int → Bool → Option (Bool)
 | 0, _, _, _, _ => none
 | k + 1, x0, x3, x4, x13 => if x13 = true then (if 0 ≤ x4 then (if x4 < (x0.length : Int) then (postbaglaw4_long.l1 k x0 (wrap64 ((wrap64 ((wrap64 (x3 + (((rd_T38 x0 x4).f1).length : Int))) + (((rd_T38 x0 x4).f4).length : Int))) + (((rd_T38 x0 x4).f5).length : Int))) x4 0) else (none)) else (none)) else (some (decide ((x0.length : Int) > 30)))
def postbaglaw4_long.l1 : Nat → List (S38) → Int → Int → Int → Option (Bool)
 | 0, _, _, _, _ => none
 | k + 1, x0, x3, x4, x5 => if 0 ≤ x4 then (if x4 < (x0.length : Int) then (if x5 < (((rd_T38 x0 x4).f5).length : Int) then (if x3 ≤ 3000 then (if 0 ≤ x5 then (postbaglaw4_long.l1 k x0 (wrap64 (x3 + ((rd_L2 ((rd_T38 x0 x4).f5) x5).length : Int))) x4 (wrap64 (x5 + 1))) else (none)) else (if x3 > 3000 then (some true) else (postbaglaw4_long.l0 k x0 x3 (wrap64 (x4 + 1))))) else (if x3 > 3000 then (some true) else (postbaglaw4_long.l0 k x0 x3 (wrap64 (x4 + 1))))) else (none)) else (none)
end
def postbaglaw4_long.f (k : Nat) (l0 : List (S38)) : Option (Bool) := postbaglaw4_long.l0 k l0 0 0
set_option maxHeartbeats 8000000 in
set_option maxRecDepth 100000 in
theorem postbaglaw4_long.calls (k : Nat) (A0 : Option Addr) (c0 : Nat) (l0 : List (S38)) (r : Bool) (w : World) (hr0 : Kd.C k38 w A0 l0.length l0) (hc0 : l0.length ≤ c0) (h : postbaglaw4_long.f k l0 = some r) :
  Calls Tryd.prog 21 #[.slice A0 l0.length c0] w fun e w' => e = .returned (.bool r) ∧ Drawn0 w w' := by
 have HR0 := Aside0.mk hr0
 have HC0 := Aside0.mk hc0
 clear hr0 hc0
 have H : (postbaglaw4_long.l0 k l0 0 0) = some r := h
 clear h
 have H' := Aside0.mk H
 clear H
 go_enter Tryd.func21, Tryd.ntmps21
 go_wp2
 repeat (go_quiet (fail); try go_wp2)
 go_loopg [3, 4] k (fun kq v3 v4 w' => ∃ (x3_1 : Int) (x4_1 : Int), v3 = .int .i64 x3_1 ∧ v4 = .int .i64 x4_1 ∧ Aside0 (postbaglaw4_long.l0 kq l0 x3_1 x4_1 = some r) ∧ Aside0 (kq ≤ k) ∧ Drawn0 w w')
 case atStart => exact ⟨(0), (0), (by first | rfl | (simp; done) | (simp [*]; done)), (by first | rfl | (simp; done) | (simp [*]; done)), H', ⟨Nat.le_refl _⟩, by repeat (first | exact Drawn0.refl _ | apply Drawn0.step)⟩
 case round =>
  clear H'
  obtain ⟨x3_1, x4_1, rfl, rfl, HA, HK1, ⟨m1, rfl⟩⟩ := hrel
  cases gk with
  | zero => exact absurd HA.out (by simp [postbaglaw4_long.l0])
  | succ k1 =>
   have H := HA.out
   clear HA
   simp only [postbaglaw4_long.l0] at H
   have HC2 := Aside0.mk H
   clear H
   go_upto_region 3 with (fail)
   repeat (go_quiet (fail); go_upto_region 3 with (fail))
   go_cut [13] (fun v13 wc => ∃ (kq : Nat) (x13_1 : Bool), v13 = .bool x13_1 ∧ Aside0 (postbaglaw4_long.j1 kq l0 x3_1 x4_1 x13_1 = some r) ∧ Aside0 (kq ≤ k1) ∧ Drawn0 w wc)
   case first =>
    have H := HC2.out
    clear HC2
    by_cases c3 : x4_1 < (l0.length : Int)
    ·rw [if_pos c3] at H
     have c3b0 : decide (x4_1 < (l0.length : Int)) = true := decide_eq_true c3
     clear c3
     (first | rw [c3b0] | (simp only [i64_w, i32_w]; rw [c3b0]) | skip)
     have H' := Aside0.mk H
     clear H
     go_wp2
     repeat (go_quiet (fail); try go_wp2)
     go_meet
     case rel => exact ⟨_, (decide (x4_1 < 30)), (by first | rfl | (simp; done) | (simp [*]; done)), H', ⟨by have := HK1.out; first | omega | exact Nat.le_refl _⟩, by repeat (first | exact Drawn0.refl _ | apply Drawn0.step)⟩
    ·rw [if_neg c3] at H
     have c3b0 : decide (x4_1 < (l0.length : Int)) = false := decide_eq_false c3
     clear c3
     (first | rw [c3b0] | (simp only [i64_w, i32_w]; rw [c3b0]) | skip)
     have H' := Aside0.mk H
     clear H
     go_wp2
     repeat (go_quiet (fail); try go_wp2)
     go_meet
     case rel => exact ⟨_, (false), (by first | rfl | (simp; done) | (simp [*]; done)), H', ⟨by have := HK1.out; first | omega | exact Nat.le_refl _⟩, by repeat (first | exact Drawn0.refl _ | apply Drawn0.step)⟩
   case rest =>
    clear HC2
    try clear c2
    try clear p2
    try clear c3
    try clear c3b0
    obtain ⟨kq, x13_1, rfl, HA, HJ1, ⟨mc1, rfl⟩⟩ := hcut
    cases kq with
    | zero => exact absurd HA.out (by simp [postbaglaw4_long.j1])
    | succ kj1 =>
     have H := HA.out
     clear HA
     simp only [postbaglaw4_long.j1] at H
     by_cases c4 : x13_1 = true
     ·subst c4
      have H1 : (if 0 ≤ x4_1 then (if x4_1 < (l0.length : Int) then (postbaglaw4_long.l1 kj1 l0 (wrap64 ((wrap64 ((wrap64 (x3_1 + (((rd_T38 l0 x4_1).f1).length : Int))) + (((rd_T38 l0 x4_1).f4).length : Int))) + (((rd_T38 l0 x4_1).f5).length : Int))) x4_1 0) else (none)) else (none)) = some r := by rw [if_pos rfl] at H; exact H
      clear H
      have H := H1
      clear H1
      by_cases c5 : 0 ≤ x4_1
      ·rw [if_pos c5] at H
       have c5b0 : decide (0 ≤ x4_1) = true := decide_eq_true c5
       clear c5
       by_cases c6 : x4_1 < (l0.length : Int)
       ·rw [if_pos c6] at H
        have c6b0 : decide (x4_1 < (l0.length : Int)) = true := decide_eq_true c6
        clear c6
        have H' := Aside0.mk H
        clear H
        have p233 : 0 ≤ (x4_1 : Int) := of_decide_eq_true (by first | (with_reducible assumption) | assumption)
        have q233 : x4_1 < (l0.length : Int) := of_decide_eq_true (by first | (with_reducible assumption) | assumption)
        obtain ⟨ad233, A233_1, c233_1, A233_4, c233_4, A233_5, c233_5, e233, hx233_0, hx233_1, hx233_2, hx233_3, hx233_4, hx233_5, hl233_1, hi233_1, hl233_4, hi233_4, hl233_5, hi233_5⟩ := at_T38 HR0.out x4_1 p233 q233
        cases e233
        have HR233_1 := Aside0.mk hi233_1
        have HC233_1 := Aside0.mk hl233_1
        clear hi233_1 hl233_1
        have HR233_4 := Aside0.mk hi233_4
        have HC233_4 := Aside0.mk hl233_4
        clear hi233_4 hl233_4
        have HR233_5 := Aside0.mk hi233_5
        have HC233_5 := Aside0.mk hl233_5
        clear hi233_5 hl233_5
        replace p233 := eq_true p233
        replace q233 := eq_true q233
        have p234 : 0 ≤ (x4_1 : Int) := of_decide_eq_true (by first | (with_reducible assumption) | assumption)
        have q234 : x4_1 < (l0.length : Int) := of_decide_eq_true (by first | (with_reducible assumption) | assumption)
        obtain ⟨ad234, A234_1, c234_1, A234_4, c234_4, A234_5, c234_5, e234, hx234_0, hx234_1, hx234_2, hx234_3, hx234_4, hx234_5, hl234_1, hi234_1, hl234_4, hi234_4, hl234_5, hi234_5⟩ := at_T38 HR0.out x4_1 p234 q234
        obtain rfl : ad233 = ad234 := (by injection e234)
        have HR234_1 := Aside0.mk hi234_1
        have HC234_1 := Aside0.mk hl234_1
        clear hi234_1 hl234_1
        have HR234_4 := Aside0.mk hi234_4
        have HC234_4 := Aside0.mk hl234_4
        clear hi234_4 hl234_4
        have HR234_5 := Aside0.mk hi234_5
        have HC234_5 := Aside0.mk hl234_5
        clear hi234_5 hl234_5
        replace p234 := eq_true p234
        replace q234 := eq_true q234
        have ea_ := Option.some.inj (hx233_1.symm.trans hx234_1)
        injection ea_ with ea_ en_ ec_
        subst ea_
        subst ec_
        clear en_
        have ea_ := Option.some.inj (hx233_4.symm.trans hx234_4)
        injection ea_ with ea_ en_ ec_
        subst ea_
        subst ec_
        clear en_
        have ea_ := Option.some.inj (hx233_5.symm.trans hx234_5)
        injection ea_ with ea_ en_ ec_
        subst ea_
        subst ec_
        clear en_
        have p235 : 0 ≤ (x4_1 : Int) := of_decide_eq_true (by first | (with_reducible assumption) | assumption)
        have q235 : x4_1 < (l0.length : Int) := of_decide_eq_true (by first | (with_reducible assumption) | assumption)
        obtain ⟨ad235, A235_1, c235_1, A235_4, c235_4, A235_5, c235_5, e235, hx235_0, hx235_1, hx235_2, hx235_3, hx235_4, hx235_5, hl235_1, hi235_1, hl235_4, hi235_4, hl235_5, hi235_5⟩ := at_T38 HR0.out x4_1 p235 q235
        obtain rfl : ad233 = ad235 := (by injection e235)
        have HR235_1 := Aside0.mk hi235_1
        have HC235_1 := Aside0.mk hl235_1
        clear hi235_1 hl235_1
        have HR235_4 := Aside0.mk hi235_4
        have HC235_4 := Aside0.mk hl235_4
        clear hi235_4 hl235_4
        have HR235_5 := Aside0.mk hi235_5
        have HC235_5 := Aside0.mk hl235_5
        clear hi235_5 hl235_5
        replace p235 := eq_true p235
        replace q235 := eq_true q235
        have ea_ := Option.some.inj (hx233_1.symm.trans hx235_1)
        injection ea_ with ea_ en_ ec_
        subst ea_
        subst ec_
        clear en_
        have ea_ := Option.some.inj (hx233_4.symm.trans hx235_4)
        injection ea_ with ea_ en_ ec_
        subst ea_
        subst ec_
        clear en_
        have ea_ := Option.some.inj (hx233_5.symm.trans hx235_5)
        injection ea_ with ea_ en_ ec_
        subst ea_
        subst ec_
        clear en_
        go_wp2
        repeat (go_quiet (fail); try go_wp2)
        go_loopg [3, 5] kj1 (fun kq v3 v5 w' => ∃ (x3_3 : Int) (x5_3 : Int), v3 = .int .i64 x3_3 ∧ v5 = .int .i64 x5_3 ∧ Aside0 (postbaglaw4_long.l1 kq l0 x3_3 x4_1 x5_3 = some r) ∧ Aside0 (kq ≤ kj1) ∧ Drawn0 w w')
        case atStart => exact ⟨(wrap64 ((wrap64 ((wrap64 (x3_1 + (((rd_T38 l0 x4_1).f1).length : Int))) + (((rd_T38 l0 x4_1).f4).length : Int))) + (((rd_T38 l0 x4_1).f5).length : Int))), (0), (by first | rfl | (simp; done) | (simp [*]; done)), (by first | rfl | (simp; done) | (simp [*]; done)), H', ⟨Nat.le_refl _⟩, by repeat (first | exact Drawn0.refl _ | apply Drawn0.step)⟩
        case round =>
         clear H'
         try clear c1
         try clear c2
         try clear p2
         try clear q2
         try clear hx2
         try clear c3
         try clear c3b0
         try clear c4
         try clear c5
         try clear c5b0
         try clear c6
         try clear c6b0
         try clear p6
         try clear hx233_0
         try clear hx233_1
         try clear hx233_2
         try clear hx233_3
         try clear hx233_4
         try clear hx233_5
         try clear hx234_0
         try clear hx234_1
         try clear hx234_2
         try clear hx234_3
         try clear hx234_4
         try clear hx234_5
         try clear hx235_0
         try clear hx235_1
         try clear hx235_2
         try clear hx235_3
         try clear hx235_4
         try clear hx235_5
         try clear p2
         try clear p233
         try clear p234
         try clear p235
         try clear q233
         try clear q234
         try clear q235
         obtain ⟨x3_3, x5_3, rfl, rfl, HA, HK3, ⟨m3, rfl⟩⟩ := hrel
         cases gk with
         | zero => exact absurd HA.out (by simp [postbaglaw4_long.l1])
         | succ k3 =>
          have H := HA.out
          clear HA
          simp only [postbaglaw4_long.l1] at H
          by_cases c7 : 0 ≤ x4_1
          ·rw [if_pos c7] at H
           have c7b0 : decide (0 ≤ x4_1) = true := decide_eq_true c7
           clear c7
           by_cases c8 : x4_1 < (l0.length : Int)
           ·rw [if_pos c8] at H
            have c8b0 : decide (x4_1 < (l0.length : Int)) = true := decide_eq_true c8
            clear c8
            by_cases c9 : x5_3 < (((rd_T38 l0 x4_1).f5).length : Int)
            ·rw [if_pos c9] at H
             have c9b0 : decide (x5_3 < (((rd_T38 l0 x4_1).f5).length : Int)) = true := decide_eq_true c9
             clear c9
             by_cases c10 : x3_3 ≤ 3000
             ·rw [if_pos c10] at H
              have c10b0 : decide (x3_3 ≤ 3000) = true := decide_eq_true c10
              clear c10
              by_cases c11 : 0 ≤ x5_3
              ·rw [if_pos c11] at H
               have c11b0 : decide (0 ≤ x5_3) = true := decide_eq_true c11
               clear c11
               have H' := Aside0.mk H
               clear H
               have p236 : 0 ≤ (x4_1 : Int) := of_decide_eq_true (by first | (with_reducible assumption) | assumption)
               have q236 : x4_1 < (l0.length : Int) := of_decide_eq_true (by first | (with_reducible assumption) | assumption)
               obtain ⟨ad236, A236_1, c236_1, A236_4, c236_4, A236_5, c236_5, e236, hx236_0, hx236_1, hx236_2, hx236_3, hx236_4, hx236_5, hl236_1, hi236_1, hl236_4, hi236_4, hl236_5, hi236_5⟩ := at_T38 HR0.out x4_1 p236 q236
               obtain rfl : ad233 = ad236 := (by injection e236)
               have HR236_1 := Aside0.mk hi236_1
               have HC236_1 := Aside0.mk hl236_1
               clear hi236_1 hl236_1
               have HR236_4 := Aside0.mk hi236_4
               have HC236_4 := Aside0.mk hl236_4
               clear hi236_4 hl236_4
               have HR236_5 := Aside0.mk hi236_5
               have HC236_5 := Aside0.mk hl236_5
               clear hi236_5 hl236_5
               replace p236 := eq_true p236
               replace q236 := eq_true q236
               have p237 : 0 ≤ (x4_1 : Int) := of_decide_eq_true (by first | (with_reducible assumption) | assumption)
               have q237 : x4_1 < (l0.length : Int) := of_decide_eq_true (by first | (with_reducible assumption) | assumption)
               obtain ⟨ad237, A237_1, c237_1, A237_4, c237_4, A237_5, c237_5, e237, hx237_0, hx237_1, hx237_2, hx237_3, hx237_4, hx237_5, hl237_1, hi237_1, hl237_4, hi237_4, hl237_5, hi237_5⟩ := at_T38 HR0.out x4_1 p237 q237
               obtain rfl : ad233 = ad237 := (by injection e237)
               have HR237_1 := Aside0.mk hi237_1
               have HC237_1 := Aside0.mk hl237_1
               clear hi237_1 hl237_1
               have HR237_4 := Aside0.mk hi237_4
               have HC237_4 := Aside0.mk hl237_4
               clear hi237_4 hl237_4
               have HR237_5 := Aside0.mk hi237_5
               have HC237_5 := Aside0.mk hl237_5
               clear hi237_5 hl237_5
               replace p237 := eq_true p237
               replace q237 := eq_true q237
               have ea_ := Option.some.inj (hx236_1.symm.trans hx237_1)
               injection ea_ with ea_ en_ ec_
               subst ea_
               subst ec_
               clear en_
               have ea_ := Option.some.inj (hx236_4.symm.trans hx237_4)
               injection ea_ with ea_ en_ ec_
               subst ea_
               subst ec_
               clear en_
               have ea_ := Option.some.inj (hx236_5.symm.trans hx237_5)
               injection ea_ with ea_ en_ ec_
               subst ea_
               subst ec_
               clear en_
               have p238 : 0 ≤ (x5_3 : Int) := of_decide_eq_true (by first | (with_reducible assumption) | assumption)
               have q238 : x5_3 < (((rd_T38 l0 x4_1).f5).length : Int) := of_decide_eq_true (by first | (with_reducible assumption) | assumption)
               obtain ⟨ad238, A238_0, c238_0, e238, hx238_0, hl238_0, hi238_0⟩ := at_L2 HR237_5.out x5_3 p238 q238
               cases e238
               have HR238_0 := Aside0.mk hi238_0
               have HC238_0 := Aside0.mk hl238_0
               clear hi238_0 hl238_0
               replace p238 := eq_true p238
               replace q238 := eq_true q238
               go_wp2
               repeat (go_quiet (fail); try go_wp2)
               go_roundg k3
               case measure => have := HK1.out; have := HJ1.out; have := HK3.out; omega
               case rel => exact ⟨(wrap64 (x3_3 + ((rd_L2 ((rd_T38 l0 x4_1).f5) x5_3).length : Int))), (wrap64 (x5_3 + 1)), (by first | rfl | (simp; done) | (simp [*]; done)), (by first | rfl | (simp; done) | (simp [*]; done)), H', ⟨by have := HK1.out; have := HJ1.out; have := HK3.out; omega⟩, by repeat (first | exact Drawn0.refl _ | apply Drawn0.step)⟩
              ·rw [if_neg c11] at H
               exact absurd H (by simp)
             ·rw [if_neg c10] at H
              have c10b0 : decide (x3_3 ≤ 3000) = false := decide_eq_false c10
              clear c10
              by_cases c12 : x3_3 > 3000
              ·rw [if_pos c12] at H
               have c12b0 : decide (3000 < x3_3) = true := decide_eq_true c12
               clear c12
               obtain rfl := Option.some.inj H
               have p236 : 0 ≤ (x4_1 : Int) := of_decide_eq_true (by first | (with_reducible assumption) | assumption)
               have q236 : x4_1 < (l0.length : Int) := of_decide_eq_true (by first | (with_reducible assumption) | assumption)
               obtain ⟨ad236, A236_1, c236_1, A236_4, c236_4, A236_5, c236_5, e236, hx236_0, hx236_1, hx236_2, hx236_3, hx236_4, hx236_5, hl236_1, hi236_1, hl236_4, hi236_4, hl236_5, hi236_5⟩ := at_T38 HR0.out x4_1 p236 q236
               obtain rfl : ad233 = ad236 := (by injection e236)
               have HR236_1 := Aside0.mk hi236_1
               have HC236_1 := Aside0.mk hl236_1
               clear hi236_1 hl236_1
               have HR236_4 := Aside0.mk hi236_4
               have HC236_4 := Aside0.mk hl236_4
               clear hi236_4 hl236_4
               have HR236_5 := Aside0.mk hi236_5
               have HC236_5 := Aside0.mk hl236_5
               clear hi236_5 hl236_5
               replace p236 := eq_true p236
               replace q236 := eq_true q236
               go_wp2
               repeat (go_quiet (fail); try go_wp2)
               go_ret
               exact ⟨by first | rfl | (simp; done) | (simp [*]; done), by repeat (first | exact Drawn0.refl _ | apply Drawn0.step)⟩
              ·rw [if_neg c12] at H
               have c12b0 : decide (3000 < x3_3) = false := decide_eq_false c12
               clear c12
               have H' := Aside0.mk H
               clear H
               have p236 : 0 ≤ (x4_1 : Int) := of_decide_eq_true (by first | (with_reducible assumption) | assumption)
               have q236 : x4_1 < (l0.length : Int) := of_decide_eq_true (by first | (with_reducible assumption) | assumption)
               obtain ⟨ad236, A236_1, c236_1, A236_4, c236_4, A236_5, c236_5, e236, hx236_0, hx236_1, hx236_2, hx236_3, hx236_4, hx236_5, hl236_1, hi236_1, hl236_4, hi236_4, hl236_5, hi236_5⟩ := at_T38 HR0.out x4_1 p236 q236
               obtain rfl : ad233 = ad236 := (by injection e236)
               have HR236_1 := Aside0.mk hi236_1
               have HC236_1 := Aside0.mk hl236_1
               clear hi236_1 hl236_1
               have HR236_4 := Aside0.mk hi236_4
               have HC236_4 := Aside0.mk hl236_4
               clear hi236_4 hl236_4
               have HR236_5 := Aside0.mk hi236_5
               have HC236_5 := Aside0.mk hl236_5
               clear hi236_5 hl236_5
               replace p236 := eq_true p236
               replace q236 := eq_true q236
               go_wp2
               repeat (go_quiet (fail); try go_wp2)
               go_roundg k3
               case measure => have := HK1.out; have := HJ1.out; have := HK3.out; omega
               case rel => exact ⟨(x3_3), (wrap64 (x4_1 + 1)), (by first | rfl | (simp; done) | (simp [*]; done)), (by first | rfl | (simp; done) | (simp [*]; done)), H', ⟨by have := HK1.out; have := HJ1.out; have := HK3.out; omega⟩, by repeat (first | exact Drawn0.refl _ | apply Drawn0.step)⟩
            ·rw [if_neg c9] at H
             have c9b0 : decide (x5_3 < (((rd_T38 l0 x4_1).f5).length : Int)) = false := decide_eq_false c9
             clear c9
             by_cases c13 : x3_3 > 3000
             ·rw [if_pos c13] at H
              have c13b0 : decide (3000 < x3_3) = true := decide_eq_true c13
              clear c13
              obtain rfl := Option.some.inj H
              have p236 : 0 ≤ (x4_1 : Int) := of_decide_eq_true (by first | (with_reducible assumption) | assumption)
              have q236 : x4_1 < (l0.length : Int) := of_decide_eq_true (by first | (with_reducible assumption) | assumption)
              obtain ⟨ad236, A236_1, c236_1, A236_4, c236_4, A236_5, c236_5, e236, hx236_0, hx236_1, hx236_2, hx236_3, hx236_4, hx236_5, hl236_1, hi236_1, hl236_4, hi236_4, hl236_5, hi236_5⟩ := at_T38 HR0.out x4_1 p236 q236
              obtain rfl : ad233 = ad236 := (by injection e236)
              have HR236_1 := Aside0.mk hi236_1
              have HC236_1 := Aside0.mk hl236_1
              clear hi236_1 hl236_1
              have HR236_4 := Aside0.mk hi236_4
              have HC236_4 := Aside0.mk hl236_4
              clear hi236_4 hl236_4
              have HR236_5 := Aside0.mk hi236_5
              have HC236_5 := Aside0.mk hl236_5
              clear hi236_5 hl236_5
              replace p236 := eq_true p236
              replace q236 := eq_true q236
              go_wp2
              repeat (go_quiet (fail); try go_wp2)
              go_ret
              exact ⟨by first | rfl | (simp; done) | (simp [*]; done), by repeat (first | exact Drawn0.refl _ | apply Drawn0.step)⟩
             ·rw [if_neg c13] at H
              have c13b0 : decide (3000 < x3_3) = false := decide_eq_false c13
              clear c13
              have H' := Aside0.mk H
              clear H
              have p236 : 0 ≤ (x4_1 : Int) := of_decide_eq_true (by first | (with_reducible assumption) | assumption)
              have q236 : x4_1 < (l0.length : Int) := of_decide_eq_true (by first | (with_reducible assumption) | assumption)
              obtain ⟨ad236, A236_1, c236_1, A236_4, c236_4, A236_5, c236_5, e236, hx236_0, hx236_1, hx236_2, hx236_3, hx236_4, hx236_5, hl236_1, hi236_1, hl236_4, hi236_4, hl236_5, hi236_5⟩ := at_T38 HR0.out x4_1 p236 q236
              obtain rfl : ad233 = ad236 := (by injection e236)
              have HR236_1 := Aside0.mk hi236_1
              have HC236_1 := Aside0.mk hl236_1
              clear hi236_1 hl236_1
              have HR236_4 := Aside0.mk hi236_4
              have HC236_4 := Aside0.mk hl236_4
              clear hi236_4 hl236_4
              have HR236_5 := Aside0.mk hi236_5
              have HC236_5 := Aside0.mk hl236_5
              clear hi236_5 hl236_5
              replace p236 := eq_true p236
              replace q236 := eq_true q236
              go_wp2
              repeat (go_quiet (fail); try go_wp2)
              go_roundg k3
              case measure => have := HK1.out; have := HJ1.out; have := HK3.out; omega
              case rel => exact ⟨(x3_3), (wrap64 (x4_1 + 1)), (by first | rfl | (simp; done) | (simp [*]; done)), (by first | rfl | (simp; done) | (simp [*]; done)), H', ⟨by have := HK1.out; have := HJ1.out; have := HK3.out; omega⟩, by repeat (first | exact Drawn0.refl _ | apply Drawn0.step)⟩
           ·rw [if_neg c8] at H
            exact absurd H (by simp)
          ·rw [if_neg c7] at H
           exact absurd H (by simp)
       ·rw [if_neg c6] at H
        exact absurd H (by simp)
      ·rw [if_neg c5] at H
       exact absurd H (by simp)
     ·replace c4 := Bool.eq_false_iff.mpr c4
      subst c4
      have H1 : (some (decide ((l0.length : Int) > 30))) = some r := by rw [if_neg (show ¬ (false = true) by decide)] at H; exact H
      clear H
      have H := H1
      clear H1
      obtain rfl := Option.some.inj H
      go_wp2
      repeat (go_quiet (fail); try go_wp2)
      go_ret
      exact ⟨by first | rfl | (simp; done) | (simp [*]; done), by repeat (first | exact Drawn0.refl _ | apply Drawn0.step)⟩
end Go.Proofs.YtidcchopmbodkaaDoor.Sp
end
section
namespace Go.Proofs.YtidcchopmbodkaaDoor.Sp
open Go.RowKit Go.Proofs.YtidcchopmbodkaaDoorW.PrintWords Go.Proofs.YtidcchopmbodkaaDoorW.PrintLast Go.Proofs.YtidcchopmbodkaaDoorW.PrintMore
attribute [local go_sem] max2_int min2_int max_two min_two max_three min_three max_four min_four   -- for this text's walks alone
set_option linter.unusedVariables false
set_option linter.unusedSimpArgs false
def postbaglaw4_turn.f (a0 : Int) (a1 : Int) : Option (Int) := if a0 < a1 then (some a0) else (some (wrap64 ((wrap64 ((wrap64 (2 * a1)) - 1)) - a0)))
set_option maxHeartbeats 8000000 in
set_option maxRecDepth 100000 in
theorem postbaglaw4_turn.calls (a0 : Int) (a1 : Int) (r : Int) (w : World) (h : postbaglaw4_turn.f a0 a1 = some r) :
  Calls Tryd.prog 22 #[.int .i64 a0, .int .i64 a1] w fun e w' => e = .returned (.int .i64 r) ∧ Drawn0 w w' := by
 have H : (if a0 < a1 then (some a0) else (some (wrap64 ((wrap64 ((wrap64 (2 * a1)) - 1)) - a0)))) = some r := h
 clear h
 by_cases c3 : a0 < a1
 ·rw [if_pos c3] at H
  have c3b0 : decide (a0 < a1) = true := decide_eq_true c3
  clear c3
  obtain rfl := Option.some.inj H
  go_enter Tryd.func22, Tryd.ntmps22
  go_wp2
  go_ret
  exact ⟨by first | rfl | (simp; done) | (simp [*]; done), by repeat (first | exact Drawn0.refl _ | apply Drawn0.step)⟩
 ·rw [if_neg c3] at H
  have c3b0 : decide (a0 < a1) = false := decide_eq_false c3
  clear c3
  obtain rfl := Option.some.inj H
  go_enter Tryd.func22, Tryd.ntmps22
  go_wp2
  go_ret
  exact ⟨by first | rfl | (simp; done) | (simp [*]; done), by repeat (first | exact Drawn0.refl _ | apply Drawn0.step)⟩
end Go.Proofs.YtidcchopmbodkaaDoor.Sp
end
section
namespace Go.Proofs.YtidcchopmbodkaaDoor.Sp
open Go.RowKit Go.Proofs.YtidcchopmbodkaaDoorW.PrintWords Go.Proofs.YtidcchopmbodkaaDoorW.PrintLast Go.Proofs.YtidcchopmbodkaaDoorW.PrintMore
open Canon
def FitsL (l : List S38) : Prop := ∀ x ∈ l, x.f1.length ≤ 8796093022208 ∧ x.f4.length ≤ 17592186044416 ∧ x.f5.length ≤ 8796093022208 ∧ ∀ y ∈ x.f5, y.length ≤ 8796093022208
def Short (x : S38) : Prop := x.f1.length ≤ 3000 ∧ x.f4.length ≤ 3000 ∧ x.f5.length ≤ 3000 ∧ x.f5.flatten.length ≤ 3000
theorem rd38L_at (l : List S38) (i : Nat) (h : i < l.length) : rd_T38 l (i : Int) = l[i] := by
  unfold rd_T38
  rw [List.getD_eq_getElem?_getD, show ((i : Int)).toNat = i from by omega, List.getElem?_eq_getElem h]
  rfl
theorem rdL2L_at (l : List (List S28)) (i : Nat) (h : i < l.length) : rd_L2 l (i : Int) = l[i] := by
  unfold rd_L2
  rw [List.getD_eq_getElem?_getD, show ((i : Int)).toNat = i from by omega, List.getElem?_eq_getElem h]
  rfl
theorem longS_l1 (l : List S38) (hf : FitsL l) (i : Nat) (hi : i < l.length) (hl : l.length ≤ 8796093022208) (P : Nat → Prop) (G : Prop)
    (next : ∀ (k : Nat) (n : Int), 0 ≤ n → n ≤ 3000 → P k → ∃ b, postbaglaw4_long.l0 k l n ((i + 1 : Nat) : Int) = some b ∧ (b = false → G)) (d : Nat) :
    ∀ (j k : Nat) (n : Int), j + d = l[i].f5.length → 0 ≤ n → n ≤ 70368744200000 → (∀ k', k ≤ k' → P k') → ∃ b, postbaglaw4_long.l1 (k + (d + 1)) l n (i : Int) (j : Int) = some b ∧ (b = false → G ∧ n + (((l[i].f5.drop j).flatten.length : Nat) : Int) ≤ 3000) := by
  have hfi := hf l[i] (List.getElem_mem hi)
  have stop : ∀ (k : Nat) (n : Int), 0 ≤ n → P k → ∃ b, (if n > 3000 then some true else postbaglaw4_long.l0 k l n (wrap64 ((i : Int) + 1))) = some b ∧ (b = false → G ∧ n ≤ 3000) := by
    intro k n h0 hP
    by_cases h : n > 3000
    · rw [if_pos h]; exact ⟨true, rfl, fun h => by cases h⟩
    · rw [if_neg h, w64n i (by omega)]
      obtain ⟨b, hb, hG⟩ := next k n h0 (by omega) hP
      exact ⟨b, hb, fun h => ⟨hG h, by omega⟩⟩
  induction d with
  | zero =>
    intro j k n hj h0 h1 hP
    rw [Nat.zero_add]
    simp only [postbaglaw4_long.l1]
    rw [if_pos (by omega), if_pos (by omega), rd38L_at l i hi, if_neg (by omega), List.drop_of_length_le (by omega)]
    obtain ⟨b, hb, hG⟩ := stop k n h0 (hP k (Nat.le_refl _))
    exact ⟨b, hb, fun h => ⟨(hG h).1, by have := (hG h).2; simpa using this⟩⟩
  | succ d ih =>
    intro j k n hj h0 h1 hP
    have ih' := ih (j + 1) k
    have stop' := stop (k + (d + 1)) n h0 (hP _ (by omega))
    rw [show k + (d + 1 + 1) = (k + (d + 1)) + 1 from by omega]
    generalize k + (d + 1) = K at ih' stop' ⊢
    have hjl : j < l[i].f5.length := by omega
    simp only [postbaglaw4_long.l1]
    rw [if_pos (by omega), if_pos (by omega), rd38L_at l i hi, if_pos (by omega)]
    by_cases h3 : n ≤ 3000
    · rw [if_pos h3, if_pos (by omega), rdL2L_at _ j hjl, w64n j (by omega)]
      have hy := hfi.2.2.2 _ (List.getElem_mem hjl)
      have hw : wrap64 (n + (l[i].f5[j].length : Int)) = n + (l[i].f5[j].length : Int) := by unfold wrap64; omega
      rw [hw]
      obtain ⟨b, hb, hG⟩ := ih' (n + (l[i].f5[j].length : Int)) (by omega) (by omega) (by omega) hP
      refine ⟨b, hb, fun h => ⟨(hG h).1, ?_⟩⟩
      have := (hG h).2
      rw [List.drop_eq_getElem_cons hjl, List.flatten_cons, List.length_append]
      omega
    · rw [if_neg h3]
      obtain ⟨b, hb, hG⟩ := stop'
      exact ⟨b, hb, fun h => by have := (hG h).2; omega⟩
theorem longS_end (l : List S38) (hl : l.length ≤ 8796093022208) (n i : Int) (k : Nat) : ∃ b, postbaglaw4_long.j1 (k + 1) l n i false = some b ∧ (b = false → l.length ≤ 30) := by
  simp only [postbaglaw4_long.j1]
  rw [if_neg (by simp)]
  refine ⟨_, rfl, fun h => ?_⟩
  have := of_decide_eq_false h
  omega
theorem longS_l0 (l : List S38) (hf : FitsL l) (hl : l.length ≤ 8796093022208) (d : Nat) : ∀ i : Nat, i + d = l.length → ∃ K, ∀ k, K ≤ k → ∀ n : Int, 0 ≤ n → n ≤ 3000 → ∃ b, postbaglaw4_long.l0 k l n (i : Int) = some b ∧ (b = false → l.length ≤ 30 ∧ ∀ x ∈ l.drop i, Short x) := by
  induction d with
  | zero =>
    intro i hi
    refine ⟨5, fun k hk n h0 h1 => ?_⟩
    obtain ⟨k, rfl⟩ : ∃ j, k = j + 2 := ⟨k - 2, by omega⟩
    simp only [postbaglaw4_long.l0]
    rw [if_neg (by omega), List.drop_of_length_le (by omega)]
    obtain ⟨b, hb, hG⟩ := longS_end l hl n i k
    exact ⟨b, hb, fun h => ⟨hG h, fun x hx => by cases hx⟩⟩
  | succ d ih =>
    intro i hi
    obtain ⟨K, hK⟩ := ih (i + 1) (by omega)
    have hil : i < l.length := by omega
    refine ⟨K + l[i].f5.length + 10, fun k hk n h0 h1 => ?_⟩
    obtain ⟨k, rfl⟩ : ∃ j, k = j + 2 := ⟨k - 2, by omega⟩
    simp only [postbaglaw4_long.l0]
    rw [if_pos (by omega)]
    by_cases h30 : (i : Int) < 30
    · rw [decide_eq_true h30]
      simp only [postbaglaw4_long.j1]
      have hx := hf l[i] (List.getElem_mem hil)
      rw [if_pos trivial, if_pos (by omega), if_pos (by omega), rd38L_at l i hil]
      have e1 : wrap64 (n + (l[i].f1.length : Int)) = n + (l[i].f1.length : Int) := by unfold wrap64; omega
      have e2 : wrap64 (n + (l[i].f1.length : Int) + (l[i].f4.length : Int)) = n + (l[i].f1.length : Int) + (l[i].f4.length : Int) := by unfold wrap64; omega
      have e3 : wrap64 (n + (l[i].f1.length : Int) + (l[i].f4.length : Int) + (l[i].f5.length : Int)) = n + (l[i].f1.length : Int) + (l[i].f4.length : Int) + (l[i].f5.length : Int) := by unfold wrap64; omega
      rw [e1, e2, e3]
      have := longS_l1 l hf i hil hl (fun k => K ≤ k) _ (fun k n a b c => hK k c n a b) l[i].f5.length 0 (k - (l[i].f5.length + 1)) (n + (l[i].f1.length : Int) + (l[i].f4.length : Int) + (l[i].f5.length : Int)) (by omega) (by omega) (by omega) (fun k' h => by omega)
      rw [show k - (l[i].f5.length + 1) + (l[i].f5.length + 1) = k from by omega, List.drop_zero] at this
      obtain ⟨b, hb, hG⟩ := this
      refine ⟨b, hb, fun h => ⟨(hG h).1.1, fun x hx => ?_⟩⟩
      rw [List.drop_eq_getElem_cons hil] at hx
      have h2 := (hG h).2
      rcases List.mem_cons.1 hx with rfl | hx
      · unfold Short; omega
      · exact (hG h).1.2 x hx
    · rw [decide_eq_false h30]
      obtain ⟨b, hb, hG⟩ := longS_end l hl n i k
      exact ⟨b, hb, fun h => by have := hG h; omega⟩
theorem longS_f (l : List S38) (hf : FitsL l) (hl : l.length ≤ 8796093022208) : ∃ k b, postbaglaw4_long.f k l = some b ∧ (b = false → l.length ≤ 30 ∧ ∀ x ∈ l, Short x) := by
  obtain ⟨K, hK⟩ := longS_l0 l hf hl l.length 0 (by omega)
  obtain ⟨b, hb, hG⟩ := hK K (Nat.le_refl _) 0 (Int.le_refl _) (by decide)
  exact ⟨K, b, hb, hG⟩
def turnL (k n : Nat) : Nat := if k < n then k else 2 * n - 1 - k
theorem turnL_f (k n : Nat) (hn : n ≤ 30) (hk : k < 2 * n) : postbaglaw4_turn.f (k : Int) (n : Int) = some ((turnL k n : Nat) : Int) ∧ turnL k n < n := by
  unfold postbaglaw4_turn.f turnL
  by_cases h : k < n
  · rw [if_pos (by omega), if_pos h]; exact ⟨rfl, h⟩
  · have e1 : wrap64 (2 * (n : Int)) = 2 * (n : Int) := by unfold wrap64; omega
    have e2 : wrap64 (2 * (n : Int) - 1) = 2 * (n : Int) - 1 := by unfold wrap64; omega
    have e3 : wrap64 (2 * (n : Int) - 1 - (k : Int)) = ((2 * n - 1 - k : Nat) : Int) := by unfold wrap64; omega
    rw [if_neg (by omega), if_neg h, e1, e2, e3]
    exact ⟨rfl, by omega⟩
end Go.Proofs.YtidcchopmbodkaaDoor.Sp
end
section
namespace Go.Proofs.YtidcchopmbodkaaDoor.Sp
open Go.RowKit Go.Proofs.YtidcchopmbodkaaDoorW.PrintWords Go.Proofs.YtidcchopmbodkaaDoorW.PrintLast Go.Proofs.YtidcchopmbodkaaDoorW.PrintMore
attribute [local go_sem] max2_int min2_int max_two min_two max_three min_three max_four min_four   -- for this text's walks alone
set_option linter.unusedVariables false
set_option linter.unusedSimpArgs false
attribute [local go_sem high] eqA28
def postbaglaw4_num.f (a0 : Int) : Option (Int) := some a0
set_option maxHeartbeats 8000000 in
set_option maxRecDepth 100000 in
theorem postbaglaw4_num.calls (a0 : Int) (r : Int) (w : World) (h : postbaglaw4_num.f a0 = some r) :
  Calls Tryd.prog 34 #[.int .i64 a0] w fun e w' => e = .returned (.int .i64 r) ∧ Drawn0 w w' := by
 have H : (some a0) = some r := h
 clear h
 obtain rfl := Option.some.inj H
 go_enter Tryd.func34, Tryd.ntmps34
 go_wp2
 go_ret
 exact ⟨by first | rfl | (simp; done) | (simp [*]; done), by repeat (first | exact Drawn0.refl _ | apply Drawn0.step)⟩
end Go.Proofs.YtidcchopmbodkaaDoor.Sp
end
