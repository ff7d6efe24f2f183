import Derived.Test.YtjlchnmpebdggaaDoorInt2
import Derived.Test.YtjlchnmpebdggaaDoorInt8
import Derived.Test.YtjlchnmpebdggaaDoorInt3
import Derived.Test.YtjlchnmpebdggaaDoorInt6
import Derived.Test.YtjlchnmpebdggaaDoorInt4
import Derived.Test.YtjlchnmpebdggaaDoorInt7
section
namespace Go.Proofs.YtjlchnmpebdggaaDoor.Mo
open Go.RowKit Go.Proofs.YtjlchnmpebdggaaDoorW.PrintWords Go.Proofs.YtjlchnmpebdggaaDoorW.PrintLast Go.Proofs.YtjlchnmpebdggaaDoorW.PrintMore
attribute [local go_sem] max2_int min2_int max_two min_two max_three min_three max_four min_four   -- for this text's walks alone
set_option linter.unusedVariables false
set_option linter.unusedSimpArgs false
def postbagref2_Valid.f (k : Nat) (a0_0 : Int) (a0_1 : Int) (a0_2 : Int) (a0_3 : Int) (a0_4 : Int) (a0_5 : Int) (a0_6 : Int) : Option (Bool) := (postbagref2_IsDay.f k a0_0 a0_1 a0_2 a0_3 a0_4 a0_5 a0_6).bind fun t164 => (if t164 = true then (if a0_3 ≥ 0 then (if a0_3 ≤ 23 then (if a0_4 ≥ 0 then (if a0_4 ≤ 59 then (if a0_5 ≥ 0 then (if a0_5 ≤ 59 then (if a0_6 ≥ (-1439) then (some (decide (a0_6 ≤ 1439))) else (some false)) else (some false)) else (some false)) else (some false)) else (some false)) else (some false)) else (some false)) else (some false))
set_option maxHeartbeats 8000000 in
set_option maxRecDepth 100000 in
theorem postbagref2_Valid.calls (k : Nat) (a0_0 : Int) (a0_1 : Int) (a0_2 : Int) (a0_3 : Int) (a0_4 : Int) (a0_5 : Int) (a0_6 : Int) (r : Bool) (w : World) (h : postbagref2_Valid.f k a0_0 a0_1 a0_2 a0_3 a0_4 a0_5 a0_6 = some r) :
  Calls Tryd.prog 40 #[.agg #[.int .i64 a0_0, .int .i64 a0_1, .int .i64 a0_2, .int .i64 a0_3, .int .i64 a0_4, .int .i64 a0_5, .int .i64 a0_6]] w fun e w' => e = .returned (.bool r) ∧ Below w.heap.size w w' := by
 have hu23 := Tryd.underlying23
 have HB := Aside0.mk (Below.refl w.heap.size w)
 have H : ((postbagref2_IsDay.f k a0_0 a0_1 a0_2 a0_3 a0_4 a0_5 a0_6).bind fun t164 => (if t164 = true then (if a0_3 ≥ 0 then (if a0_3 ≤ 23 then (if a0_4 ≥ 0 then (if a0_4 ≤ 59 then (if a0_5 ≥ 0 then (if a0_5 ≤ 59 then (if a0_6 ≥ (-1439) then (some (decide (a0_6 ≤ 1439))) else (some false)) else (some false)) else (some false)) else (some false)) else (some false)) else (some false)) else (some false)) else (some false))) = some r := h
 clear h
 replace H := Option.bind_eq_some_iff.mp H
 obtain ⟨t164, A20, H⟩ := H
 replace H : (if t164 = true then (if a0_3 ≥ 0 then (if a0_3 ≤ 23 then (if a0_4 ≥ 0 then (if a0_4 ≤ 59 then (if a0_5 ≥ 0 then (if a0_5 ≤ 59 then (if a0_6 ≥ (-1439) then (some (decide (a0_6 ≤ 1439))) else (some false)) else (some false)) else (some false)) else (some false)) else (some false)) else (some false)) else (some false)) else (some false)) = some r := H
 have A2 := Aside0.mk A20
 clear A20
 by_cases c3 : t164 = true
 ·subst c3
  have H1 : (if a0_3 ≥ 0 then (if a0_3 ≤ 23 then (if a0_4 ≥ 0 then (if a0_4 ≤ 59 then (if a0_5 ≥ 0 then (if a0_5 ≤ 59 then (if a0_6 ≥ (-1439) then (some (decide (a0_6 ≤ 1439))) else (some false)) else (some false)) else (some false)) else (some false)) else (some false)) else (some false)) else (some false)) = some r := by rw [if_pos rfl] at H; exact H
  clear H
  have H := H1
  clear H1
  by_cases c4 : a0_3 ≥ 0
  ·rw [if_pos c4] at H
   have c4b0 : decide (0 ≤ a0_3) = true := decide_eq_true c4
   clear c4
   by_cases c5 : a0_3 ≤ 23
   ·rw [if_pos c5] at H
    have c5b0 : decide (a0_3 ≤ 23) = true := decide_eq_true c5
    clear c5
    by_cases c6 : a0_4 ≥ 0
    ·rw [if_pos c6] at H
     have c6b0 : decide (0 ≤ a0_4) = true := decide_eq_true c6
     clear c6
     by_cases c7 : a0_4 ≤ 59
     ·rw [if_pos c7] at H
      have c7b0 : decide (a0_4 ≤ 59) = true := decide_eq_true c7
      clear c7
      by_cases c8 : a0_5 ≥ 0
      ·rw [if_pos c8] at H
       have c8b0 : decide (0 ≤ a0_5) = true := decide_eq_true c8
       clear c8
       by_cases c9 : a0_5 ≤ 59
       ·rw [if_pos c9] at H
        have c9b0 : decide (a0_5 ≤ 59) = true := decide_eq_true c9
        clear c9
        by_cases c10 : a0_6 ≥ (-1439)
        ·rw [if_pos c10] at H
         have c10b0 : decide ((-1439) ≤ a0_6) = true := decide_eq_true c10
         clear c10
         obtain rfl := Option.some.inj H
         go_enter Tryd.func40, Tryd.ntmps40
         go_wp2_with (first | ((with_reducible refine gate_dst (N := 1) rfl ?_); refine box_event ?hg (N := 1) ?hd (cs := #[.int .i64 a0_0, .int .i64 a0_1, .int .i64 a0_2, .int .i64 a0_3, .int .i64 a0_4, .int .i64 a0_5, .int .i64 a0_6]) (t := 23) ?hr ?_; (case hd => rfl); (case hg => rfl); (case hr => first | (go_simp; done) | (go_simp; rfl)); intro gb163 hg w11 hbox hb; have n0_ := Aside0.mk (below_step (by repeat (first | (with_reducible first | exact HB.out | apply below_alloc | apply pw_below_drewN | apply below_drew1) | exact HB.out)) hb); have n1_ := Aside0.mk (hbox); have n2_ := Aside0.mk ((by rw [hg]; exact (below_size (by repeat (first | (with_reducible first | exact HB.out | apply below_alloc | apply pw_below_drewN | apply below_drew1) | exact HB.out))) : w.heap.size ≤ gb163)); have n3_ := Aside0.mk ((by rw [hg]; exact (below_size (by repeat (first | (with_reducible first | exact HB.out | apply below_alloc | apply pw_below_drewN | apply below_drew1) | exact HB.out))) : w.heap.size ≤ gb163)); clear HB; have HB := n0_; have BK163 := n1_; have GW163 := n2_; have GE163 := n3_; clear n0_ n1_ n2_ n3_; clear hb hbox hg; have hcz12_0 : w11.cell? ⟨gb163, 0, none⟩ = some (.int .i64 a0_0) := (blk_cell BK163.out 0).trans rfl; have hcz12_1 : w11.cell? ⟨gb163, 1, none⟩ = some (.int .i64 a0_1) := (blk_cell BK163.out 1).trans rfl; have hcz12_2 : w11.cell? ⟨gb163, 2, none⟩ = some (.int .i64 a0_2) := (blk_cell BK163.out 2).trans rfl; have hcz12_3 : w11.cell? ⟨gb163, 3, none⟩ = some (.int .i64 a0_3) := (blk_cell BK163.out 3).trans rfl; have hcz12_4 : w11.cell? ⟨gb163, 4, none⟩ = some (.int .i64 a0_4) := (blk_cell BK163.out 4).trans rfl; have hcz12_5 : w11.cell? ⟨gb163, 5, none⟩ = some (.int .i64 a0_5) := (blk_cell BK163.out 5).trans rfl; have hcz12_6 : w11.cell? ⟨gb163, 6, none⟩ = some (.int .i64 a0_6) := (blk_cell BK163.out 6).trans rfl; have hfz12_0 := blk_frozen BK163.out 0; have hfz12_1 := blk_frozen BK163.out 1; have hfz12_2 := blk_frozen BK163.out 2; have hfz12_3 := blk_frozen BK163.out 3; have hfz12_4 := blk_frozen BK163.out 4; have hfz12_5 := blk_frozen BK163.out 5; have hfz12_6 := blk_frozen BK163.out 6) | ((with_reducible refine gate_callee (f := 81) rfl ?_); refine goesL_ (some 5) rfl rfl Tryd.func81 (by kernel_rfl) rfl #[.agg #[.int .i64 a0_0, .int .i64 a0_1, .int .i64 a0_2, .int .i64 a0_3, .int .i64 a0_4, .int .i64 a0_5, .int .i64 a0_6]] rfl (by (try simp only [List.map_toArray, List.map_cons, List.map_nil]); first | done | rfl | (simp only [List.length_drop, List.length_take]; rfl)) ?_; (with_reducible refine (postbagref2_IsDay.calls k a0_0 a0_1 a0_2 a0_3 a0_4 a0_5 a0_6 true _ A2.out).mono ?_); rintro e w13 ⟨rfl, hb⟩; refine ⟨_, rfl, ?_⟩; have n0_ := Aside0.mk (blk_below (g := gb163) (o := .cells #[.int .i64 a0_0, .int .i64 a0_1, .int .i64 a0_2, .int .i64 a0_3, .int .i64 a0_4, .int .i64 a0_5, .int .i64 a0_6] 23 (0, 0)) (by (with_reducible repeat (first | refine blk_drewN ?_ _ | refine blk_drew ?_ | refine blk_alloc ?_ _)); exact BK163.out) hb); have n1_ := Aside0.mk (below_step (by repeat (first | (with_reducible first | exact HB.out | apply below_alloc | apply pw_below_drewN | apply below_drew1 | refine below_set ?_ GE163.out) | exact HB.out)) hb); clear BK163; clear HB; have BK163 := n0_; have HB := n1_; clear n0_ n1_; (try clear hb); (try clear hb2); (try clear hk); (try clear hi); have hcz14_0 : w13.cell? ⟨gb163, 0, none⟩ = some (.int .i64 a0_0) := (blk_cell BK163.out 0).trans rfl; have hcz14_1 : w13.cell? ⟨gb163, 1, none⟩ = some (.int .i64 a0_1) := (blk_cell BK163.out 1).trans rfl; have hcz14_2 : w13.cell? ⟨gb163, 2, none⟩ = some (.int .i64 a0_2) := (blk_cell BK163.out 2).trans rfl; have hcz14_3 : w13.cell? ⟨gb163, 3, none⟩ = some (.int .i64 a0_3) := (blk_cell BK163.out 3).trans rfl; have hcz14_4 : w13.cell? ⟨gb163, 4, none⟩ = some (.int .i64 a0_4) := (blk_cell BK163.out 4).trans rfl; have hcz14_5 : w13.cell? ⟨gb163, 5, none⟩ = some (.int .i64 a0_5) := (blk_cell BK163.out 5).trans rfl; have hcz14_6 : w13.cell? ⟨gb163, 6, none⟩ = some (.int .i64 a0_6) := (blk_cell BK163.out 6).trans rfl; have hfz14_0 := blk_frozen BK163.out 0; have hfz14_1 := blk_frozen BK163.out 1; have hfz14_2 := blk_frozen BK163.out 2; have hfz14_3 := blk_frozen BK163.out 3; have hfz14_4 := blk_frozen BK163.out 4; have hfz14_5 := blk_frozen BK163.out 5; have hfz14_6 := blk_frozen BK163.out 6))
         go_ret
         exact ⟨by first | rfl | (simp [errW_none, errW_some] <;> rfl) | (simp [*, errW_none, errW_some] <;> rfl), by repeat (first | (with_reducible first | exact HB.out | apply below_alloc | apply pw_below_drewN | apply below_drew1 | refine below_set ?_ GE163.out) | exact HB.out)⟩
        ·rw [if_neg c10] at H
         have c10b0 : decide ((-1439) ≤ a0_6) = false := decide_eq_false c10
         clear c10
         obtain rfl := Option.some.inj H
         go_enter Tryd.func40, Tryd.ntmps40
         go_wp2_with (first | ((with_reducible refine gate_dst (N := 1) rfl ?_); refine box_event ?hg (N := 1) ?hd (cs := #[.int .i64 a0_0, .int .i64 a0_1, .int .i64 a0_2, .int .i64 a0_3, .int .i64 a0_4, .int .i64 a0_5, .int .i64 a0_6]) (t := 23) ?hr ?_; (case hd => rfl); (case hg => rfl); (case hr => first | (go_simp; done) | (go_simp; rfl)); intro gb163 hg w15 hbox hb; have n0_ := Aside0.mk (below_step (by repeat (first | (with_reducible first | exact HB.out | apply below_alloc | apply pw_below_drewN | apply below_drew1) | exact HB.out)) hb); have n1_ := Aside0.mk (hbox); have n2_ := Aside0.mk ((by rw [hg]; exact (below_size (by repeat (first | (with_reducible first | exact HB.out | apply below_alloc | apply pw_below_drewN | apply below_drew1) | exact HB.out))) : w.heap.size ≤ gb163)); have n3_ := Aside0.mk ((by rw [hg]; exact (below_size (by repeat (first | (with_reducible first | exact HB.out | apply below_alloc | apply pw_below_drewN | apply below_drew1) | exact HB.out))) : w.heap.size ≤ gb163)); clear HB; have HB := n0_; have BK163 := n1_; have GW163 := n2_; have GE163 := n3_; clear n0_ n1_ n2_ n3_; clear hb hbox hg; have hcz16_0 : w15.cell? ⟨gb163, 0, none⟩ = some (.int .i64 a0_0) := (blk_cell BK163.out 0).trans rfl; have hcz16_1 : w15.cell? ⟨gb163, 1, none⟩ = some (.int .i64 a0_1) := (blk_cell BK163.out 1).trans rfl; have hcz16_2 : w15.cell? ⟨gb163, 2, none⟩ = some (.int .i64 a0_2) := (blk_cell BK163.out 2).trans rfl; have hcz16_3 : w15.cell? ⟨gb163, 3, none⟩ = some (.int .i64 a0_3) := (blk_cell BK163.out 3).trans rfl; have hcz16_4 : w15.cell? ⟨gb163, 4, none⟩ = some (.int .i64 a0_4) := (blk_cell BK163.out 4).trans rfl; have hcz16_5 : w15.cell? ⟨gb163, 5, none⟩ = some (.int .i64 a0_5) := (blk_cell BK163.out 5).trans rfl; have hcz16_6 : w15.cell? ⟨gb163, 6, none⟩ = some (.int .i64 a0_6) := (blk_cell BK163.out 6).trans rfl; have hfz16_0 := blk_frozen BK163.out 0; have hfz16_1 := blk_frozen BK163.out 1; have hfz16_2 := blk_frozen BK163.out 2; have hfz16_3 := blk_frozen BK163.out 3; have hfz16_4 := blk_frozen BK163.out 4; have hfz16_5 := blk_frozen BK163.out 5; have hfz16_6 := blk_frozen BK163.out 6) | ((with_reducible refine gate_callee (f := 81) rfl ?_); refine goesL_ (some 5) rfl rfl Tryd.func81 (by kernel_rfl) rfl #[.agg #[.int .i64 a0_0, .int .i64 a0_1, .int .i64 a0_2, .int .i64 a0_3, .int .i64 a0_4, .int .i64 a0_5, .int .i64 a0_6]] rfl (by (try simp only [List.map_toArray, List.map_cons, List.map_nil]); first | done | rfl | (simp only [List.length_drop, List.length_take]; rfl)) ?_; (with_reducible refine (postbagref2_IsDay.calls k a0_0 a0_1 a0_2 a0_3 a0_4 a0_5 a0_6 true _ A2.out).mono ?_); rintro e w17 ⟨rfl, hb⟩; refine ⟨_, rfl, ?_⟩; have n0_ := Aside0.mk (blk_below (g := gb163) (o := .cells #[.int .i64 a0_0, .int .i64 a0_1, .int .i64 a0_2, .int .i64 a0_3, .int .i64 a0_4, .int .i64 a0_5, .int .i64 a0_6] 23 (0, 0)) (by (with_reducible repeat (first | refine blk_drewN ?_ _ | refine blk_drew ?_ | refine blk_alloc ?_ _)); exact BK163.out) hb); have n1_ := Aside0.mk (below_step (by repeat (first | (with_reducible first | exact HB.out | apply below_alloc | apply pw_below_drewN | apply below_drew1 | refine below_set ?_ GE163.out) | exact HB.out)) hb); clear BK163; clear HB; have BK163 := n0_; have HB := n1_; clear n0_ n1_; (try clear hb); (try clear hb2); (try clear hk); (try clear hi); have hcz18_0 : w17.cell? ⟨gb163, 0, none⟩ = some (.int .i64 a0_0) := (blk_cell BK163.out 0).trans rfl; have hcz18_1 : w17.cell? ⟨gb163, 1, none⟩ = some (.int .i64 a0_1) := (blk_cell BK163.out 1).trans rfl; have hcz18_2 : w17.cell? ⟨gb163, 2, none⟩ = some (.int .i64 a0_2) := (blk_cell BK163.out 2).trans rfl; have hcz18_3 : w17.cell? ⟨gb163, 3, none⟩ = some (.int .i64 a0_3) := (blk_cell BK163.out 3).trans rfl; have hcz18_4 : w17.cell? ⟨gb163, 4, none⟩ = some (.int .i64 a0_4) := (blk_cell BK163.out 4).trans rfl; have hcz18_5 : w17.cell? ⟨gb163, 5, none⟩ = some (.int .i64 a0_5) := (blk_cell BK163.out 5).trans rfl; have hcz18_6 : w17.cell? ⟨gb163, 6, none⟩ = some (.int .i64 a0_6) := (blk_cell BK163.out 6).trans rfl; have hfz18_0 := blk_frozen BK163.out 0; have hfz18_1 := blk_frozen BK163.out 1; have hfz18_2 := blk_frozen BK163.out 2; have hfz18_3 := blk_frozen BK163.out 3; have hfz18_4 := blk_frozen BK163.out 4; have hfz18_5 := blk_frozen BK163.out 5; have hfz18_6 := blk_frozen BK163.out 6))
         go_ret
         exact ⟨by first | rfl | (simp [errW_none, errW_some] <;> rfl) | (simp [*, errW_none, errW_some] <;> rfl), by repeat (first | (with_reducible first | exact HB.out | apply below_alloc | apply pw_below_drewN | apply below_drew1 | refine below_set ?_ GE163.out) | exact HB.out)⟩
       ·rw [if_neg c9] at H
        have c9b0 : decide (a0_5 ≤ 59) = false := decide_eq_false c9
        clear c9
        obtain rfl := Option.some.inj H
        go_enter Tryd.func40, Tryd.ntmps40
        go_wp2_with (first | ((with_reducible refine gate_dst (N := 1) rfl ?_); refine box_event ?hg (N := 1) ?hd (cs := #[.int .i64 a0_0, .int .i64 a0_1, .int .i64 a0_2, .int .i64 a0_3, .int .i64 a0_4, .int .i64 a0_5, .int .i64 a0_6]) (t := 23) ?hr ?_; (case hd => rfl); (case hg => rfl); (case hr => first | (go_simp; done) | (go_simp; rfl)); intro gb163 hg w19 hbox hb; have n0_ := Aside0.mk (below_step (by repeat (first | (with_reducible first | exact HB.out | apply below_alloc | apply pw_below_drewN | apply below_drew1) | exact HB.out)) hb); have n1_ := Aside0.mk (hbox); have n2_ := Aside0.mk ((by rw [hg]; exact (below_size (by repeat (first | (with_reducible first | exact HB.out | apply below_alloc | apply pw_below_drewN | apply below_drew1) | exact HB.out))) : w.heap.size ≤ gb163)); have n3_ := Aside0.mk ((by rw [hg]; exact (below_size (by repeat (first | (with_reducible first | exact HB.out | apply below_alloc | apply pw_below_drewN | apply below_drew1) | exact HB.out))) : w.heap.size ≤ gb163)); clear HB; have HB := n0_; have BK163 := n1_; have GW163 := n2_; have GE163 := n3_; clear n0_ n1_ n2_ n3_; clear hb hbox hg; have hcz20_0 : w19.cell? ⟨gb163, 0, none⟩ = some (.int .i64 a0_0) := (blk_cell BK163.out 0).trans rfl; have hcz20_1 : w19.cell? ⟨gb163, 1, none⟩ = some (.int .i64 a0_1) := (blk_cell BK163.out 1).trans rfl; have hcz20_2 : w19.cell? ⟨gb163, 2, none⟩ = some (.int .i64 a0_2) := (blk_cell BK163.out 2).trans rfl; have hcz20_3 : w19.cell? ⟨gb163, 3, none⟩ = some (.int .i64 a0_3) := (blk_cell BK163.out 3).trans rfl; have hcz20_4 : w19.cell? ⟨gb163, 4, none⟩ = some (.int .i64 a0_4) := (blk_cell BK163.out 4).trans rfl; have hcz20_5 : w19.cell? ⟨gb163, 5, none⟩ = some (.int .i64 a0_5) := (blk_cell BK163.out 5).trans rfl; have hcz20_6 : w19.cell? ⟨gb163, 6, none⟩ = some (.int .i64 a0_6) := (blk_cell BK163.out 6).trans rfl; have hfz20_0 := blk_frozen BK163.out 0; have hfz20_1 := blk_frozen BK163.out 1; have hfz20_2 := blk_frozen BK163.out 2; have hfz20_3 := blk_frozen BK163.out 3; have hfz20_4 := blk_frozen BK163.out 4; have hfz20_5 := blk_frozen BK163.out 5; have hfz20_6 := blk_frozen BK163.out 6) | ((with_reducible refine gate_callee (f := 81) rfl ?_); refine goesL_ (some 5) rfl rfl Tryd.func81 (by kernel_rfl) rfl #[.agg #[.int .i64 a0_0, .int .i64 a0_1, .int .i64 a0_2, .int .i64 a0_3, .int .i64 a0_4, .int .i64 a0_5, .int .i64 a0_6]] rfl (by (try simp only [List.map_toArray, List.map_cons, List.map_nil]); first | done | rfl | (simp only [List.length_drop, List.length_take]; rfl)) ?_; (with_reducible refine (postbagref2_IsDay.calls k a0_0 a0_1 a0_2 a0_3 a0_4 a0_5 a0_6 true _ A2.out).mono ?_); rintro e w21 ⟨rfl, hb⟩; refine ⟨_, rfl, ?_⟩; have n0_ := Aside0.mk (blk_below (g := gb163) (o := .cells #[.int .i64 a0_0, .int .i64 a0_1, .int .i64 a0_2, .int .i64 a0_3, .int .i64 a0_4, .int .i64 a0_5, .int .i64 a0_6] 23 (0, 0)) (by (with_reducible repeat (first | refine blk_drewN ?_ _ | refine blk_drew ?_ | refine blk_alloc ?_ _)); exact BK163.out) hb); have n1_ := Aside0.mk (below_step (by repeat (first | (with_reducible first | exact HB.out | apply below_alloc | apply pw_below_drewN | apply below_drew1 | refine below_set ?_ GE163.out) | exact HB.out)) hb); clear BK163; clear HB; have BK163 := n0_; have HB := n1_; clear n0_ n1_; (try clear hb); (try clear hb2); (try clear hk); (try clear hi); have hcz22_0 : w21.cell? ⟨gb163, 0, none⟩ = some (.int .i64 a0_0) := (blk_cell BK163.out 0).trans rfl; have hcz22_1 : w21.cell? ⟨gb163, 1, none⟩ = some (.int .i64 a0_1) := (blk_cell BK163.out 1).trans rfl; have hcz22_2 : w21.cell? ⟨gb163, 2, none⟩ = some (.int .i64 a0_2) := (blk_cell BK163.out 2).trans rfl; have hcz22_3 : w21.cell? ⟨gb163, 3, none⟩ = some (.int .i64 a0_3) := (blk_cell BK163.out 3).trans rfl; have hcz22_4 : w21.cell? ⟨gb163, 4, none⟩ = some (.int .i64 a0_4) := (blk_cell BK163.out 4).trans rfl; have hcz22_5 : w21.cell? ⟨gb163, 5, none⟩ = some (.int .i64 a0_5) := (blk_cell BK163.out 5).trans rfl; have hcz22_6 : w21.cell? ⟨gb163, 6, none⟩ = some (.int .i64 a0_6) := (blk_cell BK163.out 6).trans rfl; have hfz22_0 := blk_frozen BK163.out 0; have hfz22_1 := blk_frozen BK163.out 1; have hfz22_2 := blk_frozen BK163.out 2; have hfz22_3 := blk_frozen BK163.out 3; have hfz22_4 := blk_frozen BK163.out 4; have hfz22_5 := blk_frozen BK163.out 5; have hfz22_6 := blk_frozen BK163.out 6))
        go_ret
        exact ⟨by first | rfl | (simp [errW_none, errW_some] <;> rfl) | (simp [*, errW_none, errW_some] <;> rfl), by repeat (first | (with_reducible first | exact HB.out | apply below_alloc | apply pw_below_drewN | apply below_drew1 | refine below_set ?_ GE163.out) | exact HB.out)⟩
      ·rw [if_neg c8] at H
       have c8b0 : decide (0 ≤ a0_5) = false := decide_eq_false c8
       clear c8
       obtain rfl := Option.some.inj H
       go_enter Tryd.func40, Tryd.ntmps40
       go_wp2_with (first | ((with_reducible refine gate_dst (N := 1) rfl ?_); refine box_event ?hg (N := 1) ?hd (cs := #[.int .i64 a0_0, .int .i64 a0_1, .int .i64 a0_2, .int .i64 a0_3, .int .i64 a0_4, .int .i64 a0_5, .int .i64 a0_6]) (t := 23) ?hr ?_; (case hd => rfl); (case hg => rfl); (case hr => first | (go_simp; done) | (go_simp; rfl)); intro gb163 hg w23 hbox hb; have n0_ := Aside0.mk (below_step (by repeat (first | (with_reducible first | exact HB.out | apply below_alloc | apply pw_below_drewN | apply below_drew1) | exact HB.out)) hb); have n1_ := Aside0.mk (hbox); have n2_ := Aside0.mk ((by rw [hg]; exact (below_size (by repeat (first | (with_reducible first | exact HB.out | apply below_alloc | apply pw_below_drewN | apply below_drew1) | exact HB.out))) : w.heap.size ≤ gb163)); have n3_ := Aside0.mk ((by rw [hg]; exact (below_size (by repeat (first | (with_reducible first | exact HB.out | apply below_alloc | apply pw_below_drewN | apply below_drew1) | exact HB.out))) : w.heap.size ≤ gb163)); clear HB; have HB := n0_; have BK163 := n1_; have GW163 := n2_; have GE163 := n3_; clear n0_ n1_ n2_ n3_; clear hb hbox hg; have hcz24_0 : w23.cell? ⟨gb163, 0, none⟩ = some (.int .i64 a0_0) := (blk_cell BK163.out 0).trans rfl; have hcz24_1 : w23.cell? ⟨gb163, 1, none⟩ = some (.int .i64 a0_1) := (blk_cell BK163.out 1).trans rfl; have hcz24_2 : w23.cell? ⟨gb163, 2, none⟩ = some (.int .i64 a0_2) := (blk_cell BK163.out 2).trans rfl; have hcz24_3 : w23.cell? ⟨gb163, 3, none⟩ = some (.int .i64 a0_3) := (blk_cell BK163.out 3).trans rfl; have hcz24_4 : w23.cell? ⟨gb163, 4, none⟩ = some (.int .i64 a0_4) := (blk_cell BK163.out 4).trans rfl; have hcz24_5 : w23.cell? ⟨gb163, 5, none⟩ = some (.int .i64 a0_5) := (blk_cell BK163.out 5).trans rfl; have hcz24_6 : w23.cell? ⟨gb163, 6, none⟩ = some (.int .i64 a0_6) := (blk_cell BK163.out 6).trans rfl; have hfz24_0 := blk_frozen BK163.out 0; have hfz24_1 := blk_frozen BK163.out 1; have hfz24_2 := blk_frozen BK163.out 2; have hfz24_3 := blk_frozen BK163.out 3; have hfz24_4 := blk_frozen BK163.out 4; have hfz24_5 := blk_frozen BK163.out 5; have hfz24_6 := blk_frozen BK163.out 6) | ((with_reducible refine gate_callee (f := 81) rfl ?_); refine goesL_ (some 5) rfl rfl Tryd.func81 (by kernel_rfl) rfl #[.agg #[.int .i64 a0_0, .int .i64 a0_1, .int .i64 a0_2, .int .i64 a0_3, .int .i64 a0_4, .int .i64 a0_5, .int .i64 a0_6]] rfl (by (try simp only [List.map_toArray, List.map_cons, List.map_nil]); first | done | rfl | (simp only [List.length_drop, List.length_take]; rfl)) ?_; (with_reducible refine (postbagref2_IsDay.calls k a0_0 a0_1 a0_2 a0_3 a0_4 a0_5 a0_6 true _ A2.out).mono ?_); rintro e w25 ⟨rfl, hb⟩; refine ⟨_, rfl, ?_⟩; have n0_ := Aside0.mk (blk_below (g := gb163) (o := .cells #[.int .i64 a0_0, .int .i64 a0_1, .int .i64 a0_2, .int .i64 a0_3, .int .i64 a0_4, .int .i64 a0_5, .int .i64 a0_6] 23 (0, 0)) (by (with_reducible repeat (first | refine blk_drewN ?_ _ | refine blk_drew ?_ | refine blk_alloc ?_ _)); exact BK163.out) hb); have n1_ := Aside0.mk (below_step (by repeat (first | (with_reducible first | exact HB.out | apply below_alloc | apply pw_below_drewN | apply below_drew1 | refine below_set ?_ GE163.out) | exact HB.out)) hb); clear BK163; clear HB; have BK163 := n0_; have HB := n1_; clear n0_ n1_; (try clear hb); (try clear hb2); (try clear hk); (try clear hi); have hcz26_0 : w25.cell? ⟨gb163, 0, none⟩ = some (.int .i64 a0_0) := (blk_cell BK163.out 0).trans rfl; have hcz26_1 : w25.cell? ⟨gb163, 1, none⟩ = some (.int .i64 a0_1) := (blk_cell BK163.out 1).trans rfl; have hcz26_2 : w25.cell? ⟨gb163, 2, none⟩ = some (.int .i64 a0_2) := (blk_cell BK163.out 2).trans rfl; have hcz26_3 : w25.cell? ⟨gb163, 3, none⟩ = some (.int .i64 a0_3) := (blk_cell BK163.out 3).trans rfl; have hcz26_4 : w25.cell? ⟨gb163, 4, none⟩ = some (.int .i64 a0_4) := (blk_cell BK163.out 4).trans rfl; have hcz26_5 : w25.cell? ⟨gb163, 5, none⟩ = some (.int .i64 a0_5) := (blk_cell BK163.out 5).trans rfl; have hcz26_6 : w25.cell? ⟨gb163, 6, none⟩ = some (.int .i64 a0_6) := (blk_cell BK163.out 6).trans rfl; have hfz26_0 := blk_frozen BK163.out 0; have hfz26_1 := blk_frozen BK163.out 1; have hfz26_2 := blk_frozen BK163.out 2; have hfz26_3 := blk_frozen BK163.out 3; have hfz26_4 := blk_frozen BK163.out 4; have hfz26_5 := blk_frozen BK163.out 5; have hfz26_6 := blk_frozen BK163.out 6))
       go_ret
       exact ⟨by first | rfl | (simp [errW_none, errW_some] <;> rfl) | (simp [*, errW_none, errW_some] <;> rfl), by repeat (first | (with_reducible first | exact HB.out | apply below_alloc | apply pw_below_drewN | apply below_drew1 | refine below_set ?_ GE163.out) | exact HB.out)⟩
     ·rw [if_neg c7] at H
      have c7b0 : decide (a0_4 ≤ 59) = false := decide_eq_false c7
      clear c7
      obtain rfl := Option.some.inj H
      go_enter Tryd.func40, Tryd.ntmps40
      go_wp2_with (first | ((with_reducible refine gate_dst (N := 1) rfl ?_); refine box_event ?hg (N := 1) ?hd (cs := #[.int .i64 a0_0, .int .i64 a0_1, .int .i64 a0_2, .int .i64 a0_3, .int .i64 a0_4, .int .i64 a0_5, .int .i64 a0_6]) (t := 23) ?hr ?_; (case hd => rfl); (case hg => rfl); (case hr => first | (go_simp; done) | (go_simp; rfl)); intro gb163 hg w27 hbox hb; have n0_ := Aside0.mk (below_step (by repeat (first | (with_reducible first | exact HB.out | apply below_alloc | apply pw_below_drewN | apply below_drew1) | exact HB.out)) hb); have n1_ := Aside0.mk (hbox); have n2_ := Aside0.mk ((by rw [hg]; exact (below_size (by repeat (first | (with_reducible first | exact HB.out | apply below_alloc | apply pw_below_drewN | apply below_drew1) | exact HB.out))) : w.heap.size ≤ gb163)); have n3_ := Aside0.mk ((by rw [hg]; exact (below_size (by repeat (first | (with_reducible first | exact HB.out | apply below_alloc | apply pw_below_drewN | apply below_drew1) | exact HB.out))) : w.heap.size ≤ gb163)); clear HB; have HB := n0_; have BK163 := n1_; have GW163 := n2_; have GE163 := n3_; clear n0_ n1_ n2_ n3_; clear hb hbox hg; have hcz28_0 : w27.cell? ⟨gb163, 0, none⟩ = some (.int .i64 a0_0) := (blk_cell BK163.out 0).trans rfl; have hcz28_1 : w27.cell? ⟨gb163, 1, none⟩ = some (.int .i64 a0_1) := (blk_cell BK163.out 1).trans rfl; have hcz28_2 : w27.cell? ⟨gb163, 2, none⟩ = some (.int .i64 a0_2) := (blk_cell BK163.out 2).trans rfl; have hcz28_3 : w27.cell? ⟨gb163, 3, none⟩ = some (.int .i64 a0_3) := (blk_cell BK163.out 3).trans rfl; have hcz28_4 : w27.cell? ⟨gb163, 4, none⟩ = some (.int .i64 a0_4) := (blk_cell BK163.out 4).trans rfl; have hcz28_5 : w27.cell? ⟨gb163, 5, none⟩ = some (.int .i64 a0_5) := (blk_cell BK163.out 5).trans rfl; have hcz28_6 : w27.cell? ⟨gb163, 6, none⟩ = some (.int .i64 a0_6) := (blk_cell BK163.out 6).trans rfl; have hfz28_0 := blk_frozen BK163.out 0; have hfz28_1 := blk_frozen BK163.out 1; have hfz28_2 := blk_frozen BK163.out 2; have hfz28_3 := blk_frozen BK163.out 3; have hfz28_4 := blk_frozen BK163.out 4; have hfz28_5 := blk_frozen BK163.out 5; have hfz28_6 := blk_frozen BK163.out 6) | ((with_reducible refine gate_callee (f := 81) rfl ?_); refine goesL_ (some 5) rfl rfl Tryd.func81 (by kernel_rfl) rfl #[.agg #[.int .i64 a0_0, .int .i64 a0_1, .int .i64 a0_2, .int .i64 a0_3, .int .i64 a0_4, .int .i64 a0_5, .int .i64 a0_6]] rfl (by (try simp only [List.map_toArray, List.map_cons, List.map_nil]); first | done | rfl | (simp only [List.length_drop, List.length_take]; rfl)) ?_; (with_reducible refine (postbagref2_IsDay.calls k a0_0 a0_1 a0_2 a0_3 a0_4 a0_5 a0_6 true _ A2.out).mono ?_); rintro e w29 ⟨rfl, hb⟩; refine ⟨_, rfl, ?_⟩; have n0_ := Aside0.mk (blk_below (g := gb163) (o := .cells #[.int .i64 a0_0, .int .i64 a0_1, .int .i64 a0_2, .int .i64 a0_3, .int .i64 a0_4, .int .i64 a0_5, .int .i64 a0_6] 23 (0, 0)) (by (with_reducible repeat (first | refine blk_drewN ?_ _ | refine blk_drew ?_ | refine blk_alloc ?_ _)); exact BK163.out) hb); have n1_ := Aside0.mk (below_step (by repeat (first | (with_reducible first | exact HB.out | apply below_alloc | apply pw_below_drewN | apply below_drew1 | refine below_set ?_ GE163.out) | exact HB.out)) hb); clear BK163; clear HB; have BK163 := n0_; have HB := n1_; clear n0_ n1_; (try clear hb); (try clear hb2); (try clear hk); (try clear hi); have hcz30_0 : w29.cell? ⟨gb163, 0, none⟩ = some (.int .i64 a0_0) := (blk_cell BK163.out 0).trans rfl; have hcz30_1 : w29.cell? ⟨gb163, 1, none⟩ = some (.int .i64 a0_1) := (blk_cell BK163.out 1).trans rfl; have hcz30_2 : w29.cell? ⟨gb163, 2, none⟩ = some (.int .i64 a0_2) := (blk_cell BK163.out 2).trans rfl; have hcz30_3 : w29.cell? ⟨gb163, 3, none⟩ = some (.int .i64 a0_3) := (blk_cell BK163.out 3).trans rfl; have hcz30_4 : w29.cell? ⟨gb163, 4, none⟩ = some (.int .i64 a0_4) := (blk_cell BK163.out 4).trans rfl; have hcz30_5 : w29.cell? ⟨gb163, 5, none⟩ = some (.int .i64 a0_5) := (blk_cell BK163.out 5).trans rfl; have hcz30_6 : w29.cell? ⟨gb163, 6, none⟩ = some (.int .i64 a0_6) := (blk_cell BK163.out 6).trans rfl; have hfz30_0 := blk_frozen BK163.out 0; have hfz30_1 := blk_frozen BK163.out 1; have hfz30_2 := blk_frozen BK163.out 2; have hfz30_3 := blk_frozen BK163.out 3; have hfz30_4 := blk_frozen BK163.out 4; have hfz30_5 := blk_frozen BK163.out 5; have hfz30_6 := blk_frozen BK163.out 6))
      go_ret
      exact ⟨by first | rfl | (simp [errW_none, errW_some] <;> rfl) | (simp [*, errW_none, errW_some] <;> rfl), by repeat (first | (with_reducible first | exact HB.out | apply below_alloc | apply pw_below_drewN | apply below_drew1 | refine below_set ?_ GE163.out) | exact HB.out)⟩
    ·rw [if_neg c6] at H
     have c6b0 : decide (0 ≤ a0_4) = false := decide_eq_false c6
     clear c6
     obtain rfl := Option.some.inj H
     go_enter Tryd.func40, Tryd.ntmps40
     go_wp2_with (first | ((with_reducible refine gate_dst (N := 1) rfl ?_); refine box_event ?hg (N := 1) ?hd (cs := #[.int .i64 a0_0, .int .i64 a0_1, .int .i64 a0_2, .int .i64 a0_3, .int .i64 a0_4, .int .i64 a0_5, .int .i64 a0_6]) (t := 23) ?hr ?_; (case hd => rfl); (case hg => rfl); (case hr => first | (go_simp; done) | (go_simp; rfl)); intro gb163 hg w31 hbox hb; have n0_ := Aside0.mk (below_step (by repeat (first | (with_reducible first | exact HB.out | apply below_alloc | apply pw_below_drewN | apply below_drew1) | exact HB.out)) hb); have n1_ := Aside0.mk (hbox); have n2_ := Aside0.mk ((by rw [hg]; exact (below_size (by repeat (first | (with_reducible first | exact HB.out | apply below_alloc | apply pw_below_drewN | apply below_drew1) | exact HB.out))) : w.heap.size ≤ gb163)); have n3_ := Aside0.mk ((by rw [hg]; exact (below_size (by repeat (first | (with_reducible first | exact HB.out | apply below_alloc | apply pw_below_drewN | apply below_drew1) | exact HB.out))) : w.heap.size ≤ gb163)); clear HB; have HB := n0_; have BK163 := n1_; have GW163 := n2_; have GE163 := n3_; clear n0_ n1_ n2_ n3_; clear hb hbox hg; have hcz32_0 : w31.cell? ⟨gb163, 0, none⟩ = some (.int .i64 a0_0) := (blk_cell BK163.out 0).trans rfl; have hcz32_1 : w31.cell? ⟨gb163, 1, none⟩ = some (.int .i64 a0_1) := (blk_cell BK163.out 1).trans rfl; have hcz32_2 : w31.cell? ⟨gb163, 2, none⟩ = some (.int .i64 a0_2) := (blk_cell BK163.out 2).trans rfl; have hcz32_3 : w31.cell? ⟨gb163, 3, none⟩ = some (.int .i64 a0_3) := (blk_cell BK163.out 3).trans rfl; have hcz32_4 : w31.cell? ⟨gb163, 4, none⟩ = some (.int .i64 a0_4) := (blk_cell BK163.out 4).trans rfl; have hcz32_5 : w31.cell? ⟨gb163, 5, none⟩ = some (.int .i64 a0_5) := (blk_cell BK163.out 5).trans rfl; have hcz32_6 : w31.cell? ⟨gb163, 6, none⟩ = some (.int .i64 a0_6) := (blk_cell BK163.out 6).trans rfl; have hfz32_0 := blk_frozen BK163.out 0; have hfz32_1 := blk_frozen BK163.out 1; have hfz32_2 := blk_frozen BK163.out 2; have hfz32_3 := blk_frozen BK163.out 3; have hfz32_4 := blk_frozen BK163.out 4; have hfz32_5 := blk_frozen BK163.out 5; have hfz32_6 := blk_frozen BK163.out 6) | ((with_reducible refine gate_callee (f := 81) rfl ?_); refine goesL_ (some 5) rfl rfl Tryd.func81 (by kernel_rfl) rfl #[.agg #[.int .i64 a0_0, .int .i64 a0_1, .int .i64 a0_2, .int .i64 a0_3, .int .i64 a0_4, .int .i64 a0_5, .int .i64 a0_6]] rfl (by (try simp only [List.map_toArray, List.map_cons, List.map_nil]); first | done | rfl | (simp only [List.length_drop, List.length_take]; rfl)) ?_; (with_reducible refine (postbagref2_IsDay.calls k a0_0 a0_1 a0_2 a0_3 a0_4 a0_5 a0_6 true _ A2.out).mono ?_); rintro e w33 ⟨rfl, hb⟩; refine ⟨_, rfl, ?_⟩; have n0_ := Aside0.mk (blk_below (g := gb163) (o := .cells #[.int .i64 a0_0, .int .i64 a0_1, .int .i64 a0_2, .int .i64 a0_3, .int .i64 a0_4, .int .i64 a0_5, .int .i64 a0_6] 23 (0, 0)) (by (with_reducible repeat (first | refine blk_drewN ?_ _ | refine blk_drew ?_ | refine blk_alloc ?_ _)); exact BK163.out) hb); have n1_ := Aside0.mk (below_step (by repeat (first | (with_reducible first | exact HB.out | apply below_alloc | apply pw_below_drewN | apply below_drew1 | refine below_set ?_ GE163.out) | exact HB.out)) hb); clear BK163; clear HB; have BK163 := n0_; have HB := n1_; clear n0_ n1_; (try clear hb); (try clear hb2); (try clear hk); (try clear hi); have hcz34_0 : w33.cell? ⟨gb163, 0, none⟩ = some (.int .i64 a0_0) := (blk_cell BK163.out 0).trans rfl; have hcz34_1 : w33.cell? ⟨gb163, 1, none⟩ = some (.int .i64 a0_1) := (blk_cell BK163.out 1).trans rfl; have hcz34_2 : w33.cell? ⟨gb163, 2, none⟩ = some (.int .i64 a0_2) := (blk_cell BK163.out 2).trans rfl; have hcz34_3 : w33.cell? ⟨gb163, 3, none⟩ = some (.int .i64 a0_3) := (blk_cell BK163.out 3).trans rfl; have hcz34_4 : w33.cell? ⟨gb163, 4, none⟩ = some (.int .i64 a0_4) := (blk_cell BK163.out 4).trans rfl; have hcz34_5 : w33.cell? ⟨gb163, 5, none⟩ = some (.int .i64 a0_5) := (blk_cell BK163.out 5).trans rfl; have hcz34_6 : w33.cell? ⟨gb163, 6, none⟩ = some (.int .i64 a0_6) := (blk_cell BK163.out 6).trans rfl; have hfz34_0 := blk_frozen BK163.out 0; have hfz34_1 := blk_frozen BK163.out 1; have hfz34_2 := blk_frozen BK163.out 2; have hfz34_3 := blk_frozen BK163.out 3; have hfz34_4 := blk_frozen BK163.out 4; have hfz34_5 := blk_frozen BK163.out 5; have hfz34_6 := blk_frozen BK163.out 6))
     go_ret
     exact ⟨by first | rfl | (simp [errW_none, errW_some] <;> rfl) | (simp [*, errW_none, errW_some] <;> rfl), by repeat (first | (with_reducible first | exact HB.out | apply below_alloc | apply pw_below_drewN | apply below_drew1 | refine below_set ?_ GE163.out) | exact HB.out)⟩
   ·rw [if_neg c5] at H
    have c5b0 : decide (a0_3 ≤ 23) = false := decide_eq_false c5
    clear c5
    obtain rfl := Option.some.inj H
    go_enter Tryd.func40, Tryd.ntmps40
    go_wp2_with (first | ((with_reducible refine gate_dst (N := 1) rfl ?_); refine box_event ?hg (N := 1) ?hd (cs := #[.int .i64 a0_0, .int .i64 a0_1, .int .i64 a0_2, .int .i64 a0_3, .int .i64 a0_4, .int .i64 a0_5, .int .i64 a0_6]) (t := 23) ?hr ?_; (case hd => rfl); (case hg => rfl); (case hr => first | (go_simp; done) | (go_simp; rfl)); intro gb163 hg w35 hbox hb; have n0_ := Aside0.mk (below_step (by repeat (first | (with_reducible first | exact HB.out | apply below_alloc | apply pw_below_drewN | apply below_drew1) | exact HB.out)) hb); have n1_ := Aside0.mk (hbox); have n2_ := Aside0.mk ((by rw [hg]; exact (below_size (by repeat (first | (with_reducible first | exact HB.out | apply below_alloc | apply pw_below_drewN | apply below_drew1) | exact HB.out))) : w.heap.size ≤ gb163)); have n3_ := Aside0.mk ((by rw [hg]; exact (below_size (by repeat (first | (with_reducible first | exact HB.out | apply below_alloc | apply pw_below_drewN | apply below_drew1) | exact HB.out))) : w.heap.size ≤ gb163)); clear HB; have HB := n0_; have BK163 := n1_; have GW163 := n2_; have GE163 := n3_; clear n0_ n1_ n2_ n3_; clear hb hbox hg; have hcz36_0 : w35.cell? ⟨gb163, 0, none⟩ = some (.int .i64 a0_0) := (blk_cell BK163.out 0).trans rfl; have hcz36_1 : w35.cell? ⟨gb163, 1, none⟩ = some (.int .i64 a0_1) := (blk_cell BK163.out 1).trans rfl; have hcz36_2 : w35.cell? ⟨gb163, 2, none⟩ = some (.int .i64 a0_2) := (blk_cell BK163.out 2).trans rfl; have hcz36_3 : w35.cell? ⟨gb163, 3, none⟩ = some (.int .i64 a0_3) := (blk_cell BK163.out 3).trans rfl; have hcz36_4 : w35.cell? ⟨gb163, 4, none⟩ = some (.int .i64 a0_4) := (blk_cell BK163.out 4).trans rfl; have hcz36_5 : w35.cell? ⟨gb163, 5, none⟩ = some (.int .i64 a0_5) := (blk_cell BK163.out 5).trans rfl; have hcz36_6 : w35.cell? ⟨gb163, 6, none⟩ = some (.int .i64 a0_6) := (blk_cell BK163.out 6).trans rfl; have hfz36_0 := blk_frozen BK163.out 0; have hfz36_1 := blk_frozen BK163.out 1; have hfz36_2 := blk_frozen BK163.out 2; have hfz36_3 := blk_frozen BK163.out 3; have hfz36_4 := blk_frozen BK163.out 4; have hfz36_5 := blk_frozen BK163.out 5; have hfz36_6 := blk_frozen BK163.out 6) | ((with_reducible refine gate_callee (f := 81) rfl ?_); refine goesL_ (some 5) rfl rfl Tryd.func81 (by kernel_rfl) rfl #[.agg #[.int .i64 a0_0, .int .i64 a0_1, .int .i64 a0_2, .int .i64 a0_3, .int .i64 a0_4, .int .i64 a0_5, .int .i64 a0_6]] rfl (by (try simp only [List.map_toArray, List.map_cons, List.map_nil]); first | done | rfl | (simp only [List.length_drop, List.length_take]; rfl)) ?_; (with_reducible refine (postbagref2_IsDay.calls k a0_0 a0_1 a0_2 a0_3 a0_4 a0_5 a0_6 true _ A2.out).mono ?_); rintro e w37 ⟨rfl, hb⟩; refine ⟨_, rfl, ?_⟩; have n0_ := Aside0.mk (blk_below (g := gb163) (o := .cells #[.int .i64 a0_0, .int .i64 a0_1, .int .i64 a0_2, .int .i64 a0_3, .int .i64 a0_4, .int .i64 a0_5, .int .i64 a0_6] 23 (0, 0)) (by (with_reducible repeat (first | refine blk_drewN ?_ _ | refine blk_drew ?_ | refine blk_alloc ?_ _)); exact BK163.out) hb); have n1_ := Aside0.mk (below_step (by repeat (first | (with_reducible first | exact HB.out | apply below_alloc | apply pw_below_drewN | apply below_drew1 | refine below_set ?_ GE163.out) | exact HB.out)) hb); clear BK163; clear HB; have BK163 := n0_; have HB := n1_; clear n0_ n1_; (try clear hb); (try clear hb2); (try clear hk); (try clear hi); have hcz38_0 : w37.cell? ⟨gb163, 0, none⟩ = some (.int .i64 a0_0) := (blk_cell BK163.out 0).trans rfl; have hcz38_1 : w37.cell? ⟨gb163, 1, none⟩ = some (.int .i64 a0_1) := (blk_cell BK163.out 1).trans rfl; have hcz38_2 : w37.cell? ⟨gb163, 2, none⟩ = some (.int .i64 a0_2) := (blk_cell BK163.out 2).trans rfl; have hcz38_3 : w37.cell? ⟨gb163, 3, none⟩ = some (.int .i64 a0_3) := (blk_cell BK163.out 3).trans rfl; have hcz38_4 : w37.cell? ⟨gb163, 4, none⟩ = some (.int .i64 a0_4) := (blk_cell BK163.out 4).trans rfl; have hcz38_5 : w37.cell? ⟨gb163, 5, none⟩ = some (.int .i64 a0_5) := (blk_cell BK163.out 5).trans rfl; have hcz38_6 : w37.cell? ⟨gb163, 6, none⟩ = some (.int .i64 a0_6) := (blk_cell BK163.out 6).trans rfl; have hfz38_0 := blk_frozen BK163.out 0; have hfz38_1 := blk_frozen BK163.out 1; have hfz38_2 := blk_frozen BK163.out 2; have hfz38_3 := blk_frozen BK163.out 3; have hfz38_4 := blk_frozen BK163.out 4; have hfz38_5 := blk_frozen BK163.out 5; have hfz38_6 := blk_frozen BK163.out 6))
    go_ret
    exact ⟨by first | rfl | (simp [errW_none, errW_some] <;> rfl) | (simp [*, errW_none, errW_some] <;> rfl), by repeat (first | (with_reducible first | exact HB.out | apply below_alloc | apply pw_below_drewN | apply below_drew1 | refine below_set ?_ GE163.out) | exact HB.out)⟩
  ·rw [if_neg c4] at H
   have c4b0 : decide (0 ≤ a0_3) = false := decide_eq_false c4
   clear c4
   obtain rfl := Option.some.inj H
   go_enter Tryd.func40, Tryd.ntmps40
   go_wp2_with (first | ((with_reducible refine gate_dst (N := 1) rfl ?_); refine box_event ?hg (N := 1) ?hd (cs := #[.int .i64 a0_0, .int .i64 a0_1, .int .i64 a0_2, .int .i64 a0_3, .int .i64 a0_4, .int .i64 a0_5, .int .i64 a0_6]) (t := 23) ?hr ?_; (case hd => rfl); (case hg => rfl); (case hr => first | (go_simp; done) | (go_simp; rfl)); intro gb163 hg w39 hbox hb; have n0_ := Aside0.mk (below_step (by repeat (first | (with_reducible first | exact HB.out | apply below_alloc | apply pw_below_drewN | apply below_drew1) | exact HB.out)) hb); have n1_ := Aside0.mk (hbox); have n2_ := Aside0.mk ((by rw [hg]; exact (below_size (by repeat (first | (with_reducible first | exact HB.out | apply below_alloc | apply pw_below_drewN | apply below_drew1) | exact HB.out))) : w.heap.size ≤ gb163)); have n3_ := Aside0.mk ((by rw [hg]; exact (below_size (by repeat (first | (with_reducible first | exact HB.out | apply below_alloc | apply pw_below_drewN | apply below_drew1) | exact HB.out))) : w.heap.size ≤ gb163)); clear HB; have HB := n0_; have BK163 := n1_; have GW163 := n2_; have GE163 := n3_; clear n0_ n1_ n2_ n3_; clear hb hbox hg; have hcz40_0 : w39.cell? ⟨gb163, 0, none⟩ = some (.int .i64 a0_0) := (blk_cell BK163.out 0).trans rfl; have hcz40_1 : w39.cell? ⟨gb163, 1, none⟩ = some (.int .i64 a0_1) := (blk_cell BK163.out 1).trans rfl; have hcz40_2 : w39.cell? ⟨gb163, 2, none⟩ = some (.int .i64 a0_2) := (blk_cell BK163.out 2).trans rfl; have hcz40_3 : w39.cell? ⟨gb163, 3, none⟩ = some (.int .i64 a0_3) := (blk_cell BK163.out 3).trans rfl; have hcz40_4 : w39.cell? ⟨gb163, 4, none⟩ = some (.int .i64 a0_4) := (blk_cell BK163.out 4).trans rfl; have hcz40_5 : w39.cell? ⟨gb163, 5, none⟩ = some (.int .i64 a0_5) := (blk_cell BK163.out 5).trans rfl; have hcz40_6 : w39.cell? ⟨gb163, 6, none⟩ = some (.int .i64 a0_6) := (blk_cell BK163.out 6).trans rfl; have hfz40_0 := blk_frozen BK163.out 0; have hfz40_1 := blk_frozen BK163.out 1; have hfz40_2 := blk_frozen BK163.out 2; have hfz40_3 := blk_frozen BK163.out 3; have hfz40_4 := blk_frozen BK163.out 4; have hfz40_5 := blk_frozen BK163.out 5; have hfz40_6 := blk_frozen BK163.out 6) | ((with_reducible refine gate_callee (f := 81) rfl ?_); refine goesL_ (some 5) rfl rfl Tryd.func81 (by kernel_rfl) rfl #[.agg #[.int .i64 a0_0, .int .i64 a0_1, .int .i64 a0_2, .int .i64 a0_3, .int .i64 a0_4, .int .i64 a0_5, .int .i64 a0_6]] rfl (by (try simp only [List.map_toArray, List.map_cons, List.map_nil]); first | done | rfl | (simp only [List.length_drop, List.length_take]; rfl)) ?_; (with_reducible refine (postbagref2_IsDay.calls k a0_0 a0_1 a0_2 a0_3 a0_4 a0_5 a0_6 true _ A2.out).mono ?_); rintro e w41 ⟨rfl, hb⟩; refine ⟨_, rfl, ?_⟩; have n0_ := Aside0.mk (blk_below (g := gb163) (o := .cells #[.int .i64 a0_0, .int .i64 a0_1, .int .i64 a0_2, .int .i64 a0_3, .int .i64 a0_4, .int .i64 a0_5, .int .i64 a0_6] 23 (0, 0)) (by (with_reducible repeat (first | refine blk_drewN ?_ _ | refine blk_drew ?_ | refine blk_alloc ?_ _)); exact BK163.out) hb); have n1_ := Aside0.mk (below_step (by repeat (first | (with_reducible first | exact HB.out | apply below_alloc | apply pw_below_drewN | apply below_drew1 | refine below_set ?_ GE163.out) | exact HB.out)) hb); clear BK163; clear HB; have BK163 := n0_; have HB := n1_; clear n0_ n1_; (try clear hb); (try clear hb2); (try clear hk); (try clear hi); have hcz42_0 : w41.cell? ⟨gb163, 0, none⟩ = some (.int .i64 a0_0) := (blk_cell BK163.out 0).trans rfl; have hcz42_1 : w41.cell? ⟨gb163, 1, none⟩ = some (.int .i64 a0_1) := (blk_cell BK163.out 1).trans rfl; have hcz42_2 : w41.cell? ⟨gb163, 2, none⟩ = some (.int .i64 a0_2) := (blk_cell BK163.out 2).trans rfl; have hcz42_3 : w41.cell? ⟨gb163, 3, none⟩ = some (.int .i64 a0_3) := (blk_cell BK163.out 3).trans rfl; have hcz42_4 : w41.cell? ⟨gb163, 4, none⟩ = some (.int .i64 a0_4) := (blk_cell BK163.out 4).trans rfl; have hcz42_5 : w41.cell? ⟨gb163, 5, none⟩ = some (.int .i64 a0_5) := (blk_cell BK163.out 5).trans rfl; have hcz42_6 : w41.cell? ⟨gb163, 6, none⟩ = some (.int .i64 a0_6) := (blk_cell BK163.out 6).trans rfl; have hfz42_0 := blk_frozen BK163.out 0; have hfz42_1 := blk_frozen BK163.out 1; have hfz42_2 := blk_frozen BK163.out 2; have hfz42_3 := blk_frozen BK163.out 3; have hfz42_4 := blk_frozen BK163.out 4; have hfz42_5 := blk_frozen BK163.out 5; have hfz42_6 := blk_frozen BK163.out 6))
   go_ret
   exact ⟨by first | rfl | (simp [errW_none, errW_some] <;> rfl) | (simp [*, errW_none, errW_some] <;> rfl), by repeat (first | (with_reducible first | exact HB.out | apply below_alloc | apply pw_below_drewN | apply below_drew1 | refine below_set ?_ GE163.out) | exact HB.out)⟩
 ·replace c3 := Bool.eq_false_iff.mpr c3
  subst c3
  have H1 : (some false) = some r := by rw [if_neg (show ¬ (false = true) by decide)] at H; exact H
  clear H
  have H := H1
  clear H1
  obtain rfl := Option.some.inj H
  go_enter Tryd.func40, Tryd.ntmps40
  go_wp2_with (first | ((with_reducible refine gate_dst (N := 1) rfl ?_); refine box_event ?hg (N := 1) ?hd (cs := #[.int .i64 a0_0, .int .i64 a0_1, .int .i64 a0_2, .int .i64 a0_3, .int .i64 a0_4, .int .i64 a0_5, .int .i64 a0_6]) (t := 23) ?hr ?_; (case hd => rfl); (case hg => rfl); (case hr => first | (go_simp; done) | (go_simp; rfl)); intro gb163 hg w43 hbox hb; have n0_ := Aside0.mk (below_step (by repeat (first | (with_reducible first | exact HB.out | apply below_alloc | apply pw_below_drewN | apply below_drew1) | exact HB.out)) hb); have n1_ := Aside0.mk (hbox); have n2_ := Aside0.mk ((by rw [hg]; exact (below_size (by repeat (first | (with_reducible first | exact HB.out | apply below_alloc | apply pw_below_drewN | apply below_drew1) | exact HB.out))) : w.heap.size ≤ gb163)); have n3_ := Aside0.mk ((by rw [hg]; exact (below_size (by repeat (first | (with_reducible first | exact HB.out | apply below_alloc | apply pw_below_drewN | apply below_drew1) | exact HB.out))) : w.heap.size ≤ gb163)); clear HB; have HB := n0_; have BK163 := n1_; have GW163 := n2_; have GE163 := n3_; clear n0_ n1_ n2_ n3_; clear hb hbox hg; have hcz44_0 : w43.cell? ⟨gb163, 0, none⟩ = some (.int .i64 a0_0) := (blk_cell BK163.out 0).trans rfl; have hcz44_1 : w43.cell? ⟨gb163, 1, none⟩ = some (.int .i64 a0_1) := (blk_cell BK163.out 1).trans rfl; have hcz44_2 : w43.cell? ⟨gb163, 2, none⟩ = some (.int .i64 a0_2) := (blk_cell BK163.out 2).trans rfl; have hcz44_3 : w43.cell? ⟨gb163, 3, none⟩ = some (.int .i64 a0_3) := (blk_cell BK163.out 3).trans rfl; have hcz44_4 : w43.cell? ⟨gb163, 4, none⟩ = some (.int .i64 a0_4) := (blk_cell BK163.out 4).trans rfl; have hcz44_5 : w43.cell? ⟨gb163, 5, none⟩ = some (.int .i64 a0_5) := (blk_cell BK163.out 5).trans rfl; have hcz44_6 : w43.cell? ⟨gb163, 6, none⟩ = some (.int .i64 a0_6) := (blk_cell BK163.out 6).trans rfl; have hfz44_0 := blk_frozen BK163.out 0; have hfz44_1 := blk_frozen BK163.out 1; have hfz44_2 := blk_frozen BK163.out 2; have hfz44_3 := blk_frozen BK163.out 3; have hfz44_4 := blk_frozen BK163.out 4; have hfz44_5 := blk_frozen BK163.out 5; have hfz44_6 := blk_frozen BK163.out 6) | ((with_reducible refine gate_callee (f := 81) rfl ?_); refine goesL_ (some 5) rfl rfl Tryd.func81 (by kernel_rfl) rfl #[.agg #[.int .i64 a0_0, .int .i64 a0_1, .int .i64 a0_2, .int .i64 a0_3, .int .i64 a0_4, .int .i64 a0_5, .int .i64 a0_6]] rfl (by (try simp only [List.map_toArray, List.map_cons, List.map_nil]); first | done | rfl | (simp only [List.length_drop, List.length_take]; rfl)) ?_; (with_reducible refine (postbagref2_IsDay.calls k a0_0 a0_1 a0_2 a0_3 a0_4 a0_5 a0_6 false _ A2.out).mono ?_); rintro e w45 ⟨rfl, hb⟩; refine ⟨_, rfl, ?_⟩; have n0_ := Aside0.mk (blk_below (g := gb163) (o := .cells #[.int .i64 a0_0, .int .i64 a0_1, .int .i64 a0_2, .int .i64 a0_3, .int .i64 a0_4, .int .i64 a0_5, .int .i64 a0_6] 23 (0, 0)) (by (with_reducible repeat (first | refine blk_drewN ?_ _ | refine blk_drew ?_ | refine blk_alloc ?_ _)); exact BK163.out) hb); have n1_ := Aside0.mk (below_step (by repeat (first | (with_reducible first | exact HB.out | apply below_alloc | apply pw_below_drewN | apply below_drew1 | refine below_set ?_ GE163.out) | exact HB.out)) hb); clear BK163; clear HB; have BK163 := n0_; have HB := n1_; clear n0_ n1_; (try clear hb); (try clear hb2); (try clear hk); (try clear hi)))
  go_ret
  exact ⟨by first | rfl | (simp [errW_none, errW_some] <;> rfl) | (simp [*, errW_none, errW_some] <;> rfl), by repeat (first | (with_reducible first | exact HB.out | apply below_alloc | apply pw_below_drewN | apply below_drew1 | refine below_set ?_ GE163.out) | exact HB.out)⟩
def postbagref2_may.f (k : Nat) (a0_0 : Int) (a0_1 : Int) (a0_2 : Int) (a0_3 : Int) (a0_4 : Int) (a0_5 : Int) (a0_6 : Int) : Option (Int) := (postbagref2_IsDay.f k a0_0 a0_1 a0_2 a0_3 a0_4 a0_5 a0_6).bind fun t166 => (if t166 = true then ((postbagref2_Valid.f k a0_0 a0_1 a0_2 a0_3 a0_4 a0_5 a0_6).bind fun t167 => (if t167 = true then (some 0) else (some 20))) else (some 21))
set_option maxHeartbeats 8000000 in
set_option maxRecDepth 100000 in
theorem postbagref2_may.calls (k : Nat) (a0_0 : Int) (a0_1 : Int) (a0_2 : Int) (a0_3 : Int) (a0_4 : Int) (a0_5 : Int) (a0_6 : Int) (r : Int) (w : World) (h : postbagref2_may.f k a0_0 a0_1 a0_2 a0_3 a0_4 a0_5 a0_6 = some r) :
  Calls Tryd.prog 78 #[.agg #[.int .i64 a0_0, .int .i64 a0_1, .int .i64 a0_2, .int .i64 a0_3, .int .i64 a0_4, .int .i64 a0_5, .int .i64 a0_6]] w fun e w' => e = .returned (.int .i64 r) ∧ Below w.heap.size w w' := by
 have hu23 := Tryd.underlying23
 have HB := Aside0.mk (Below.refl w.heap.size w)
 have H : ((postbagref2_IsDay.f k a0_0 a0_1 a0_2 a0_3 a0_4 a0_5 a0_6).bind fun t166 => (if t166 = true then ((postbagref2_Valid.f k a0_0 a0_1 a0_2 a0_3 a0_4 a0_5 a0_6).bind fun t167 => (if t167 = true then (some 0) else (some 20))) else (some 21))) = some r := h
 clear h
 replace H := Option.bind_eq_some_iff.mp H
 obtain ⟨t166, A20, H⟩ := H
 replace H : (if t166 = true then ((postbagref2_Valid.f k a0_0 a0_1 a0_2 a0_3 a0_4 a0_5 a0_6).bind fun t167 => (if t167 = true then (some 0) else (some 20))) else (some 21)) = some r := H
 have A2 := Aside0.mk A20
 clear A20
 by_cases c3 : t166 = true
 ·subst c3
  have H1 : ((postbagref2_Valid.f k a0_0 a0_1 a0_2 a0_3 a0_4 a0_5 a0_6).bind fun t167 => (if t167 = true then (some 0) else (some 20))) = some r := by rw [if_pos rfl] at H; exact H
  clear H
  have H := H1
  clear H1
  replace H := Option.bind_eq_some_iff.mp H
  obtain ⟨t167, A40, H⟩ := H
  replace H : (if t167 = true then (some 0) else (some 20)) = some r := H
  have A4 := Aside0.mk A40
  clear A40
  by_cases c5 : t167 = true
  ·subst c5
   have H1 : (some 0) = some r := by rw [if_pos rfl] at H; exact H
   clear H
   have H := H1
   clear H1
   obtain rfl := Option.some.inj H
   go_enter Tryd.func78, Tryd.ntmps78
   go_wp2_with (first | ((with_reducible refine gate_dst (N := 1) rfl ?_); refine box_event ?hg (N := 1) ?hd (cs := #[.int .i64 a0_0, .int .i64 a0_1, .int .i64 a0_2, .int .i64 a0_3, .int .i64 a0_4, .int .i64 a0_5, .int .i64 a0_6]) (t := 23) ?hr ?_; (case hd => rfl); (case hg => rfl); (case hr => first | (go_simp; done) | (go_simp; rfl)); intro gb165 hg w6 hbox hb; have n0_ := Aside0.mk (below_step (by repeat (first | (with_reducible first | exact HB.out | apply below_alloc | apply pw_below_drewN | apply below_drew1) | exact HB.out)) hb); have n1_ := Aside0.mk (hbox); have n2_ := Aside0.mk ((by rw [hg]; exact (below_size (by repeat (first | (with_reducible first | exact HB.out | apply below_alloc | apply pw_below_drewN | apply below_drew1) | exact HB.out))) : w.heap.size ≤ gb165)); have n3_ := Aside0.mk ((by rw [hg]; exact (below_size (by repeat (first | (with_reducible first | exact HB.out | apply below_alloc | apply pw_below_drewN | apply below_drew1) | exact HB.out))) : w.heap.size ≤ gb165)); clear HB; have HB := n0_; have BK165 := n1_; have GW165 := n2_; have GE165 := n3_; clear n0_ n1_ n2_ n3_; clear hb hbox hg; have hcz7_0 : w6.cell? ⟨gb165, 0, none⟩ = some (.int .i64 a0_0) := (blk_cell BK165.out 0).trans rfl; have hcz7_1 : w6.cell? ⟨gb165, 1, none⟩ = some (.int .i64 a0_1) := (blk_cell BK165.out 1).trans rfl; have hcz7_2 : w6.cell? ⟨gb165, 2, none⟩ = some (.int .i64 a0_2) := (blk_cell BK165.out 2).trans rfl; have hcz7_3 : w6.cell? ⟨gb165, 3, none⟩ = some (.int .i64 a0_3) := (blk_cell BK165.out 3).trans rfl; have hcz7_4 : w6.cell? ⟨gb165, 4, none⟩ = some (.int .i64 a0_4) := (blk_cell BK165.out 4).trans rfl; have hcz7_5 : w6.cell? ⟨gb165, 5, none⟩ = some (.int .i64 a0_5) := (blk_cell BK165.out 5).trans rfl; have hcz7_6 : w6.cell? ⟨gb165, 6, none⟩ = some (.int .i64 a0_6) := (blk_cell BK165.out 6).trans rfl; have hfz7_0 := blk_frozen BK165.out 0; have hfz7_1 := blk_frozen BK165.out 1; have hfz7_2 := blk_frozen BK165.out 2; have hfz7_3 := blk_frozen BK165.out 3; have hfz7_4 := blk_frozen BK165.out 4; have hfz7_5 := blk_frozen BK165.out 5; have hfz7_6 := blk_frozen BK165.out 6) | ((with_reducible refine gate_callee (f := 81) rfl ?_); refine goesL_ (some 4) rfl rfl Tryd.func81 (by kernel_rfl) rfl #[.agg #[.int .i64 a0_0, .int .i64 a0_1, .int .i64 a0_2, .int .i64 a0_3, .int .i64 a0_4, .int .i64 a0_5, .int .i64 a0_6]] rfl (by (try simp only [List.map_toArray, List.map_cons, List.map_nil]); first | done | rfl | (simp only [List.length_drop, List.length_take]; rfl)) ?_; (with_reducible refine (postbagref2_IsDay.calls k a0_0 a0_1 a0_2 a0_3 a0_4 a0_5 a0_6 true _ A2.out).mono ?_); rintro e w8 ⟨rfl, hb⟩; refine ⟨_, rfl, ?_⟩; have n0_ := Aside0.mk (blk_below (g := gb165) (o := .cells #[.int .i64 a0_0, .int .i64 a0_1, .int .i64 a0_2, .int .i64 a0_3, .int .i64 a0_4, .int .i64 a0_5, .int .i64 a0_6] 23 (0, 0)) (by (with_reducible repeat (first | refine blk_drewN ?_ _ | refine blk_drew ?_ | refine blk_alloc ?_ _)); exact BK165.out) hb); have n1_ := Aside0.mk (below_step (by repeat (first | (with_reducible first | exact HB.out | apply below_alloc | apply pw_below_drewN | apply below_drew1 | refine below_set ?_ GE165.out) | exact HB.out)) hb); clear BK165; clear HB; have BK165 := n0_; have HB := n1_; clear n0_ n1_; (try clear hb); (try clear hb2); (try clear hk); (try clear hi); have hcz9_0 : w8.cell? ⟨gb165, 0, none⟩ = some (.int .i64 a0_0) := (blk_cell BK165.out 0).trans rfl; have hcz9_1 : w8.cell? ⟨gb165, 1, none⟩ = some (.int .i64 a0_1) := (blk_cell BK165.out 1).trans rfl; have hcz9_2 : w8.cell? ⟨gb165, 2, none⟩ = some (.int .i64 a0_2) := (blk_cell BK165.out 2).trans rfl; have hcz9_3 : w8.cell? ⟨gb165, 3, none⟩ = some (.int .i64 a0_3) := (blk_cell BK165.out 3).trans rfl; have hcz9_4 : w8.cell? ⟨gb165, 4, none⟩ = some (.int .i64 a0_4) := (blk_cell BK165.out 4).trans rfl; have hcz9_5 : w8.cell? ⟨gb165, 5, none⟩ = some (.int .i64 a0_5) := (blk_cell BK165.out 5).trans rfl; have hcz9_6 : w8.cell? ⟨gb165, 6, none⟩ = some (.int .i64 a0_6) := (blk_cell BK165.out 6).trans rfl; have hfz9_0 := blk_frozen BK165.out 0; have hfz9_1 := blk_frozen BK165.out 1; have hfz9_2 := blk_frozen BK165.out 2; have hfz9_3 := blk_frozen BK165.out 3; have hfz9_4 := blk_frozen BK165.out 4; have hfz9_5 := blk_frozen BK165.out 5; have hfz9_6 := blk_frozen BK165.out 6) | ((with_reducible refine gate_callee (f := 40) rfl ?_); refine goesL_ (some 7) rfl rfl Tryd.func40 (by kernel_rfl) rfl #[.agg #[.int .i64 a0_0, .int .i64 a0_1, .int .i64 a0_2, .int .i64 a0_3, .int .i64 a0_4, .int .i64 a0_5, .int .i64 a0_6]] rfl (by (try simp only [List.map_toArray, List.map_cons, List.map_nil]); first | done | rfl | (simp only [List.length_drop, List.length_take]; rfl)) ?_; (with_reducible refine (postbagref2_Valid.calls k a0_0 a0_1 a0_2 a0_3 a0_4 a0_5 a0_6 true _ A4.out).mono ?_); rintro e w10 ⟨rfl, hb⟩; refine ⟨_, rfl, ?_⟩; have n0_ := Aside0.mk (blk_below (g := gb165) (o := .cells #[.int .i64 a0_0, .int .i64 a0_1, .int .i64 a0_2, .int .i64 a0_3, .int .i64 a0_4, .int .i64 a0_5, .int .i64 a0_6] 23 (0, 0)) (by (with_reducible repeat (first | refine blk_drewN ?_ _ | refine blk_drew ?_ | refine blk_alloc ?_ _)); exact BK165.out) hb); have n1_ := Aside0.mk (below_step (by repeat (first | (with_reducible first | exact HB.out | apply below_alloc | apply pw_below_drewN | apply below_drew1 | refine below_set ?_ GE165.out) | exact HB.out)) hb); clear BK165; clear HB; have BK165 := n0_; have HB := n1_; clear n0_ n1_; (try clear hb); (try clear hb2); (try clear hk); (try clear hi)))
   go_ret
   exact ⟨by first | rfl | (simp [errW_none, errW_some] <;> rfl) | (simp [*, errW_none, errW_some] <;> rfl), by repeat (first | (with_reducible first | exact HB.out | apply below_alloc | apply pw_below_drewN | apply below_drew1 | refine below_set ?_ GE165.out) | exact HB.out)⟩
  ·replace c5 := Bool.eq_false_iff.mpr c5
   subst c5
   have H1 : (some 20) = some r := by rw [if_neg (show ¬ (false = true) by decide)] at H; exact H
   clear H
   have H := H1
   clear H1
   obtain rfl := Option.some.inj H
   go_enter Tryd.func78, Tryd.ntmps78
   go_wp2_with (first | ((with_reducible refine gate_dst (N := 1) rfl ?_); refine box_event ?hg (N := 1) ?hd (cs := #[.int .i64 a0_0, .int .i64 a0_1, .int .i64 a0_2, .int .i64 a0_3, .int .i64 a0_4, .int .i64 a0_5, .int .i64 a0_6]) (t := 23) ?hr ?_; (case hd => rfl); (case hg => rfl); (case hr => first | (go_simp; done) | (go_simp; rfl)); intro gb165 hg w11 hbox hb; have n0_ := Aside0.mk (below_step (by repeat (first | (with_reducible first | exact HB.out | apply below_alloc | apply pw_below_drewN | apply below_drew1) | exact HB.out)) hb); have n1_ := Aside0.mk (hbox); have n2_ := Aside0.mk ((by rw [hg]; exact (below_size (by repeat (first | (with_reducible first | exact HB.out | apply below_alloc | apply pw_below_drewN | apply below_drew1) | exact HB.out))) : w.heap.size ≤ gb165)); have n3_ := Aside0.mk ((by rw [hg]; exact (below_size (by repeat (first | (with_reducible first | exact HB.out | apply below_alloc | apply pw_below_drewN | apply below_drew1) | exact HB.out))) : w.heap.size ≤ gb165)); clear HB; have HB := n0_; have BK165 := n1_; have GW165 := n2_; have GE165 := n3_; clear n0_ n1_ n2_ n3_; clear hb hbox hg; have hcz12_0 : w11.cell? ⟨gb165, 0, none⟩ = some (.int .i64 a0_0) := (blk_cell BK165.out 0).trans rfl; have hcz12_1 : w11.cell? ⟨gb165, 1, none⟩ = some (.int .i64 a0_1) := (blk_cell BK165.out 1).trans rfl; have hcz12_2 : w11.cell? ⟨gb165, 2, none⟩ = some (.int .i64 a0_2) := (blk_cell BK165.out 2).trans rfl; have hcz12_3 : w11.cell? ⟨gb165, 3, none⟩ = some (.int .i64 a0_3) := (blk_cell BK165.out 3).trans rfl; have hcz12_4 : w11.cell? ⟨gb165, 4, none⟩ = some (.int .i64 a0_4) := (blk_cell BK165.out 4).trans rfl; have hcz12_5 : w11.cell? ⟨gb165, 5, none⟩ = some (.int .i64 a0_5) := (blk_cell BK165.out 5).trans rfl; have hcz12_6 : w11.cell? ⟨gb165, 6, none⟩ = some (.int .i64 a0_6) := (blk_cell BK165.out 6).trans rfl; have hfz12_0 := blk_frozen BK165.out 0; have hfz12_1 := blk_frozen BK165.out 1; have hfz12_2 := blk_frozen BK165.out 2; have hfz12_3 := blk_frozen BK165.out 3; have hfz12_4 := blk_frozen BK165.out 4; have hfz12_5 := blk_frozen BK165.out 5; have hfz12_6 := blk_frozen BK165.out 6) | ((with_reducible refine gate_callee (f := 81) rfl ?_); refine goesL_ (some 4) rfl rfl Tryd.func81 (by kernel_rfl) rfl #[.agg #[.int .i64 a0_0, .int .i64 a0_1, .int .i64 a0_2, .int .i64 a0_3, .int .i64 a0_4, .int .i64 a0_5, .int .i64 a0_6]] rfl (by (try simp only [List.map_toArray, List.map_cons, List.map_nil]); first | done | rfl | (simp only [List.length_drop, List.length_take]; rfl)) ?_; (with_reducible refine (postbagref2_IsDay.calls k a0_0 a0_1 a0_2 a0_3 a0_4 a0_5 a0_6 true _ A2.out).mono ?_); rintro e w13 ⟨rfl, hb⟩; refine ⟨_, rfl, ?_⟩; have n0_ := Aside0.mk (blk_below (g := gb165) (o := .cells #[.int .i64 a0_0, .int .i64 a0_1, .int .i64 a0_2, .int .i64 a0_3, .int .i64 a0_4, .int .i64 a0_5, .int .i64 a0_6] 23 (0, 0)) (by (with_reducible repeat (first | refine blk_drewN ?_ _ | refine blk_drew ?_ | refine blk_alloc ?_ _)); exact BK165.out) hb); have n1_ := Aside0.mk (below_step (by repeat (first | (with_reducible first | exact HB.out | apply below_alloc | apply pw_below_drewN | apply below_drew1 | refine below_set ?_ GE165.out) | exact HB.out)) hb); clear BK165; clear HB; have BK165 := n0_; have HB := n1_; clear n0_ n1_; (try clear hb); (try clear hb2); (try clear hk); (try clear hi); have hcz14_0 : w13.cell? ⟨gb165, 0, none⟩ = some (.int .i64 a0_0) := (blk_cell BK165.out 0).trans rfl; have hcz14_1 : w13.cell? ⟨gb165, 1, none⟩ = some (.int .i64 a0_1) := (blk_cell BK165.out 1).trans rfl; have hcz14_2 : w13.cell? ⟨gb165, 2, none⟩ = some (.int .i64 a0_2) := (blk_cell BK165.out 2).trans rfl; have hcz14_3 : w13.cell? ⟨gb165, 3, none⟩ = some (.int .i64 a0_3) := (blk_cell BK165.out 3).trans rfl; have hcz14_4 : w13.cell? ⟨gb165, 4, none⟩ = some (.int .i64 a0_4) := (blk_cell BK165.out 4).trans rfl; have hcz14_5 : w13.cell? ⟨gb165, 5, none⟩ = some (.int .i64 a0_5) := (blk_cell BK165.out 5).trans rfl; have hcz14_6 : w13.cell? ⟨gb165, 6, none⟩ = some (.int .i64 a0_6) := (blk_cell BK165.out 6).trans rfl; have hfz14_0 := blk_frozen BK165.out 0; have hfz14_1 := blk_frozen BK165.out 1; have hfz14_2 := blk_frozen BK165.out 2; have hfz14_3 := blk_frozen BK165.out 3; have hfz14_4 := blk_frozen BK165.out 4; have hfz14_5 := blk_frozen BK165.out 5; have hfz14_6 := blk_frozen BK165.out 6) | ((with_reducible refine gate_callee (f := 40) rfl ?_); refine goesL_ (some 7) rfl rfl Tryd.func40 (by kernel_rfl) rfl #[.agg #[.int .i64 a0_0, .int .i64 a0_1, .int .i64 a0_2, .int .i64 a0_3, .int .i64 a0_4, .int .i64 a0_5, .int .i64 a0_6]] rfl (by (try simp only [List.map_toArray, List.map_cons, List.map_nil]); first | done | rfl | (simp only [List.length_drop, List.length_take]; rfl)) ?_; (with_reducible refine (postbagref2_Valid.calls k a0_0 a0_1 a0_2 a0_3 a0_4 a0_5 a0_6 false _ A4.out).mono ?_); rintro e w15 ⟨rfl, hb⟩; refine ⟨_, rfl, ?_⟩; have n0_ := Aside0.mk (blk_below (g := gb165) (o := .cells #[.int .i64 a0_0, .int .i64 a0_1, .int .i64 a0_2, .int .i64 a0_3, .int .i64 a0_4, .int .i64 a0_5, .int .i64 a0_6] 23 (0, 0)) (by (with_reducible repeat (first | refine blk_drewN ?_ _ | refine blk_drew ?_ | refine blk_alloc ?_ _)); exact BK165.out) hb); have n1_ := Aside0.mk (below_step (by repeat (first | (with_reducible first | exact HB.out | apply below_alloc | apply pw_below_drewN | apply below_drew1 | refine below_set ?_ GE165.out) | exact HB.out)) hb); clear BK165; clear HB; have BK165 := n0_; have HB := n1_; clear n0_ n1_; (try clear hb); (try clear hb2); (try clear hk); (try clear hi)))
   go_ret
   exact ⟨by first | rfl | (simp [errW_none, errW_some] <;> rfl) | (simp [*, errW_none, errW_some] <;> rfl), by repeat (first | (with_reducible first | exact HB.out | apply below_alloc | apply pw_below_drewN | apply below_drew1 | refine below_set ?_ GE165.out) | exact HB.out)⟩
 ·replace c3 := Bool.eq_false_iff.mpr c3
  subst c3
  have H1 : (some 21) = some r := by rw [if_neg (show ¬ (false = true) by decide)] at H; exact H
  clear H
  have H := H1
  clear H1
  obtain rfl := Option.some.inj H
  go_enter Tryd.func78, Tryd.ntmps78
  go_wp2_with (first | ((with_reducible refine gate_dst (N := 1) rfl ?_); refine box_event ?hg (N := 1) ?hd (cs := #[.int .i64 a0_0, .int .i64 a0_1, .int .i64 a0_2, .int .i64 a0_3, .int .i64 a0_4, .int .i64 a0_5, .int .i64 a0_6]) (t := 23) ?hr ?_; (case hd => rfl); (case hg => rfl); (case hr => first | (go_simp; done) | (go_simp; rfl)); intro gb165 hg w16 hbox hb; have n0_ := Aside0.mk (below_step (by repeat (first | (with_reducible first | exact HB.out | apply below_alloc | apply pw_below_drewN | apply below_drew1) | exact HB.out)) hb); have n1_ := Aside0.mk (hbox); have n2_ := Aside0.mk ((by rw [hg]; exact (below_size (by repeat (first | (with_reducible first | exact HB.out | apply below_alloc | apply pw_below_drewN | apply below_drew1) | exact HB.out))) : w.heap.size ≤ gb165)); have n3_ := Aside0.mk ((by rw [hg]; exact (below_size (by repeat (first | (with_reducible first | exact HB.out | apply below_alloc | apply pw_below_drewN | apply below_drew1) | exact HB.out))) : w.heap.size ≤ gb165)); clear HB; have HB := n0_; have BK165 := n1_; have GW165 := n2_; have GE165 := n3_; clear n0_ n1_ n2_ n3_; clear hb hbox hg; have hcz17_0 : w16.cell? ⟨gb165, 0, none⟩ = some (.int .i64 a0_0) := (blk_cell BK165.out 0).trans rfl; have hcz17_1 : w16.cell? ⟨gb165, 1, none⟩ = some (.int .i64 a0_1) := (blk_cell BK165.out 1).trans rfl; have hcz17_2 : w16.cell? ⟨gb165, 2, none⟩ = some (.int .i64 a0_2) := (blk_cell BK165.out 2).trans rfl; have hcz17_3 : w16.cell? ⟨gb165, 3, none⟩ = some (.int .i64 a0_3) := (blk_cell BK165.out 3).trans rfl; have hcz17_4 : w16.cell? ⟨gb165, 4, none⟩ = some (.int .i64 a0_4) := (blk_cell BK165.out 4).trans rfl; have hcz17_5 : w16.cell? ⟨gb165, 5, none⟩ = some (.int .i64 a0_5) := (blk_cell BK165.out 5).trans rfl; have hcz17_6 : w16.cell? ⟨gb165, 6, none⟩ = some (.int .i64 a0_6) := (blk_cell BK165.out 6).trans rfl; have hfz17_0 := blk_frozen BK165.out 0; have hfz17_1 := blk_frozen BK165.out 1; have hfz17_2 := blk_frozen BK165.out 2; have hfz17_3 := blk_frozen BK165.out 3; have hfz17_4 := blk_frozen BK165.out 4; have hfz17_5 := blk_frozen BK165.out 5; have hfz17_6 := blk_frozen BK165.out 6) | ((with_reducible refine gate_callee (f := 81) rfl ?_); refine goesL_ (some 4) rfl rfl Tryd.func81 (by kernel_rfl) rfl #[.agg #[.int .i64 a0_0, .int .i64 a0_1, .int .i64 a0_2, .int .i64 a0_3, .int .i64 a0_4, .int .i64 a0_5, .int .i64 a0_6]] rfl (by (try simp only [List.map_toArray, List.map_cons, List.map_nil]); first | done | rfl | (simp only [List.length_drop, List.length_take]; rfl)) ?_; (with_reducible refine (postbagref2_IsDay.calls k a0_0 a0_1 a0_2 a0_3 a0_4 a0_5 a0_6 false _ A2.out).mono ?_); rintro e w18 ⟨rfl, hb⟩; refine ⟨_, rfl, ?_⟩; have n0_ := Aside0.mk (blk_below (g := gb165) (o := .cells #[.int .i64 a0_0, .int .i64 a0_1, .int .i64 a0_2, .int .i64 a0_3, .int .i64 a0_4, .int .i64 a0_5, .int .i64 a0_6] 23 (0, 0)) (by (with_reducible repeat (first | refine blk_drewN ?_ _ | refine blk_drew ?_ | refine blk_alloc ?_ _)); exact BK165.out) hb); have n1_ := Aside0.mk (below_step (by repeat (first | (with_reducible first | exact HB.out | apply below_alloc | apply pw_below_drewN | apply below_drew1 | refine below_set ?_ GE165.out) | exact HB.out)) hb); clear BK165; clear HB; have BK165 := n0_; have HB := n1_; clear n0_ n1_; (try clear hb); (try clear hb2); (try clear hk); (try clear hi)))
  go_ret
  exact ⟨by first | rfl | (simp [errW_none, errW_some] <;> rfl) | (simp [*, errW_none, errW_some] <;> rfl), by repeat (first | (with_reducible first | exact HB.out | apply below_alloc | apply pw_below_drewN | apply below_drew1 | refine below_set ?_ GE165.out) | exact HB.out)⟩
def postbagref2_text.l0 : Nat → Int → Int → ByteArray → Option (ByteArray)
 | 0, _, _, _ => none
 | k + 1, x0, x1, x5 => if x0 > 0 then ((some (([(wrap64 (48 + (Int.tmod x0 10))) % 256] : List Int) : List Int)).bind fun y168 => (if (strOfNums y168).size + x5.size ≤ 9223372036854775807 then (postbagref2_text.l0 k (wrap64 (Int.tdiv x0 10)) x1 ((strOfNums y168) ++ x5)) else (none))) else (if (x5.size : Int) < x1 then ((some (([(wrap64 (48 + (Int.tmod x0 10))) % 256] : List Int) : List Int)).bind fun y171 => (if (strOfNums y171).size + x5.size ≤ 9223372036854775807 then (postbagref2_text.l0 k (wrap64 (Int.tdiv x0 10)) x1 ((strOfNums y171) ++ x5)) else (none))) else (some x5))
def postbagref2_text.f (k : Nat) (a0 : Int) (a1 : Int) : Option (ByteArray) := postbagref2_text.l0 k a0 a1 (⟨#[]⟩ : ByteArray)
set_option maxHeartbeats 8000000 in
set_option maxRecDepth 100000 in
theorem postbagref2_text.calls (k : Nat) (a0 : Int) (a1 : Int) (r : ByteArray) (w : World) (h : postbagref2_text.f k a0 a1 = some r) :
  Calls Tryd.prog 79 #[.int .i64 a0, .int .i64 a1] w fun e w' => e = .returned (.string r) ∧ Below w.heap.size w w' := by
 have HB := Aside0.mk (Below.refl w.heap.size w)
 have H : (postbagref2_text.l0 k a0 a1 (⟨#[]⟩ : ByteArray)) = some r := h
 clear h
 have H' := Aside0.mk H
 clear H
 go_enter Tryd.func79, Tryd.ntmps79
 go_wp2
 go_loopg [0, 5] k (fun kq v0 v5 w' => ∃ (x0_1 : Int) (x5_1 : ByteArray), v0 = .int .i64 x0_1 ∧ v5 = .string x5_1 ∧ Aside0 (postbagref2_text.l0 kq x0_1 a1 x5_1 = some r) ∧ Aside0 (kq ≤ k) ∧ Aside0 (Below w.heap.size w w'))
 case atStart => exact ⟨(a0), ((⟨#[]⟩ : ByteArray)), (by first | rfl | (simp; done) | (simp [*]; done)), (by first | rfl | (simp; done) | (simp [*]; done)), H', ⟨Nat.le_refl _⟩, ⟨by repeat (first | (with_reducible first | exact HB.out | apply below_alloc | apply pw_below_drewN | apply below_drew1) | exact HB.out)⟩⟩
 case round =>
  clear H'
  try clear p2
  obtain ⟨x0_1, x5_1, rfl, rfl, HA, HK1, HB⟩ := hrel
  cases gk with
  | zero => exact absurd HA.out (by simp [postbagref2_text.l0])
  | succ k1 =>
   have H := HA.out
   clear HA
   simp only [postbagref2_text.l0] at H
   by_cases c3 : x0_1 > 0
   ·rw [if_pos c3] at H
    have c3b0 : decide (0 < x0_1) = true := decide_eq_true c3
    clear c3
    obtain ⟨y168, hy168⟩ : ∃ y_ : List Int, y_ = (([(wrap64 (48 + (Int.tmod x0_1 10))) % 256] : List Int)) := ⟨_, rfl⟩
    replace H : (if (strOfNums y168).size + x5_1.size ≤ 9223372036854775807 then (postbagref2_text.l0 k1 (wrap64 (Int.tdiv x0_1 10)) a1 ((strOfNums y168) ++ x5_1)) else (none)) = some r := by first | (rw [hy168]; with_reducible exact H) | (have H2_ := (Option.bind_some _ _).symm.trans H; rw [hy168]; with_reducible exact H2_) | (have H2_ := (Option.bind_some _ _).symm.trans H; with_reducible exact H2_) | with_reducible exact H | (rw [hy168]; exact H) | exact H
    have Ny168 := Aside0.mk hy168
    clear hy168
    by_cases c4 : (strOfNums y168).size + x5_1.size ≤ 9223372036854775807
    ·rw [if_pos c4] at H
     have c4b0 := eq_true c4
     have c4b1 : decide ((strOfNums y168).size + x5_1.size ≤ 9223372036854775807) = true := decide_eq_true c4
     try have c4b2 : (9223372036854775807 < (strOfNums y168).size + x5_1.size) = False := eq_false (Nat.not_lt.2 c4)
     have H' := Aside0.mk H
     clear H
     go_wp2_with (first | ((with_reducible refine gate_dst (N := 18) rfl ?_); (try (refine gate_guard (by rfl) ?_; dsimp only)); refine Kd.R_lit (Kd.int .u8) _ 5 ?hg (N := 18) ?hd (xs := ([(wrap64 (48 + (Int.tmod x0_1 10))) % 256] : List Int)) (inner := [.int .u8 ((wrap64 (48 + (Int.tmod x0_1 10))) % 256)]) (ok := fun _ => True) (okp := fun _ => True) ?hr ?hp (fun _ hk => hk) trivial (Below.refl _ _) (Nat.le_refl _) (by simp) ?_; (case hd => rfl); (case hg => rfl); (case hr => first | (go_simp; done) | (go_simp; rfl)); (case hp => exact (Reps.one (show Kd.M (Kd.int .u8) _ _ _ ((wrap64 (48 + (Int.tmod x0_1 10))) % 256) [.int .u8 ((wrap64 (48 + (Int.tmod x0_1 10))) % 256)] from rfl) (Reps.none _ _))); intro v169 w5 ho6 hb hg_ hnew_; clear hg_ hnew_; (first | rw [← Ny168.out] at ho6 | (simp only [Int.reduceToNat] at ho6; rw [← Ny168.out] at ho6)); have n0_ := Aside0.mk (Kd.R_lower ho6 (below_size (by repeat (first | (with_reducible first | exact HB.out | apply below_alloc | apply pw_below_drewN | apply below_drew1) | exact HB.out)))); have n1_ := Aside0.mk (below_step (by repeat (first | (with_reducible first | exact HB.out | apply below_alloc | apply pw_below_drewN | apply below_drew1) | exact HB.out)) hb); clear HB; have HO170 := n0_; have HB := n1_; clear n0_ n1_; clear hb ho6; have hcv7 := own_string (P := Tryd.prog) Tryd.underlying58 Tryd.underlying5 Tryd.underlying9 (Kd.own_of_R HO170.out)))
     go_roundg k1
     case measure => have := HK1.out; omega
     case rel => exact ⟨(wrap64 (Int.tdiv x0_1 10)), ((strOfNums y168) ++ x5_1), (by first | rfl | (simp; done) | (simp [*]; done)), (by first | rfl | (simp; done) | (simp [*]; done)), H', ⟨by have := HK1.out; omega⟩, ⟨by repeat (first | (with_reducible first | exact HB.out | apply below_alloc | apply pw_below_drewN | apply below_drew1) | exact HB.out)⟩⟩
    ·rw [if_neg c4] at H
     exact absurd H (by simp)
   ·rw [if_neg c3] at H
    have c3b0 : decide (0 < x0_1) = false := decide_eq_false c3
    clear c3
    by_cases c8 : (x5_1.size : Int) < a1
    ·rw [if_pos c8] at H
     have c8b0 : decide ((x5_1.size : Int) < a1) = true := decide_eq_true c8
     clear c8
     obtain ⟨y171, hy171⟩ : ∃ y_ : List Int, y_ = (([(wrap64 (48 + (Int.tmod x0_1 10))) % 256] : List Int)) := ⟨_, rfl⟩
     replace H : (if (strOfNums y171).size + x5_1.size ≤ 9223372036854775807 then (postbagref2_text.l0 k1 (wrap64 (Int.tdiv x0_1 10)) a1 ((strOfNums y171) ++ x5_1)) else (none)) = some r := by first | (rw [hy171]; with_reducible exact H) | (have H2_ := (Option.bind_some _ _).symm.trans H; rw [hy171]; with_reducible exact H2_) | (have H2_ := (Option.bind_some _ _).symm.trans H; with_reducible exact H2_) | with_reducible exact H | (rw [hy171]; exact H) | exact H
     have Ny171 := Aside0.mk hy171
     clear hy171
     by_cases c9 : (strOfNums y171).size + x5_1.size ≤ 9223372036854775807
     ·rw [if_pos c9] at H
      have c9b0 := eq_true c9
      have c9b1 : decide ((strOfNums y171).size + x5_1.size ≤ 9223372036854775807) = true := decide_eq_true c9
      try have c9b2 : (9223372036854775807 < (strOfNums y171).size + x5_1.size) = False := eq_false (Nat.not_lt.2 c9)
      have H' := Aside0.mk H
      clear H
      go_wp2_with (first | ((with_reducible refine gate_dst (N := 18) rfl ?_); (try (refine gate_guard (by rfl) ?_; dsimp only)); refine Kd.R_lit (Kd.int .u8) _ 5 ?hg (N := 18) ?hd (xs := ([(wrap64 (48 + (Int.tmod x0_1 10))) % 256] : List Int)) (inner := [.int .u8 ((wrap64 (48 + (Int.tmod x0_1 10))) % 256)]) (ok := fun _ => True) (okp := fun _ => True) ?hr ?hp (fun _ hk => hk) trivial (Below.refl _ _) (Nat.le_refl _) (by simp) ?_; (case hd => rfl); (case hg => rfl); (case hr => first | (go_simp; done) | (go_simp; rfl)); (case hp => exact (Reps.one (show Kd.M (Kd.int .u8) _ _ _ ((wrap64 (48 + (Int.tmod x0_1 10))) % 256) [.int .u8 ((wrap64 (48 + (Int.tmod x0_1 10))) % 256)] from rfl) (Reps.none _ _))); intro v172 w10 ho11 hb hg_ hnew_; clear hg_ hnew_; (first | rw [← Ny171.out] at ho11 | (simp only [Int.reduceToNat] at ho11; rw [← Ny171.out] at ho11)); have n0_ := Aside0.mk (Kd.R_lower ho11 (below_size (by repeat (first | (with_reducible first | exact HB.out | apply below_alloc | apply pw_below_drewN | apply below_drew1) | exact HB.out)))); have n1_ := Aside0.mk (below_step (by repeat (first | (with_reducible first | exact HB.out | apply below_alloc | apply pw_below_drewN | apply below_drew1) | exact HB.out)) hb); clear HB; have HO173 := n0_; have HB := n1_; clear n0_ n1_; clear hb ho11; have hcv12 := own_string (P := Tryd.prog) Tryd.underlying58 Tryd.underlying5 Tryd.underlying9 (Kd.own_of_R HO173.out)))
      go_roundg k1
      case measure => have := HK1.out; omega
      case rel => exact ⟨(wrap64 (Int.tdiv x0_1 10)), ((strOfNums y171) ++ x5_1), (by first | rfl | (simp; done) | (simp [*]; done)), (by first | rfl | (simp; done) | (simp [*]; done)), H', ⟨by have := HK1.out; omega⟩, ⟨by repeat (first | (with_reducible first | exact HB.out | apply below_alloc | apply pw_below_drewN | apply below_drew1) | exact HB.out)⟩⟩
     ·rw [if_neg c9] at H
      exact absurd H (by simp)
    ·rw [if_neg c8] at H
     have c8b0 : decide ((x5_1.size : Int) < a1) = false := decide_eq_false c8
     clear c8
     obtain rfl := Option.some.inj H
     go_wp2
     go_ret
     exact ⟨by first | rfl | (simp [errW_none, errW_some] <;> rfl) | (simp [*, errW_none, errW_some] <;> rfl), by repeat (first | (with_reducible first | exact HB.out | apply below_alloc | apply pw_below_drewN | apply below_drew1) | exact HB.out)⟩
end Go.Proofs.YtjlchnmpebdggaaDoor.Mo
end
section
namespace Go.Proofs.YtjlchnmpebdggaaDoor.Mo
open Go.RowKit Go.Proofs.YtjlchnmpebdggaaDoorW.PrintWords Go.Proofs.YtjlchnmpebdggaaDoorW.PrintLast Go.Proofs.YtjlchnmpebdggaaDoorW.PrintMore
attribute [local go_sem] max2_int min2_int max_two min_two max_three min_three max_four min_four   -- for this text's walks alone
set_option linter.unusedVariables false
set_option linter.unusedSimpArgs false
end Go.Proofs.YtjlchnmpebdggaaDoor.Mo
end
section
namespace Go.Proofs.YtjlchnmpebdggaaDoor.Mo
open Go.RowKit Go.Proofs.YtjlchnmpebdggaaDoorW.PrintWords
theorem w64 (n : Int) (h0 : -1000000000000000 ≤ n) (h1 : n ≤ 1000000000000000) : wrap64 n = n := IntWalk.wrap64_in _ ⟨by omega, by omega⟩
theorem month_cases {m : Int} (h1 : 1 ≤ m) (h2 : m ≤ 12) : m = 1 ∨ m = 2 ∨ m = 3 ∨ m = 4 ∨ m = 5 ∨ m = 6 ∨ m = 7 ∨ m = 8 ∨ m = 9 ∨ m = 10 ∨ m = 11 ∨ m = 12 := by omega
theorem length_range (y m : Int) (h1 : 1 ≤ m) (h2 : m ≤ 12) : 28 ≤ lengthP y m ∧ lengthP y m ≤ 31 := by
  unfold lengthP
  rcases month_cases h1 h2 with rfl | rfl | rfl | rfl | rfl | rfl | rfl | rfl | rfl | rfl | rfl | rfl <;> split <;> decide
theorem leap_ref (y : Int) : postbagref2_leap.f y = some (leapB y) := by
  unfold postbagref2_leap.f leapB
  by_cases h1 : y.tmod 4 = 0
  · by_cases h2 : y.tmod 100 = 0 <;> simp [h1, h2]
  · simp [h1]
theorem length_ref (k : Nat) (hk : 1 ≤ k) (y m : Int) (h1 : 1 ≤ m) (h2 : m ≤ 12) : postbagref2_length.f k y m = some (lengthP y m) := by
  obtain ⟨k, rfl⟩ : ∃ n, k = n + 1 := ⟨k - 1, by omega⟩
  unfold postbagref2_length.f lengthP
  cases hl : leapB y <;> rcases month_cases h1 h2 with rfl | rfl | rfl | rfl | rfl | rfl | rfl | rfl | rfl | rfl | rfl | rfl <;> simp [postbagref2_length.j0, leap_ref, hl, monthDays]
theorem isDay_ref (k : Nat) (hk : 1 ≤ k) (y m d h mi s z : Int) : postbagref2_IsDay.f k y m d h mi s z = some (isDayB y m d) := by
  unfold postbagref2_IsDay.f
  have hf : ∀ (p : Prop), (isDayB y m d = true → ¬ p) → p → isDayB y m d = false := fun p h1 h2 => Bool.eq_false_iff.2 (fun h => h1 h h2)
  have hi := isDay_iff y m d
  by_cases h1 : y < 1
  · rw [if_pos h1, hf (y < 1) (fun q => by have := hi.1 q; omega) h1]
  · rw [if_neg h1]
    by_cases h2 : y > 9999
    · rw [if_pos h2, hf (y > 9999) (fun q => by have := hi.1 q; omega) h2]
    · rw [if_neg h2]
      by_cases h3 : m < 1
      · rw [if_pos h3, hf (m < 1) (fun q => by have := hi.1 q; omega) h3]
      · rw [if_neg h3]
        by_cases h4 : m > 12
        · rw [if_pos h4, hf (m > 12) (fun q => by have := hi.1 q; omega) h4]
        · rw [if_neg h4]
          by_cases h5 : d < 1
          · rw [if_pos h5, hf (d < 1) (fun q => by have := hi.1 q; omega) h5]
          · rw [if_neg h5, length_ref k hk y m (by omega) (by omega)]
            simp only [Option.bind_some]
            congr 1
            unfold isDayB
            apply decide_eq_decide.2
            exact ⟨fun q => ⟨by omega, by omega, by omega, by omega, by omega, q⟩, fun q => q.2.2.2.2.2⟩
theorem valid_ref (k : Nat) (hk : 1 ≤ k) (y m d h mi s z : Int) : postbagref2_Valid.f k y m d h mi s z = some (validB y m d h mi s z) := by
  unfold postbagref2_Valid.f validB
  rw [isDay_ref k hk]
  simp only [Option.bind_some]
  cases isDayB y m d with
  | false => rw [if_neg (by simp)]; rfl
  | true =>
    rw [if_pos rfl, Bool.true_and]
    have hf : ∀ (p : Prop), (timeB h mi s z = true → p) → ¬ p → timeB h mi s z = false := fun p h1 h2 => Bool.eq_false_iff.2 (fun h => h2 (h1 h))
    have hi := time_iff h mi s z
    by_cases h1 : h ≥ 0
    · rw [if_pos h1]
      by_cases h2 : h ≤ 23
      · rw [if_pos h2]
        by_cases h3 : mi ≥ 0
        · rw [if_pos h3]
          by_cases h4 : mi ≤ 59
          · rw [if_pos h4]
            by_cases h5 : s ≥ 0
            · rw [if_pos h5]
              by_cases h6 : s ≤ 59
              · rw [if_pos h6]
                by_cases h7 : z ≥ (-1439)
                · rw [if_pos h7]
                  congr 1
                  unfold timeB
                  apply decide_eq_decide.2
                  exact ⟨fun q => ⟨by omega, by omega, by omega, by omega, by omega, by omega, by omega, q⟩, fun q => q.2.2.2.2.2.2.2⟩
                · rw [if_neg h7, hf (z ≥ (-1439)) (fun q => by have := hi.1 q; omega) h7]
              · rw [if_neg h6, hf (s ≤ 59) (fun q => by have := hi.1 q; omega) h6]
            · rw [if_neg h5, hf (s ≥ 0) (fun q => by have := hi.1 q; omega) h5]
          · rw [if_neg h4, hf (mi ≤ 59) (fun q => by have := hi.1 q; omega) h4]
        · rw [if_neg h3, hf (mi ≥ 0) (fun q => by have := hi.1 q; omega) h3]
      · rw [if_neg h2, hf (h ≤ 23) (fun q => by have := hi.1 q; omega) h2]
    · rw [if_neg h1, hf (h ≥ 0) (fun q => by have := hi.1 q; omega) h1]
end Go.Proofs.YtjlchnmpebdggaaDoor.Mo
end
section
namespace Go.Proofs.YtjlchnmpebdggaaDoor.Mo
open Go.RowKit Go.Proofs.YtjlchnmpebdggaaDoorW.PrintWords
theorem count_l0 (s : ByteArray) (hs : s.size ≤ 4) (d : Nat) : ∀ (k i : Nat), i ≤ s.size → s.size - i = d → 2 * d + 2 < k → (s.data.toList.take i).all isDig = true →
    postbagref2_count.l0 k s (dval (s.data.toList.take i)) (i : Int) = if (s.data.toList.drop i).all isDig = true then some (dval s.data.toList, decide (1 ≤ s.size)) else some (0, false) := by
  induction d with
  | zero =>
    intro k i hi hd hk ha
    obtain ⟨k, rfl⟩ : ∃ m, k = m + 2 := ⟨k - 2, by omega⟩
    have e : i = s.size := by omega
    subst e
    have hl := toList_len s
    simp only [postbagref2_count.l0]
    rw [if_neg (by omega)]
    simp only [postbagref2_count.j1]
    have hdn : (s.data.toList.drop s.size).all isDig = true := by rw [List.drop_of_length_le (by omega)]; rfl
    rw [if_neg (by decide), if_pos hdn, List.take_of_length_le (by omega)]
    by_cases h0 : (s.size : Int) > 0
    · rw [if_pos h0, decide_eq_true (by omega), decide_eq_true (by omega)]
    · rw [if_neg h0, decide_eq_false (by omega)]
  | succ d ih =>
    intro k i hi hd hk ha
    obtain ⟨k, rfl⟩ : ∃ m, k = m + 2 := ⟨k - 2, by omega⟩
    have hl := toList_len s
    have hlt : i < s.data.toList.length := by omega
    have hb := bt_get s i hlt
    have h8 := (s.data.toList[i]).toNat_lt
    have hdr : s.data.toList.drop i = s.data.toList[i] :: s.data.toList.drop (i + 1) := List.drop_eq_getElem_cons hlt
    have htk : s.data.toList.take (i + 1) = s.data.toList.take i ++ [s.data.toList[i]] := by rw [List.take_succ_eq_append_getElem hlt]
    obtain ⟨b1, b2⟩ := dval_bound _ ha
    rw [List.length_take, Nat.min_eq_left (by omega)] at b2
    have b3 : dval (s.data.toList.take i) < 10000 := by
      have : (10 : Int) ^ i ≤ 10 ^ 4 := by
        have h4 : i = 0 ∨ i = 1 ∨ i = 2 ∨ i = 3 := by omega
        rcases h4 with rfl | rfl | rfl | rfl <;> decide
      omega
    simp only [postbagref2_count.l0]
    rw [if_pos (by omega), decide_eq_true (by omega)]
    simp only [postbagref2_count.j1]
    rw [if_pos trivial, if_pos (by omega), if_pos (by omega), hb, hdr]
    generalize hc : s.data.toList[i] = c at *
    by_cases c1 : c.toNat < 48
    · rw [if_pos (by omega), if_neg (by simp [isDig]; omega)]
    · rw [if_neg (by omega)]
      by_cases c2 : c.toNat > 57
      · rw [if_pos (by omega), if_neg (by simp [isDig]; omega)]
      · rw [if_neg (by omega)]
        have hdig : isDig c = true := (isDig_iff c).2 ⟨by omega, by omega⟩
        have e1 : wrap64 ((wrap64 (10 * dval (s.data.toList.take i))) + (((c.toNat : Int) - 48) % 256)) = dval (s.data.toList.take (i + 1)) := by
          rw [htk, dval_snoc, digit_step _ _ b1 (by omega) (by omega) (by omega)]
        rw [e1, next_step i (by omega), ih k (i + 1) (by omega) (by omega) (by omega) (by rw [htk, List.all_append, ha]; simp [hdig])]
        simp only [List.all_cons, hdig, Bool.true_and]
theorem count_f (k : Nat) (hk : 20 ≤ k) (s : ByteArray) (hs : s.size ≤ 4) : postbagref2_count.f k s = some (digitsP s) := by
  have hl := toList_len s
  unfold postbagref2_count.f
  have := count_l0 s hs s.size k 0 (by omega) (by omega) (by omega) rfl
  simp only [List.take_zero, List.drop_zero] at this
  rw [show ((0 : Nat) : Int) = 0 from rfl] at this
  have e0 : dval [] = 0 := rfl
  rw [e0] at this
  rw [this]
  unfold digitsP
  by_cases ha : s.data.toList.all isDig = true
  · rw [if_pos ha]
    by_cases h1 : 1 ≤ s.size
    · rw [if_pos ⟨h1, hs, ha⟩, decide_eq_true h1]
    · rw [if_neg (fun h => h1 h.1), decide_eq_false h1]
      have hz : s.data.toList = [] := List.eq_nil_of_length_eq_zero (by omega)
      rw [hz]
      rfl
  · rw [if_neg ha, if_neg (fun h => ha h.2.2)]
def low (c : UInt8) : UInt8 := if 65 ≤ c ∧ c ≤ 90 then c + 32 else c
def lowerP (s : ByteArray) : ByteArray := ⟨(s.data.toList.map low).toArray⟩
set_option maxRecDepth 20000 in
theorem low_up : ∀ c : UInt8, low (up c) = low c ∧ up (low c) = up c := by
  intro c
  have h : ∀ n : Fin 256, low (up (UInt8.ofNat n.val)) = low (UInt8.ofNat n.val) ∧ up (low (UInt8.ofNat n.val)) = up (UInt8.ofNat n.val) := by decide
  have := h ⟨c.toNat, c.toNat_lt⟩
  simpa using this
set_option maxRecDepth 20000 in
theorem low_toNat (c : UInt8) : ((low c).toNat : Int) = if 65 ≤ c.toNat ∧ c.toNat ≤ 90 then ((c.toNat : Int) + 32) % 256 else (c.toNat : Int) := by
  have h : ∀ n : Fin 256, ((low (UInt8.ofNat n.val)).toNat : Int) = if 65 ≤ (UInt8.ofNat n.val).toNat ∧ (UInt8.ofNat n.val).toNat ≤ 90 then (((UInt8.ofNat n.val).toNat : Int) + 32) % 256 else ((UInt8.ofNat n.val).toNat : Int) := by decide
  have := h ⟨c.toNat, c.toNat_lt⟩
  simpa using this
theorem map_low_up (l : List UInt8) : (l.map up).map low = l.map low := by rw [List.map_map]; exact List.map_congr_left fun c _ => (low_up c).1
theorem map_up_low (l : List UInt8) : (l.map low).map up = l.map up := by rw [List.map_map]; exact List.map_congr_left fun c _ => (low_up c).2
theorem same_case (x t : ByteArray) : (lowerP x).toList = (lowerP t).toList ↔ (upperP x).toList = (upperP t).toList := by
  simp only [ByteArray.toList_eq]
  show x.data.toList.map low = t.data.toList.map low ↔ x.data.toList.map up = t.data.toList.map up
  constructor
  · intro h; rw [← map_up_low, h, map_up_low]
  · intro h; rw [← map_low_up, h, map_low_up]
theorem lower_l0 (s : ByteArray) (hs : s.size ≤ 140737488351232) (d : Nat) : ∀ (k i : Nat), i ≤ s.size → s.size - i = d → d < k →
    postbagref2_lower.l0 k s ((s.data.toList.take i).map fun c => ((low c).toNat : Int)) (i : Int) = some (lowerP s) := by
  induction d with
  | zero =>
    intro k i hi hd hk
    obtain ⟨k, rfl⟩ : ∃ m, k = m + 1 := ⟨k - 1, by omega⟩
    have e : i = s.size := by omega
    subst e
    have hl := toList_len s
    simp only [postbagref2_lower.l0]
    rw [if_neg (by omega), List.take_of_length_le (by omega)]
    congr 1
    apply ByteArray.ext
    apply Array.toList_inj.1
    rw [strOfNums_data, List.map_map]
    show _ = s.data.toList.map low
    exact List.map_congr_left fun c _ => by show UInt8.ofNat ((low c).toNat : Int).toNat = low c; rw [Int.toNat_natCast]; exact UInt8.ofNat_toNat
  | succ d ih =>
    intro k i hi hd hk
    obtain ⟨k, rfl⟩ : ∃ m, k = m + 1 := ⟨k - 1, by omega⟩
    have hl := toList_len s
    have hlt : i < s.data.toList.length := by omega
    have hb := bt_get s i hlt
    have h8 := (s.data.toList[i]).toNat_lt
    have htk : s.data.toList.take (i + 1) = s.data.toList.take i ++ [s.data.toList[i]] := by rw [List.take_succ_eq_append_getElem hlt]
    have hlen : ((s.data.toList.take i).map fun c => ((low c).toNat : Int)).length < 140737488355328 := by rw [List.length_map, List.length_take]; omega
    have hnext := ih k (i + 1) (by omega) (by omega) (by omega)
    rw [htk, List.map_append] at hnext
    have hw : wrap64 ((i : Int) + 1) = ((i + 1 : Nat) : Int) := by rw [IntWalk.wrap64_in _ ⟨by omega, by omega⟩]; omega
    have hlo := low_toNat (s.data.toList[i])
    simp only [postbagref2_lower.l0]
    rw [if_pos (by omega), if_pos (by omega), hb, hw]
    generalize hc : s.data.toList[i] = c at *
    rw [if_pos hlen, if_pos hlen]
    have hm : List.map (fun c => ((low c).toNat : Int)) [c] = [((low c).toNat : Int)] := rfl
    rw [hm] at hnext
    by_cases c1 : (c.toNat : Int) ≥ 65
    · rw [if_pos c1]
      by_cases c2 : (c.toNat : Int) ≤ 90
      · rw [if_pos c2]
        rw [if_pos ⟨by omega, by omega⟩] at hlo
        rw [← hlo]
        exact hnext
      · rw [if_neg c2]
        rw [if_neg (by omega)] at hlo
        rw [← hlo]
        exact hnext
    · rw [if_neg c1]
      rw [if_neg (by omega)] at hlo
      rw [← hlo]
      exact hnext
theorem lower_f (k : Nat) (s : ByteArray) (hs : s.size ≤ 140737488351232) (hk : s.size < k) : postbagref2_lower.f k s = some (lowerP s) := by
  unfold postbagref2_lower.f
  have := lower_l0 s hs s.size k 0 (by omega) (by omega) hk
  simpa using this
theorem among_l0 (N t : ByteArray) (L : List ByteArray) (hL : L.length ≤ 100) (hn : N.size = 3 * L.length) (hx : ∀ i (h : i < L.length), (N.extract (3 * i) (3 * i + 3)).toList = (lowerP L[i]).toList) (d : Nat) :
    ∀ (k i : Nat), i ≤ L.length → L.length - i = d → d < k → postbagref2_among.l0 k N (lowerP t) (i : Int) = some (placeP t (L.drop i) i + 1) := by
  induction d with
  | zero =>
    intro k i hi hd hk
    obtain ⟨k, rfl⟩ : ∃ m, k = m + 1 := ⟨k - 1, by omega⟩
    have e : i = L.length := by omega
    subst e
    simp only [postbagref2_among.l0]
    rw [w64 (3 * _) (by omega) (by omega), if_neg (by omega), List.drop_of_length_le (Nat.le_refl _)]
    rfl
  | succ d ih =>
    intro k i hi hd hk
    obtain ⟨k, rfl⟩ : ∃ m, k = m + 1 := ⟨k - 1, by omega⟩
    have hlt : i < L.length := by omega
    have hdr : L.drop i = L[i] :: L.drop (i + 1) := List.drop_eq_getElem_cons hlt
    simp only [postbagref2_among.l0]
    rw [w64 (3 * (i : Int)) (by omega) (by omega), w64 (3 * (i : Int) + 3) (by omega) (by omega), w64 ((i : Int) + 1) (by omega) (by omega)]
    rw [if_pos (by omega), if_pos (by omega), if_pos (by omega), if_pos (by omega)]
    rw [show (3 * (i : Int)).toNat = 3 * i from by omega, show (3 * (i : Int) + 3).toNat = 3 * i + 3 from by omega, hx i hlt, hdr]
    unfold placeP
    by_cases hc : (lowerP L[i]).toList = (lowerP t).toList
    · rw [if_pos hc, if_pos ((same_case _ _).1 hc)]
    · rw [if_neg hc, if_neg (fun h => hc ((same_case _ _).2 h))]
      have := ih k (i + 1) (by omega) (by omega) (by omega)
      rw [show (i : Int) + 1 = ((i + 1 : Nat) : Int) from by omega]
      exact this
def lowMonths : ByteArray := ⟨#[106, 97, 110, 102, 101, 98, 109, 97, 114, 97, 112, 114, 109, 97, 121, 106, 117, 110, 106, 117, 108, 97, 117, 103, 115, 101, 112, 111, 99, 116, 110, 111, 118, 100, 101, 99]⟩
theorem months_low : ∀ i (h : i < monthL.length), (lowMonths.extract (3 * i) (3 * i + 3)).toList = (lowerP monthL[i]).toList := by
  intro i h
  have h2 : i < 12 := h
  have : i = 0 ∨ i = 1 ∨ i = 2 ∨ i = 3 ∨ i = 4 ∨ i = 5 ∨ i = 6 ∨ i = 7 ∨ i = 8 ∨ i = 9 ∨ i = 10 ∨ i = 11 := by omega
  simp only [ByteArray.toList_eq]
  rcases this with rfl | rfl | rfl | rfl | rfl | rfl | rfl | rfl | rfl | rfl | rfl | rfl <;> rfl
theorem among_months (k : Nat) (t : ByteArray) (ht : t.size ≤ 140737488351232) (hk : t.size + 20 < k) : postbagref2_among.f k lowMonths t = some (placeP t monthL 0 + 1) := by
  unfold postbagref2_among.f
  rw [lower_f k t ht (by omega), Option.bind_some]
  exact among_l0 lowMonths t monthL (by decide) rfl months_low 12 k 0 (by omega) rfl (by omega)
end Go.Proofs.YtjlchnmpebdggaaDoor.Mo
end
section
namespace Go.Proofs.YtjlchnmpebdggaaDoor.Mo
open Go.RowKit Go.Proofs.YtjlchnmpebdggaaDoorW.PrintWords Go.Proofs.YtjlchnmpebdggaaDoorW.PrintLast Go.Proofs.YtjlchnmpebdggaaDoorW.PrintMore
attribute [local go_sem] max2_int min2_int max_two min_two max_three min_three max_four min_four   -- for this text's walks alone
set_option linter.unusedVariables false
set_option linter.unusedSimpArgs false
end Go.Proofs.YtjlchnmpebdggaaDoor.Mo
end
section
namespace Go.Proofs.YtjlchnmpebdggaaDoor.Mo
open Go.RowKit Go.Proofs.YtjlchnmpebdggaaDoorW.PrintWords
def toldP (y m d h mi s z : Int) (ok : Bool) : Int × Int × Int × Int × Int × Int × Int × Int :=
  if ok = true then (if isDayB y m d = true then (y, m, d, h, mi, s, z, 0) else (0, 0, 0, 0, 0, 0, 0, 21)) else (0, 0, 0, 0, 0, 0, 0, 20)
theorem read_f (y m d h mi s z : Int) (ok : Bool) : moment_read.f y m d h mi s z ok = some (toldP y m d h mi s z ok) := by
  unfold moment_read.f toldP
  rw [isDay_f, Option.bind_some]
  cases ok <;> cases isDayB y m d <;> rfl
theorem told_f (k : Nat) (hk : 1 ≤ k) (y m d h mi s z : Int) (ok : Bool) : postbagref2_told.f k y m d h mi s z ok = some (toldP y m d h mi s z ok) := by
  unfold postbagref2_told.f toldP
  rw [isDay_ref k hk, Option.bind_some]
  cases ok <;> cases isDayB y m d <;> rfl
theorem day_ref (k : Nat) (hk : 60 ≤ k) (t s : ByteArray) (ht : t.size ≤ 4) :
    postbagref2_day.f k t s = some (if s.size = 9 ∧ bt s 0 = 45 ∧ bt s 4 = 45 then ((digitsP (s.extract 5 9)).1, placeP (s.extract 1 4) monthL 0 + 1, (digitsP t).1, 0, 0, 0, 0, (digitsP t).2 && ((digitsP (s.extract 5 9)).2 && decide (0 ≤ placeP (s.extract 1 4) monthL 0))) else (0, 0, 0, 0, 0, 0, 0, false)) := by
  obtain ⟨k, rfl⟩ : ∃ q, k = q + 1 := ⟨k - 1, by omega⟩
  unfold postbagref2_day.f
  by_cases h9 : s.size = 9
  · rw [if_pos (by omega), if_pos (by omega)]
    by_cases h0 : bt s 0 = 45
    · rw [if_pos h0, if_pos (by omega)]
      by_cases h4 : bt s 4 = 45
      · rw [if_pos ⟨h9, h0, h4⟩, h4]
        simp only [postbagref2_day.j0]
        have e1 : (s.extract 1 4).size = 3 := by rw [ByteArray.size_extract, h9]; rfl
        have e2 : (s.extract 5 9).size = 4 := by rw [ByteArray.size_extract, h9]; rfl
        have ha := among_months k (s.extract 1 4) (by omega) (by omega)
        unfold lowMonths at ha
        rw [if_neg (by decide), count_f k (by omega) t ht, Option.bind_some, if_pos (by omega), if_pos (by omega), ha, Option.bind_some, if_pos (by omega), h9, count_f k (by omega) _ (by omega), Option.bind_some]
        have hr := placeP_range (s.extract 1 4) monthL 0
        generalize placeP (s.extract 1 4) monthL 0 = p at *
        have hp : decide (p + 1 > 0) = decide (0 ≤ p) := by rw [decide_eq_decide]; omega
        rw [hp]
        cases (digitsP t).2 <;> cases (digitsP (s.extract 5 9)).2 <;> rfl
      · rw [if_neg (fun h => h4 h.2.2)]
        simp only [postbagref2_day.j0]
        rw [if_pos (by simpa using h4)]
    · rw [if_neg h0, if_neg (fun h => h0 h.2.1)]
      simp only [postbagref2_day.j0]
      rw [if_pos trivial]
  · rw [if_neg (by omega), if_neg (fun h => h9 h.1)]
    simp only [postbagref2_day.j0]
    rw [if_pos trivial]
end Go.Proofs.YtjlchnmpebdggaaDoor.Mo
end
