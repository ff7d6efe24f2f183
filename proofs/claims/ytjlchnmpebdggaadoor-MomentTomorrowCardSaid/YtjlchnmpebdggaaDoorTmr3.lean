import Derived.Test.YtjlchnmpebdggaaDoorTmr1
import Derived.Test.YtjlchnmpebdggaaDoorTmr2
import Derived.Lib.Hide
import Derived.IntWalk
import Derived.Deep.RegionHeld3
section
namespace Go.Proofs.YtjlchnmpebdggaaDoor.Mo
open Go.RowKit Go.Proofs.YtjlchnmpebdggaaDoorW.PrintWords Go.Proofs.YtjlchnmpebdggaaDoorW.PrintLast Go.Proofs.YtjlchnmpebdggaaDoorW.PrintMore
attribute [local go_sem] max2_int min2_int max_two min_two max_three min_three max_four min_four   -- for this text's walks alone
set_option linter.unusedVariables false
set_option linter.unusedSimpArgs false
def moment_refused.f (a0_0 : Int) (a0_1 : Int) (a0_2 : Int) (a0_3 : Int) (a0_4 : Int) (a0_5 : Int) (a0_6 : Int) : Option (Int) := (moment_isDay.f a0_0 a0_1 a0_2 a0_3 a0_4 a0_5 a0_6).bind fun t135 => (if t135 = true then ((moment_Valid.f a0_0 a0_1 a0_2 a0_3 a0_4 a0_5 a0_6).bind fun t136 => (if t136 = true then (some 0) else (some 20))) else (some 21))
set_option maxHeartbeats 8000000 in
set_option maxRecDepth 100000 in
theorem moment_refused.calls (a0_0 : Int) (a0_1 : Int) (a0_2 : Int) (a0_3 : Int) (a0_4 : Int) (a0_5 : Int) (a0_6 : Int) (r : Int) (w : World) (h : moment_refused.f a0_0 a0_1 a0_2 a0_3 a0_4 a0_5 a0_6 = some r) (hL_ : Laid w) :
  Calls Tryd.prog 63 #[.agg #[.int .i64 a0_0, .int .i64 a0_1, .int .i64 a0_2, .int .i64 a0_3, .int .i64 a0_4, .int .i64 a0_5, .int .i64 a0_6]] w fun e w' => e = .returned (.int .i64 r) ∧ Below w.heap.size w w' := by
 have HL_ := Aside0.mk hL_
 clear hL_
 have hu23 := Tryd.underlying23
 have HB := Aside0.mk (Below.refl w.heap.size w)
 have H : ((moment_isDay.f a0_0 a0_1 a0_2 a0_3 a0_4 a0_5 a0_6).bind fun t135 => (if t135 = true then ((moment_Valid.f a0_0 a0_1 a0_2 a0_3 a0_4 a0_5 a0_6).bind fun t136 => (if t136 = true then (some 0) else (some 20))) else (some 21))) = some r := h
 clear h
 replace H := Option.bind_eq_some_iff.mp H
 obtain ⟨t135, A20, H⟩ := H
 replace H : (if t135 = true then ((moment_Valid.f a0_0 a0_1 a0_2 a0_3 a0_4 a0_5 a0_6).bind fun t136 => (if t136 = true then (some 0) else (some 20))) else (some 21)) = some r := H
 have A2 := Aside0.mk A20
 clear A20
 by_cases c3 : t135 = true
 ·subst c3
  have H1 : ((moment_Valid.f a0_0 a0_1 a0_2 a0_3 a0_4 a0_5 a0_6).bind fun t136 => (if t136 = true then (some 0) else (some 20))) = some r := by rw [if_pos rfl] at H; exact H
  clear H
  have H := H1
  clear H1
  replace H := Option.bind_eq_some_iff.mp H
  obtain ⟨t136, A40, H⟩ := H
  replace H : (if t136 = true then (some 0) else (some 20)) = some r := H
  have A4 := Aside0.mk A40
  clear A40
  by_cases c5 : t136 = true
  ·subst c5
   have H1 : (some 0) = some r := by rw [if_pos rfl] at H; exact H
   clear H
   have H := H1
   clear H1
   obtain rfl := Option.some.inj H
   go_enter Tryd.func63, Tryd.ntmps63
   go_wp2_with (first | ((with_reducible refine gate_dst (N := 1) rfl ?_); refine box_event ?hg (N := 1) ?hd (cs := #[.int .i64 a0_0, .int .i64 a0_1, .int .i64 a0_2, .int .i64 a0_3, .int .i64 a0_4, .int .i64 a0_5, .int .i64 a0_6]) (t := 23) ?hr ?_; (case hd => rfl); (case hg => rfl); (case hr => first | (go_simp; done) | (go_simp; rfl)); intro gb134 hg w6 hbox hb; have n0_ := Aside0.mk (below_step (by repeat (first | (with_reducible first | exact HB.out | apply below_alloc | apply pw_below_drewN | apply below_drew1) | exact HB.out)) hb); have n1_ := Aside0.mk (hbox); have n2_ := Aside0.mk ((by rw [hg]; exact (below_size (by repeat (first | (with_reducible first | exact HB.out | apply below_alloc | apply pw_below_drewN | apply below_drew1) | exact HB.out))) : w.heap.size ≤ gb134)); have n3_ := Aside0.mk ((by rw [hg]; exact (below_size (by repeat (first | (with_reducible first | exact HB.out | apply below_alloc | apply pw_below_drewN | apply below_drew1) | exact HB.out))) : w.heap.size ≤ gb134)); clear HB; have HB := n0_; have BK134 := n1_; have GW134 := n2_; have GE134 := n3_; clear n0_ n1_ n2_ n3_; clear hb hbox hg; have hcz7_0 : w6.cell? ⟨gb134, 0, none⟩ = some (.int .i64 a0_0) := (blk_cell BK134.out 0).trans rfl; have hcz7_1 : w6.cell? ⟨gb134, 1, none⟩ = some (.int .i64 a0_1) := (blk_cell BK134.out 1).trans rfl; have hcz7_2 : w6.cell? ⟨gb134, 2, none⟩ = some (.int .i64 a0_2) := (blk_cell BK134.out 2).trans rfl; have hcz7_3 : w6.cell? ⟨gb134, 3, none⟩ = some (.int .i64 a0_3) := (blk_cell BK134.out 3).trans rfl; have hcz7_4 : w6.cell? ⟨gb134, 4, none⟩ = some (.int .i64 a0_4) := (blk_cell BK134.out 4).trans rfl; have hcz7_5 : w6.cell? ⟨gb134, 5, none⟩ = some (.int .i64 a0_5) := (blk_cell BK134.out 5).trans rfl; have hcz7_6 : w6.cell? ⟨gb134, 6, none⟩ = some (.int .i64 a0_6) := (blk_cell BK134.out 6).trans rfl; have hfz7_0 := blk_frozen BK134.out 0; have hfz7_1 := blk_frozen BK134.out 1; have hfz7_2 := blk_frozen BK134.out 2; have hfz7_3 := blk_frozen BK134.out 3; have hfz7_4 := blk_frozen BK134.out 4; have hfz7_5 := blk_frozen BK134.out 5; have hfz7_6 := blk_frozen BK134.out 6) | ((with_reducible refine gate_callee (f := 46) rfl ?_); refine goesL_ (some 5) rfl rfl Tryd.func46 (by kernel_rfl) rfl #[.agg #[.int .i64 a0_0, .int .i64 a0_1, .int .i64 a0_2, .int .i64 a0_3, .int .i64 a0_4, .int .i64 a0_5, .int .i64 a0_6]] rfl (by (try simp only [List.map_toArray, List.map_cons, List.map_nil]); first | done | rfl | (simp only [List.length_drop, List.length_take]; rfl)) ?_; (with_reducible refine (moment_isDay.calls a0_0 a0_1 a0_2 a0_3 a0_4 a0_5 a0_6 true _ A2.out (by first | exact laid_below HL_.out (by repeat (first | (with_reducible first | exact HB.out | apply below_alloc | apply pw_below_drewN | apply below_drew1) | exact HB.out)) | exact laid_drawn HL_.out (by repeat (first | exact Drawn0.refl _ | apply Drawn0.step)))).mono ?_); rintro e w8 ⟨rfl, hb⟩; refine ⟨_, rfl, ?_⟩; have n0_ := Aside0.mk (blk_below (g := gb134) (o := .cells #[.int .i64 a0_0, .int .i64 a0_1, .int .i64 a0_2, .int .i64 a0_3, .int .i64 a0_4, .int .i64 a0_5, .int .i64 a0_6] 23 (0, 0)) (by (with_reducible repeat (first | refine blk_drewN ?_ _ | refine blk_drew ?_ | refine blk_alloc ?_ _)); exact BK134.out) hb); have n1_ := Aside0.mk (below_step (by repeat (first | (with_reducible first | exact HB.out | apply below_alloc | apply pw_below_drewN | apply below_drew1 | refine below_set ?_ GE134.out) | exact HB.out)) hb); clear BK134; clear HB; have BK134 := n0_; have HB := n1_; clear n0_ n1_; (try clear hb); (try clear hb2); (try clear hk); (try clear hi); have hcz9_0 : w8.cell? ⟨gb134, 0, none⟩ = some (.int .i64 a0_0) := (blk_cell BK134.out 0).trans rfl; have hcz9_1 : w8.cell? ⟨gb134, 1, none⟩ = some (.int .i64 a0_1) := (blk_cell BK134.out 1).trans rfl; have hcz9_2 : w8.cell? ⟨gb134, 2, none⟩ = some (.int .i64 a0_2) := (blk_cell BK134.out 2).trans rfl; have hcz9_3 : w8.cell? ⟨gb134, 3, none⟩ = some (.int .i64 a0_3) := (blk_cell BK134.out 3).trans rfl; have hcz9_4 : w8.cell? ⟨gb134, 4, none⟩ = some (.int .i64 a0_4) := (blk_cell BK134.out 4).trans rfl; have hcz9_5 : w8.cell? ⟨gb134, 5, none⟩ = some (.int .i64 a0_5) := (blk_cell BK134.out 5).trans rfl; have hcz9_6 : w8.cell? ⟨gb134, 6, none⟩ = some (.int .i64 a0_6) := (blk_cell BK134.out 6).trans rfl; have hfz9_0 := blk_frozen BK134.out 0; have hfz9_1 := blk_frozen BK134.out 1; have hfz9_2 := blk_frozen BK134.out 2; have hfz9_3 := blk_frozen BK134.out 3; have hfz9_4 := blk_frozen BK134.out 4; have hfz9_5 := blk_frozen BK134.out 5; have hfz9_6 := blk_frozen BK134.out 6) | ((with_reducible refine gate_callee (f := 19) rfl ?_); refine goesL_ (some 9) rfl rfl Tryd.func19 (by kernel_rfl) rfl #[.agg #[.int .i64 a0_0, .int .i64 a0_1, .int .i64 a0_2, .int .i64 a0_3, .int .i64 a0_4, .int .i64 a0_5, .int .i64 a0_6]] rfl (by (try simp only [List.map_toArray, List.map_cons, List.map_nil]); first | done | rfl | (simp only [List.length_drop, List.length_take]; rfl)) ?_; (with_reducible refine (moment_Valid.calls a0_0 a0_1 a0_2 a0_3 a0_4 a0_5 a0_6 true _ A4.out (by first | exact laid_below HL_.out (by repeat (first | (with_reducible first | exact HB.out | apply below_alloc | apply pw_below_drewN | apply below_drew1) | exact HB.out)) | exact laid_drawn HL_.out (by repeat (first | exact Drawn0.refl _ | apply Drawn0.step)))).mono ?_); rintro e w10 ⟨rfl, hb⟩; refine ⟨_, rfl, ?_⟩; have n0_ := Aside0.mk (blk_below (g := gb134) (o := .cells #[.int .i64 a0_0, .int .i64 a0_1, .int .i64 a0_2, .int .i64 a0_3, .int .i64 a0_4, .int .i64 a0_5, .int .i64 a0_6] 23 (0, 0)) (by (with_reducible repeat (first | refine blk_drewN ?_ _ | refine blk_drew ?_ | refine blk_alloc ?_ _)); exact BK134.out) hb); have n1_ := Aside0.mk (below_step (by repeat (first | (with_reducible first | exact HB.out | apply below_alloc | apply pw_below_drewN | apply below_drew1 | refine below_set ?_ GE134.out) | exact HB.out)) hb); clear BK134; clear HB; have BK134 := n0_; have HB := n1_; clear n0_ n1_; (try clear hb); (try clear hb2); (try clear hk); (try clear hi)))
   go_ret
   exact ⟨by first | rfl | (simp [errW_none, errW_some] <;> rfl) | (simp [*, errW_none, errW_some] <;> rfl), by repeat (first | (with_reducible first | exact HB.out | apply below_alloc | apply pw_below_drewN | apply below_drew1 | refine below_set ?_ GE134.out) | exact HB.out)⟩
  ·replace c5 := Bool.eq_false_iff.mpr c5
   subst c5
   have H1 : (some 20) = some r := by rw [if_neg (show ¬ (false = true) by decide)] at H; exact H
   clear H
   have H := H1
   clear H1
   obtain rfl := Option.some.inj H
   go_enter Tryd.func63, Tryd.ntmps63
   go_wp2_with (first | ((with_reducible refine gate_dst (N := 1) rfl ?_); refine box_event ?hg (N := 1) ?hd (cs := #[.int .i64 a0_0, .int .i64 a0_1, .int .i64 a0_2, .int .i64 a0_3, .int .i64 a0_4, .int .i64 a0_5, .int .i64 a0_6]) (t := 23) ?hr ?_; (case hd => rfl); (case hg => rfl); (case hr => first | (go_simp; done) | (go_simp; rfl)); intro gb134 hg w11 hbox hb; have n0_ := Aside0.mk (below_step (by repeat (first | (with_reducible first | exact HB.out | apply below_alloc | apply pw_below_drewN | apply below_drew1) | exact HB.out)) hb); have n1_ := Aside0.mk (hbox); have n2_ := Aside0.mk ((by rw [hg]; exact (below_size (by repeat (first | (with_reducible first | exact HB.out | apply below_alloc | apply pw_below_drewN | apply below_drew1) | exact HB.out))) : w.heap.size ≤ gb134)); have n3_ := Aside0.mk ((by rw [hg]; exact (below_size (by repeat (first | (with_reducible first | exact HB.out | apply below_alloc | apply pw_below_drewN | apply below_drew1) | exact HB.out))) : w.heap.size ≤ gb134)); clear HB; have HB := n0_; have BK134 := n1_; have GW134 := n2_; have GE134 := n3_; clear n0_ n1_ n2_ n3_; clear hb hbox hg; have hcz12_0 : w11.cell? ⟨gb134, 0, none⟩ = some (.int .i64 a0_0) := (blk_cell BK134.out 0).trans rfl; have hcz12_1 : w11.cell? ⟨gb134, 1, none⟩ = some (.int .i64 a0_1) := (blk_cell BK134.out 1).trans rfl; have hcz12_2 : w11.cell? ⟨gb134, 2, none⟩ = some (.int .i64 a0_2) := (blk_cell BK134.out 2).trans rfl; have hcz12_3 : w11.cell? ⟨gb134, 3, none⟩ = some (.int .i64 a0_3) := (blk_cell BK134.out 3).trans rfl; have hcz12_4 : w11.cell? ⟨gb134, 4, none⟩ = some (.int .i64 a0_4) := (blk_cell BK134.out 4).trans rfl; have hcz12_5 : w11.cell? ⟨gb134, 5, none⟩ = some (.int .i64 a0_5) := (blk_cell BK134.out 5).trans rfl; have hcz12_6 : w11.cell? ⟨gb134, 6, none⟩ = some (.int .i64 a0_6) := (blk_cell BK134.out 6).trans rfl; have hfz12_0 := blk_frozen BK134.out 0; have hfz12_1 := blk_frozen BK134.out 1; have hfz12_2 := blk_frozen BK134.out 2; have hfz12_3 := blk_frozen BK134.out 3; have hfz12_4 := blk_frozen BK134.out 4; have hfz12_5 := blk_frozen BK134.out 5; have hfz12_6 := blk_frozen BK134.out 6) | ((with_reducible refine gate_callee (f := 46) rfl ?_); refine goesL_ (some 5) rfl rfl Tryd.func46 (by kernel_rfl) rfl #[.agg #[.int .i64 a0_0, .int .i64 a0_1, .int .i64 a0_2, .int .i64 a0_3, .int .i64 a0_4, .int .i64 a0_5, .int .i64 a0_6]] rfl (by (try simp only [List.map_toArray, List.map_cons, List.map_nil]); first | done | rfl | (simp only [List.length_drop, List.length_take]; rfl)) ?_; (with_reducible refine (moment_isDay.calls a0_0 a0_1 a0_2 a0_3 a0_4 a0_5 a0_6 true _ A2.out (by first | exact laid_below HL_.out (by repeat (first | (with_reducible first | exact HB.out | apply below_alloc | apply pw_below_drewN | apply below_drew1) | exact HB.out)) | exact laid_drawn HL_.out (by repeat (first | exact Drawn0.refl _ | apply Drawn0.step)))).mono ?_); rintro e w13 ⟨rfl, hb⟩; refine ⟨_, rfl, ?_⟩; have n0_ := Aside0.mk (blk_below (g := gb134) (o := .cells #[.int .i64 a0_0, .int .i64 a0_1, .int .i64 a0_2, .int .i64 a0_3, .int .i64 a0_4, .int .i64 a0_5, .int .i64 a0_6] 23 (0, 0)) (by (with_reducible repeat (first | refine blk_drewN ?_ _ | refine blk_drew ?_ | refine blk_alloc ?_ _)); exact BK134.out) hb); have n1_ := Aside0.mk (below_step (by repeat (first | (with_reducible first | exact HB.out | apply below_alloc | apply pw_below_drewN | apply below_drew1 | refine below_set ?_ GE134.out) | exact HB.out)) hb); clear BK134; clear HB; have BK134 := n0_; have HB := n1_; clear n0_ n1_; (try clear hb); (try clear hb2); (try clear hk); (try clear hi); have hcz14_0 : w13.cell? ⟨gb134, 0, none⟩ = some (.int .i64 a0_0) := (blk_cell BK134.out 0).trans rfl; have hcz14_1 : w13.cell? ⟨gb134, 1, none⟩ = some (.int .i64 a0_1) := (blk_cell BK134.out 1).trans rfl; have hcz14_2 : w13.cell? ⟨gb134, 2, none⟩ = some (.int .i64 a0_2) := (blk_cell BK134.out 2).trans rfl; have hcz14_3 : w13.cell? ⟨gb134, 3, none⟩ = some (.int .i64 a0_3) := (blk_cell BK134.out 3).trans rfl; have hcz14_4 : w13.cell? ⟨gb134, 4, none⟩ = some (.int .i64 a0_4) := (blk_cell BK134.out 4).trans rfl; have hcz14_5 : w13.cell? ⟨gb134, 5, none⟩ = some (.int .i64 a0_5) := (blk_cell BK134.out 5).trans rfl; have hcz14_6 : w13.cell? ⟨gb134, 6, none⟩ = some (.int .i64 a0_6) := (blk_cell BK134.out 6).trans rfl; have hfz14_0 := blk_frozen BK134.out 0; have hfz14_1 := blk_frozen BK134.out 1; have hfz14_2 := blk_frozen BK134.out 2; have hfz14_3 := blk_frozen BK134.out 3; have hfz14_4 := blk_frozen BK134.out 4; have hfz14_5 := blk_frozen BK134.out 5; have hfz14_6 := blk_frozen BK134.out 6) | ((with_reducible refine gate_callee (f := 19) rfl ?_); refine goesL_ (some 9) rfl rfl Tryd.func19 (by kernel_rfl) rfl #[.agg #[.int .i64 a0_0, .int .i64 a0_1, .int .i64 a0_2, .int .i64 a0_3, .int .i64 a0_4, .int .i64 a0_5, .int .i64 a0_6]] rfl (by (try simp only [List.map_toArray, List.map_cons, List.map_nil]); first | done | rfl | (simp only [List.length_drop, List.length_take]; rfl)) ?_; (with_reducible refine (moment_Valid.calls a0_0 a0_1 a0_2 a0_3 a0_4 a0_5 a0_6 false _ A4.out (by first | exact laid_below HL_.out (by repeat (first | (with_reducible first | exact HB.out | apply below_alloc | apply pw_below_drewN | apply below_drew1) | exact HB.out)) | exact laid_drawn HL_.out (by repeat (first | exact Drawn0.refl _ | apply Drawn0.step)))).mono ?_); rintro e w15 ⟨rfl, hb⟩; refine ⟨_, rfl, ?_⟩; have n0_ := Aside0.mk (blk_below (g := gb134) (o := .cells #[.int .i64 a0_0, .int .i64 a0_1, .int .i64 a0_2, .int .i64 a0_3, .int .i64 a0_4, .int .i64 a0_5, .int .i64 a0_6] 23 (0, 0)) (by (with_reducible repeat (first | refine blk_drewN ?_ _ | refine blk_drew ?_ | refine blk_alloc ?_ _)); exact BK134.out) hb); have n1_ := Aside0.mk (below_step (by repeat (first | (with_reducible first | exact HB.out | apply below_alloc | apply pw_below_drewN | apply below_drew1 | refine below_set ?_ GE134.out) | exact HB.out)) hb); clear BK134; clear HB; have BK134 := n0_; have HB := n1_; clear n0_ n1_; (try clear hb); (try clear hb2); (try clear hk); (try clear hi)))
   go_ret
   exact ⟨by first | rfl | (simp [errW_none, errW_some] <;> rfl) | (simp [*, errW_none, errW_some] <;> rfl), by repeat (first | (with_reducible first | exact HB.out | apply below_alloc | apply pw_below_drewN | apply below_drew1 | refine below_set ?_ GE134.out) | exact HB.out)⟩
 ·replace c3 := Bool.eq_false_iff.mpr c3
  subst c3
  have H1 : (some 21) = some r := by rw [if_neg (show ¬ (false = true) by decide)] at H; exact H
  clear H
  have H := H1
  clear H1
  obtain rfl := Option.some.inj H
  go_enter Tryd.func63, Tryd.ntmps63
  go_wp2_with (first | ((with_reducible refine gate_dst (N := 1) rfl ?_); refine box_event ?hg (N := 1) ?hd (cs := #[.int .i64 a0_0, .int .i64 a0_1, .int .i64 a0_2, .int .i64 a0_3, .int .i64 a0_4, .int .i64 a0_5, .int .i64 a0_6]) (t := 23) ?hr ?_; (case hd => rfl); (case hg => rfl); (case hr => first | (go_simp; done) | (go_simp; rfl)); intro gb134 hg w16 hbox hb; have n0_ := Aside0.mk (below_step (by repeat (first | (with_reducible first | exact HB.out | apply below_alloc | apply pw_below_drewN | apply below_drew1) | exact HB.out)) hb); have n1_ := Aside0.mk (hbox); have n2_ := Aside0.mk ((by rw [hg]; exact (below_size (by repeat (first | (with_reducible first | exact HB.out | apply below_alloc | apply pw_below_drewN | apply below_drew1) | exact HB.out))) : w.heap.size ≤ gb134)); have n3_ := Aside0.mk ((by rw [hg]; exact (below_size (by repeat (first | (with_reducible first | exact HB.out | apply below_alloc | apply pw_below_drewN | apply below_drew1) | exact HB.out))) : w.heap.size ≤ gb134)); clear HB; have HB := n0_; have BK134 := n1_; have GW134 := n2_; have GE134 := n3_; clear n0_ n1_ n2_ n3_; clear hb hbox hg; have hcz17_0 : w16.cell? ⟨gb134, 0, none⟩ = some (.int .i64 a0_0) := (blk_cell BK134.out 0).trans rfl; have hcz17_1 : w16.cell? ⟨gb134, 1, none⟩ = some (.int .i64 a0_1) := (blk_cell BK134.out 1).trans rfl; have hcz17_2 : w16.cell? ⟨gb134, 2, none⟩ = some (.int .i64 a0_2) := (blk_cell BK134.out 2).trans rfl; have hcz17_3 : w16.cell? ⟨gb134, 3, none⟩ = some (.int .i64 a0_3) := (blk_cell BK134.out 3).trans rfl; have hcz17_4 : w16.cell? ⟨gb134, 4, none⟩ = some (.int .i64 a0_4) := (blk_cell BK134.out 4).trans rfl; have hcz17_5 : w16.cell? ⟨gb134, 5, none⟩ = some (.int .i64 a0_5) := (blk_cell BK134.out 5).trans rfl; have hcz17_6 : w16.cell? ⟨gb134, 6, none⟩ = some (.int .i64 a0_6) := (blk_cell BK134.out 6).trans rfl; have hfz17_0 := blk_frozen BK134.out 0; have hfz17_1 := blk_frozen BK134.out 1; have hfz17_2 := blk_frozen BK134.out 2; have hfz17_3 := blk_frozen BK134.out 3; have hfz17_4 := blk_frozen BK134.out 4; have hfz17_5 := blk_frozen BK134.out 5; have hfz17_6 := blk_frozen BK134.out 6) | ((with_reducible refine gate_callee (f := 46) rfl ?_); refine goesL_ (some 5) rfl rfl Tryd.func46 (by kernel_rfl) rfl #[.agg #[.int .i64 a0_0, .int .i64 a0_1, .int .i64 a0_2, .int .i64 a0_3, .int .i64 a0_4, .int .i64 a0_5, .int .i64 a0_6]] rfl (by (try simp only [List.map_toArray, List.map_cons, List.map_nil]); first | done | rfl | (simp only [List.length_drop, List.length_take]; rfl)) ?_; (with_reducible refine (moment_isDay.calls a0_0 a0_1 a0_2 a0_3 a0_4 a0_5 a0_6 false _ A2.out (by first | exact laid_below HL_.out (by repeat (first | (with_reducible first | exact HB.out | apply below_alloc | apply pw_below_drewN | apply below_drew1) | exact HB.out)) | exact laid_drawn HL_.out (by repeat (first | exact Drawn0.refl _ | apply Drawn0.step)))).mono ?_); rintro e w18 ⟨rfl, hb⟩; refine ⟨_, rfl, ?_⟩; have n0_ := Aside0.mk (blk_below (g := gb134) (o := .cells #[.int .i64 a0_0, .int .i64 a0_1, .int .i64 a0_2, .int .i64 a0_3, .int .i64 a0_4, .int .i64 a0_5, .int .i64 a0_6] 23 (0, 0)) (by (with_reducible repeat (first | refine blk_drewN ?_ _ | refine blk_drew ?_ | refine blk_alloc ?_ _)); exact BK134.out) hb); have n1_ := Aside0.mk (below_step (by repeat (first | (with_reducible first | exact HB.out | apply below_alloc | apply pw_below_drewN | apply below_drew1 | refine below_set ?_ GE134.out) | exact HB.out)) hb); clear BK134; clear HB; have BK134 := n0_; have HB := n1_; clear n0_ n1_; (try clear hb); (try clear hb2); (try clear hk); (try clear hi)))
  go_ret
  exact ⟨by first | rfl | (simp [errW_none, errW_some] <;> rfl) | (simp [*, errW_none, errW_some] <;> rfl), by repeat (first | (with_reducible first | exact HB.out | apply below_alloc | apply pw_below_drewN | apply below_drew1 | refine below_set ?_ GE134.out) | exact HB.out)⟩
end Go.Proofs.YtjlchnmpebdggaaDoor.Mo
end
section
namespace Go.Proofs.YtjlchnmpebdggaaDoor.Mo
open Go.RowKit Go.Proofs.YtjlchnmpebdggaaDoorW.PrintWords Go.Proofs.YtjlchnmpebdggaaDoorW.PrintLast Go.Proofs.YtjlchnmpebdggaaDoorW.PrintMore
attribute [local go_sem] max2_int min2_int max_two min_two max_three min_three max_four min_four   -- for this text's walks alone
set_option linter.unusedVariables false
set_option linter.unusedSimpArgs false
def moment_two.f (a0 : Int) : Option (ByteArray) := some (strOfNums (([(wrap64 (48 + (wrap64 (Int.tdiv a0 10)))) % 256, (wrap64 (48 + (Int.tmod a0 10))) % 256] : List Int)))
set_option maxHeartbeats 8000000 in
set_option maxRecDepth 100000 in
theorem moment_two.calls (a0 : Int) (r : ByteArray) (w : World) (h : moment_two.f a0 = some r) :
  Calls Tryd.prog 87 #[.int .i64 a0] w fun e w' => e = .returned (.string r) ∧ Below w.heap.size w w' := by
 have HB := Aside0.mk (Below.refl w.heap.size w)
 have H : (some (strOfNums (([(wrap64 (48 + (wrap64 (Int.tdiv a0 10)))) % 256, (wrap64 (48 + (Int.tmod a0 10))) % 256] : List Int)))) = some r := h
 clear h
 obtain ⟨y128, hy128⟩ : ∃ y_ : List Int, y_ = (([(wrap64 (48 + (wrap64 (Int.tdiv a0 10)))) % 256, (wrap64 (48 + (Int.tmod a0 10))) % 256] : List Int)) := ⟨_, rfl⟩
 replace H : (some (strOfNums y128)) = some r := by first | (rw [hy128]; with_reducible exact H) | (have H2_ := (Option.bind_some _ _).symm.trans H; rw [hy128]; with_reducible exact H2_) | (have H2_ := (Option.bind_some _ _).symm.trans H; with_reducible exact H2_) | with_reducible exact H | (rw [hy128]; exact H) | exact H
 have Ny128 := Aside0.mk hy128
 clear hy128
 obtain rfl := Option.some.inj H
 go_enter Tryd.func87, Tryd.ntmps87
 go_wp2_with (first | ((with_reducible refine gate_dst (N := 11) rfl ?_); refine Kd.R_lit (Kd.int .u8) _ 5 ?hg (N := 11) ?hd (xs := ([(wrap64 (48 + (wrap64 (Int.tdiv a0 10)))) % 256, (wrap64 (48 + (Int.tmod a0 10))) % 256] : List Int)) (inner := [.int .u8 ((wrap64 (48 + (wrap64 (Int.tdiv a0 10)))) % 256), .int .u8 ((wrap64 (48 + (Int.tmod a0 10))) % 256)]) (ok := fun _ => True) (okp := fun _ => True) ?hr ?hp (fun _ hk => hk) trivial (Below.refl _ _) (Nat.le_refl _) (by simp) ?_; (case hd => rfl); (case hg => rfl); (case hr => first | (go_simp; done) | (go_simp; rfl)); (case hp => exact (Reps.one (show Kd.M (Kd.int .u8) _ _ _ ((wrap64 (48 + (wrap64 (Int.tdiv a0 10)))) % 256) [.int .u8 ((wrap64 (48 + (wrap64 (Int.tdiv a0 10)))) % 256)] from rfl) (Reps.one (show Kd.M (Kd.int .u8) _ _ _ ((wrap64 (48 + (Int.tmod a0 10))) % 256) [.int .u8 ((wrap64 (48 + (Int.tmod a0 10))) % 256)] from rfl) (Reps.none _ _)))); intro v129 w2 ho3 hb hg_ hnew_; clear hg_ hnew_; (first | rw [← Ny128.out] at ho3 | (simp only [Int.reduceToNat] at ho3; rw [← Ny128.out] at ho3)); have n0_ := Aside0.mk (Kd.R_lower ho3 (below_size (by repeat (first | (with_reducible first | exact HB.out | apply below_alloc | apply pw_below_drewN | apply below_drew1) | exact HB.out)))); have n1_ := Aside0.mk (below_step (by repeat (first | (with_reducible first | exact HB.out | apply below_alloc | apply pw_below_drewN | apply below_drew1) | exact HB.out)) hb); clear HB; have HO130 := n0_; have HB := n1_; clear n0_ n1_; clear hb ho3; have hcv4 := own_string (P := Tryd.prog) Tryd.underlying58 Tryd.underlying5 Tryd.underlying9 (Kd.own_of_R HO130.out)))
 go_ret
 exact ⟨by first | rfl | (simp [errW_none, errW_some] <;> rfl) | (simp [*, errW_none, errW_some] <;> rfl), by repeat (first | (with_reducible first | exact HB.out | apply below_alloc | apply pw_below_drewN | apply below_drew1) | exact HB.out)⟩
def moment_plain.f (a0 : Int) : Option (ByteArray) := (moment_two.f a0).bind fun t131 => (if 0 < (t131.size : Int) then (if (bt t131 0) = 48 then (if 1 ≤ (t131.size : Int) then (some (t131.extract 1 t131.size)) else (none)) else (some t131)) else (none))
set_option maxHeartbeats 8000000 in
set_option maxRecDepth 100000 in
theorem moment_plain.calls (a0 : Int) (r : ByteArray) (w : World) (h : moment_plain.f a0 = some r) :
  Calls Tryd.prog 49 #[.int .i64 a0] w fun e w' => e = .returned (.string r) ∧ Below w.heap.size w w' := by
 have HB := Aside0.mk (Below.refl w.heap.size w)
 have H : ((moment_two.f a0).bind fun t131 => (if 0 < (t131.size : Int) then (if (bt t131 0) = 48 then (if 1 ≤ (t131.size : Int) then (some (t131.extract 1 t131.size)) else (none)) else (some t131)) else (none))) = some r := h
 clear h
 replace H := Option.bind_eq_some_iff.mp H
 obtain ⟨t131, A20, H⟩ := H
 replace H : (if 0 < (t131.size : Int) then (if (bt t131 0) = 48 then (if 1 ≤ (t131.size : Int) then (some (t131.extract 1 t131.size)) else (none)) else (some t131)) else (none)) = some r := H
 have A2 := Aside0.mk A20
 clear A20
 by_cases c3 : 0 < (t131.size : Int)
 ·rw [if_pos c3] at H
  have c3b0 : decide (0 < (t131.size : Int)) = true := decide_eq_true c3
  have c3b1 : decide (0 < t131.size) = true := decide_eq_true (by omega)
  clear c3
  by_cases c5 : (bt t131 0) = 48
  ·rw [if_pos c5] at H
   have c5b0 : ((bt t131 0) == 48) = true := beq_iff_eq.mpr c5
   have c5b1 : ((bt t131 0) != 48) = false := bne_eq_false_iff_eq.mpr c5
   clear c5
   by_cases c6 : 1 ≤ (t131.size : Int)
   ·rw [if_pos c6] at H
    have c6b0 := eq_true c6
    have c6b1 : decide (1 ≤ (t131.size : Int)) = true := decide_eq_true c6
    clear c6
    obtain rfl := Option.some.inj H
    go_enter Tryd.func49, Tryd.ntmps49
    go_wp2_with (first | ((with_reducible refine gate_callee (f := 87) rfl ?_); refine goesL_ (some 5) rfl rfl Tryd.func87 (by kernel_rfl) rfl #[.int .i64 a0] rfl (by (try simp only [List.map_toArray, List.map_cons, List.map_nil]); first | done | rfl | (simp only [List.length_drop, List.length_take]; rfl)) ?_; (with_reducible refine (moment_two.calls a0 t131 _ A2.out).mono ?_); rintro e w7 ⟨rfl, hb⟩; refine ⟨_, rfl, ?_⟩; have n0_ := Aside0.mk (below_step (by repeat (first | (with_reducible first | exact HB.out | apply below_alloc | apply pw_below_drewN | apply below_drew1) | exact HB.out)) hb); clear HB; have HB := n0_; clear n0_; (try clear hb); (try clear hb2); (try clear hk); (try clear hi); have p4 : 0 ≤ (0 : Int) := (by omega); have q4 : 0 < t131.size := (by have : (0 : Int) < (t131.size : Int) := of_decide_eq_true (by first | (with_reducible assumption) | assumption); omega); have hx4 : ∀ h : 0 < t131.size, ((t131[0]'h).toNat : Int) = bt t131 0 := bt_at t131 0; clear p4; have qi4 : (0 < (t131.size : Int)) = True := eq_true (of_decide_eq_true (by first | (with_reducible assumption) | assumption)); replace q4 := eq_true q4))
    go_ret
    exact ⟨by first | rfl | (simp [errW_none, errW_some] <;> rfl) | (simp [*, errW_none, errW_some] <;> rfl), by repeat (first | (with_reducible first | exact HB.out | apply below_alloc | apply pw_below_drewN | apply below_drew1) | exact HB.out)⟩
   ·rw [if_neg c6] at H
    exact absurd H (by simp)
  ·rw [if_neg c5] at H
   have c5b0 : ((bt t131 0) == 48) = false := beq_eq_false_iff_ne.mpr c5
   have c5b1 : ((bt t131 0) != 48) = true := bne_iff_ne.mpr c5
   obtain rfl := Option.some.inj H
   go_enter Tryd.func49, Tryd.ntmps49
   go_wp2_with (first | ((with_reducible refine gate_callee (f := 87) rfl ?_); refine goesL_ (some 5) rfl rfl Tryd.func87 (by kernel_rfl) rfl #[.int .i64 a0] rfl (by (try simp only [List.map_toArray, List.map_cons, List.map_nil]); first | done | rfl | (simp only [List.length_drop, List.length_take]; rfl)) ?_; (with_reducible refine (moment_two.calls a0 t131 _ A2.out).mono ?_); rintro e w8 ⟨rfl, hb⟩; refine ⟨_, rfl, ?_⟩; have n0_ := Aside0.mk (below_step (by repeat (first | (with_reducible first | exact HB.out | apply below_alloc | apply pw_below_drewN | apply below_drew1) | exact HB.out)) hb); clear HB; have HB := n0_; clear n0_; (try clear hb); (try clear hb2); (try clear hk); (try clear hi); have p4 : 0 ≤ (0 : Int) := (by omega); have q4 : 0 < t131.size := (by have : (0 : Int) < (t131.size : Int) := of_decide_eq_true (by first | (with_reducible assumption) | assumption); omega); have hx4 : ∀ h : 0 < t131.size, ((t131[0]'h).toNat : Int) = bt t131 0 := bt_at t131 0; clear p4; have qi4 : (0 < (t131.size : Int)) = True := eq_true (of_decide_eq_true (by first | (with_reducible assumption) | assumption)); replace q4 := eq_true q4))
   go_ret
   exact ⟨by first | rfl | (simp [errW_none, errW_some] <;> rfl) | (simp [*, errW_none, errW_some] <;> rfl), by repeat (first | (with_reducible first | exact HB.out | apply below_alloc | apply pw_below_drewN | apply below_drew1) | exact HB.out)⟩
 ·rw [if_neg c3] at H
  exact absurd H (by simp)
def moment_four.f (a0 : Int) : Option (ByteArray) := (moment_two.f (wrap64 (Int.tdiv a0 100))).bind fun t132 => ((moment_two.f (Int.tmod a0 100)).bind fun t133 => (if t132.size + t133.size ≤ 9223372036854775807 then (some (t132 ++ t133)) else (none)))
set_option maxHeartbeats 8000000 in
set_option maxRecDepth 100000 in
theorem moment_four.calls (a0 : Int) (r : ByteArray) (w : World) (h : moment_four.f a0 = some r) :
  Calls Tryd.prog 67 #[.int .i64 a0] w fun e w' => e = .returned (.string r) ∧ Below w.heap.size w w' := by
 have HB := Aside0.mk (Below.refl w.heap.size w)
 have H : ((moment_two.f (wrap64 (Int.tdiv a0 100))).bind fun t132 => ((moment_two.f (Int.tmod a0 100)).bind fun t133 => (if t132.size + t133.size ≤ 9223372036854775807 then (some (t132 ++ t133)) else (none)))) = some r := h
 clear h
 replace H := Option.bind_eq_some_iff.mp H
 obtain ⟨t132, A20, H⟩ := H
 replace H : ((moment_two.f (Int.tmod a0 100)).bind fun t133 => (if t132.size + t133.size ≤ 9223372036854775807 then (some (t132 ++ t133)) else (none))) = some r := H
 have A2 := Aside0.mk A20
 clear A20
 replace H := Option.bind_eq_some_iff.mp H
 obtain ⟨t133, A30, H⟩ := H
 replace H : (if t132.size + t133.size ≤ 9223372036854775807 then (some (t132 ++ t133)) else (none)) = some r := H
 have A3 := Aside0.mk A30
 clear A30
 by_cases c4 : t132.size + t133.size ≤ 9223372036854775807
 ·rw [if_pos c4] at H
  have c4b0 := eq_true c4
  have c4b1 : decide (t132.size + t133.size ≤ 9223372036854775807) = true := decide_eq_true c4
  try have c4b2 : (9223372036854775807 < t132.size + t133.size) = False := eq_false (Nat.not_lt.2 c4)
  obtain rfl := Option.some.inj H
  go_enter Tryd.func67, Tryd.ntmps67
  go_wp2_with (first | ((with_reducible refine gate_callee (f := 87) rfl ?_); refine goesL_ (some 5) rfl rfl Tryd.func87 (by kernel_rfl) rfl #[.int .i64 (wrap64 (Int.tdiv a0 100))] rfl (by (try simp only [List.map_toArray, List.map_cons, List.map_nil]); first | done | rfl | (simp only [List.length_drop, List.length_take]; rfl)) ?_; (with_reducible refine (moment_two.calls (wrap64 (Int.tdiv a0 100)) t132 _ A2.out).mono ?_); rintro e w5 ⟨rfl, hb⟩; refine ⟨_, rfl, ?_⟩; have n0_ := Aside0.mk (below_step (by repeat (first | (with_reducible first | exact HB.out | apply below_alloc | apply pw_below_drewN | apply below_drew1) | exact HB.out)) hb); clear HB; have HB := n0_; clear n0_; (try clear hb); (try clear hb2); (try clear hk); (try clear hi)) | ((with_reducible refine gate_callee (f := 87) rfl ?_); refine goesL_ (some 8) rfl rfl Tryd.func87 (by kernel_rfl) rfl #[.int .i64 (Int.tmod a0 100)] rfl (by (try simp only [List.map_toArray, List.map_cons, List.map_nil]); first | done | rfl | (simp only [List.length_drop, List.length_take]; rfl)) ?_; (with_reducible refine (moment_two.calls (Int.tmod a0 100) t133 _ A3.out).mono ?_); rintro e w6 ⟨rfl, hb⟩; refine ⟨_, rfl, ?_⟩; have n0_ := Aside0.mk (below_step (by repeat (first | (with_reducible first | exact HB.out | apply below_alloc | apply pw_below_drewN | apply below_drew1) | exact HB.out)) hb); clear HB; have HB := n0_; clear n0_; (try clear hb); (try clear hb2); (try clear hk); (try clear hi)))
  go_ret
  exact ⟨by first | rfl | (simp [errW_none, errW_some] <;> rfl) | (simp [*, errW_none, errW_some] <;> rfl), by repeat (first | (with_reducible first | exact HB.out | apply below_alloc | apply pw_below_drewN | apply below_drew1) | exact HB.out)⟩
 ·rw [if_neg c4] at H
  exact absurd H (by simp)
end Go.Proofs.YtjlchnmpebdggaaDoor.Mo
end
section
namespace Go.Proofs.YtjlchnmpebdggaaDoor.Mo
open Go.RowKit Go.Proofs.YtjlchnmpebdggaaDoorW.PrintWords
def monthL : List ByteArray := [⟨#[74, 97, 110]⟩, ⟨#[70, 101, 98]⟩, ⟨#[77, 97, 114]⟩, ⟨#[65, 112, 114]⟩, ⟨#[77, 97, 121]⟩, ⟨#[74, 117, 110]⟩, ⟨#[74, 117, 108]⟩, ⟨#[65, 117, 103]⟩, ⟨#[83, 101, 112]⟩, ⟨#[79, 99, 116]⟩, ⟨#[78, 111, 118]⟩, ⟨#[68, 101, 99]⟩]
def weekL : List ByteArray := [⟨#[83, 117, 110]⟩, ⟨#[77, 111, 110]⟩, ⟨#[84, 117, 101]⟩, ⟨#[87, 101, 100]⟩, ⟨#[84, 104, 117]⟩, ⟨#[70, 114, 105]⟩, ⟨#[83, 97, 116]⟩]
theorem months_calls (w : World) : Calls Tryd.prog 66 #[] w fun e w' => e = .returned (.agg #[.string ⟨#[74, 97, 110]⟩, .string ⟨#[70, 101, 98]⟩, .string ⟨#[77, 97, 114]⟩, .string ⟨#[65, 112, 114]⟩, .string ⟨#[77, 97, 121]⟩, .string ⟨#[74, 117, 110]⟩, .string ⟨#[74, 117, 108]⟩, .string ⟨#[65, 117, 103]⟩, .string ⟨#[83, 101, 112]⟩, .string ⟨#[79, 99, 116]⟩, .string ⟨#[78, 111, 118]⟩, .string ⟨#[68, 101, 99]⟩]) ∧ Below w.heap.size w w' := by
  go_enter Tryd.func66, Tryd.ntmps66
  go_wp2
  exact bodyPost_ret (v := .agg #[.string ⟨#[74, 97, 110]⟩, .string ⟨#[70, 101, 98]⟩, .string ⟨#[77, 97, 114]⟩, .string ⟨#[65, 112, 114]⟩, .string ⟨#[77, 97, 121]⟩, .string ⟨#[74, 117, 110]⟩, .string ⟨#[74, 117, 108]⟩, .string ⟨#[65, 117, 103]⟩, .string ⟨#[83, 101, 112]⟩, .string ⟨#[79, 99, 116]⟩, .string ⟨#[78, 111, 118]⟩, .string ⟨#[68, 101, 99]⟩]) (by simp [results, Tryd.results66, go_sem]) rfl ⟨rfl, (Below.refl _ _).alloc (Nat.le_refl _) _⟩
theorem weekdays_calls (w : World) : Calls Tryd.prog 65 #[] w fun e w' => e = .returned (.agg #[.string ⟨#[83, 117, 110]⟩, .string ⟨#[77, 111, 110]⟩, .string ⟨#[84, 117, 101]⟩, .string ⟨#[87, 101, 100]⟩, .string ⟨#[84, 104, 117]⟩, .string ⟨#[70, 114, 105]⟩, .string ⟨#[83, 97, 116]⟩]) ∧ Below w.heap.size w w' := by
  go_enter Tryd.func65, Tryd.ntmps65
  go_wp2
  exact bodyPost_ret (v := .agg #[.string ⟨#[83, 117, 110]⟩, .string ⟨#[77, 111, 110]⟩, .string ⟨#[84, 117, 101]⟩, .string ⟨#[87, 101, 100]⟩, .string ⟨#[84, 104, 117]⟩, .string ⟨#[70, 114, 105]⟩, .string ⟨#[83, 97, 116]⟩]) (by simp [results, Tryd.results65, go_sem]) rfl ⟨rfl, (Below.refl _ _).alloc (Nat.le_refl _) _⟩
theorem month_index (w : World) (n : Nat) (h : n < 12) : (Instr.index 71 (.agg #[.string ⟨#[74, 97, 110]⟩, .string ⟨#[70, 101, 98]⟩, .string ⟨#[77, 97, 114]⟩, .string ⟨#[65, 112, 114]⟩, .string ⟨#[77, 97, 121]⟩, .string ⟨#[74, 117, 110]⟩, .string ⟨#[74, 117, 108]⟩, .string ⟨#[65, 117, 103]⟩, .string ⟨#[83, 101, 112]⟩, .string ⟨#[79, 99, 116]⟩, .string ⟨#[78, 111, 118]⟩, .string ⟨#[68, 101, 99]⟩]) (.int .i64 (n : Int))).run Tryd.prog w = .ok (.string (monthL.getD n ⟨#[]⟩)) w := by
  have : n = 0 ∨ n = 1 ∨ n = 2 ∨ n = 3 ∨ n = 4 ∨ n = 5 ∨ n = 6 ∨ n = 7 ∨ n = 8 ∨ n = 9 ∨ n = 10 ∨ n = 11 := by omega
  rcases this with rfl | rfl | rfl | rfl | rfl | rfl | rfl | rfl | rfl | rfl | rfl | rfl <;> (show _ = _; kernel_rfl)
theorem month_size (n : Nat) (h : n < 12) : (monthL.getD n ⟨#[]⟩).size = 3 := by
  have : n = 0 ∨ n = 1 ∨ n = 2 ∨ n = 3 ∨ n = 4 ∨ n = 5 ∨ n = 6 ∨ n = 7 ∨ n = 8 ∨ n = 9 ∨ n = 10 ∨ n = 11 := by omega
  rcases this with rfl | rfl | rfl | rfl | rfl | rfl | rfl | rfl | rfl | rfl | rfl | rfl <;> rfl
theorem week_size (n : Nat) (h : n < 7) : (weekL.getD n ⟨#[]⟩).size = 3 := by
  have : n = 0 ∨ n = 1 ∨ n = 2 ∨ n = 3 ∨ n = 4 ∨ n = 5 ∨ n = 6 := by omega
  rcases this with rfl | rfl | rfl | rfl | rfl | rfl | rfl <;> rfl
theorem month_cells {w : World} {g t : Nat} (h : w.heap[g]? = some (.cells #[.string ⟨#[74, 97, 110]⟩, .string ⟨#[70, 101, 98]⟩, .string ⟨#[77, 97, 114]⟩, .string ⟨#[65, 112, 114]⟩, .string ⟨#[77, 97, 121]⟩, .string ⟨#[74, 117, 110]⟩, .string ⟨#[74, 117, 108]⟩, .string ⟨#[65, 117, 103]⟩, .string ⟨#[83, 101, 112]⟩, .string ⟨#[79, 99, 116]⟩, .string ⟨#[78, 111, 118]⟩, .string ⟨#[68, 101, 99]⟩] t (0, 0))) (j : Nat) (x : ByteArray) (hx : monthL[j]? = some x) : w.cell? ⟨g, j, none⟩ = some (.string x) := by
  rw [cell_of_row w g j _ t (0, 0) h]
  show ((monthL.map Value.string).toArray)[j]? = _
  rw [List.getElem?_toArray, List.getElem?_map, hx]
  rfl
theorem week_cells {w : World} {g t : Nat} (h : w.heap[g]? = some (.cells #[.string ⟨#[83, 117, 110]⟩, .string ⟨#[77, 111, 110]⟩, .string ⟨#[84, 117, 101]⟩, .string ⟨#[87, 101, 100]⟩, .string ⟨#[84, 104, 117]⟩, .string ⟨#[70, 114, 105]⟩, .string ⟨#[83, 97, 116]⟩] t (0, 0))) (j : Nat) (x : ByteArray) (hx : weekL[j]? = some x) : w.cell? ⟨g, j, none⟩ = some (.string x) := by
  rw [cell_of_row w g j _ t (0, 0) h]
  show ((weekL.map Value.string).toArray)[j]? = _
  rw [List.getElem?_toArray, List.getElem?_map, hx]
  rfl
theorem month_small : ∀ x ∈ monthL, x.size ≤ 1000 := by
  intro x hx
  obtain ⟨n, hn, rfl⟩ := List.getElem_of_mem hx
  have := month_size n hn
  rw [List.getD_eq_getElem?_getD, List.getElem?_eq_getElem hn] at this
  have h2 : (monthL[n]).size = 3 := this
  omega
theorem week_small : ∀ x ∈ weekL, x.size ≤ 1000 := by
  intro x hx
  obtain ⟨n, hn, rfl⟩ := List.getElem_of_mem hx
  have := week_size n hn
  rw [List.getD_eq_getElem?_getD, List.getElem?_eq_getElem hn] at this
  have h2 : (weekL[n]).size = 3 := this
  omega
def twoP (n : Int) : ByteArray := strOfNums [(wrap64 (48 + (wrap64 (Int.tdiv n 10)))) % 256, (wrap64 (48 + (Int.tmod n 10))) % 256]
theorem two_f (n : Int) : moment_two.f n = some (twoP n) := rfl
theorem twoP_size (n : Int) : (twoP n).size = 2 := rfl
def fourP (n : Int) : ByteArray := twoP (wrap64 (Int.tdiv n 100)) ++ twoP (Int.tmod n 100)
theorem four_f (n : Int) : moment_four.f n = some (fourP n) := by
  unfold moment_four.f
  rw [two_f, two_f, Option.bind_some, Option.bind_some, if_pos (by rw [twoP_size, twoP_size]; omega)]
  rfl
theorem fourP_size (n : Int) : (fourP n).size = 4 := by unfold fourP; rw [ByteArray.size_append, twoP_size, twoP_size]
def dashP (y m : Int) : ByteArray := (⟨#[45]⟩ : ByteArray) ++ monthL.getD (m - 1).toNat ⟨#[]⟩ ++ (⟨#[45]⟩ : ByteArray) ++ fourP y
def moment_dashed.f (a0_0 a0_1 _a0_2 _a0_3 _a0_4 _a0_5 _a0_6 : Int) : Option ByteArray := if 1 ≤ a0_1 ∧ a0_1 ≤ 12 then some (dashP a0_0 a0_1) else none
set_option maxHeartbeats 1000000 in
set_option maxRecDepth 100000 in
theorem moment_dashed.calls (a0_0 a0_1 a0_2 a0_3 a0_4 a0_5 a0_6 : Int) (r : ByteArray) (w : World) (h : moment_dashed.f a0_0 a0_1 a0_2 a0_3 a0_4 a0_5 a0_6 = some r) :
    Calls Tryd.prog 50 #[.agg #[.int .i64 a0_0, .int .i64 a0_1, .int .i64 a0_2, .int .i64 a0_3, .int .i64 a0_4, .int .i64 a0_5, .int .i64 a0_6]] w fun e w' => e = .returned (.string r) ∧ Below w.heap.size w w' := by
  unfold moment_dashed.f at h
  by_cases hm : 1 ≤ a0_1 ∧ a0_1 ≤ 12
  · rw [if_pos hm] at h
    obtain rfl := Option.some.inj h
    obtain ⟨n, rfl⟩ : ∃ n : Nat, a0_1 = n + 1 := ⟨(a0_1 - 1).toNat, by omega⟩
    have hn : n < 12 := by omega
    have hd : Hid (dashP a0_0 ((n : Int) + 1) = (⟨#[45]⟩ : ByteArray) ++ monthL.getD n ⟨#[]⟩ ++ (⟨#[45]⟩ : ByteArray) ++ fourP a0_0) := by
      show dashP a0_0 ((n : Int) + 1) = _; unfold dashP; congr 4; simp
    have hn0 : (0 : Int) ≤ (n : Int) := by omega
    have hn1 : (n : Int) < 12 := by omega
    have hwr : IntKind.i64.wrap (n : Int) = (n : Int) := IntWalk.i64_in _ (by omega)
    have hms := month_size n hn
    have hfs := fourP_size a0_0
    have hix := fun w => month_index w n hn
    have hF := Lib.hid (four_f a0_0)
    generalize monthL.getD n ⟨#[]⟩ = mn at *
    generalize fourP a0_0 = fy at *
    clear h
    go_enter Tryd.func50, Tryd.ntmps50
    go_wp2_with fail
    go_region_held3 (fun w' => w'.cell? ⟨w.heap.size, 0, none⟩ = some (.int .i64 a0_0) ∧ w'.cell? ⟨w.heap.size, 1, none⟩ = some (.int .i64 ((n : Int) + 1))) (go_keep)
      (first | (go_at_call 66; refine (months_calls _).mono ?_; rintro e w1 ⟨rfl, hb1⟩; have k0 := pw_cell_below hb1 (a := ⟨w.heap.size, 0, none⟩) (v := .int .i64 a0_0) (by first | assumption | go_simp); have k1 := pw_cell_below hb1 (a := ⟨w.heap.size, 1, none⟩) (v := .int .i64 ((n : Int) + 1)) (by first | assumption | go_simp)) | (go_at_call 67; refine (moment_four.calls _ _ _ hF.out).mono ?_; rintro e w2 ⟨rfl, hb2⟩; have k2 := pw_cell_below hb2 (a := ⟨w.heap.size, 0, none⟩) (v := .int .i64 a0_0) (by first | assumption | go_simp); have k3 := pw_cell_below hb2 (a := ⟨w.heap.size, 1, none⟩) (v := .int .i64 ((n : Int) + 1)) (by first | assumption | go_simp)))
    all_goals go_wp2
    all_goals go_ret
    all_goals exact ⟨by rw [hd.out]; rfl, by repeat (first | (with_reducible first | exact Below.refl _ _ | apply below_alloc | apply pw_below_drewN | apply below_drew | refine below_step ?_ hb2 | refine below_step ?_ hb1))⟩
  · rw [if_neg hm] at h
    exact absurd h (by simp)
end Go.Proofs.YtjlchnmpebdggaaDoor.Mo
end
section
namespace Go.Proofs.YtjlchnmpebdggaaDoor.Mo
open Go.RowKit Go.Proofs.YtjlchnmpebdggaaDoorW.PrintWords
def isDayB (y m d : Int) : Bool := decide (1 ≤ y ∧ y ≤ 9999 ∧ 1 ≤ m ∧ m ≤ 12 ∧ 1 ≤ d ∧ d ≤ lengthP y m)
def timeB (h mi s z : Int) : Bool := decide (0 ≤ h ∧ h ≤ 23 ∧ 0 ≤ mi ∧ mi ≤ 59 ∧ 0 ≤ s ∧ s ≤ 59 ∧ -1439 ≤ z ∧ z ≤ 1439)
def validB (y m d h mi s z : Int) : Bool := isDayB y m d && timeB h mi s z
theorem isDay_iff (y m d : Int) : isDayB y m d = true ↔ 1 ≤ y ∧ y ≤ 9999 ∧ 1 ≤ m ∧ m ≤ 12 ∧ 1 ≤ d ∧ d ≤ lengthP y m := by simp [isDayB]
theorem time_iff (h mi s z : Int) : timeB h mi s z = true ↔ 0 ≤ h ∧ h ≤ 23 ∧ 0 ≤ mi ∧ mi ≤ 59 ∧ 0 ≤ s ∧ s ≤ 59 ∧ -1439 ≤ z ∧ z ≤ 1439 := by simp [timeB]
theorem valid_iff (y m d h mi s z : Int) : validB y m d h mi s z = true ↔ isDayB y m d = true ∧ timeB h mi s z = true := by simp [validB]
theorem isDay_f (y m d h mi s z : Int) : moment_isDay.f y m d h mi s z = some (isDayB y m d) := by
  unfold moment_isDay.f
  by_cases h1 : y < 1
  · rw [if_pos h1, (show isDayB y m d = false from Bool.eq_false_iff.2 (fun h => by have := (isDay_iff y m d).1 h; omega))]
  · rw [if_neg h1]
    by_cases h2 : y > 9999
    · rw [if_pos h2, (show isDayB y m d = false from Bool.eq_false_iff.2 (fun h => by have := (isDay_iff y m d).1 h; omega))]
    · rw [if_neg h2]
      by_cases h3 : m < 1
      · rw [if_pos h3, (show isDayB y m d = false from Bool.eq_false_iff.2 (fun h => by have := (isDay_iff y m d).1 h; omega))]
      · rw [if_neg h3]
        by_cases h4 : m > 12
        · rw [if_pos h4, (show isDayB y m d = false from Bool.eq_false_iff.2 (fun h => by have := (isDay_iff y m d).1 h; omega))]
        · rw [if_neg h4]
          by_cases h5 : d ≥ 1
          · rw [if_pos h5]
            unfold moment_length.f
            rw [if_pos ⟨by omega, by omega⟩]
            simp only [Option.bind_some]
            unfold isDayB
            congr 1
            apply decide_eq_decide.2
            constructor
            · intro h; exact ⟨by omega, by omega, by omega, by omega, h5, h⟩
            · intro h; exact h.2.2.2.2.2
          · rw [if_neg h5, (show isDayB y m d = false from Bool.eq_false_iff.2 (fun h => by have := (isDay_iff y m d).1 h; omega))]
theorem valid_f (y m d h mi s z : Int) : moment_Valid.f y m d h mi s z = some (validB y m d h mi s z) := by
  unfold moment_Valid.f validB
  rw [isDay_f]
  simp only [Option.bind_some]
  cases isDayB y m d with
  | false => rw [if_neg (by simp)]; rfl
  | true =>
    rw [if_pos rfl, Bool.true_and]
    have hf : ∀ (p : Prop), (timeB h mi s z = true → ¬ p) → p → timeB h mi s z = false := fun p h1 h2 => Bool.eq_false_iff.2 (fun h => h1 h h2)
    have hi := time_iff h mi s z
    by_cases h1 : h < 0
    · rw [if_pos h1, hf (h < 0) (fun q => by have := hi.1 q; omega) h1]
    · rw [if_neg h1]
      by_cases h2 : h > 23
      · rw [if_pos h2, hf (h > 23) (fun q => by have := hi.1 q; omega) h2]
      · rw [if_neg h2]
        by_cases h3 : mi < 0
        · rw [if_pos h3, hf (mi < 0) (fun q => by have := hi.1 q; omega) h3]
        · rw [if_neg h3]
          by_cases h4 : mi > 59
          · rw [if_pos h4, hf (mi > 59) (fun q => by have := hi.1 q; omega) h4]
          · rw [if_neg h4]
            by_cases h5 : s < 0
            · rw [if_pos h5, hf (s < 0) (fun q => by have := hi.1 q; omega) h5]
            · rw [if_neg h5]
              by_cases h6 : s > 59
              · rw [if_pos h6, hf (s > 59) (fun q => by have := hi.1 q; omega) h6]
              · rw [if_neg h6]
                by_cases h7 : z ≥ (-1439)
                · rw [if_pos h7]
                  congr 1
                  unfold timeB
                  apply decide_eq_decide.2
                  constructor
                  · intro q; exact ⟨by omega, by omega, by omega, by omega, by omega, by omega, by omega, q⟩
                  · intro q; exact q.2.2.2.2.2.2.2
                · rw [if_neg h7, hf (¬ z ≥ (-1439)) (fun q => by have := hi.1 q; omega) h7]
def refuseP (y m d h mi s z : Int) : Int := if isDayB y m d = true then (if validB y m d h mi s z = true then 0 else 20) else 21
theorem refused_f (y m d h mi s z : Int) : moment_refused.f y m d h mi s z = some (refuseP y m d h mi s z) := by
  unfold moment_refused.f refuseP
  rw [isDay_f, valid_f]
  simp only [Option.bind_some]
  split
  · split <;> rfl
  · rfl
def plainP (d : Int) : ByteArray := if bt (twoP d) 0 = 48 then (twoP d).extract 1 2 else twoP d
theorem plain_f (d : Int) : moment_plain.f d = some (plainP d) := by
  unfold moment_plain.f plainP
  rw [two_f]
  simp only [Option.bind_some]
  rw [if_pos (by rw [twoP_size]; omega)]
  split
  · rw [if_pos (by rw [twoP_size]; omega), twoP_size]
  · rfl
theorem plainP_size (d : Int) : (plainP d).size = 1 ∨ (plainP d).size = 2 := by
  unfold plainP
  split
  · left; rw [ByteArray.size_extract, twoP_size]; rfl
  · right; exact twoP_size d
def padP (d : Int) : ByteArray := if (plainP d).size = 1 then ⟨#[32]⟩ ++ plainP d else plainP d
end Go.Proofs.YtjlchnmpebdggaaDoor.Mo
end
section
namespace Go.Proofs.YtjlchnmpebdggaaDoor.Mo
open Go.RowKit Go.Proofs.YtjlchnmpebdggaaDoorW.PrintWords Go.Proofs.YtjlchnmpebdggaaDoorW.PrintLast Go.Proofs.YtjlchnmpebdggaaDoorW.PrintMore
attribute [local go_sem] max2_int min2_int max_two min_two max_three min_three max_four min_four   -- for this text's walks alone
set_option linter.unusedVariables false
set_option linter.unusedSimpArgs false
end Go.Proofs.YtjlchnmpebdggaaDoor.Mo
end
section
namespace Go.Proofs.YtjlchnmpebdggaaDoor.Mo
open Go.RowKit Go.Proofs.YtjlchnmpebdggaaDoorW.PrintWords Go.Proofs.YtjlchnmpebdggaaDoorW.PrintLast Go.Proofs.YtjlchnmpebdggaaDoorW.PrintMore
attribute [local go_sem] max2_int min2_int max_two min_two max_three min_three max_four min_four   -- for this text's walks alone
set_option linter.unusedVariables false
set_option linter.unusedSimpArgs false
end Go.Proofs.YtjlchnmpebdggaaDoor.Mo
end
section
namespace Go.Proofs.YtjlchnmpebdggaaDoor.Mo
open Go.RowKit Go.Proofs.YtjlchnmpebdggaaDoorW.PrintWords Go.Proofs.YtjlchnmpebdggaaDoorW.PrintLast Go.Proofs.YtjlchnmpebdggaaDoorW.PrintMore
attribute [local go_sem] max2_int min2_int max_two min_two max_three min_three max_four min_four   -- for this text's walks alone
set_option linter.unusedVariables false
set_option linter.unusedSimpArgs false
end Go.Proofs.YtjlchnmpebdggaaDoor.Mo
end
section
namespace Go.Proofs.YtjlchnmpebdggaaDoor.Mo
open Go.RowKit Go.Proofs.YtjlchnmpebdggaaDoorW.PrintWords Go.Proofs.YtjlchnmpebdggaaDoorW.PrintLast Go.Proofs.YtjlchnmpebdggaaDoorW.PrintMore
attribute [local go_sem] max2_int min2_int max_two min_two max_three min_three max_four min_four   -- for this text's walks alone
set_option linter.unusedVariables false
set_option linter.unusedSimpArgs false
def moment_Stamp.f (k : Nat) (a0_0 : Int) (a0_1 : Int) (a0_2 : Int) (a0_3 : Int) (a0_4 : Int) (a0_5 : Int) (a0_6 : Int) : Option (Int) := (moment_Valid.f a0_0 a0_1 a0_2 a0_3 a0_4 a0_5 a0_6).bind fun t175 => (if t175 = true then ((moment_Days.f k a0_0 a0_1 a0_2 a0_3 a0_4 a0_5 a0_6).bind fun t176 => (some (wrap64 ((wrap64 ((wrap64 ((wrap64 ((wrap64 (86400 * t176)) + (wrap64 (3600 * a0_3)))) + (wrap64 (60 * a0_4)))) + a0_5)) - (wrap64 (60 * a0_6)))))) else (some 0))
def moment_Stamp.T3 : Bool × List (List Nat × List Nat) := (true, [([], []), ([0], [0]), ([1], [1]), ([], []), ([3], [3]), ([4], [4]), ([2, 5], [2, 5]), ([], []), ([7], [7]), ([8], [8]), ([6, 9], [6, 9]), ([], []), ([11], [11]), ([10, 12], [10, 12]), ([], []), ([14], [14]), ([15], [15]), ([13, 16], [13, 16]), ([17, 1, 0, 1, 2, 3, 4, 5, 6, 7, 8, 9, 10, 11, 12, 13, 14, 15, 16, 17], [17])])
def moment_Stamp.B3 : List Nat := [0, 1, 3, 0, 8, 24, 63, 0, 128, 384, 1023, 0, 2048, 8191, 0, 16384, 49152, 131071, 262143]
theorem moment_Stamp.tab3 : rtab .any (opsOf Tryd.f22 3) = moment_Stamp.T3 := by kernel_rfl
theorem moment_Stamp.bits3 : waitsOk moment_Stamp.T3.2 moment_Stamp.B3 = true := by kernel_rfl
set_option maxHeartbeats 8000000 in
set_option maxRecDepth 100000 in
theorem moment_Stamp.calls (k : Nat) (a0_0 : Int) (a0_1 : Int) (a0_2 : Int) (a0_3 : Int) (a0_4 : Int) (a0_5 : Int) (a0_6 : Int) (r : Int) (w : World) (h : moment_Stamp.f k a0_0 a0_1 a0_2 a0_3 a0_4 a0_5 a0_6 = some r) (hL_ : Laid w) :
  Calls Tryd.prog 22 #[.agg #[.int .i64 a0_0, .int .i64 a0_1, .int .i64 a0_2, .int .i64 a0_3, .int .i64 a0_4, .int .i64 a0_5, .int .i64 a0_6]] w fun e w' => e = .returned (.int .i64 r) ∧ Below w.heap.size w w' := by
 have HL_ := Aside0.mk hL_
 clear hL_
 have hu23 := Tryd.underlying23
 have HB := Aside0.mk (Below.refl w.heap.size w)
 have H : ((moment_Valid.f a0_0 a0_1 a0_2 a0_3 a0_4 a0_5 a0_6).bind fun t175 => (if t175 = true then ((moment_Days.f k a0_0 a0_1 a0_2 a0_3 a0_4 a0_5 a0_6).bind fun t176 => (some (wrap64 ((wrap64 ((wrap64 ((wrap64 ((wrap64 (86400 * t176)) + (wrap64 (3600 * a0_3)))) + (wrap64 (60 * a0_4)))) + a0_5)) - (wrap64 (60 * a0_6)))))) else (some 0))) = some r := h
 clear h
 replace H := Option.bind_eq_some_iff.mp H
 obtain ⟨t175, A20, H⟩ := H
 replace H : (if t175 = true then ((moment_Days.f k a0_0 a0_1 a0_2 a0_3 a0_4 a0_5 a0_6).bind fun t176 => (some (wrap64 ((wrap64 ((wrap64 ((wrap64 ((wrap64 (86400 * t176)) + (wrap64 (3600 * a0_3)))) + (wrap64 (60 * a0_4)))) + a0_5)) - (wrap64 (60 * a0_6)))))) else (some 0)) = some r := H
 have A2 := Aside0.mk A20
 clear A20
 by_cases c3 : t175 = true
 ·subst c3
  have H1 : ((moment_Days.f k a0_0 a0_1 a0_2 a0_3 a0_4 a0_5 a0_6).bind fun t176 => (some (wrap64 ((wrap64 ((wrap64 ((wrap64 ((wrap64 (86400 * t176)) + (wrap64 (3600 * a0_3)))) + (wrap64 (60 * a0_4)))) + a0_5)) - (wrap64 (60 * a0_6)))))) = some r := by rw [if_pos rfl] at H; exact H
  clear H
  have H := H1
  clear H1
  replace H := Option.bind_eq_some_iff.mp H
  obtain ⟨t176, A40, H⟩ := H
  replace H : (some (wrap64 ((wrap64 ((wrap64 ((wrap64 ((wrap64 (86400 * t176)) + (wrap64 (3600 * a0_3)))) + (wrap64 (60 * a0_4)))) + a0_5)) - (wrap64 (60 * a0_6))))) = some r := H
  have A4 := Aside0.mk A40
  clear A40
  obtain rfl := Option.some.inj H
  go_enter Tryd.func22, Tryd.ntmps22
  try go_wp2_with (first | ((with_reducible refine gate_dst (N := 1) rfl ?_); refine box_event ?hg (N := 1) ?hd (cs := #[.int .i64 a0_0, .int .i64 a0_1, .int .i64 a0_2, .int .i64 a0_3, .int .i64 a0_4, .int .i64 a0_5, .int .i64 a0_6]) (t := 23) ?hr ?_; (case hd => rfl); (case hg => rfl); (case hr => first | (go_simp; done) | (go_simp; rfl)); intro gb174 hg w5 hbox hb; have n0_ := Aside0.mk (below_step (by repeat (first | (with_reducible first | exact HB.out | apply below_alloc | apply pw_below_drewN | apply below_drew1) | exact HB.out)) hb); have n1_ := Aside0.mk (hbox); have n2_ := Aside0.mk ((by rw [hg]; exact (below_size (by repeat (first | (with_reducible first | exact HB.out | apply below_alloc | apply pw_below_drewN | apply below_drew1) | exact HB.out))) : w.heap.size ≤ gb174)); have n3_ := Aside0.mk ((by rw [hg]; exact (below_size (by repeat (first | (with_reducible first | exact HB.out | apply below_alloc | apply pw_below_drewN | apply below_drew1) | exact HB.out))) : w.heap.size ≤ gb174)); clear HB; have HB := n0_; have BK174 := n1_; have GW174 := n2_; have GE174 := n3_; clear n0_ n1_ n2_ n3_; clear hb hbox hg; have hcz6_0 : w5.cell? ⟨gb174, 0, none⟩ = some (.int .i64 a0_0) := (blk_cell BK174.out 0).trans rfl; have hcz6_1 : w5.cell? ⟨gb174, 1, none⟩ = some (.int .i64 a0_1) := (blk_cell BK174.out 1).trans rfl; have hcz6_2 : w5.cell? ⟨gb174, 2, none⟩ = some (.int .i64 a0_2) := (blk_cell BK174.out 2).trans rfl; have hcz6_3 : w5.cell? ⟨gb174, 3, none⟩ = some (.int .i64 a0_3) := (blk_cell BK174.out 3).trans rfl; have hcz6_4 : w5.cell? ⟨gb174, 4, none⟩ = some (.int .i64 a0_4) := (blk_cell BK174.out 4).trans rfl; have hcz6_5 : w5.cell? ⟨gb174, 5, none⟩ = some (.int .i64 a0_5) := (blk_cell BK174.out 5).trans rfl; have hcz6_6 : w5.cell? ⟨gb174, 6, none⟩ = some (.int .i64 a0_6) := (blk_cell BK174.out 6).trans rfl; have hfz6_0 := blk_frozen BK174.out 0; have hfz6_1 := blk_frozen BK174.out 1; have hfz6_2 := blk_frozen BK174.out 2; have hfz6_3 := blk_frozen BK174.out 3; have hfz6_4 := blk_frozen BK174.out 4; have hfz6_5 := blk_frozen BK174.out 5; have hfz6_6 := blk_frozen BK174.out 6) | ((with_reducible refine gate_callee (f := 19) rfl ?_); refine goesL_ (some 4) rfl rfl Tryd.func19 (by kernel_rfl) rfl #[.agg #[.int .i64 a0_0, .int .i64 a0_1, .int .i64 a0_2, .int .i64 a0_3, .int .i64 a0_4, .int .i64 a0_5, .int .i64 a0_6]] rfl (by (try simp only [List.map_toArray, List.map_cons, List.map_nil]); first | done | rfl | (simp only [List.length_drop, List.length_take]; rfl)) ?_; (with_reducible refine (moment_Valid.calls a0_0 a0_1 a0_2 a0_3 a0_4 a0_5 a0_6 true _ A2.out (by first | exact laid_below HL_.out (by repeat (first | (with_reducible first | exact HB.out | apply below_alloc | apply pw_below_drewN | apply below_drew1) | exact HB.out)) | exact laid_drawn HL_.out (by repeat (first | exact Drawn0.refl _ | apply Drawn0.step)))).mono ?_); rintro e w7 ⟨rfl, hb⟩; refine ⟨_, rfl, ?_⟩; have n0_ := Aside0.mk (blk_below (g := gb174) (o := .cells #[.int .i64 a0_0, .int .i64 a0_1, .int .i64 a0_2, .int .i64 a0_3, .int .i64 a0_4, .int .i64 a0_5, .int .i64 a0_6] 23 (0, 0)) (by (with_reducible repeat (first | refine blk_drewN ?_ _ | refine blk_drew ?_ | refine blk_alloc ?_ _)); exact BK174.out) hb); have n1_ := Aside0.mk (below_step (by repeat (first | (with_reducible first | exact HB.out | apply below_alloc | apply pw_below_drewN | apply below_drew1 | refine below_set ?_ GE174.out) | exact HB.out)) hb); clear BK174; clear HB; have BK174 := n0_; have HB := n1_; clear n0_ n1_; (try clear hb); (try clear hb2); (try clear hk); (try clear hi)))
  have n0_ := Aside0.mk (blk_drew BK174.out)
  have n1_ := Aside0.mk (below_drew1 HB.out)
  clear BK174
  clear HB
  have BK174 := n0_
  have HB := n1_
  clear n0_ n1_
  refine start_ (n := 19) (S := fun w' => w'.cell? ⟨gb174, 0, none⟩ = some (.int .i64 a0_0) ∧ w'.cell? ⟨gb174, 1, none⟩ = some (.int .i64 a0_1) ∧ w'.cell? ⟨gb174, 2, none⟩ = some (.int .i64 a0_2) ∧ w'.cell? ⟨gb174, 3, none⟩ = some (.int .i64 a0_3) ∧ w'.cell? ⟨gb174, 4, none⟩ = some (.int .i64 a0_4) ∧ w'.cell? ⟨gb174, 5, none⟩ = some (.int .i64 a0_5) ∧ w'.cell? ⟨gb174, 6, none⟩ = some (.int .i64 a0_6)) (ds := []) (bs_ 0 19) (by kernel_rfl) rfl rfl ⟨(blk_cell BK174.out 0).trans rfl, (blk_cell BK174.out 1).trans rfl, (blk_cell BK174.out 2).trans rfl, (blk_cell BK174.out 3).trans rfl, (blk_cell BK174.out 4).trans rfl, (blk_cell BK174.out 5).trans rfl, (blk_cell BK174.out 6).trans rfl⟩ (fun hHeld => ?_); refine with_tabW moment_Stamp.tab3 moment_Stamp.bits3 (fun HT_ HW_ => ?_)
  generalize w7.drew = w8 at BK174 HB hHeld ⊢
  refine pu_ 3 (some 9) ?_ #[false, false, false, true, false, false, false, false, false, false, false, false, false, false, false, false, false, false, false] rfl rfl (any_of HT_.out (by kernel_rfl)) (fun _ _ _ h => h) (y_ (by rfl) ?_) ?_ ?_ ?_
  rotate_left
  ·intro w'
   go_simp
   with_reducible rfl
  rotate_left
  ·simp only [Act.put, s1_, s2_, s3_, i64_w, i32_w]
   rfl
  refine pu_ 7 (some 13) ?_ #[false, false, false, true, false, false, false, true, false, false, false, false, false, false, false, false, false, false, false] rfl rfl (any_of HT_.out (by kernel_rfl)) (fun _ _ _ h => h) (y_ (by rfl) ?_) ?_ ?_ ?_
  rotate_left
  ·intro w'
   go_simp
   with_reducible rfl
  rotate_left
  ·simp only [Act.put, s1_, s2_, s3_, i64_w, i32_w]
   rfl
  refine pu_ 11 (some 17) ?_ #[false, false, false, true, false, false, false, true, false, false, false, true, false, false, false, false, false, false, false] rfl rfl (any_of HT_.out (by kernel_rfl)) (fun _ _ _ h => h) (y_ (by rfl) ?_) ?_ ?_ ?_
  rotate_left
  ·intro w'
   go_simp
   with_reducible rfl
  rotate_left
  ·simp only [Act.put, s1_, s2_, s3_, i64_w, i32_w]
   rfl
  refine pu_ 14 (some 20) ?_ #[false, false, false, true, false, false, false, true, false, false, false, true, false, false, true, false, false, false, false] rfl rfl (any_of HT_.out (by kernel_rfl)) (fun _ _ _ h => h) (y_ (by rfl) ?_) ?_ ?_ ?_
  rotate_left
  ·intro w'
   go_simp
   with_reducible rfl
  rotate_left
  ·simp only [Act.put, s1_, s2_, s3_, i64_w, i32_w]
   rfl
  refine take_ (i := 0) (N := some 6) (v := ?_) (a' := ?_) #[true, false, false, true, false, false, false, true, false, false, false, true, false, false, true, false, false, false, false] rfl rfl (take_ofW HT_.out HW_.out (by kernel_rfl)) (fun _ _ _ h => h) (Or.inl ⟨by rfl, ?_⟩) hHeld ?_ ?_
  rotate_left
  ·rintro w' ⟨s0, s1, s2, s3, s4, s5, s6⟩
   go_simp
   with_reducible rfl
  rotate_left
  ·simp only [Act.put, s1_, s2_, s3_, i64_w, i32_w]
   rfl
  refine take_ (i := 4) (N := some 10) (v := ?_) (a' := ?_) #[true, false, false, true, true, false, false, true, false, false, false, true, false, false, true, false, false, false, false] rfl rfl (take_ofW HT_.out HW_.out (by kernel_rfl)) (fun _ _ _ h => h) (Or.inl ⟨by rfl, ?_⟩) hHeld ?_ ?_
  rotate_left
  ·rintro w' ⟨s0, s1, s2, s3, s4, s5, s6⟩
   go_simp
   with_reducible rfl
  rotate_left
  ·simp only [Act.put, s1_, s2_, s3_, i64_w, i32_w]
   rfl
  refine pu_ 5 (some 11) ?_ #[true, false, false, true, true, true, false, true, false, false, false, true, false, false, true, false, false, false, false] rfl rfl (any_of HT_.out (by kernel_rfl)) (fun _ _ _ h => h) (y_ (by rfl) ?_) ?_ ?_ ?_
  rotate_left
  ·intro w'
   go_simp
   with_reducible rfl
  rotate_left
  ·simp only [Act.put, s1_, s2_, s3_, i64_w, i32_w]
   rfl
  refine take_ (i := 8) (N := some 14) (v := ?_) (a' := ?_) #[true, false, false, true, true, true, false, true, true, false, false, true, false, false, true, false, false, false, false] rfl rfl (take_ofW HT_.out HW_.out (by kernel_rfl)) (fun _ _ _ h => h) (Or.inl ⟨by rfl, ?_⟩) hHeld ?_ ?_
  rotate_left
  ·rintro w' ⟨s0, s1, s2, s3, s4, s5, s6⟩
   go_simp
   with_reducible rfl
  rotate_left
  ·simp only [Act.put, s1_, s2_, s3_, i64_w, i32_w]
   rfl
  refine pu_ 9 (some 15) ?_ #[true, false, false, true, true, true, false, true, true, true, false, true, false, false, true, false, false, false, false] rfl rfl (any_of HT_.out (by kernel_rfl)) (fun _ _ _ h => h) (y_ (by rfl) ?_) ?_ ?_ ?_
  rotate_left
  ·intro w'
   go_simp
   with_reducible rfl
  rotate_left
  ·simp only [Act.put, s1_, s2_, s3_, i64_w, i32_w]
   rfl
  refine take_ (i := 12) (N := some 18) (v := ?_) (a' := ?_) #[true, false, false, true, true, true, false, true, true, true, false, true, true, false, true, false, false, false, false] rfl rfl (take_ofW HT_.out HW_.out (by kernel_rfl)) (fun _ _ _ h => h) (Or.inl ⟨by rfl, ?_⟩) hHeld ?_ ?_
  rotate_left
  ·rintro w' ⟨s0, s1, s2, s3, s4, s5, s6⟩
   go_simp
   with_reducible rfl
  rotate_left
  ·simp only [Act.put, s1_, s2_, s3_, i64_w, i32_w]
   rfl
  refine take_ (i := 15) (N := some 21) (v := ?_) (a' := ?_) #[true, false, false, true, true, true, false, true, true, true, false, true, true, false, true, true, false, false, false] rfl rfl (take_ofW HT_.out HW_.out (by kernel_rfl)) (fun _ _ _ h => h) (Or.inl ⟨by rfl, ?_⟩) hHeld ?_ ?_
  rotate_left
  ·rintro w' ⟨s0, s1, s2, s3, s4, s5, s6⟩
   go_simp
   with_reducible rfl
  rotate_left
  ·simp only [Act.put, s1_, s2_, s3_, i64_w, i32_w]
   rfl
  refine pu_ 16 (some 22) ?_ #[true, false, false, true, true, true, false, true, true, true, false, true, true, false, true, true, true, false, false] rfl rfl (any_of HT_.out (by kernel_rfl)) (fun _ _ _ h => h) (y_ (by rfl) ?_) ?_ ?_ ?_
  rotate_left
  ·intro w'
   go_simp
   with_reducible rfl
  rotate_left
  ·simp only [Act.put, s1_, s2_, s3_, i64_w, i32_w]
   rfl
  refine one_ (i := 1) (N := some 7) #[true, true, false, true, true, true, false, true, true, true, false, true, true, false, true, true, true, false, false] rfl rfl (one_of HT_.out (by kernel_rfl)) (by decide) (fun K hK => ?_)
  refine goes_ Tryd.func20 (by kernel_rfl) rfl #[.agg #[.int .i64 a0_0, .int .i64 a0_1, .int .i64 a0_2, .int .i64 a0_3, .int .i64 a0_4, .int .i64 a0_5, .int .i64 a0_6]] (by rfl) rfl rfl (by (try simp only [List.map_toArray, List.map_cons, List.map_nil]); first | done | rfl | (simp only [List.length_drop, List.length_take]; rfl)) ?_
  with_reducible refine (moment_Days.calls k a0_0 a0_1 a0_2 a0_3 a0_4 a0_5 a0_6 t176 _ A4.out (by first | exact laid_below HL_.out (by repeat (first | (with_reducible first | exact HB.out | apply below_alloc | apply pw_below_drewN | apply below_drew1) | exact HB.out)) | exact laid_drawn HL_.out (by repeat (first | exact Drawn0.refl _ | apply Drawn0.step)))).mono ?_
  rintro e w9 ⟨rfl, hb⟩
  refine ⟨_, rfl, ?_⟩
  have n0_ := Aside0.mk (blk_below (g := gb174) (o := .cells #[.int .i64 a0_0, .int .i64 a0_1, .int .i64 a0_2, .int .i64 a0_3, .int .i64 a0_4, .int .i64 a0_5, .int .i64 a0_6] 23 (0, 0)) (by (with_reducible repeat (first | refine blk_drewN ?_ _ | refine blk_drew ?_ | refine blk_alloc ?_ _)); exact BK174.out) hb)
  have n1_ := Aside0.mk (below_step (by repeat (first | (with_reducible first | exact HB.out | apply below_alloc | apply pw_below_drewN | apply below_drew1 | refine below_set ?_ GE174.out) | exact HB.out)) hb)
  clear BK174
  clear HB
  have BK174 := n0_
  have HB := n1_
  clear n0_ n1_
  (try clear hb)
  (try clear hb2)
  (try clear hk)
  (try clear hi)
  refine hK.out _ _ ⟨(blk_cell BK174.out 0).trans rfl, (blk_cell BK174.out 1).trans rfl, (blk_cell BK174.out 2).trans rfl, (blk_cell BK174.out 3).trans rfl, (blk_cell BK174.out 4).trans rfl, (blk_cell BK174.out 5).trans rfl, (blk_cell BK174.out 6).trans rfl⟩ (fun hHeld => ?_)
  clear hK K
  refine norm_ (a' := ?_) ?_ ?_
  rotate_left
  ·show Act.put _ (some 7) _ = _
   simp only [Act.put, s1_, s2_, s3_, i64_w, i32_w]
   rfl
  refine pu_ 2 (some 8) ?_ #[true, true, true, true, true, true, false, true, true, true, false, true, true, false, true, true, true, false, false] rfl rfl (any_of HT_.out (by kernel_rfl)) (fun _ _ _ h => h) (y_ (by rfl) ?_) ?_ ?_ ?_
  rotate_left
  ·intro w'
   go_simp
   with_reducible rfl
  rotate_left
  ·simp only [Act.put, s1_, s2_, s3_, i64_w, i32_w]
   rfl
  refine pu_ 6 (some 12) ?_ #[true, true, true, true, true, true, true, true, true, true, false, true, true, false, true, true, true, false, false] rfl rfl (any_of HT_.out (by kernel_rfl)) (fun _ _ _ h => h) (y_ (by rfl) ?_) ?_ ?_ ?_
  rotate_left
  ·intro w'
   go_simp
   with_reducible rfl
  rotate_left
  ·simp only [Act.put, s1_, s2_, s3_, i64_w, i32_w]
   rfl
  refine pu_ 10 (some 16) ?_ #[true, true, true, true, true, true, true, true, true, true, true, true, true, false, true, true, true, false, false] rfl rfl (any_of HT_.out (by kernel_rfl)) (fun _ _ _ h => h) (y_ (by rfl) ?_) ?_ ?_ ?_
  rotate_left
  ·intro w'
   go_simp
   with_reducible rfl
  rotate_left
  ·simp only [Act.put, s1_, s2_, s3_, i64_w, i32_w]
   rfl
  refine pu_ 13 (some 19) ?_ (bs_ 17 2) rfl rfl (any_of HT_.out (by kernel_rfl)) (fun _ _ _ h => h) (y_ (by rfl) ?_) ?_ ?_ ?_
  rotate_left
  ·intro w'
   go_simp
   with_reducible rfl
  rotate_left
  ·simp only [Act.put, s1_, s2_, s3_, i64_w, i32_w]
   rfl
  refine pu_ 17 (some 23) ?_ (bs_ 18 1) rfl rfl (any_of HT_.out (by kernel_rfl)) (fun _ _ _ h => h) (y_ (by rfl) ?_) ?_ ?_ ?_
  rotate_left
  ·intro w'
   go_simp
   with_reducible rfl
  rotate_left
  ·simp only [Act.put, s1_, s2_, s3_, i64_w, i32_w]
   rfl
  refine pu_ 18 (some 2) ?_ (bs_ 19 0) rfl rfl (any_of HT_.out (by kernel_rfl)) (fun _ _ _ h => h) (y_ (by rfl) ?_) ?_ ?_ ?_
  rotate_left
  ·intro w'
   go_simp
   with_reducible rfl
  rotate_left
  ·simp only [Act.put, s1_, s2_, s3_, i64_w, i32_w]
   rfl
  refine done_ (done_of HT_.out (by kernel_rfl)) ?_
  try go_wp2
  go_ret
  exact ⟨by first | rfl | (simp [errW_none, errW_some] <;> rfl) | (simp [*, errW_none, errW_some] <;> rfl), by repeat (first | (with_reducible first | exact HB.out | apply below_alloc | apply pw_below_drewN | apply below_drew1 | refine below_set ?_ GE174.out) | exact HB.out)⟩
 ·replace c3 := Bool.eq_false_iff.mpr c3
  subst c3
  have H1 : (some 0) = some r := by rw [if_neg (show ¬ (false = true) by decide)] at H; exact H
  clear H
  have H := H1
  clear H1
  obtain rfl := Option.some.inj H
  go_enter Tryd.func22, Tryd.ntmps22
  go_wp2_with (first | ((with_reducible refine gate_dst (N := 1) rfl ?_); refine box_event ?hg (N := 1) ?hd (cs := #[.int .i64 a0_0, .int .i64 a0_1, .int .i64 a0_2, .int .i64 a0_3, .int .i64 a0_4, .int .i64 a0_5, .int .i64 a0_6]) (t := 23) ?hr ?_; (case hd => rfl); (case hg => rfl); (case hr => first | (go_simp; done) | (go_simp; rfl)); intro gb174 hg w10 hbox hb; have n0_ := Aside0.mk (below_step (by repeat (first | (with_reducible first | exact HB.out | apply below_alloc | apply pw_below_drewN | apply below_drew1) | exact HB.out)) hb); have n1_ := Aside0.mk (hbox); have n2_ := Aside0.mk ((by rw [hg]; exact (below_size (by repeat (first | (with_reducible first | exact HB.out | apply below_alloc | apply pw_below_drewN | apply below_drew1) | exact HB.out))) : w.heap.size ≤ gb174)); have n3_ := Aside0.mk ((by rw [hg]; exact (below_size (by repeat (first | (with_reducible first | exact HB.out | apply below_alloc | apply pw_below_drewN | apply below_drew1) | exact HB.out))) : w.heap.size ≤ gb174)); clear HB; have HB := n0_; have BK174 := n1_; have GW174 := n2_; have GE174 := n3_; clear n0_ n1_ n2_ n3_; clear hb hbox hg; have hcz11_0 : w10.cell? ⟨gb174, 0, none⟩ = some (.int .i64 a0_0) := (blk_cell BK174.out 0).trans rfl; have hcz11_1 : w10.cell? ⟨gb174, 1, none⟩ = some (.int .i64 a0_1) := (blk_cell BK174.out 1).trans rfl; have hcz11_2 : w10.cell? ⟨gb174, 2, none⟩ = some (.int .i64 a0_2) := (blk_cell BK174.out 2).trans rfl; have hcz11_3 : w10.cell? ⟨gb174, 3, none⟩ = some (.int .i64 a0_3) := (blk_cell BK174.out 3).trans rfl; have hcz11_4 : w10.cell? ⟨gb174, 4, none⟩ = some (.int .i64 a0_4) := (blk_cell BK174.out 4).trans rfl; have hcz11_5 : w10.cell? ⟨gb174, 5, none⟩ = some (.int .i64 a0_5) := (blk_cell BK174.out 5).trans rfl; have hcz11_6 : w10.cell? ⟨gb174, 6, none⟩ = some (.int .i64 a0_6) := (blk_cell BK174.out 6).trans rfl; have hfz11_0 := blk_frozen BK174.out 0; have hfz11_1 := blk_frozen BK174.out 1; have hfz11_2 := blk_frozen BK174.out 2; have hfz11_3 := blk_frozen BK174.out 3; have hfz11_4 := blk_frozen BK174.out 4; have hfz11_5 := blk_frozen BK174.out 5; have hfz11_6 := blk_frozen BK174.out 6) | ((with_reducible refine gate_callee (f := 19) rfl ?_); refine goesL_ (some 4) rfl rfl Tryd.func19 (by kernel_rfl) rfl #[.agg #[.int .i64 a0_0, .int .i64 a0_1, .int .i64 a0_2, .int .i64 a0_3, .int .i64 a0_4, .int .i64 a0_5, .int .i64 a0_6]] rfl (by (try simp only [List.map_toArray, List.map_cons, List.map_nil]); first | done | rfl | (simp only [List.length_drop, List.length_take]; rfl)) ?_; (with_reducible refine (moment_Valid.calls a0_0 a0_1 a0_2 a0_3 a0_4 a0_5 a0_6 false _ A2.out (by first | exact laid_below HL_.out (by repeat (first | (with_reducible first | exact HB.out | apply below_alloc | apply pw_below_drewN | apply below_drew1) | exact HB.out)) | exact laid_drawn HL_.out (by repeat (first | exact Drawn0.refl _ | apply Drawn0.step)))).mono ?_); rintro e w12 ⟨rfl, hb⟩; refine ⟨_, rfl, ?_⟩; have n0_ := Aside0.mk (blk_below (g := gb174) (o := .cells #[.int .i64 a0_0, .int .i64 a0_1, .int .i64 a0_2, .int .i64 a0_3, .int .i64 a0_4, .int .i64 a0_5, .int .i64 a0_6] 23 (0, 0)) (by (with_reducible repeat (first | refine blk_drewN ?_ _ | refine blk_drew ?_ | refine blk_alloc ?_ _)); exact BK174.out) hb); have n1_ := Aside0.mk (below_step (by repeat (first | (with_reducible first | exact HB.out | apply below_alloc | apply pw_below_drewN | apply below_drew1 | refine below_set ?_ GE174.out) | exact HB.out)) hb); clear BK174; clear HB; have BK174 := n0_; have HB := n1_; clear n0_ n1_; (try clear hb); (try clear hb2); (try clear hk); (try clear hi)))
  go_ret
  exact ⟨by first | rfl | (simp [errW_none, errW_some] <;> rfl) | (simp [*, errW_none, errW_some] <;> rfl), by repeat (first | (with_reducible first | exact HB.out | apply below_alloc | apply pw_below_drewN | apply below_drew1 | refine below_set ?_ GE174.out) | exact HB.out)⟩
end Go.Proofs.YtjlchnmpebdggaaDoor.Mo
end
section
namespace Go.Proofs.YtjlchnmpebdggaaDoor.Mo
open Go.RowKit Go.Proofs.YtjlchnmpebdggaaDoorW.PrintWords
def isDig (c : UInt8) : Bool := decide (48 ≤ c.toNat) && decide (c.toNat ≤ 57)
def dstep (n : Int) (c : UInt8) : Int := 10 * n + ((c.toNat : Int) - 48)
def dval (l : List UInt8) : Int := l.foldl dstep 0
def digitsP (s : ByteArray) : Int × Bool := if 1 ≤ s.size ∧ s.size ≤ 4 ∧ s.data.toList.all isDig = true then (dval s.data.toList, true) else (0, false)
theorem isDig_iff (c : UInt8) : isDig c = true ↔ 48 ≤ c.toNat ∧ c.toNat ≤ 57 := by simp [isDig]
theorem toList_len (s : ByteArray) : s.data.toList.length = s.size := by rw [Array.length_toList]; rfl
theorem bt_get (s : ByteArray) (i : Nat) (h : i < s.data.toList.length) : bt s (i : Int) = ((s.data.toList[i]).toNat : Int) := by
  have h2 : i < s.size := by rw [← toList_len]; exact h
  unfold bt
  rw [Int.toNat_natCast, dif_pos h2]
  rfl
theorem dval_snoc (l : List UInt8) (c : UInt8) : dval (l ++ [c]) = dstep (dval l) c := by simp [dval, List.foldl_append]
theorem dfold_bound : ∀ (l : List UInt8) (n : Int) (j : Nat), l.all isDig = true → 0 ≤ n → n < 10 ^ j → 0 ≤ l.foldl dstep n ∧ l.foldl dstep n < 10 ^ (j + l.length)
  | [], n, j, _, h0, h1 => ⟨h0, h1⟩
  | c :: l, n, j, h, h0, h1 => by
    rw [List.all_cons, Bool.and_eq_true] at h
    obtain ⟨h3, h4⟩ := (isDig_iff c).1 h.1
    have hp : (10 : Int) ^ (j + 1) = 10 ^ j * 10 := Int.pow_succ ..
    have := dfold_bound l (dstep n c) (j + 1) h.2 (by unfold dstep; omega) (by unfold dstep; omega)
    rw [List.foldl_cons, List.length_cons, show j + (l.length + 1) = j + 1 + l.length from by omega]
    exact this
theorem dval_bound (l : List UInt8) (h : l.all isDig = true) : 0 ≤ dval l ∧ dval l < 10 ^ l.length := by
  have := dfold_bound l 0 0 h (by decide) (by decide)
  rwa [Nat.zero_add] at this
theorem digit_step (n : Int) (c : UInt8) (h0 : 0 ≤ n) (h1 : n < 1000000000000) (h2 : 48 ≤ c.toNat) (h3 : c.toNat ≤ 57) :
    wrap64 ((wrap64 (10 * n)) + (((c.toNat : Int) - 48) % 256)) = dstep n c := by
  rw [IntWalk.wrap64_in (10 * n) ⟨by omega, by omega⟩, Int.emod_eq_of_lt (by omega) (by omega), IntWalk.wrap64_in _ ⟨by omega, by omega⟩]
  rfl
theorem next_step (i : Nat) (h : i < 1000000000000000) : wrap64 ((i : Int) + 1) = ((i + 1 : Nat) : Int) := by
  rw [IntWalk.wrap64_in _ ⟨by omega, by omega⟩]; omega
theorem digits_l0 (s : ByteArray) (hs : s.size ≤ 4) (d : Nat) : ∀ (k i : Nat), i ≤ s.size → s.size - i = d → d < k → (s.data.toList.take i).all isDig = true →
    moment_digits.l0 k s (dval (s.data.toList.take i)) (s.size : Int) (i : Int) = if (s.data.toList.drop i).all isDig = true then some (dval s.data.toList, true) else some (0, false) := by
  induction d with
  | zero =>
    intro k i hi hd hk ha
    obtain ⟨k, rfl⟩ : ∃ m, k = m + 1 := ⟨k - 1, by omega⟩
    have e : i = s.size := by omega
    subst e
    have hl := toList_len s
    simp only [moment_digits.l0]
    rw [if_neg (by omega), if_pos (by rw [List.drop_of_length_le (by omega)]; rfl), List.take_of_length_le (by omega)]
  | succ d ih =>
    intro k i hi hd hk ha
    obtain ⟨k, rfl⟩ : ∃ m, k = m + 1 := ⟨k - 1, by omega⟩
    have hl := toList_len s
    have hlt : i < s.data.toList.length := by omega
    have hb := bt_get s i hlt
    have h8 := (s.data.toList[i]).toNat_lt
    have hdr : s.data.toList.drop i = s.data.toList[i] :: s.data.toList.drop (i + 1) := List.drop_eq_getElem_cons hlt
    have htk : s.data.toList.take (i + 1) = s.data.toList.take i ++ [s.data.toList[i]] := by rw [List.take_succ_eq_append_getElem hlt]
    obtain ⟨b1, b2⟩ := dval_bound _ ha
    rw [List.length_take, Nat.min_eq_left (by omega)] at b2
    have b3 : dval (s.data.toList.take i) < 10000 := by
      have : (10 : Int) ^ i ≤ 10 ^ 4 := by
        have h4 : i = 0 ∨ i = 1 ∨ i = 2 ∨ i = 3 := by omega
        rcases h4 with rfl | rfl | rfl | rfl <;> decide
      omega
    simp only [moment_digits.l0]
    rw [if_pos (by omega), if_pos (by omega), if_pos (by omega), hb, hdr]
    generalize hc : s.data.toList[i] = c at *
    by_cases c1 : c.toNat < 48
    · rw [if_pos (by omega), if_neg (by simp [isDig]; omega)]
    · rw [if_neg (by omega)]
      by_cases c2 : c.toNat > 57
      · rw [if_pos (by omega), if_neg (by simp [isDig]; omega)]
      · rw [if_neg (by omega)]
        have hdig : isDig c = true := (isDig_iff c).2 ⟨by omega, by omega⟩
        have e1 : wrap64 ((wrap64 (10 * dval (s.data.toList.take i))) + (((c.toNat : Int) - 48) % 256)) = dval (s.data.toList.take (i + 1)) := by
          rw [htk, dval_snoc, digit_step _ _ b1 (by omega) (by omega) (by omega)]
        rw [e1, next_step i (by omega), ih k (i + 1) (by omega) (by omega) (by omega) (by rw [htk, List.all_append, ha]; simp [hdig])]
        simp only [List.all_cons, hdig, Bool.true_and]
theorem digits_f (k : Nat) (hk : 7 ≤ k) (s : ByteArray) : moment_digits.f k s = some (digitsP s) := by
  have hl := toList_len s
  unfold moment_digits.f
  obtain ⟨k, rfl⟩ : ∃ m, k = m + 1 := ⟨k - 1, by omega⟩
  by_cases h0 : s.toList = []
  · have hz : s.size = 0 := by rw [ByteArray.toList_eq] at h0; rw [← hl, h0]; rfl
    rw [if_pos h0]
    simp only [moment_digits.j0]
    unfold digitsP
    rw [if_pos trivial, if_neg (by omega)]
  · have hz : s.size ≠ 0 := by
      intro h; apply h0; rw [ByteArray.toList_eq]; exact List.eq_nil_of_length_eq_zero (by omega)
    rw [if_neg h0]
    simp only [moment_digits.j0]
    by_cases h4 : s.size > 4
    · rw [if_pos (by exact decide_eq_true (by omega))]
      unfold digitsP
      rw [if_neg (by omega)]
    · rw [if_neg (by intro h; have := of_decide_eq_true h; omega)]
      have := digits_l0 s (by omega) s.size k 0 (by omega) (by omega) (by omega) rfl
      simp only [List.take_zero, List.drop_zero] at this
      rw [show ((0 : Nat) : Int) = 0 from rfl] at this
      have e0 : dval [] = 0 := rfl
      rw [e0] at this
      rw [this]
      unfold digitsP
      by_cases ha : s.data.toList.all isDig = true
      · rw [if_pos ha, if_pos ⟨by omega, by omega, ha⟩]
      · rw [if_neg ha, if_neg (fun h => ha h.2.2)]
end Go.Proofs.YtjlchnmpebdggaaDoor.Mo
end
section
namespace Go.Proofs.YtjlchnmpebdggaaDoor.Mo
open Go.RowKit Go.Proofs.YtjlchnmpebdggaaDoorW.PrintWords
theorem w64 (n : Int) (h0 : -1000000000000000 ≤ n) (h1 : n ≤ 1000000000000000) : wrap64 n = n := IntWalk.wrap64_in _ ⟨by omega, by omega⟩
theorem month_cases {m : Int} (h1 : 1 ≤ m) (h2 : m ≤ 12) : m = 1 ∨ m = 2 ∨ m = 3 ∨ m = 4 ∨ m = 5 ∨ m = 6 ∨ m = 7 ∨ m = 8 ∨ m = 9 ∨ m = 10 ∨ m = 11 ∨ m = 12 := by omega
theorem length_range (y m : Int) (h1 : 1 ≤ m) (h2 : m ≤ 12) : 28 ≤ lengthP y m ∧ lengthP y m ≤ 31 := by
  unfold lengthP
  rcases month_cases h1 h2 with rfl | rfl | rfl | rfl | rfl | rfl | rfl | rfl | rfl | rfl | rfl | rfl <;> split <;> decide
def yearLen (y : Int) : Int := if leapB y = true then 366 else 365
def dby (y : Int) : Int := 365 * (y - 1) + (y - 1) / 4 - (y - 1) / 100 + (y - 1) / 400
theorem dby_succ (y : Int) (h : 1 ≤ y) : dby (y + 1) = dby y + yearLen y := by
  unfold dby yearLen leapB
  rw [Int.tmod_eq_emod_of_nonneg (by omega), Int.tmod_eq_emod_of_nonneg (by omega), Int.tmod_eq_emod_of_nonneg (by omega)]
  by_cases h4 : y % 4 = 0
  · by_cases h100 : y % 100 = 0
    · by_cases h400 : y % 400 = 0
      · simp only [h4, h100, h400]; simp; omega
      · simp only [h4, h100]; simp [h400]; omega
    · simp only [h4]; simp [h100]; omega
  · simp [h4]; omega
def cumN (y : Int) : Nat → Int
  | 0 => 0
  | n + 1 => cumN y n + lengthP y ((n : Int) + 1)
theorem cumN_range (y : Int) : ∀ n : Nat, n ≤ 12 → 0 ≤ cumN y n ∧ cumN y n ≤ 31 * n
  | 0, _ => by unfold cumN; omega
  | n + 1, h => by
    have h1 := cumN_range y n (by omega)
    have h2 := length_range y ((n : Int) + 1) (by omega) (by omega)
    unfold cumN
    omega
def daysP (y m d : Int) : Int := dby y + cumN y (m - 1).toNat + d - 1 - 719162
theorem cum_step (y : Int) (j : Nat) (hj : 1 ≤ j) : cumN y j = cumN y (j - 1) + lengthP y (j : Int) := by
  obtain ⟨q, rfl⟩ : ∃ q, j = q + 1 := ⟨j - 1, by omega⟩
  have e : cumN y (q + 1) = cumN y q + lengthP y ((q : Int) + 1) := rfl
  rw [e, show q + 1 - 1 = q from rfl, show ((q + 1 : Nat) : Int) = (q : Int) + 1 from by omega]
theorem valid_facts {y m d h mi s z : Int} (hv : validB y m d h mi s z = true) : (1 ≤ y ∧ y ≤ 9999 ∧ 1 ≤ m ∧ m ≤ 12 ∧ 1 ≤ d ∧ d ≤ lengthP y m) ∧ (0 ≤ h ∧ h ≤ 23 ∧ 0 ≤ mi ∧ mi ≤ 59 ∧ 0 ≤ s ∧ s ≤ 59 ∧ -1439 ≤ z ∧ z ≤ 1439) :=
  ⟨(isDay_iff y m d).1 ((valid_iff y m d h mi s z).1 hv).1, (time_iff h mi s z).1 ((valid_iff y m d h mi s z).1 hv).2⟩
def daysV (y m d h mi s z : Int) : Int := if validB y m d h mi s z = true then daysP y m d else 0
end Go.Proofs.YtjlchnmpebdggaaDoor.Mo
end
section
namespace Go.Proofs.YtjlchnmpebdggaaDoor.Mo
open Go.RowKit Go.Proofs.YtjlchnmpebdggaaDoorW.PrintWords
set_option maxRecDepth 100000 in
theorem mom_l0 (y m d h mi s z : Int) : ∀ (n k j : Nat) (x4 : Int), 1 ≤ j → m = j + n → m ≤ 12 → n + 1 < k → -10000000 ≤ x4 → x4 ≤ 10000000 - 31 * n →
    moment_Days.l0 k x4 j y m d h mi s z = some (x4 + (cumN y (j - 1 + n) - cumN y (j - 1)) - 719162) := by
  intro n
  induction n with
  | zero =>
    intro k j x4 _ hm _ hk h0 h1
    obtain ⟨k, rfl⟩ : ∃ q, k = q + 1 := ⟨k - 1, by omega⟩
    simp only [moment_Days.l0]
    rw [if_neg (by omega), w64 _ (by omega) (by omega)]
    congr 1
    simp
  | succ n ih =>
    intro k j x4 hj hm hm12 hk h0 h1
    obtain ⟨k, rfl⟩ : ∃ q, k = q + 1 := ⟨k - 1, by omega⟩
    have hl := length_range y (j : Int) (by omega) (by omega)
    have hlf : moment_length.f y (j : Int) = some (lengthP y (j : Int)) := if_pos ⟨by omega, by omega⟩
    simp only [moment_Days.l0]
    rw [if_pos (by omega), hlf]
    simp only [Option.bind_some]
    have hc := cum_step y j hj
    rw [w64 _ (by omega) (by omega), w64 _ (by omega) (by omega), show (j : Int) + 1 = ((j + 1 : Nat) : Int) from by omega, ih k (j + 1) (x4 + lengthP y (j : Int)) (by omega) (by omega) hm12 (by omega) (by omega) (by omega)]
    congr 1
    rw [show j + 1 - 1 = j from by omega, show j - 1 + (n + 1) = j + n from by omega]
    omega
theorem dby_open (y : Int) (h1 : 1 ≤ y) (h2 : y ≤ 9999) (d : Int) (d1 : 1 ≤ d) (d2 : d ≤ 31) :
    wrap64 ((wrap64 ((wrap64 ((wrap64 ((wrap64 ((wrap64 (365 * (wrap64 (y - 1)))) + (wrap64 (Int.tdiv (wrap64 (y - 1)) 4)))) - (wrap64 (Int.tdiv (wrap64 (y - 1)) 100)))) + (wrap64 (Int.tdiv (wrap64 (y - 1)) 400)))) + d)) - 1) = dby y + d - 1 := by
  rw [w64 (y - 1) (by omega) (by omega), Int.tdiv_eq_ediv_of_nonneg (by omega), Int.tdiv_eq_ediv_of_nonneg (by omega), Int.tdiv_eq_ediv_of_nonneg (by omega)]
  rw [w64 (365 * (y - 1)) (by omega) (by omega), w64 ((y - 1) / 4) (by omega) (by omega), w64 ((y - 1) / 100) (by omega) (by omega), w64 ((y - 1) / 400) (by omega) (by omega)]
  rw [w64 (365 * (y - 1) + (y - 1) / 4) (by omega) (by omega), w64 (365 * (y - 1) + (y - 1) / 4 - (y - 1) / 100) (by omega) (by omega), w64 (365 * (y - 1) + (y - 1) / 4 - (y - 1) / 100 + (y - 1) / 400) (by omega) (by omega),
    w64 (365 * (y - 1) + (y - 1) / 4 - (y - 1) / 100 + (y - 1) / 400 + d) (by omega) (by omega), w64 _ (by omega) (by omega)]
  rfl
theorem dby_range (y : Int) (h1 : 1 ≤ y) (h2 : y ≤ 10000) : 0 ≤ dby y ∧ dby y ≤ 3652425 := by unfold dby; omega
theorem days_f (k : Nat) (hk : 20 ≤ k) (y m d h mi s z : Int) : moment_Days.f k y m d h mi s z = some (daysV y m d h mi s z) := by
  unfold moment_Days.f daysV
  rw [valid_f]
  simp only [Option.bind_some]
  cases hv : validB y m d h mi s z with
  | false => rfl
  | true =>
    obtain ⟨⟨a1, a2, a3, a4, a5, a6⟩, _⟩ := valid_facts hv
    have hl := length_range y m a3 a4
    have hd := dby_range y a1 (by omega)
    rw [if_pos rfl, if_pos rfl, dby_open y a1 a2 d a5 (by omega)]
    have := mom_l0 y m d h mi s z (m - 1).toNat k 1 (dby y + d - 1) (by omega) (by omega) a4 (by omega) (by omega) (by omega)
    rw [show ((1 : Nat) : Int) = 1 from rfl] at this
    rw [this]
    congr 1
    have e : cumN y (1 - 1) = 0 := rfl
    rw [e, show 1 - 1 + (m - 1).toNat = (m - 1).toNat from by omega]
    unfold daysP
    omega
theorem daysP_range {y m d h mi s z : Int} (hv : validB y m d h mi s z = true) : -719162 ≤ daysP y m d ∧ daysP y m d ≤ 2934000 := by
  obtain ⟨⟨a1, a2, a3, a4, a5, a6⟩, _⟩ := valid_facts hv
  have hl := length_range y m a3 a4
  have hd := dby_range y a1 (by omega)
  have hc := cumN_range y (m - 1).toNat (by omega)
  unfold daysP
  omega
theorem daysV_range (y m d h mi s z : Int) : -719162 ≤ daysV y m d h mi s z ∧ daysV y m d h mi s z ≤ 2934000 := by
  unfold daysV
  split
  · exact daysP_range ‹_›
  · omega
def weekP7 (y m d h mi s z : Int) : Int := if validB y m d h mi s z = true then (daysP y m d + 4) % 7 else 0
theorem floor_f (a b : Int) (hb : 0 < b) (h0 : -1000000000000 ≤ a) (h1 : a ≤ 1000000000000) (hb1 : b ≤ 1000000) : moment_floor.f a b = some (a / b, a % b) := by
  unfold moment_floor.f
  have hs : Int.sign b = 1 := Int.sign_eq_one_of_pos hb
  have hn : (b.natAbs : Int) = b := Int.natAbs_of_nonneg (by omega)
  have hm0 := Int.emod_nonneg a (show b ≠ 0 by omega)
  have hm1 := Int.emod_lt_of_pos a hb
  have hq : -1000000000000 ≤ a / b ∧ a / b ≤ 1000000000000 := by
    have h := Int.mul_ediv_add_emod a b
    constructor
    · exact Int.le_ediv_of_mul_le hb (by have : -1000000000000 * b ≤ -1000000000000 * 1 := Int.mul_le_mul_of_nonpos_left (by omega) (by omega); omega)
    · by_cases ha : 0 ≤ a
      · exact Int.le_trans (Int.ediv_le_self b ha) h1
      · have : a / b < 0 := Int.ediv_neg_of_neg_of_pos (by omega) hb
        omega
  rw [if_neg (by omega), Int.tdiv_eq_ediv, Int.tmod_eq_emod, hs]
  by_cases hc : 0 ≤ a ∨ b ∣ a
  · rw [if_pos hc, if_pos hc, show ((0 : Nat) : Int) = 0 from rfl, if_neg (by omega), w64 _ (by omega) (by omega)]
    simp
  · rw [if_neg hc, if_neg hc, hn]
    have hne : a % b ≠ 0 := fun h => hc (.inr (Int.dvd_of_emod_eq_zero h))
    rw [if_pos (by omega), w64 (a / b + 1) (by omega) (by omega), w64 (a / b + 1 - 1) (by omega) (by omega), w64 (a % b - b + b) (by omega) (by omega)]
    congr 2 <;> omega
theorem week_f (k : Nat) (hk : 20 ≤ k) (y m d h mi s z : Int) : moment_Weekday.f k y m d h mi s z = some (weekP7 y m d h mi s z) := by
  unfold moment_Weekday.f weekP7
  rw [valid_f, days_f k hk]
  simp only [Option.bind_some]
  have hr := daysV_range y m d h mi s z
  have hv2 : daysV y m d h mi s z = if validB y m d h mi s z = true then daysP y m d else 0 := rfl
  cases hv : validB y m d h mi s z with
  | false => rfl
  | true =>
    rw [hv, if_pos rfl] at hv2
    rw [if_pos rfl, if_pos rfl, w64 _ (by omega) (by omega), floor_f _ 7 (by omega) (by omega) (by omega) (by omega), hv2]
    rfl
def stampP (y m d h mi s z : Int) : Int := if validB y m d h mi s z = true then 86400 * daysP y m d + 3600 * h + 60 * mi + s - 60 * z else 0
theorem stamp_open {y m d h mi s z : Int} (hv : validB y m d h mi s z = true) (D : Int) (hD : D = daysP y m d) :
    wrap64 ((wrap64 ((wrap64 ((wrap64 ((wrap64 (86400 * D)) + (wrap64 (3600 * h)))) + (wrap64 (60 * mi)))) + s)) - (wrap64 (60 * z))) = 86400 * D + 3600 * h + 60 * mi + s - 60 * z := by
  have hr := daysP_range hv
  obtain ⟨_, ⟨a1, a2, a3, a4, a5, a6, a7, a8⟩⟩ := valid_facts hv
  rw [← hD] at hr
  rw [w64 (86400 * D) (by omega) (by omega), w64 (3600 * h) (by omega) (by omega), w64 (60 * mi) (by omega) (by omega), w64 (60 * z) (by omega) (by omega), w64 (86400 * D + 3600 * h) (by omega) (by omega), w64 (86400 * D + 3600 * h + 60 * mi) (by omega) (by omega), w64 (86400 * D + 3600 * h + 60 * mi + s) (by omega) (by omega), w64 _ (by omega) (by omega)]
theorem stamp_f (k : Nat) (hk : 20 ≤ k) (y m d h mi s z : Int) : moment_Stamp.f k y m d h mi s z = some (stampP y m d h mi s z) := by
  unfold moment_Stamp.f stampP
  rw [valid_f, days_f k hk]
  simp only [Option.bind_some]
  have hv2 : daysV y m d h mi s z = if validB y m d h mi s z = true then daysP y m d else 0 := rfl
  cases hv : validB y m d h mi s z with
  | false => rfl
  | true =>
    rw [hv, if_pos rfl] at hv2
    rw [if_pos rfl, if_pos rfl, hv2, stamp_open hv _ rfl]
end Go.Proofs.YtjlchnmpebdggaaDoor.Mo
end
section
namespace Go.Proofs.YtjlchnmpebdggaaDoor.Mo
open Go.RowKit Go.Proofs.YtjlchnmpebdggaaDoorW.PrintWords
theorem set7 {w : World} {g t : Nat} {a0 a1 a2 a3 a4 a5 a6 : Value} (h : w.heap[g]? = some (.cells #[a0, a1, a2, a3, a4, a5, a6] t (0, 0))) (b0 b1 b2 b3 b4 b5 b6 : Value) :
    (((((((w.setCell ⟨g, 0, none⟩ b0).setCell ⟨g, 1, none⟩ b1).setCell ⟨g, 2, none⟩ b2).setCell ⟨g, 3, none⟩ b3).setCell ⟨g, 4, none⟩ b4).setCell ⟨g, 5, none⟩ b5).setCell ⟨g, 6, none⟩ b6).heap[g]? = some (.cells #[b0, b1, b2, b3, b4, b5, b6] t (0, 0)) ∧
    ∀ (B : Nat) (w0 : World), Below B w0 w → B ≤ g → Below B w0 (((((((w.setCell ⟨g, 0, none⟩ b0).setCell ⟨g, 1, none⟩ b1).setCell ⟨g, 2, none⟩ b2).setCell ⟨g, 3, none⟩ b3).setCell ⟨g, 4, none⟩ b4).setCell ⟨g, 5, none⟩ b5).setCell ⟨g, 6, none⟩ b6) := by
  have h1 := blk_put (cs' := #[b0, a1, a2, a3, a4, a5, a6]) h 0 b0 rfl
  have h2 := blk_put (cs' := #[b0, b1, a2, a3, a4, a5, a6]) h1 1 b1 rfl
  have h3 := blk_put (cs' := #[b0, b1, b2, a3, a4, a5, a6]) h2 2 b2 rfl
  have h4 := blk_put (cs' := #[b0, b1, b2, b3, a4, a5, a6]) h3 3 b3 rfl
  have h5 := blk_put (cs' := #[b0, b1, b2, b3, b4, a5, a6]) h4 4 b4 rfl
  have h6 := blk_put (cs' := #[b0, b1, b2, b3, b4, b5, a6]) h5 5 b5 rfl
  have h7 := blk_put (cs' := #[b0, b1, b2, b3, b4, b5, b6]) h6 6 b6 rfl
  exact ⟨h7, fun B w0 hb hB => ((((((hb.setCell (p := ⟨g, 0, none⟩) hB b0).setCell (p := ⟨g, 1, none⟩) hB b1).setCell (p := ⟨g, 2, none⟩) hB b2).setCell (p := ⟨g, 3, none⟩) hB b3).setCell (p := ⟨g, 4, none⟩) hB b4).setCell (p := ⟨g, 5, none⟩) hB b5).setCell (p := ⟨g, 6, none⟩) hB b6⟩
theorem cells7 {w : World} {g t : Nat} {a0 a1 a2 a3 a4 a5 a6 : Value} (h : w.heap[g]? = some (.cells #[a0, a1, a2, a3, a4, a5, a6] t (0, 0))) :
    (w.cell? ⟨g, 0, none⟩ = some a0 ∧ w.cell? ⟨g, 1, none⟩ = some a1 ∧ w.cell? ⟨g, 2, none⟩ = some a2 ∧ w.cell? ⟨g, 3, none⟩ = some a3 ∧ w.cell? ⟨g, 4, none⟩ = some a4 ∧ w.cell? ⟨g, 5, none⟩ = some a5 ∧ w.cell? ⟨g, 6, none⟩ = some a6) ∧
    ∀ i, w.frozen? ⟨g, i, none⟩ = false :=
  ⟨⟨cell_of_row w g 0 _ _ _ h, cell_of_row w g 1 _ _ _ h, cell_of_row w g 2 _ _ _ h, cell_of_row w g 3 _ _ _ h, cell_of_row w g 4 _ _ _ h, cell_of_row w g 5 _ _ _ h, cell_of_row w g 6 _ _ _ h⟩, fun i => frozen_of_row w g i _ _ h⟩
end Go.Proofs.YtjlchnmpebdggaaDoor.Mo
end
section
namespace Go.Proofs.YtjlchnmpebdggaaDoor.Mo
open Go.RowKit Go.Proofs.YtjlchnmpebdggaaDoorW.PrintWords Go.Proofs.YtjlchnmpebdggaaDoorW.PrintLast Go.Proofs.YtjlchnmpebdggaaDoorW.PrintMore
attribute [local go_sem] max2_int min2_int max_two min_two max_three min_three max_four min_four   -- for this text's walks alone
set_option linter.unusedVariables false
set_option linter.unusedSimpArgs false
def moment_civil.l0 : Nat → Int → Int → Int → Option (Int × Int × Int × Int × Int × Int × Int)
 | 0, _, _, _ => none
 | k + 1, x0, x3, x6 => (moment_length.f x3 x6).bind fun t382 => (if x0 ≥ t382 then ((moment_length.f x3 x6).bind fun t383 => (moment_civil.l0 k (wrap64 (x0 - t383)) x3 (wrap64 (x6 + 1)))) else (some (x3, x6, wrap64 (x0 + 1), 0, 0, 0, 0)))
def moment_civil.f (k : Nat) (a0 : Int) : Option (Int × Int × Int × Int × Int × Int × Int) := moment_civil.l0 k (wrap64 ((Int.tmod (wrap64 ((Int.tmod a0 146097) - (wrap64 (36524 * (mn (wrap64 (Int.tdiv (Int.tmod a0 146097) 36524)) 3))))) 1461) - (wrap64 (365 * (mn (wrap64 (Int.tdiv (Int.tmod (wrap64 ((Int.tmod a0 146097) - (wrap64 (36524 * (mn (wrap64 (Int.tdiv (Int.tmod a0 146097) 36524)) 3))))) 1461) 365)) 3))))) (wrap64 ((wrap64 ((wrap64 (1 + (wrap64 (400 * (wrap64 (Int.tdiv a0 146097)))))) + (wrap64 ((wrap64 (100 * (mn (wrap64 (Int.tdiv (Int.tmod a0 146097) 36524)) 3))) + (wrap64 (4 * (wrap64 (Int.tdiv (wrap64 ((Int.tmod a0 146097) - (wrap64 (36524 * (mn (wrap64 (Int.tdiv (Int.tmod a0 146097) 36524)) 3))))) 1461)))))))) + (mn (wrap64 (Int.tdiv (Int.tmod (wrap64 ((Int.tmod a0 146097) - (wrap64 (36524 * (mn (wrap64 (Int.tdiv (Int.tmod a0 146097) 36524)) 3))))) 1461) 365)) 3))) 1
attribute [local irreducible] moment_civil.f moment_civil.l0 moment_floor.f
end Go.Proofs.YtjlchnmpebdggaaDoor.Mo
end
section
namespace Go.Proofs.YtjlchnmpebdggaaDoor.Mo
open Go.RowKit Go.Proofs.YtjlchnmpebdggaaDoorW.PrintWords Go.Proofs.YtjlchnmpebdggaaDoorW.PrintLast Go.Proofs.YtjlchnmpebdggaaDoorW.PrintMore
attribute [local go_sem] max2_int min2_int max_two min_two max_three min_three max_four min_four   -- for this text's walks alone
set_option linter.unusedVariables false
set_option linter.unusedSimpArgs false
end Go.Proofs.YtjlchnmpebdggaaDoor.Mo
end
section
namespace Go.Proofs.YtjlchnmpebdggaaDoor.Mo
open Go.RowKit Go.Proofs.YtjlchnmpebdggaaDoorW.PrintWords
theorem cum12 (y : Int) : cumN y 12 = yearLen y := by
  simp only [cumN, lengthP, yearLen]
  cases leapB y <;> decide
end Go.Proofs.YtjlchnmpebdggaaDoor.Mo
end
section
namespace Go.Proofs.YtjlchnmpebdggaaDoor.Mo
open Go.RowKit Go.Proofs.YtjlchnmpebdggaaDoorW.PrintWords
end Go.Proofs.YtjlchnmpebdggaaDoor.Mo
end
section
namespace Go.Proofs.YtjlchnmpebdggaaDoor.Mo
open Go.RowKit Go.Proofs.YtjlchnmpebdggaaDoorW.PrintWords
def morrowP (y m d : Int) : Int × Int × Int := if d + 1 ≤ lengthP y m then (y, m, d + 1) else if m + 1 ≤ 12 then (y, m + 1, 1) else (y + 1, 1, 1)
theorem next_days {y m d : Int} (h : 1 ≤ y ∧ y ≤ 9999 ∧ 1 ≤ m ∧ m ≤ 12 ∧ 1 ≤ d ∧ d ≤ lengthP y m) (hy : (morrowP y m d).1 ≤ 9999) :
    isDayB (morrowP y m d).1 (morrowP y m d).2.1 (morrowP y m d).2.2 = true ∧ daysP (morrowP y m d).1 (morrowP y m d).2.1 (morrowP y m d).2.2 = daysP y m d + 1 := by
  obtain ⟨a1, a2, a3, a4, a5, a6⟩ := h
  have hs := cum_step y m.toNat (by omega)
  rw [show m.toNat - 1 = (m - 1).toNat from by omega, show ((m.toNat : Nat) : Int) = m from by omega] at hs
  unfold morrowP at hy ⊢
  by_cases c1 : d + 1 ≤ lengthP y m
  · simp only [if_pos c1] at hy ⊢
    exact ⟨(isDay_iff _ _ _).2 ⟨a1, a2, a3, a4, by omega, c1⟩, by unfold daysP; omega⟩
  · simp only [if_neg c1] at hy ⊢
    by_cases c2 : m + 1 ≤ 12
    · simp only [if_pos c2] at hy ⊢
      have hl := length_range y (m + 1) (by omega) c2
      refine ⟨(isDay_iff _ _ _).2 ⟨a1, a2, by omega, c2, by omega, by omega⟩, ?_⟩
      unfold daysP
      rw [show m + 1 - 1 = m from by omega]
      omega
    · simp only [if_neg c2] at hy ⊢
      have hm : m = 12 := by omega
      subst hm
      have hl := length_range (y + 1) 1 (by omega) (by omega)
      have hc : cumN y 12 = yearLen y := cum12 y
      refine ⟨(isDay_iff _ _ _).2 ⟨by omega, hy, by omega, by omega, by omega, by omega⟩, ?_⟩
      unfold daysP
      rw [dby_succ y a1, show ((1 : Int) - 1).toNat = 0 from rfl]
      have e0 : cumN (y + 1) 0 = 0 := rfl
      have e12 : (12 : Int).toNat = 12 := rfl
      rw [e12] at hs
      omega
theorem leap_400 (y : Int) (h : 1 ≤ y) : leapB (y + 400) = leapB y := by
  unfold leapB
  rw [Int.tmod_eq_emod_of_nonneg (by omega), Int.tmod_eq_emod_of_nonneg (by omega), Int.tmod_eq_emod_of_nonneg (by omega), Int.tmod_eq_emod_of_nonneg (by omega), Int.tmod_eq_emod_of_nonneg (by omega), Int.tmod_eq_emod_of_nonneg (by omega)]
  rw [show (y + 400) % 4 = y % 4 from by omega, show (y + 400) % 100 = y % 100 from by omega, show (y + 400) % 400 = y % 400 from by omega]
theorem length_400 (y m : Int) (h : 1 ≤ y) : lengthP (y + 400) m = lengthP y m := by unfold lengthP; rw [leap_400 y h]
theorem cum_400 (y : Int) (h : 1 ≤ y) : ∀ n : Nat, cumN (y + 400) n = cumN y n := by
  intro n
  induction n with
  | zero => rfl
  | succ n ih =>
    have e1 : cumN (y + 400) (n + 1) = cumN (y + 400) n + lengthP (y + 400) ((n : Int) + 1) := rfl
    have e2 : cumN y (n + 1) = cumN y n + lengthP y ((n : Int) + 1) := rfl
    rw [e1, e2, ih, length_400 y _ h]
theorem days_400 (y m d : Int) (h : 1 ≤ y) : daysP (y + 400) m d = daysP y m d + 146097 := by
  unfold daysP
  rw [cum_400 y h]
  unfold dby
  omega
theorem isDay_400 (y m d : Int) (h : 1 ≤ y) (h2 : y + 400 ≤ 9999) : isDayB (y + 400) m d = isDayB y m d := by
  rw [Bool.eq_iff_iff, isDay_iff, isDay_iff, length_400 y m h]
  constructor <;> intro q <;> exact ⟨by omega, by omega, by omega, by omega, by omega, by omega⟩
end Go.Proofs.YtjlchnmpebdggaaDoor.Mo
end
section
namespace Go.Proofs.YtjlchnmpebdggaaDoor.Mo
open Go.RowKit Go.Proofs.YtjlchnmpebdggaaDoorW.PrintWords
theorem valid_split (y m d h mi s z : Int) : validB y m d h mi s z = (isDayB y m d && timeB h mi s z) := rfl
theorem tom_next {y m d h mi s z Y M D : Int} (hv : validB y m d h mi s z = true) (hN : morrowP y m d = (Y, M, D)) (hy : Y ≤ 9999) :
    validB Y M D h mi s z = true ∧ daysV Y M D h mi s z = daysV y m d h mi s z + 1 ∧ weekP7 Y M D h mi s z = (weekP7 y m d h mi s z + 1) % 7 ∧ stampP Y M D h mi s z = stampP y m d h mi s z + 86400 := by
  obtain ⟨F, _⟩ := valid_facts hv
  have hn := next_days F (by rw [hN]; exact hy)
  rw [hN] at hn
  obtain ⟨h1, h2⟩ := hn
  have hv2 : validB Y M D h mi s z = true := by
    rw [valid_split] at hv ⊢
    rw [h1]
    rw [Bool.and_eq_true] at hv
    rw [hv.2]
    rfl
  dsimp only at h2
  refine ⟨hv2, ?_, ?_, ?_⟩
  · unfold daysV; rw [if_pos hv, if_pos hv2, h2]
  · unfold weekP7; rw [if_pos hv, if_pos hv2, h2]; omega
  · unfold stampP; rw [if_pos hv, if_pos hv2, h2]; omega
theorem tom_far {y m d h mi s z : Int} (h1 : 1 ≤ y) (h2 : y + 400 ≤ 9999) (hv : validB y m d h mi s z = true ∨ validB (y + 400) m d h mi s z = true) :
    daysV (y + 400) m d h mi s z = daysV y m d h mi s z + 146097 ∧ weekP7 (y + 400) m d h mi s z = weekP7 y m d h mi s z := by
  have e : validB (y + 400) m d h mi s z = validB y m d h mi s z := by rw [valid_split, valid_split, isDay_400 y m d h1 h2]
  have hv1 : validB y m d h mi s z = true := by
    rcases hv with h | h
    · exact h
    · rw [← e]; exact h
  have hv2 := e.trans hv1
  have hd := days_400 y m d h1
  constructor
  · unfold daysV; rw [if_pos hv1, if_pos hv2, hd]
  · unfold weekP7; rw [if_pos hv1, if_pos hv2, hd]; omega
theorem tom_after {y m d h mi s z : Int} (hv : validB y m d h mi s z = true) : validB y m (d + 1) h mi s z = decide (d + 1 ≤ lengthP y m) := by
  obtain ⟨⟨a1, a2, a3, a4, a5, a6⟩, _⟩ := valid_facts hv
  rw [valid_split] at hv ⊢
  rw [Bool.and_eq_true] at hv
  rw [hv.2, Bool.and_true, Bool.eq_iff_iff, isDay_iff, decide_eq_true_iff]
  constructor
  · intro q; exact q.2.2.2.2.2
  · intro q; exact ⟨a1, a2, a3, a4, by omega, q⟩
theorem week_range (y m d h mi s z : Int) : 0 ≤ weekP7 y m d h mi s z ∧ weekP7 y m d h mi s z ≤ 6 := by
  unfold weekP7
  split <;> omega
theorem stampP_range (y m d h mi s z : Int) : -1000000000000 ≤ stampP y m d h mi s z ∧ stampP y m d h mi s z ≤ 1000000000000 := by
  by_cases hv : validB y m d h mi s z = true
  · have hr := daysP_range hv
    obtain ⟨_, ⟨a1, a2, a3, a4, a5, a6, a7, a8⟩⟩ := valid_facts hv
    unfold stampP
    rw [if_pos hv]
    constructor <;> omega
  · unfold stampP; rw [if_neg hv]; omega
theorem tom_last {y m d Y M D : Int} (hN : morrowP y m d = (Y, M, D)) (h : y ≤ 9999) (h2 : 9999 < Y) : y = 9999 := by
  unfold morrowP at hN
  split at hN
  · simp only [Prod.mk.injEq] at hN; omega
  · split at hN <;> (simp only [Prod.mk.injEq] at hN; omega)
theorem tom_same {y m d Y M D ln : Int} (hl : lengthP y m = ln) (hN : morrowP y m d = (Y, M, D)) : decide (d + 1 ≤ ln) = (y == Y && (m == M && d + 1 == D)) := by
  unfold morrowP at hN
  rw [hl] at hN
  rw [Bool.eq_iff_iff]
  simp only [decide_eq_true_eq, Bool.and_eq_true, beq_iff_eq]
  split at hN
  · simp only [Prod.mk.injEq] at hN
    constructor <;> intro _ <;> omega
  · split at hN
    · simp only [Prod.mk.injEq] at hN
      constructor <;> intro _ <;> omega
    · simp only [Prod.mk.injEq] at hN
      constructor <;> intro _ <;> omega
theorem eqA23 (d : Nat) (w : World) (x0 y0 : Int) (x1 y1 : Int) (x2 y2 : Int) (x3 y3 : Int) (x4 y4 : Int) (x5 y5 : Int) (x6 y6 : Int) :
    (Op.equalIn (d + 2) 23 (.agg #[.int .i64 x0, .int .i64 x1, .int .i64 x2, .int .i64 x3, .int .i64 x4, .int .i64 x5, .int .i64 x6]) (.agg #[.int .i64 y0, .int .i64 y1, .int .i64 y2, .int .i64 y3, .int .i64 y4, .int .i64 y5, .int .i64 y6])).run Tryd.prog w = .ok (x0 == y0 && (x1 == y1 && (x2 == y2 && (x3 == y3 && (x4 == y4 && (x5 == y5 && (x6 == y6))))))) w := by
  refine eqA_of Tryd.underlying23 (by kernel_rfl) ?_
  refine eqf_cons (by rfl) (by go_simp; rfl) (by go_simp; rfl) (by go_simp) ?_
  refine eqf_cons (by rfl) (by go_simp; rfl) (by go_simp; rfl) (by go_simp) ?_
  refine eqf_cons (by rfl) (by go_simp; rfl) (by go_simp; rfl) (by go_simp) ?_
  refine eqf_cons (by rfl) (by go_simp; rfl) (by go_simp; rfl) (by go_simp) ?_
  refine eqf_cons (by rfl) (by go_simp; rfl) (by go_simp; rfl) (by go_simp) ?_
  refine eqf_cons (by rfl) (by go_simp; rfl) (by go_simp; rfl) (by go_simp) ?_
  exact eqf_last (by rfl) (by go_simp; rfl) (by go_simp; rfl) (by go_simp)
end Go.Proofs.YtjlchnmpebdggaaDoor.Mo
end
