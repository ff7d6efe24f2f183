import Derived.Test.YtjlchnmpebdggaaDoorRds1
import Derived.Test.YtjlchnmpebdggaaDoorRds2
import Derived.Lib.Hide
import Derived.IntWalk
import Derived.Deep.RegionHeld3
import Derived.Deep.QuietTactic
import Derived.BigQuiet
section
namespace Go.Proofs.YtjlchnmpebdggaaDoor.Mo
open Go.RowKit Go.Proofs.YtjlchnmpebdggaaDoorW.PrintWords Go.Proofs.YtjlchnmpebdggaaDoorW.PrintLast Go.Proofs.YtjlchnmpebdggaaDoorW.PrintMore
attribute [local go_sem] max2_int min2_int max_two min_two max_three min_three max_four min_four   -- for this text's walks alone
set_option linter.unusedVariables false
set_option linter.unusedSimpArgs false
def moment_refused.f (a0_0 : Int) (a0_1 : Int) (a0_2 : Int) (a0_3 : Int) (a0_4 : Int) (a0_5 : Int) (a0_6 : Int) : Option (Int) := (moment_isDay.f a0_0 a0_1 a0_2 a0_3 a0_4 a0_5 a0_6).bind fun t135 => (if t135 = true then ((moment_Valid.f a0_0 a0_1 a0_2 a0_3 a0_4 a0_5 a0_6).bind fun t136 => (if t136 = true then (some 0) else (some 20))) else (some 21))
set_option maxHeartbeats 8000000 in
set_option maxRecDepth 100000 in
theorem moment_refused.calls (a0_0 : Int) (a0_1 : Int) (a0_2 : Int) (a0_3 : Int) (a0_4 : Int) (a0_5 : Int) (a0_6 : Int) (r : Int) (w : World) (h : moment_refused.f a0_0 a0_1 a0_2 a0_3 a0_4 a0_5 a0_6 = some r) (hL_ : Laid w) :
  Calls Tryd.prog 63 #[.agg #[.int .i64 a0_0, .int .i64 a0_1, .int .i64 a0_2, .int .i64 a0_3, .int .i64 a0_4, .int .i64 a0_5, .int .i64 a0_6]] w fun e w' => e = .returned (.int .i64 r) ∧ Below w.heap.size w w' := by
 have HL_ := Aside0.mk hL_
 clear hL_
 have hu23 := Tryd.underlying23
 have HB := Aside0.mk (Below.refl w.heap.size w)
 have H : ((moment_isDay.f a0_0 a0_1 a0_2 a0_3 a0_4 a0_5 a0_6).bind fun t135 => (if t135 = true then ((moment_Valid.f a0_0 a0_1 a0_2 a0_3 a0_4 a0_5 a0_6).bind fun t136 => (if t136 = true then (some 0) else (some 20))) else (some 21))) = some r := h
 clear h
 replace H := Option.bind_eq_some_iff.mp H
 obtain ⟨t135, A20, H⟩ := H
 replace H : (if t135 = true then ((moment_Valid.f a0_0 a0_1 a0_2 a0_3 a0_4 a0_5 a0_6).bind fun t136 => (if t136 = true then (some 0) else (some 20))) else (some 21)) = some r := H
 have A2 := Aside0.mk A20
 clear A20
 by_cases c3 : t135 = true
 ·subst c3
  have H1 : ((moment_Valid.f a0_0 a0_1 a0_2 a0_3 a0_4 a0_5 a0_6).bind fun t136 => (if t136 = true then (some 0) else (some 20))) = some r := by rw [if_pos rfl] at H; exact H
  clear H
  have H := H1
  clear H1
  replace H := Option.bind_eq_some_iff.mp H
  obtain ⟨t136, A40, H⟩ := H
  replace H : (if t136 = true then (some 0) else (some 20)) = some r := H
  have A4 := Aside0.mk A40
  clear A40
  by_cases c5 : t136 = true
  ·subst c5
   have H1 : (some 0) = some r := by rw [if_pos rfl] at H; exact H
   clear H
   have H := H1
   clear H1
   obtain rfl := Option.some.inj H
   go_enter Tryd.func63, Tryd.ntmps63
   go_wp2_with (first | ((with_reducible refine gate_dst (N := 1) rfl ?_); refine box_event ?hg (N := 1) ?hd (cs := #[.int .i64 a0_0, .int .i64 a0_1, .int .i64 a0_2, .int .i64 a0_3, .int .i64 a0_4, .int .i64 a0_5, .int .i64 a0_6]) (t := 23) ?hr ?_; (case hd => rfl); (case hg => rfl); (case hr => first | (go_simp; done) | (go_simp; rfl)); intro gb134 hg w6 hbox hb; have n0_ := Aside0.mk (below_step (by repeat (first | (with_reducible first | exact HB.out | apply below_alloc | apply pw_below_drewN | apply below_drew1) | exact HB.out)) hb); have n1_ := Aside0.mk (hbox); have n2_ := Aside0.mk ((by rw [hg]; exact (below_size (by repeat (first | (with_reducible first | exact HB.out | apply below_alloc | apply pw_below_drewN | apply below_drew1) | exact HB.out))) : w.heap.size ≤ gb134)); have n3_ := Aside0.mk ((by rw [hg]; exact (below_size (by repeat (first | (with_reducible first | exact HB.out | apply below_alloc | apply pw_below_drewN | apply below_drew1) | exact HB.out))) : w.heap.size ≤ gb134)); clear HB; have HB := n0_; have BK134 := n1_; have GW134 := n2_; have GE134 := n3_; clear n0_ n1_ n2_ n3_; clear hb hbox hg; have hcz7_0 : w6.cell? ⟨gb134, 0, none⟩ = some (.int .i64 a0_0) := (blk_cell BK134.out 0).trans rfl; have hcz7_1 : w6.cell? ⟨gb134, 1, none⟩ = some (.int .i64 a0_1) := (blk_cell BK134.out 1).trans rfl; have hcz7_2 : w6.cell? ⟨gb134, 2, none⟩ = some (.int .i64 a0_2) := (blk_cell BK134.out 2).trans rfl; have hcz7_3 : w6.cell? ⟨gb134, 3, none⟩ = some (.int .i64 a0_3) := (blk_cell BK134.out 3).trans rfl; have hcz7_4 : w6.cell? ⟨gb134, 4, none⟩ = some (.int .i64 a0_4) := (blk_cell BK134.out 4).trans rfl; have hcz7_5 : w6.cell? ⟨gb134, 5, none⟩ = some (.int .i64 a0_5) := (blk_cell BK134.out 5).trans rfl; have hcz7_6 : w6.cell? ⟨gb134, 6, none⟩ = some (.int .i64 a0_6) := (blk_cell BK134.out 6).trans rfl; have hfz7_0 := blk_frozen BK134.out 0; have hfz7_1 := blk_frozen BK134.out 1; have hfz7_2 := blk_frozen BK134.out 2; have hfz7_3 := blk_frozen BK134.out 3; have hfz7_4 := blk_frozen BK134.out 4; have hfz7_5 := blk_frozen BK134.out 5; have hfz7_6 := blk_frozen BK134.out 6) | ((with_reducible refine gate_callee (f := 46) rfl ?_); refine goesL_ (some 5) rfl rfl Tryd.func46 (by kernel_rfl) rfl #[.agg #[.int .i64 a0_0, .int .i64 a0_1, .int .i64 a0_2, .int .i64 a0_3, .int .i64 a0_4, .int .i64 a0_5, .int .i64 a0_6]] rfl (by (try simp only [List.map_toArray, List.map_cons, List.map_nil]); first | done | rfl | (simp only [List.length_drop, List.length_take]; rfl)) ?_; (with_reducible refine (moment_isDay.calls a0_0 a0_1 a0_2 a0_3 a0_4 a0_5 a0_6 true _ A2.out (by first | exact laid_below HL_.out (by repeat (first | (with_reducible first | exact HB.out | apply below_alloc | apply pw_below_drewN | apply below_drew1) | exact HB.out)) | exact laid_drawn HL_.out (by repeat (first | exact Drawn0.refl _ | apply Drawn0.step)))).mono ?_); rintro e w8 ⟨rfl, hb⟩; refine ⟨_, rfl, ?_⟩; have n0_ := Aside0.mk (blk_below (g := gb134) (o := .cells #[.int .i64 a0_0, .int .i64 a0_1, .int .i64 a0_2, .int .i64 a0_3, .int .i64 a0_4, .int .i64 a0_5, .int .i64 a0_6] 23 (0, 0)) (by (with_reducible repeat (first | refine blk_drewN ?_ _ | refine blk_drew ?_ | refine blk_alloc ?_ _)); exact BK134.out) hb); have n1_ := Aside0.mk (below_step (by repeat (first | (with_reducible first | exact HB.out | apply below_alloc | apply pw_below_drewN | apply below_drew1 | refine below_set ?_ GE134.out) | exact HB.out)) hb); clear BK134; clear HB; have BK134 := n0_; have HB := n1_; clear n0_ n1_; (try clear hb); (try clear hb2); (try clear hk); (try clear hi); have hcz9_0 : w8.cell? ⟨gb134, 0, none⟩ = some (.int .i64 a0_0) := (blk_cell BK134.out 0).trans rfl; have hcz9_1 : w8.cell? ⟨gb134, 1, none⟩ = some (.int .i64 a0_1) := (blk_cell BK134.out 1).trans rfl; have hcz9_2 : w8.cell? ⟨gb134, 2, none⟩ = some (.int .i64 a0_2) := (blk_cell BK134.out 2).trans rfl; have hcz9_3 : w8.cell? ⟨gb134, 3, none⟩ = some (.int .i64 a0_3) := (blk_cell BK134.out 3).trans rfl; have hcz9_4 : w8.cell? ⟨gb134, 4, none⟩ = some (.int .i64 a0_4) := (blk_cell BK134.out 4).trans rfl; have hcz9_5 : w8.cell? ⟨gb134, 5, none⟩ = some (.int .i64 a0_5) := (blk_cell BK134.out 5).trans rfl; have hcz9_6 : w8.cell? ⟨gb134, 6, none⟩ = some (.int .i64 a0_6) := (blk_cell BK134.out 6).trans rfl; have hfz9_0 := blk_frozen BK134.out 0; have hfz9_1 := blk_frozen BK134.out 1; have hfz9_2 := blk_frozen BK134.out 2; have hfz9_3 := blk_frozen BK134.out 3; have hfz9_4 := blk_frozen BK134.out 4; have hfz9_5 := blk_frozen BK134.out 5; have hfz9_6 := blk_frozen BK134.out 6) | ((with_reducible refine gate_callee (f := 19) rfl ?_); refine goesL_ (some 9) rfl rfl Tryd.func19 (by kernel_rfl) rfl #[.agg #[.int .i64 a0_0, .int .i64 a0_1, .int .i64 a0_2, .int .i64 a0_3, .int .i64 a0_4, .int .i64 a0_5, .int .i64 a0_6]] rfl (by (try simp only [List.map_toArray, List.map_cons, List.map_nil]); first | done | rfl | (simp only [List.length_drop, List.length_take]; rfl)) ?_; (with_reducible refine (moment_Valid.calls a0_0 a0_1 a0_2 a0_3 a0_4 a0_5 a0_6 true _ A4.out (by first | exact laid_below HL_.out (by repeat (first | (with_reducible first | exact HB.out | apply below_alloc | apply pw_below_drewN | apply below_drew1) | exact HB.out)) | exact laid_drawn HL_.out (by repeat (first | exact Drawn0.refl _ | apply Drawn0.step)))).mono ?_); rintro e w10 ⟨rfl, hb⟩; refine ⟨_, rfl, ?_⟩; have n0_ := Aside0.mk (blk_below (g := gb134) (o := .cells #[.int .i64 a0_0, .int .i64 a0_1, .int .i64 a0_2, .int .i64 a0_3, .int .i64 a0_4, .int .i64 a0_5, .int .i64 a0_6] 23 (0, 0)) (by (with_reducible repeat (first | refine blk_drewN ?_ _ | refine blk_drew ?_ | refine blk_alloc ?_ _)); exact BK134.out) hb); have n1_ := Aside0.mk (below_step (by repeat (first | (with_reducible first | exact HB.out | apply below_alloc | apply pw_below_drewN | apply below_drew1 | refine below_set ?_ GE134.out) | exact HB.out)) hb); clear BK134; clear HB; have BK134 := n0_; have HB := n1_; clear n0_ n1_; (try clear hb); (try clear hb2); (try clear hk); (try clear hi)))
   go_ret
   exact ⟨by first | rfl | (simp [errW_none, errW_some] <;> rfl) | (simp [*, errW_none, errW_some] <;> rfl), by repeat (first | (with_reducible first | exact HB.out | apply below_alloc | apply pw_below_drewN | apply below_drew1 | refine below_set ?_ GE134.out) | exact HB.out)⟩
  ·replace c5 := Bool.eq_false_iff.mpr c5
   subst c5
   have H1 : (some 20) = some r := by rw [if_neg (show ¬ (false = true) by decide)] at H; exact H
   clear H
   have H := H1
   clear H1
   obtain rfl := Option.some.inj H
   go_enter Tryd.func63, Tryd.ntmps63
   go_wp2_with (first | ((with_reducible refine gate_dst (N := 1) rfl ?_); refine box_event ?hg (N := 1) ?hd (cs := #[.int .i64 a0_0, .int .i64 a0_1, .int .i64 a0_2, .int .i64 a0_3, .int .i64 a0_4, .int .i64 a0_5, .int .i64 a0_6]) (t := 23) ?hr ?_; (case hd => rfl); (case hg => rfl); (case hr => first | (go_simp; done) | (go_simp; rfl)); intro gb134 hg w11 hbox hb; have n0_ := Aside0.mk (below_step (by repeat (first | (with_reducible first | exact HB.out | apply below_alloc | apply pw_below_drewN | apply below_drew1) | exact HB.out)) hb); have n1_ := Aside0.mk (hbox); have n2_ := Aside0.mk ((by rw [hg]; exact (below_size (by repeat (first | (with_reducible first | exact HB.out | apply below_alloc | apply pw_below_drewN | apply below_drew1) | exact HB.out))) : w.heap.size ≤ gb134)); have n3_ := Aside0.mk ((by rw [hg]; exact (below_size (by repeat (first | (with_reducible first | exact HB.out | apply below_alloc | apply pw_below_drewN | apply below_drew1) | exact HB.out))) : w.heap.size ≤ gb134)); clear HB; have HB := n0_; have BK134 := n1_; have GW134 := n2_; have GE134 := n3_; clear n0_ n1_ n2_ n3_; clear hb hbox hg; have hcz12_0 : w11.cell? ⟨gb134, 0, none⟩ = some (.int .i64 a0_0) := (blk_cell BK134.out 0).trans rfl; have hcz12_1 : w11.cell? ⟨gb134, 1, none⟩ = some (.int .i64 a0_1) := (blk_cell BK134.out 1).trans rfl; have hcz12_2 : w11.cell? ⟨gb134, 2, none⟩ = some (.int .i64 a0_2) := (blk_cell BK134.out 2).trans rfl; have hcz12_3 : w11.cell? ⟨gb134, 3, none⟩ = some (.int .i64 a0_3) := (blk_cell BK134.out 3).trans rfl; have hcz12_4 : w11.cell? ⟨gb134, 4, none⟩ = some (.int .i64 a0_4) := (blk_cell BK134.out 4).trans rfl; have hcz12_5 : w11.cell? ⟨gb134, 5, none⟩ = some (.int .i64 a0_5) := (blk_cell BK134.out 5).trans rfl; have hcz12_6 : w11.cell? ⟨gb134, 6, none⟩ = some (.int .i64 a0_6) := (blk_cell BK134.out 6).trans rfl; have hfz12_0 := blk_frozen BK134.out 0; have hfz12_1 := blk_frozen BK134.out 1; have hfz12_2 := blk_frozen BK134.out 2; have hfz12_3 := blk_frozen BK134.out 3; have hfz12_4 := blk_frozen BK134.out 4; have hfz12_5 := blk_frozen BK134.out 5; have hfz12_6 := blk_frozen BK134.out 6) | ((with_reducible refine gate_callee (f := 46) rfl ?_); refine goesL_ (some 5) rfl rfl Tryd.func46 (by kernel_rfl) rfl #[.agg #[.int .i64 a0_0, .int .i64 a0_1, .int .i64 a0_2, .int .i64 a0_3, .int .i64 a0_4, .int .i64 a0_5, .int .i64 a0_6]] rfl (by (try simp only [List.map_toArray, List.map_cons, List.map_nil]); first | done | rfl | (simp only [List.length_drop, List.length_take]; rfl)) ?_; (with_reducible refine (moment_isDay.calls a0_0 a0_1 a0_2 a0_3 a0_4 a0_5 a0_6 true _ A2.out (by first | exact laid_below HL_.out (by repeat (first | (with_reducible first | exact HB.out | apply below_alloc | apply pw_below_drewN | apply below_drew1) | exact HB.out)) | exact laid_drawn HL_.out (by repeat (first | exact Drawn0.refl _ | apply Drawn0.step)))).mono ?_); rintro e w13 ⟨rfl, hb⟩; refine ⟨_, rfl, ?_⟩; have n0_ := Aside0.mk (blk_below (g := gb134) (o := .cells #[.int .i64 a0_0, .int .i64 a0_1, .int .i64 a0_2, .int .i64 a0_3, .int .i64 a0_4, .int .i64 a0_5, .int .i64 a0_6] 23 (0, 0)) (by (with_reducible repeat (first | refine blk_drewN ?_ _ | refine blk_drew ?_ | refine blk_alloc ?_ _)); exact BK134.out) hb); have n1_ := Aside0.mk (below_step (by repeat (first | (with_reducible first | exact HB.out | apply below_alloc | apply pw_below_drewN | apply below_drew1 | refine below_set ?_ GE134.out) | exact HB.out)) hb); clear BK134; clear HB; have BK134 := n0_; have HB := n1_; clear n0_ n1_; (try clear hb); (try clear hb2); (try clear hk); (try clear hi); have hcz14_0 : w13.cell? ⟨gb134, 0, none⟩ = some (.int .i64 a0_0) := (blk_cell BK134.out 0).trans rfl; have hcz14_1 : w13.cell? ⟨gb134, 1, none⟩ = some (.int .i64 a0_1) := (blk_cell BK134.out 1).trans rfl; have hcz14_2 : w13.cell? ⟨gb134, 2, none⟩ = some (.int .i64 a0_2) := (blk_cell BK134.out 2).trans rfl; have hcz14_3 : w13.cell? ⟨gb134, 3, none⟩ = some (.int .i64 a0_3) := (blk_cell BK134.out 3).trans rfl; have hcz14_4 : w13.cell? ⟨gb134, 4, none⟩ = some (.int .i64 a0_4) := (blk_cell BK134.out 4).trans rfl; have hcz14_5 : w13.cell? ⟨gb134, 5, none⟩ = some (.int .i64 a0_5) := (blk_cell BK134.out 5).trans rfl; have hcz14_6 : w13.cell? ⟨gb134, 6, none⟩ = some (.int .i64 a0_6) := (blk_cell BK134.out 6).trans rfl; have hfz14_0 := blk_frozen BK134.out 0; have hfz14_1 := blk_frozen BK134.out 1; have hfz14_2 := blk_frozen BK134.out 2; have hfz14_3 := blk_frozen BK134.out 3; have hfz14_4 := blk_frozen BK134.out 4; have hfz14_5 := blk_frozen BK134.out 5; have hfz14_6 := blk_frozen BK134.out 6) | ((with_reducible refine gate_callee (f := 19) rfl ?_); refine goesL_ (some 9) rfl rfl Tryd.func19 (by kernel_rfl) rfl #[.agg #[.int .i64 a0_0, .int .i64 a0_1, .int .i64 a0_2, .int .i64 a0_3, .int .i64 a0_4, .int .i64 a0_5, .int .i64 a0_6]] rfl (by (try simp only [List.map_toArray, List.map_cons, List.map_nil]); first | done | rfl | (simp only [List.length_drop, List.length_take]; rfl)) ?_; (with_reducible refine (moment_Valid.calls a0_0 a0_1 a0_2 a0_3 a0_4 a0_5 a0_6 false _ A4.out (by first | exact laid_below HL_.out (by repeat (first | (with_reducible first | exact HB.out | apply below_alloc | apply pw_below_drewN | apply below_drew1) | exact HB.out)) | exact laid_drawn HL_.out (by repeat (first | exact Drawn0.refl _ | apply Drawn0.step)))).mono ?_); rintro e w15 ⟨rfl, hb⟩; refine ⟨_, rfl, ?_⟩; have n0_ := Aside0.mk (blk_below (g := gb134) (o := .cells #[.int .i64 a0_0, .int .i64 a0_1, .int .i64 a0_2, .int .i64 a0_3, .int .i64 a0_4, .int .i64 a0_5, .int .i64 a0_6] 23 (0, 0)) (by (with_reducible repeat (first | refine blk_drewN ?_ _ | refine blk_drew ?_ | refine blk_alloc ?_ _)); exact BK134.out) hb); have n1_ := Aside0.mk (below_step (by repeat (first | (with_reducible first | exact HB.out | apply below_alloc | apply pw_below_drewN | apply below_drew1 | refine below_set ?_ GE134.out) | exact HB.out)) hb); clear BK134; clear HB; have BK134 := n0_; have HB := n1_; clear n0_ n1_; (try clear hb); (try clear hb2); (try clear hk); (try clear hi)))
   go_ret
   exact ⟨by first | rfl | (simp [errW_none, errW_some] <;> rfl) | (simp [*, errW_none, errW_some] <;> rfl), by repeat (first | (with_reducible first | exact HB.out | apply below_alloc | apply pw_below_drewN | apply below_drew1 | refine below_set ?_ GE134.out) | exact HB.out)⟩
 ·replace c3 := Bool.eq_false_iff.mpr c3
  subst c3
  have H1 : (some 21) = some r := by rw [if_neg (show ¬ (false = true) by decide)] at H; exact H
  clear H
  have H := H1
  clear H1
  obtain rfl := Option.some.inj H
  go_enter Tryd.func63, Tryd.ntmps63
  go_wp2_with (first | ((with_reducible refine gate_dst (N := 1) rfl ?_); refine box_event ?hg (N := 1) ?hd (cs := #[.int .i64 a0_0, .int .i64 a0_1, .int .i64 a0_2, .int .i64 a0_3, .int .i64 a0_4, .int .i64 a0_5, .int .i64 a0_6]) (t := 23) ?hr ?_; (case hd => rfl); (case hg => rfl); (case hr => first | (go_simp; done) | (go_simp; rfl)); intro gb134 hg w16 hbox hb; have n0_ := Aside0.mk (below_step (by repeat (first | (with_reducible first | exact HB.out | apply below_alloc | apply pw_below_drewN | apply below_drew1) | exact HB.out)) hb); have n1_ := Aside0.mk (hbox); have n2_ := Aside0.mk ((by rw [hg]; exact (below_size (by repeat (first | (with_reducible first | exact HB.out | apply below_alloc | apply pw_below_drewN | apply below_drew1) | exact HB.out))) : w.heap.size ≤ gb134)); have n3_ := Aside0.mk ((by rw [hg]; exact (below_size (by repeat (first | (with_reducible first | exact HB.out | apply below_alloc | apply pw_below_drewN | apply below_drew1) | exact HB.out))) : w.heap.size ≤ gb134)); clear HB; have HB := n0_; have BK134 := n1_; have GW134 := n2_; have GE134 := n3_; clear n0_ n1_ n2_ n3_; clear hb hbox hg; have hcz17_0 : w16.cell? ⟨gb134, 0, none⟩ = some (.int .i64 a0_0) := (blk_cell BK134.out 0).trans rfl; have hcz17_1 : w16.cell? ⟨gb134, 1, none⟩ = some (.int .i64 a0_1) := (blk_cell BK134.out 1).trans rfl; have hcz17_2 : w16.cell? ⟨gb134, 2, none⟩ = some (.int .i64 a0_2) := (blk_cell BK134.out 2).trans rfl; have hcz17_3 : w16.cell? ⟨gb134, 3, none⟩ = some (.int .i64 a0_3) := (blk_cell BK134.out 3).trans rfl; have hcz17_4 : w16.cell? ⟨gb134, 4, none⟩ = some (.int .i64 a0_4) := (blk_cell BK134.out 4).trans rfl; have hcz17_5 : w16.cell? ⟨gb134, 5, none⟩ = some (.int .i64 a0_5) := (blk_cell BK134.out 5).trans rfl; have hcz17_6 : w16.cell? ⟨gb134, 6, none⟩ = some (.int .i64 a0_6) := (blk_cell BK134.out 6).trans rfl; have hfz17_0 := blk_frozen BK134.out 0; have hfz17_1 := blk_frozen BK134.out 1; have hfz17_2 := blk_frozen BK134.out 2; have hfz17_3 := blk_frozen BK134.out 3; have hfz17_4 := blk_frozen BK134.out 4; have hfz17_5 := blk_frozen BK134.out 5; have hfz17_6 := blk_frozen BK134.out 6) | ((with_reducible refine gate_callee (f := 46) rfl ?_); refine goesL_ (some 5) rfl rfl Tryd.func46 (by kernel_rfl) rfl #[.agg #[.int .i64 a0_0, .int .i64 a0_1, .int .i64 a0_2, .int .i64 a0_3, .int .i64 a0_4, .int .i64 a0_5, .int .i64 a0_6]] rfl (by (try simp only [List.map_toArray, List.map_cons, List.map_nil]); first | done | rfl | (simp only [List.length_drop, List.length_take]; rfl)) ?_; (with_reducible refine (moment_isDay.calls a0_0 a0_1 a0_2 a0_3 a0_4 a0_5 a0_6 false _ A2.out (by first | exact laid_below HL_.out (by repeat (first | (with_reducible first | exact HB.out | apply below_alloc | apply pw_below_drewN | apply below_drew1) | exact HB.out)) | exact laid_drawn HL_.out (by repeat (first | exact Drawn0.refl _ | apply Drawn0.step)))).mono ?_); rintro e w18 ⟨rfl, hb⟩; refine ⟨_, rfl, ?_⟩; have n0_ := Aside0.mk (blk_below (g := gb134) (o := .cells #[.int .i64 a0_0, .int .i64 a0_1, .int .i64 a0_2, .int .i64 a0_3, .int .i64 a0_4, .int .i64 a0_5, .int .i64 a0_6] 23 (0, 0)) (by (with_reducible repeat (first | refine blk_drewN ?_ _ | refine blk_drew ?_ | refine blk_alloc ?_ _)); exact BK134.out) hb); have n1_ := Aside0.mk (below_step (by repeat (first | (with_reducible first | exact HB.out | apply below_alloc | apply pw_below_drewN | apply below_drew1 | refine below_set ?_ GE134.out) | exact HB.out)) hb); clear BK134; clear HB; have BK134 := n0_; have HB := n1_; clear n0_ n1_; (try clear hb); (try clear hb2); (try clear hk); (try clear hi)))
  go_ret
  exact ⟨by first | rfl | (simp [errW_none, errW_some] <;> rfl) | (simp [*, errW_none, errW_some] <;> rfl), by repeat (first | (with_reducible first | exact HB.out | apply below_alloc | apply pw_below_drewN | apply below_drew1 | refine below_set ?_ GE134.out) | exact HB.out)⟩
end Go.Proofs.YtjlchnmpebdggaaDoor.Mo
end
section
namespace Go.Proofs.YtjlchnmpebdggaaDoor.Mo
open Go.RowKit Go.Proofs.YtjlchnmpebdggaaDoorW.PrintWords Go.Proofs.YtjlchnmpebdggaaDoorW.PrintLast Go.Proofs.YtjlchnmpebdggaaDoorW.PrintMore
attribute [local go_sem] max2_int min2_int max_two min_two max_three min_three max_four min_four   -- for this text's walks alone
set_option linter.unusedVariables false
set_option linter.unusedSimpArgs false
def moment_two.f (a0 : Int) : Option (ByteArray) := some (strOfNums (([(wrap64 (48 + (wrap64 (Int.tdiv a0 10)))) % 256, (wrap64 (48 + (Int.tmod a0 10))) % 256] : List Int)))
set_option maxHeartbeats 8000000 in
set_option maxRecDepth 100000 in
theorem moment_two.calls (a0 : Int) (r : ByteArray) (w : World) (h : moment_two.f a0 = some r) :
  Calls Tryd.prog 87 #[.int .i64 a0] w fun e w' => e = .returned (.string r) ∧ Below w.heap.size w w' := by
 have HB := Aside0.mk (Below.refl w.heap.size w)
 have H : (some (strOfNums (([(wrap64 (48 + (wrap64 (Int.tdiv a0 10)))) % 256, (wrap64 (48 + (Int.tmod a0 10))) % 256] : List Int)))) = some r := h
 clear h
 obtain ⟨y128, hy128⟩ : ∃ y_ : List Int, y_ = (([(wrap64 (48 + (wrap64 (Int.tdiv a0 10)))) % 256, (wrap64 (48 + (Int.tmod a0 10))) % 256] : List Int)) := ⟨_, rfl⟩
 replace H : (some (strOfNums y128)) = some r := by first | (rw [hy128]; with_reducible exact H) | (have H2_ := (Option.bind_some _ _).symm.trans H; rw [hy128]; with_reducible exact H2_) | (have H2_ := (Option.bind_some _ _).symm.trans H; with_reducible exact H2_) | with_reducible exact H | (rw [hy128]; exact H) | exact H
 have Ny128 := Aside0.mk hy128
 clear hy128
 obtain rfl := Option.some.inj H
 go_enter Tryd.func87, Tryd.ntmps87
 go_wp2_with (first | ((with_reducible refine gate_dst (N := 11) rfl ?_); refine Kd.R_lit (Kd.int .u8) _ 5 ?hg (N := 11) ?hd (xs := ([(wrap64 (48 + (wrap64 (Int.tdiv a0 10)))) % 256, (wrap64 (48 + (Int.tmod a0 10))) % 256] : List Int)) (inner := [.int .u8 ((wrap64 (48 + (wrap64 (Int.tdiv a0 10)))) % 256), .int .u8 ((wrap64 (48 + (Int.tmod a0 10))) % 256)]) (ok := fun _ => True) (okp := fun _ => True) ?hr ?hp (fun _ hk => hk) trivial (Below.refl _ _) (Nat.le_refl _) (by simp) ?_; (case hd => rfl); (case hg => rfl); (case hr => first | (go_simp; done) | (go_simp; rfl)); (case hp => exact (Reps.one (show Kd.M (Kd.int .u8) _ _ _ ((wrap64 (48 + (wrap64 (Int.tdiv a0 10)))) % 256) [.int .u8 ((wrap64 (48 + (wrap64 (Int.tdiv a0 10)))) % 256)] from rfl) (Reps.one (show Kd.M (Kd.int .u8) _ _ _ ((wrap64 (48 + (Int.tmod a0 10))) % 256) [.int .u8 ((wrap64 (48 + (Int.tmod a0 10))) % 256)] from rfl) (Reps.none _ _)))); intro v129 w2 ho3 hb hg_ hnew_; clear hg_ hnew_; (first | rw [← Ny128.out] at ho3 | (simp only [Int.reduceToNat] at ho3; rw [← Ny128.out] at ho3)); have n0_ := Aside0.mk (Kd.R_lower ho3 (below_size (by repeat (first | (with_reducible first | exact HB.out | apply below_alloc | apply pw_below_drewN | apply below_drew1) | exact HB.out)))); have n1_ := Aside0.mk (below_step (by repeat (first | (with_reducible first | exact HB.out | apply below_alloc | apply pw_below_drewN | apply below_drew1) | exact HB.out)) hb); clear HB; have HO130 := n0_; have HB := n1_; clear n0_ n1_; clear hb ho3; have hcv4 := own_string (P := Tryd.prog) Tryd.underlying58 Tryd.underlying5 Tryd.underlying9 (Kd.own_of_R HO130.out)))
 go_ret
 exact ⟨by first | rfl | (simp [errW_none, errW_some] <;> rfl) | (simp [*, errW_none, errW_some] <;> rfl), by repeat (first | (with_reducible first | exact HB.out | apply below_alloc | apply pw_below_drewN | apply below_drew1) | exact HB.out)⟩
def moment_plain.f (a0 : Int) : Option (ByteArray) := (moment_two.f a0).bind fun t131 => (if 0 < (t131.size : Int) then (if (bt t131 0) = 48 then (if 1 ≤ (t131.size : Int) then (some (t131.extract 1 t131.size)) else (none)) else (some t131)) else (none))
set_option maxHeartbeats 8000000 in
set_option maxRecDepth 100000 in
theorem moment_plain.calls (a0 : Int) (r : ByteArray) (w : World) (h : moment_plain.f a0 = some r) :
  Calls Tryd.prog 49 #[.int .i64 a0] w fun e w' => e = .returned (.string r) ∧ Below w.heap.size w w' := by
 have HB := Aside0.mk (Below.refl w.heap.size w)
 have H : ((moment_two.f a0).bind fun t131 => (if 0 < (t131.size : Int) then (if (bt t131 0) = 48 then (if 1 ≤ (t131.size : Int) then (some (t131.extract 1 t131.size)) else (none)) else (some t131)) else (none))) = some r := h
 clear h
 replace H := Option.bind_eq_some_iff.mp H
 obtain ⟨t131, A20, H⟩ := H
 replace H : (if 0 < (t131.size : Int) then (if (bt t131 0) = 48 then (if 1 ≤ (t131.size : Int) then (some (t131.extract 1 t131.size)) else (none)) else (some t131)) else (none)) = some r := H
 have A2 := Aside0.mk A20
 clear A20
 by_cases c3 : 0 < (t131.size : Int)
 ·rw [if_pos c3] at H
  have c3b0 : decide (0 < (t131.size : Int)) = true := decide_eq_true c3
  have c3b1 : decide (0 < t131.size) = true := decide_eq_true (by omega)
  clear c3
  by_cases c5 : (bt t131 0) = 48
  ·rw [if_pos c5] at H
   have c5b0 : ((bt t131 0) == 48) = true := beq_iff_eq.mpr c5
   have c5b1 : ((bt t131 0) != 48) = false := bne_eq_false_iff_eq.mpr c5
   clear c5
   by_cases c6 : 1 ≤ (t131.size : Int)
   ·rw [if_pos c6] at H
    have c6b0 := eq_true c6
    have c6b1 : decide (1 ≤ (t131.size : Int)) = true := decide_eq_true c6
    clear c6
    obtain rfl := Option.some.inj H
    go_enter Tryd.func49, Tryd.ntmps49
    go_wp2_with (first | ((with_reducible refine gate_callee (f := 87) rfl ?_); refine goesL_ (some 5) rfl rfl Tryd.func87 (by kernel_rfl) rfl #[.int .i64 a0] rfl (by (try simp only [List.map_toArray, List.map_cons, List.map_nil]); first | done | rfl | (simp only [List.length_drop, List.length_take]; rfl)) ?_; (with_reducible refine (moment_two.calls a0 t131 _ A2.out).mono ?_); rintro e w7 ⟨rfl, hb⟩; refine ⟨_, rfl, ?_⟩; have n0_ := Aside0.mk (below_step (by repeat (first | (with_reducible first | exact HB.out | apply below_alloc | apply pw_below_drewN | apply below_drew1) | exact HB.out)) hb); clear HB; have HB := n0_; clear n0_; (try clear hb); (try clear hb2); (try clear hk); (try clear hi); have p4 : 0 ≤ (0 : Int) := (by omega); have q4 : 0 < t131.size := (by have : (0 : Int) < (t131.size : Int) := of_decide_eq_true (by first | (with_reducible assumption) | assumption); omega); have hx4 : ∀ h : 0 < t131.size, ((t131[0]'h).toNat : Int) = bt t131 0 := bt_at t131 0; clear p4; have qi4 : (0 < (t131.size : Int)) = True := eq_true (of_decide_eq_true (by first | (with_reducible assumption) | assumption)); replace q4 := eq_true q4))
    go_ret
    exact ⟨by first | rfl | (simp [errW_none, errW_some] <;> rfl) | (simp [*, errW_none, errW_some] <;> rfl), by repeat (first | (with_reducible first | exact HB.out | apply below_alloc | apply pw_below_drewN | apply below_drew1) | exact HB.out)⟩
   ·rw [if_neg c6] at H
    exact absurd H (by simp)
  ·rw [if_neg c5] at H
   have c5b0 : ((bt t131 0) == 48) = false := beq_eq_false_iff_ne.mpr c5
   have c5b1 : ((bt t131 0) != 48) = true := bne_iff_ne.mpr c5
   obtain rfl := Option.some.inj H
   go_enter Tryd.func49, Tryd.ntmps49
   go_wp2_with (first | ((with_reducible refine gate_callee (f := 87) rfl ?_); refine goesL_ (some 5) rfl rfl Tryd.func87 (by kernel_rfl) rfl #[.int .i64 a0] rfl (by (try simp only [List.map_toArray, List.map_cons, List.map_nil]); first | done | rfl | (simp only [List.length_drop, List.length_take]; rfl)) ?_; (with_reducible refine (moment_two.calls a0 t131 _ A2.out).mono ?_); rintro e w8 ⟨rfl, hb⟩; refine ⟨_, rfl, ?_⟩; have n0_ := Aside0.mk (below_step (by repeat (first | (with_reducible first | exact HB.out | apply below_alloc | apply pw_below_drewN | apply below_drew1) | exact HB.out)) hb); clear HB; have HB := n0_; clear n0_; (try clear hb); (try clear hb2); (try clear hk); (try clear hi); have p4 : 0 ≤ (0 : Int) := (by omega); have q4 : 0 < t131.size := (by have : (0 : Int) < (t131.size : Int) := of_decide_eq_true (by first | (with_reducible assumption) | assumption); omega); have hx4 : ∀ h : 0 < t131.size, ((t131[0]'h).toNat : Int) = bt t131 0 := bt_at t131 0; clear p4; have qi4 : (0 < (t131.size : Int)) = True := eq_true (of_decide_eq_true (by first | (with_reducible assumption) | assumption)); replace q4 := eq_true q4))
   go_ret
   exact ⟨by first | rfl | (simp [errW_none, errW_some] <;> rfl) | (simp [*, errW_none, errW_some] <;> rfl), by repeat (first | (with_reducible first | exact HB.out | apply below_alloc | apply pw_below_drewN | apply below_drew1) | exact HB.out)⟩
 ·rw [if_neg c3] at H
  exact absurd H (by simp)
def moment_four.f (a0 : Int) : Option (ByteArray) := (moment_two.f (wrap64 (Int.tdiv a0 100))).bind fun t132 => ((moment_two.f (Int.tmod a0 100)).bind fun t133 => (if t132.size + t133.size ≤ 9223372036854775807 then (some (t132 ++ t133)) else (none)))
set_option maxHeartbeats 8000000 in
set_option maxRecDepth 100000 in
theorem moment_four.calls (a0 : Int) (r : ByteArray) (w : World) (h : moment_four.f a0 = some r) :
  Calls Tryd.prog 67 #[.int .i64 a0] w fun e w' => e = .returned (.string r) ∧ Below w.heap.size w w' := by
 have HB := Aside0.mk (Below.refl w.heap.size w)
 have H : ((moment_two.f (wrap64 (Int.tdiv a0 100))).bind fun t132 => ((moment_two.f (Int.tmod a0 100)).bind fun t133 => (if t132.size + t133.size ≤ 9223372036854775807 then (some (t132 ++ t133)) else (none)))) = some r := h
 clear h
 replace H := Option.bind_eq_some_iff.mp H
 obtain ⟨t132, A20, H⟩ := H
 replace H : ((moment_two.f (Int.tmod a0 100)).bind fun t133 => (if t132.size + t133.size ≤ 9223372036854775807 then (some (t132 ++ t133)) else (none))) = some r := H
 have A2 := Aside0.mk A20
 clear A20
 replace H := Option.bind_eq_some_iff.mp H
 obtain ⟨t133, A30, H⟩ := H
 replace H : (if t132.size + t133.size ≤ 9223372036854775807 then (some (t132 ++ t133)) else (none)) = some r := H
 have A3 := Aside0.mk A30
 clear A30
 by_cases c4 : t132.size + t133.size ≤ 9223372036854775807
 ·rw [if_pos c4] at H
  have c4b0 := eq_true c4
  have c4b1 : decide (t132.size + t133.size ≤ 9223372036854775807) = true := decide_eq_true c4
  try have c4b2 : (9223372036854775807 < t132.size + t133.size) = False := eq_false (Nat.not_lt.2 c4)
  obtain rfl := Option.some.inj H
  go_enter Tryd.func67, Tryd.ntmps67
  go_wp2_with (first | ((with_reducible refine gate_callee (f := 87) rfl ?_); refine goesL_ (some 5) rfl rfl Tryd.func87 (by kernel_rfl) rfl #[.int .i64 (wrap64 (Int.tdiv a0 100))] rfl (by (try simp only [List.map_toArray, List.map_cons, List.map_nil]); first | done | rfl | (simp only [List.length_drop, List.length_take]; rfl)) ?_; (with_reducible refine (moment_two.calls (wrap64 (Int.tdiv a0 100)) t132 _ A2.out).mono ?_); rintro e w5 ⟨rfl, hb⟩; refine ⟨_, rfl, ?_⟩; have n0_ := Aside0.mk (below_step (by repeat (first | (with_reducible first | exact HB.out | apply below_alloc | apply pw_below_drewN | apply below_drew1) | exact HB.out)) hb); clear HB; have HB := n0_; clear n0_; (try clear hb); (try clear hb2); (try clear hk); (try clear hi)) | ((with_reducible refine gate_callee (f := 87) rfl ?_); refine goesL_ (some 8) rfl rfl Tryd.func87 (by kernel_rfl) rfl #[.int .i64 (Int.tmod a0 100)] rfl (by (try simp only [List.map_toArray, List.map_cons, List.map_nil]); first | done | rfl | (simp only [List.length_drop, List.length_take]; rfl)) ?_; (with_reducible refine (moment_two.calls (Int.tmod a0 100) t133 _ A3.out).mono ?_); rintro e w6 ⟨rfl, hb⟩; refine ⟨_, rfl, ?_⟩; have n0_ := Aside0.mk (below_step (by repeat (first | (with_reducible first | exact HB.out | apply below_alloc | apply pw_below_drewN | apply below_drew1) | exact HB.out)) hb); clear HB; have HB := n0_; clear n0_; (try clear hb); (try clear hb2); (try clear hk); (try clear hi)))
  go_ret
  exact ⟨by first | rfl | (simp [errW_none, errW_some] <;> rfl) | (simp [*, errW_none, errW_some] <;> rfl), by repeat (first | (with_reducible first | exact HB.out | apply below_alloc | apply pw_below_drewN | apply below_drew1) | exact HB.out)⟩
 ·rw [if_neg c4] at H
  exact absurd H (by simp)
end Go.Proofs.YtjlchnmpebdggaaDoor.Mo
end
section
namespace Go.Proofs.YtjlchnmpebdggaaDoor.Mo
open Go.RowKit Go.Proofs.YtjlchnmpebdggaaDoorW.PrintWords
def monthL : List ByteArray := [⟨#[74, 97, 110]⟩, ⟨#[70, 101, 98]⟩, ⟨#[77, 97, 114]⟩, ⟨#[65, 112, 114]⟩, ⟨#[77, 97, 121]⟩, ⟨#[74, 117, 110]⟩, ⟨#[74, 117, 108]⟩, ⟨#[65, 117, 103]⟩, ⟨#[83, 101, 112]⟩, ⟨#[79, 99, 116]⟩, ⟨#[78, 111, 118]⟩, ⟨#[68, 101, 99]⟩]
def weekL : List ByteArray := [⟨#[83, 117, 110]⟩, ⟨#[77, 111, 110]⟩, ⟨#[84, 117, 101]⟩, ⟨#[87, 101, 100]⟩, ⟨#[84, 104, 117]⟩, ⟨#[70, 114, 105]⟩, ⟨#[83, 97, 116]⟩]
theorem months_calls (w : World) : Calls Tryd.prog 66 #[] w fun e w' => e = .returned (.agg #[.string ⟨#[74, 97, 110]⟩, .string ⟨#[70, 101, 98]⟩, .string ⟨#[77, 97, 114]⟩, .string ⟨#[65, 112, 114]⟩, .string ⟨#[77, 97, 121]⟩, .string ⟨#[74, 117, 110]⟩, .string ⟨#[74, 117, 108]⟩, .string ⟨#[65, 117, 103]⟩, .string ⟨#[83, 101, 112]⟩, .string ⟨#[79, 99, 116]⟩, .string ⟨#[78, 111, 118]⟩, .string ⟨#[68, 101, 99]⟩]) ∧ Below w.heap.size w w' := by
  go_enter Tryd.func66, Tryd.ntmps66
  go_wp2
  exact bodyPost_ret (v := .agg #[.string ⟨#[74, 97, 110]⟩, .string ⟨#[70, 101, 98]⟩, .string ⟨#[77, 97, 114]⟩, .string ⟨#[65, 112, 114]⟩, .string ⟨#[77, 97, 121]⟩, .string ⟨#[74, 117, 110]⟩, .string ⟨#[74, 117, 108]⟩, .string ⟨#[65, 117, 103]⟩, .string ⟨#[83, 101, 112]⟩, .string ⟨#[79, 99, 116]⟩, .string ⟨#[78, 111, 118]⟩, .string ⟨#[68, 101, 99]⟩]) (by simp [results, Tryd.results66, go_sem]) rfl ⟨rfl, (Below.refl _ _).alloc (Nat.le_refl _) _⟩
theorem weekdays_calls (w : World) : Calls Tryd.prog 65 #[] w fun e w' => e = .returned (.agg #[.string ⟨#[83, 117, 110]⟩, .string ⟨#[77, 111, 110]⟩, .string ⟨#[84, 117, 101]⟩, .string ⟨#[87, 101, 100]⟩, .string ⟨#[84, 104, 117]⟩, .string ⟨#[70, 114, 105]⟩, .string ⟨#[83, 97, 116]⟩]) ∧ Below w.heap.size w w' := by
  go_enter Tryd.func65, Tryd.ntmps65
  go_wp2
  exact bodyPost_ret (v := .agg #[.string ⟨#[83, 117, 110]⟩, .string ⟨#[77, 111, 110]⟩, .string ⟨#[84, 117, 101]⟩, .string ⟨#[87, 101, 100]⟩, .string ⟨#[84, 104, 117]⟩, .string ⟨#[70, 114, 105]⟩, .string ⟨#[83, 97, 116]⟩]) (by simp [results, Tryd.results65, go_sem]) rfl ⟨rfl, (Below.refl _ _).alloc (Nat.le_refl _) _⟩
theorem month_index (w : World) (n : Nat) (h : n < 12) : (Instr.index 71 (.agg #[.string ⟨#[74, 97, 110]⟩, .string ⟨#[70, 101, 98]⟩, .string ⟨#[77, 97, 114]⟩, .string ⟨#[65, 112, 114]⟩, .string ⟨#[77, 97, 121]⟩, .string ⟨#[74, 117, 110]⟩, .string ⟨#[74, 117, 108]⟩, .string ⟨#[65, 117, 103]⟩, .string ⟨#[83, 101, 112]⟩, .string ⟨#[79, 99, 116]⟩, .string ⟨#[78, 111, 118]⟩, .string ⟨#[68, 101, 99]⟩]) (.int .i64 (n : Int))).run Tryd.prog w = .ok (.string (monthL.getD n ⟨#[]⟩)) w := by
  have : n = 0 ∨ n = 1 ∨ n = 2 ∨ n = 3 ∨ n = 4 ∨ n = 5 ∨ n = 6 ∨ n = 7 ∨ n = 8 ∨ n = 9 ∨ n = 10 ∨ n = 11 := by omega
  rcases this with rfl | rfl | rfl | rfl | rfl | rfl | rfl | rfl | rfl | rfl | rfl | rfl <;> (show _ = _; kernel_rfl)
theorem week_index (w : World) (n : Nat) (h : n < 7) : (Instr.index 69 (.agg #[.string ⟨#[83, 117, 110]⟩, .string ⟨#[77, 111, 110]⟩, .string ⟨#[84, 117, 101]⟩, .string ⟨#[87, 101, 100]⟩, .string ⟨#[84, 104, 117]⟩, .string ⟨#[70, 114, 105]⟩, .string ⟨#[83, 97, 116]⟩]) (.int .i64 (n : Int))).run Tryd.prog w = .ok (.string (weekL.getD n ⟨#[]⟩)) w := by
  have : n = 0 ∨ n = 1 ∨ n = 2 ∨ n = 3 ∨ n = 4 ∨ n = 5 ∨ n = 6 := by omega
  rcases this with rfl | rfl | rfl | rfl | rfl | rfl | rfl <;> (show _ = _; kernel_rfl)
theorem month_size (n : Nat) (h : n < 12) : (monthL.getD n ⟨#[]⟩).size = 3 := by
  have : n = 0 ∨ n = 1 ∨ n = 2 ∨ n = 3 ∨ n = 4 ∨ n = 5 ∨ n = 6 ∨ n = 7 ∨ n = 8 ∨ n = 9 ∨ n = 10 ∨ n = 11 := by omega
  rcases this with rfl | rfl | rfl | rfl | rfl | rfl | rfl | rfl | rfl | rfl | rfl | rfl <;> rfl
theorem week_size (n : Nat) (h : n < 7) : (weekL.getD n ⟨#[]⟩).size = 3 := by
  have : n = 0 ∨ n = 1 ∨ n = 2 ∨ n = 3 ∨ n = 4 ∨ n = 5 ∨ n = 6 := by omega
  rcases this with rfl | rfl | rfl | rfl | rfl | rfl | rfl <;> rfl
theorem month_cells {w : World} {g t : Nat} (h : w.heap[g]? = some (.cells #[.string ⟨#[74, 97, 110]⟩, .string ⟨#[70, 101, 98]⟩, .string ⟨#[77, 97, 114]⟩, .string ⟨#[65, 112, 114]⟩, .string ⟨#[77, 97, 121]⟩, .string ⟨#[74, 117, 110]⟩, .string ⟨#[74, 117, 108]⟩, .string ⟨#[65, 117, 103]⟩, .string ⟨#[83, 101, 112]⟩, .string ⟨#[79, 99, 116]⟩, .string ⟨#[78, 111, 118]⟩, .string ⟨#[68, 101, 99]⟩] t (0, 0))) (j : Nat) (x : ByteArray) (hx : monthL[j]? = some x) : w.cell? ⟨g, j, none⟩ = some (.string x) := by
  rw [cell_of_row w g j _ t (0, 0) h]
  show ((monthL.map Value.string).toArray)[j]? = _
  rw [List.getElem?_toArray, List.getElem?_map, hx]
  rfl
theorem week_cells {w : World} {g t : Nat} (h : w.heap[g]? = some (.cells #[.string ⟨#[83, 117, 110]⟩, .string ⟨#[77, 111, 110]⟩, .string ⟨#[84, 117, 101]⟩, .string ⟨#[87, 101, 100]⟩, .string ⟨#[84, 104, 117]⟩, .string ⟨#[70, 114, 105]⟩, .string ⟨#[83, 97, 116]⟩] t (0, 0))) (j : Nat) (x : ByteArray) (hx : weekL[j]? = some x) : w.cell? ⟨g, j, none⟩ = some (.string x) := by
  rw [cell_of_row w g j _ t (0, 0) h]
  show ((weekL.map Value.string).toArray)[j]? = _
  rw [List.getElem?_toArray, List.getElem?_map, hx]
  rfl
theorem month_small : ∀ x ∈ monthL, x.size ≤ 1000 := by
  intro x hx
  obtain ⟨n, hn, rfl⟩ := List.getElem_of_mem hx
  have := month_size n hn
  rw [List.getD_eq_getElem?_getD, List.getElem?_eq_getElem hn] at this
  have h2 : (monthL[n]).size = 3 := this
  omega
theorem week_small : ∀ x ∈ weekL, x.size ≤ 1000 := by
  intro x hx
  obtain ⟨n, hn, rfl⟩ := List.getElem_of_mem hx
  have := week_size n hn
  rw [List.getD_eq_getElem?_getD, List.getElem?_eq_getElem hn] at this
  have h2 : (weekL[n]).size = 3 := this
  omega
def twoP (n : Int) : ByteArray := strOfNums [(wrap64 (48 + (wrap64 (Int.tdiv n 10)))) % 256, (wrap64 (48 + (Int.tmod n 10))) % 256]
theorem two_f (n : Int) : moment_two.f n = some (twoP n) := rfl
theorem twoP_size (n : Int) : (twoP n).size = 2 := rfl
def fourP (n : Int) : ByteArray := twoP (wrap64 (Int.tdiv n 100)) ++ twoP (Int.tmod n 100)
theorem four_f (n : Int) : moment_four.f n = some (fourP n) := by
  unfold moment_four.f
  rw [two_f, two_f, Option.bind_some, Option.bind_some, if_pos (by rw [twoP_size, twoP_size]; omega)]
  rfl
theorem fourP_size (n : Int) : (fourP n).size = 4 := by unfold fourP; rw [ByteArray.size_append, twoP_size, twoP_size]
def dashP (y m : Int) : ByteArray := (⟨#[45]⟩ : ByteArray) ++ monthL.getD (m - 1).toNat ⟨#[]⟩ ++ (⟨#[45]⟩ : ByteArray) ++ fourP y
def moment_dashed.f (a0_0 a0_1 _a0_2 _a0_3 _a0_4 _a0_5 _a0_6 : Int) : Option ByteArray := if 1 ≤ a0_1 ∧ a0_1 ≤ 12 then some (dashP a0_0 a0_1) else none
set_option maxHeartbeats 1000000 in
set_option maxRecDepth 100000 in
theorem moment_dashed.calls (a0_0 a0_1 a0_2 a0_3 a0_4 a0_5 a0_6 : Int) (r : ByteArray) (w : World) (h : moment_dashed.f a0_0 a0_1 a0_2 a0_3 a0_4 a0_5 a0_6 = some r) :
    Calls Tryd.prog 50 #[.agg #[.int .i64 a0_0, .int .i64 a0_1, .int .i64 a0_2, .int .i64 a0_3, .int .i64 a0_4, .int .i64 a0_5, .int .i64 a0_6]] w fun e w' => e = .returned (.string r) ∧ Below w.heap.size w w' := by
  unfold moment_dashed.f at h
  by_cases hm : 1 ≤ a0_1 ∧ a0_1 ≤ 12
  · rw [if_pos hm] at h
    obtain rfl := Option.some.inj h
    obtain ⟨n, rfl⟩ : ∃ n : Nat, a0_1 = n + 1 := ⟨(a0_1 - 1).toNat, by omega⟩
    have hn : n < 12 := by omega
    have hd : Hid (dashP a0_0 ((n : Int) + 1) = (⟨#[45]⟩ : ByteArray) ++ monthL.getD n ⟨#[]⟩ ++ (⟨#[45]⟩ : ByteArray) ++ fourP a0_0) := by
      show dashP a0_0 ((n : Int) + 1) = _; unfold dashP; congr 4; simp
    have hn0 : (0 : Int) ≤ (n : Int) := by omega
    have hn1 : (n : Int) < 12 := by omega
    have hwr : IntKind.i64.wrap (n : Int) = (n : Int) := IntWalk.i64_in _ (by omega)
    have hms := month_size n hn
    have hfs := fourP_size a0_0
    have hix := fun w => month_index w n hn
    have hF := Lib.hid (four_f a0_0)
    generalize monthL.getD n ⟨#[]⟩ = mn at *
    generalize fourP a0_0 = fy at *
    clear h
    go_enter Tryd.func50, Tryd.ntmps50
    go_wp2_with fail
    go_region_held3 (fun w' => w'.cell? ⟨w.heap.size, 0, none⟩ = some (.int .i64 a0_0) ∧ w'.cell? ⟨w.heap.size, 1, none⟩ = some (.int .i64 ((n : Int) + 1))) (go_keep)
      (first | (go_at_call 66; refine (months_calls _).mono ?_; rintro e w1 ⟨rfl, hb1⟩; have k0 := pw_cell_below hb1 (a := ⟨w.heap.size, 0, none⟩) (v := .int .i64 a0_0) (by first | assumption | go_simp); have k1 := pw_cell_below hb1 (a := ⟨w.heap.size, 1, none⟩) (v := .int .i64 ((n : Int) + 1)) (by first | assumption | go_simp)) | (go_at_call 67; refine (moment_four.calls _ _ _ hF.out).mono ?_; rintro e w2 ⟨rfl, hb2⟩; have k2 := pw_cell_below hb2 (a := ⟨w.heap.size, 0, none⟩) (v := .int .i64 a0_0) (by first | assumption | go_simp); have k3 := pw_cell_below hb2 (a := ⟨w.heap.size, 1, none⟩) (v := .int .i64 ((n : Int) + 1)) (by first | assumption | go_simp)))
    all_goals go_wp2
    all_goals go_ret
    all_goals exact ⟨by rw [hd.out]; rfl, by repeat (first | (with_reducible first | exact Below.refl _ _ | apply below_alloc | apply pw_below_drewN | apply below_drew | refine below_step ?_ hb2 | refine below_step ?_ hb1))⟩
  · rw [if_neg hm] at h
    exact absurd h (by simp)
end Go.Proofs.YtjlchnmpebdggaaDoor.Mo
end
section
namespace Go.Proofs.YtjlchnmpebdggaaDoor.Mo
open Go.RowKit Go.Proofs.YtjlchnmpebdggaaDoorW.PrintWords
def isDayB (y m d : Int) : Bool := decide (1 ≤ y ∧ y ≤ 9999 ∧ 1 ≤ m ∧ m ≤ 12 ∧ 1 ≤ d ∧ d ≤ lengthP y m)
def timeB (h mi s z : Int) : Bool := decide (0 ≤ h ∧ h ≤ 23 ∧ 0 ≤ mi ∧ mi ≤ 59 ∧ 0 ≤ s ∧ s ≤ 59 ∧ -1439 ≤ z ∧ z ≤ 1439)
def validB (y m d h mi s z : Int) : Bool := isDayB y m d && timeB h mi s z
theorem isDay_iff (y m d : Int) : isDayB y m d = true ↔ 1 ≤ y ∧ y ≤ 9999 ∧ 1 ≤ m ∧ m ≤ 12 ∧ 1 ≤ d ∧ d ≤ lengthP y m := by simp [isDayB]
theorem time_iff (h mi s z : Int) : timeB h mi s z = true ↔ 0 ≤ h ∧ h ≤ 23 ∧ 0 ≤ mi ∧ mi ≤ 59 ∧ 0 ≤ s ∧ s ≤ 59 ∧ -1439 ≤ z ∧ z ≤ 1439 := by simp [timeB]
theorem valid_iff (y m d h mi s z : Int) : validB y m d h mi s z = true ↔ isDayB y m d = true ∧ timeB h mi s z = true := by simp [validB]
theorem isDay_f (y m d h mi s z : Int) : moment_isDay.f y m d h mi s z = some (isDayB y m d) := by
  unfold moment_isDay.f
  by_cases h1 : y < 1
  · rw [if_pos h1, (show isDayB y m d = false from Bool.eq_false_iff.2 (fun h => by have := (isDay_iff y m d).1 h; omega))]
  · rw [if_neg h1]
    by_cases h2 : y > 9999
    · rw [if_pos h2, (show isDayB y m d = false from Bool.eq_false_iff.2 (fun h => by have := (isDay_iff y m d).1 h; omega))]
    · rw [if_neg h2]
      by_cases h3 : m < 1
      · rw [if_pos h3, (show isDayB y m d = false from Bool.eq_false_iff.2 (fun h => by have := (isDay_iff y m d).1 h; omega))]
      · rw [if_neg h3]
        by_cases h4 : m > 12
        · rw [if_pos h4, (show isDayB y m d = false from Bool.eq_false_iff.2 (fun h => by have := (isDay_iff y m d).1 h; omega))]
        · rw [if_neg h4]
          by_cases h5 : d ≥ 1
          · rw [if_pos h5]
            unfold moment_length.f
            rw [if_pos ⟨by omega, by omega⟩]
            simp only [Option.bind_some]
            unfold isDayB
            congr 1
            apply decide_eq_decide.2
            constructor
            · intro h; exact ⟨by omega, by omega, by omega, by omega, h5, h⟩
            · intro h; exact h.2.2.2.2.2
          · rw [if_neg h5, (show isDayB y m d = false from Bool.eq_false_iff.2 (fun h => by have := (isDay_iff y m d).1 h; omega))]
theorem valid_f (y m d h mi s z : Int) : moment_Valid.f y m d h mi s z = some (validB y m d h mi s z) := by
  unfold moment_Valid.f validB
  rw [isDay_f]
  simp only [Option.bind_some]
  cases isDayB y m d with
  | false => rw [if_neg (by simp)]; rfl
  | true =>
    rw [if_pos rfl, Bool.true_and]
    have hf : ∀ (p : Prop), (timeB h mi s z = true → ¬ p) → p → timeB h mi s z = false := fun p h1 h2 => Bool.eq_false_iff.2 (fun h => h1 h h2)
    have hi := time_iff h mi s z
    by_cases h1 : h < 0
    · rw [if_pos h1, hf (h < 0) (fun q => by have := hi.1 q; omega) h1]
    · rw [if_neg h1]
      by_cases h2 : h > 23
      · rw [if_pos h2, hf (h > 23) (fun q => by have := hi.1 q; omega) h2]
      · rw [if_neg h2]
        by_cases h3 : mi < 0
        · rw [if_pos h3, hf (mi < 0) (fun q => by have := hi.1 q; omega) h3]
        · rw [if_neg h3]
          by_cases h4 : mi > 59
          · rw [if_pos h4, hf (mi > 59) (fun q => by have := hi.1 q; omega) h4]
          · rw [if_neg h4]
            by_cases h5 : s < 0
            · rw [if_pos h5, hf (s < 0) (fun q => by have := hi.1 q; omega) h5]
            · rw [if_neg h5]
              by_cases h6 : s > 59
              · rw [if_pos h6, hf (s > 59) (fun q => by have := hi.1 q; omega) h6]
              · rw [if_neg h6]
                by_cases h7 : z ≥ (-1439)
                · rw [if_pos h7]
                  congr 1
                  unfold timeB
                  apply decide_eq_decide.2
                  constructor
                  · intro q; exact ⟨by omega, by omega, by omega, by omega, by omega, by omega, by omega, q⟩
                  · intro q; exact q.2.2.2.2.2.2.2
                · rw [if_neg h7, hf (¬ z ≥ (-1439)) (fun q => by have := hi.1 q; omega) h7]
def refuseP (y m d h mi s z : Int) : Int := if isDayB y m d = true then (if validB y m d h mi s z = true then 0 else 20) else 21
theorem refused_f (y m d h mi s z : Int) : moment_refused.f y m d h mi s z = some (refuseP y m d h mi s z) := by
  unfold moment_refused.f refuseP
  rw [isDay_f, valid_f]
  simp only [Option.bind_some]
  split
  · split <;> rfl
  · rfl
def plainP (d : Int) : ByteArray := if bt (twoP d) 0 = 48 then (twoP d).extract 1 2 else twoP d
theorem plain_f (d : Int) : moment_plain.f d = some (plainP d) := by
  unfold moment_plain.f plainP
  rw [two_f]
  simp only [Option.bind_some]
  rw [if_pos (by rw [twoP_size]; omega)]
  split
  · rw [if_pos (by rw [twoP_size]; omega), twoP_size]
  · rfl
theorem plainP_size (d : Int) : (plainP d).size = 1 ∨ (plainP d).size = 2 := by
  unfold plainP
  split
  · left; rw [ByteArray.size_extract, twoP_size]; rfl
  · right; exact twoP_size d
def padP (d : Int) : ByteArray := if (plainP d).size = 1 then ⟨#[32]⟩ ++ plainP d else plainP d
end Go.Proofs.YtjlchnmpebdggaaDoor.Mo
end
section
namespace Go.Proofs.YtjlchnmpebdggaaDoor.Mo
open Go.RowKit Go.Proofs.YtjlchnmpebdggaaDoorW.PrintWords Go.Proofs.YtjlchnmpebdggaaDoorW.PrintLast Go.Proofs.YtjlchnmpebdggaaDoorW.PrintMore
attribute [local go_sem] max2_int min2_int max_two min_two max_three min_three max_four min_four   -- for this text's walks alone
set_option linter.unusedVariables false
set_option linter.unusedSimpArgs false
end Go.Proofs.YtjlchnmpebdggaaDoor.Mo
end
section
namespace Go.Proofs.YtjlchnmpebdggaaDoor.Mo
open Go.RowKit Go.Proofs.YtjlchnmpebdggaaDoorW.PrintWords Go.Proofs.YtjlchnmpebdggaaDoorW.PrintLast Go.Proofs.YtjlchnmpebdggaaDoorW.PrintMore
attribute [local go_sem] max2_int min2_int max_two min_two max_three min_three max_four min_four   -- for this text's walks alone
set_option linter.unusedVariables false
set_option linter.unusedSimpArgs false
end Go.Proofs.YtjlchnmpebdggaaDoor.Mo
end
section
namespace Go.Proofs.YtjlchnmpebdggaaDoor.Mo
open Go.RowKit Go.Proofs.YtjlchnmpebdggaaDoorW.PrintWords Go.Proofs.YtjlchnmpebdggaaDoorW.PrintLast Go.Proofs.YtjlchnmpebdggaaDoorW.PrintMore
attribute [local go_sem] max2_int min2_int max_two min_two max_three min_three max_four min_four   -- for this text's walks alone
set_option linter.unusedVariables false
set_option linter.unusedSimpArgs false
end Go.Proofs.YtjlchnmpebdggaaDoor.Mo
end
section
namespace Go.Proofs.YtjlchnmpebdggaaDoor.Mo
open Go.RowKit Go.Proofs.YtjlchnmpebdggaaDoorW.PrintWords Go.Proofs.YtjlchnmpebdggaaDoorW.PrintLast Go.Proofs.YtjlchnmpebdggaaDoorW.PrintMore
attribute [local go_sem] max2_int min2_int max_two min_two max_three min_three max_four min_four   -- for this text's walks alone
set_option linter.unusedVariables false
set_option linter.unusedSimpArgs false
def moment_Stamp.f (k : Nat) (a0_0 : Int) (a0_1 : Int) (a0_2 : Int) (a0_3 : Int) (a0_4 : Int) (a0_5 : Int) (a0_6 : Int) : Option (Int) := (moment_Valid.f a0_0 a0_1 a0_2 a0_3 a0_4 a0_5 a0_6).bind fun t175 => (if t175 = true then ((moment_Days.f k a0_0 a0_1 a0_2 a0_3 a0_4 a0_5 a0_6).bind fun t176 => (some (wrap64 ((wrap64 ((wrap64 ((wrap64 ((wrap64 (86400 * t176)) + (wrap64 (3600 * a0_3)))) + (wrap64 (60 * a0_4)))) + a0_5)) - (wrap64 (60 * a0_6)))))) else (some 0))
def moment_Stamp.T3 : Bool × List (List Nat × List Nat) := (true, [([], []), ([0], [0]), ([1], [1]), ([], []), ([3], [3]), ([4], [4]), ([2, 5], [2, 5]), ([], []), ([7], [7]), ([8], [8]), ([6, 9], [6, 9]), ([], []), ([11], [11]), ([10, 12], [10, 12]), ([], []), ([14], [14]), ([15], [15]), ([13, 16], [13, 16]), ([17, 1, 0, 1, 2, 3, 4, 5, 6, 7, 8, 9, 10, 11, 12, 13, 14, 15, 16, 17], [17])])
def moment_Stamp.B3 : List Nat := [0, 1, 3, 0, 8, 24, 63, 0, 128, 384, 1023, 0, 2048, 8191, 0, 16384, 49152, 131071, 262143]
theorem moment_Stamp.tab3 : rtab .any (opsOf Tryd.f22 3) = moment_Stamp.T3 := by kernel_rfl
theorem moment_Stamp.bits3 : waitsOk moment_Stamp.T3.2 moment_Stamp.B3 = true := by kernel_rfl
set_option maxHeartbeats 8000000 in
set_option maxRecDepth 100000 in
theorem moment_Stamp.calls (k : Nat) (a0_0 : Int) (a0_1 : Int) (a0_2 : Int) (a0_3 : Int) (a0_4 : Int) (a0_5 : Int) (a0_6 : Int) (r : Int) (w : World) (h : moment_Stamp.f k a0_0 a0_1 a0_2 a0_3 a0_4 a0_5 a0_6 = some r) (hL_ : Laid w) :
  Calls Tryd.prog 22 #[.agg #[.int .i64 a0_0, .int .i64 a0_1, .int .i64 a0_2, .int .i64 a0_3, .int .i64 a0_4, .int .i64 a0_5, .int .i64 a0_6]] w fun e w' => e = .returned (.int .i64 r) ∧ Below w.heap.size w w' := by
 have HL_ := Aside0.mk hL_
 clear hL_
 have hu23 := Tryd.underlying23
 have HB := Aside0.mk (Below.refl w.heap.size w)
 have H : ((moment_Valid.f a0_0 a0_1 a0_2 a0_3 a0_4 a0_5 a0_6).bind fun t175 => (if t175 = true then ((moment_Days.f k a0_0 a0_1 a0_2 a0_3 a0_4 a0_5 a0_6).bind fun t176 => (some (wrap64 ((wrap64 ((wrap64 ((wrap64 ((wrap64 (86400 * t176)) + (wrap64 (3600 * a0_3)))) + (wrap64 (60 * a0_4)))) + a0_5)) - (wrap64 (60 * a0_6)))))) else (some 0))) = some r := h
 clear h
 replace H := Option.bind_eq_some_iff.mp H
 obtain ⟨t175, A20, H⟩ := H
 replace H : (if t175 = true then ((moment_Days.f k a0_0 a0_1 a0_2 a0_3 a0_4 a0_5 a0_6).bind fun t176 => (some (wrap64 ((wrap64 ((wrap64 ((wrap64 ((wrap64 (86400 * t176)) + (wrap64 (3600 * a0_3)))) + (wrap64 (60 * a0_4)))) + a0_5)) - (wrap64 (60 * a0_6)))))) else (some 0)) = some r := H
 have A2 := Aside0.mk A20
 clear A20
 by_cases c3 : t175 = true
 ·subst c3
  have H1 : ((moment_Days.f k a0_0 a0_1 a0_2 a0_3 a0_4 a0_5 a0_6).bind fun t176 => (some (wrap64 ((wrap64 ((wrap64 ((wrap64 ((wrap64 (86400 * t176)) + (wrap64 (3600 * a0_3)))) + (wrap64 (60 * a0_4)))) + a0_5)) - (wrap64 (60 * a0_6)))))) = some r := by rw [if_pos rfl] at H; exact H
  clear H
  have H := H1
  clear H1
  replace H := Option.bind_eq_some_iff.mp H
  obtain ⟨t176, A40, H⟩ := H
  replace H : (some (wrap64 ((wrap64 ((wrap64 ((wrap64 ((wrap64 (86400 * t176)) + (wrap64 (3600 * a0_3)))) + (wrap64 (60 * a0_4)))) + a0_5)) - (wrap64 (60 * a0_6))))) = some r := H
  have A4 := Aside0.mk A40
  clear A40
  obtain rfl := Option.some.inj H
  go_enter Tryd.func22, Tryd.ntmps22
  try go_wp2_with (first | ((with_reducible refine gate_dst (N := 1) rfl ?_); refine box_event ?hg (N := 1) ?hd (cs := #[.int .i64 a0_0, .int .i64 a0_1, .int .i64 a0_2, .int .i64 a0_3, .int .i64 a0_4, .int .i64 a0_5, .int .i64 a0_6]) (t := 23) ?hr ?_; (case hd => rfl); (case hg => rfl); (case hr => first | (go_simp; done) | (go_simp; rfl)); intro gb174 hg w5 hbox hb; have n0_ := Aside0.mk (below_step (by repeat (first | (with_reducible first | exact HB.out | apply below_alloc | apply pw_below_drewN | apply below_drew1) | exact HB.out)) hb); have n1_ := Aside0.mk (hbox); have n2_ := Aside0.mk ((by rw [hg]; exact (below_size (by repeat (first | (with_reducible first | exact HB.out | apply below_alloc | apply pw_below_drewN | apply below_drew1) | exact HB.out))) : w.heap.size ≤ gb174)); have n3_ := Aside0.mk ((by rw [hg]; exact (below_size (by repeat (first | (with_reducible first | exact HB.out | apply below_alloc | apply pw_below_drewN | apply below_drew1) | exact HB.out))) : w.heap.size ≤ gb174)); clear HB; have HB := n0_; have BK174 := n1_; have GW174 := n2_; have GE174 := n3_; clear n0_ n1_ n2_ n3_; clear hb hbox hg; have hcz6_0 : w5.cell? ⟨gb174, 0, none⟩ = some (.int .i64 a0_0) := (blk_cell BK174.out 0).trans rfl; have hcz6_1 : w5.cell? ⟨gb174, 1, none⟩ = some (.int .i64 a0_1) := (blk_cell BK174.out 1).trans rfl; have hcz6_2 : w5.cell? ⟨gb174, 2, none⟩ = some (.int .i64 a0_2) := (blk_cell BK174.out 2).trans rfl; have hcz6_3 : w5.cell? ⟨gb174, 3, none⟩ = some (.int .i64 a0_3) := (blk_cell BK174.out 3).trans rfl; have hcz6_4 : w5.cell? ⟨gb174, 4, none⟩ = some (.int .i64 a0_4) := (blk_cell BK174.out 4).trans rfl; have hcz6_5 : w5.cell? ⟨gb174, 5, none⟩ = some (.int .i64 a0_5) := (blk_cell BK174.out 5).trans rfl; have hcz6_6 : w5.cell? ⟨gb174, 6, none⟩ = some (.int .i64 a0_6) := (blk_cell BK174.out 6).trans rfl; have hfz6_0 := blk_frozen BK174.out 0; have hfz6_1 := blk_frozen BK174.out 1; have hfz6_2 := blk_frozen BK174.out 2; have hfz6_3 := blk_frozen BK174.out 3; have hfz6_4 := blk_frozen BK174.out 4; have hfz6_5 := blk_frozen BK174.out 5; have hfz6_6 := blk_frozen BK174.out 6) | ((with_reducible refine gate_callee (f := 19) rfl ?_); refine goesL_ (some 4) rfl rfl Tryd.func19 (by kernel_rfl) rfl #[.agg #[.int .i64 a0_0, .int .i64 a0_1, .int .i64 a0_2, .int .i64 a0_3, .int .i64 a0_4, .int .i64 a0_5, .int .i64 a0_6]] rfl (by (try simp only [List.map_toArray, List.map_cons, List.map_nil]); first | done | rfl | (simp only [List.length_drop, List.length_take]; rfl)) ?_; (with_reducible refine (moment_Valid.calls a0_0 a0_1 a0_2 a0_3 a0_4 a0_5 a0_6 true _ A2.out (by first | exact laid_below HL_.out (by repeat (first | (with_reducible first | exact HB.out | apply below_alloc | apply pw_below_drewN | apply below_drew1) | exact HB.out)) | exact laid_drawn HL_.out (by repeat (first | exact Drawn0.refl _ | apply Drawn0.step)))).mono ?_); rintro e w7 ⟨rfl, hb⟩; refine ⟨_, rfl, ?_⟩; have n0_ := Aside0.mk (blk_below (g := gb174) (o := .cells #[.int .i64 a0_0, .int .i64 a0_1, .int .i64 a0_2, .int .i64 a0_3, .int .i64 a0_4, .int .i64 a0_5, .int .i64 a0_6] 23 (0, 0)) (by (with_reducible repeat (first | refine blk_drewN ?_ _ | refine blk_drew ?_ | refine blk_alloc ?_ _)); exact BK174.out) hb); have n1_ := Aside0.mk (below_step (by repeat (first | (with_reducible first | exact HB.out | apply below_alloc | apply pw_below_drewN | apply below_drew1 | refine below_set ?_ GE174.out) | exact HB.out)) hb); clear BK174; clear HB; have BK174 := n0_; have HB := n1_; clear n0_ n1_; (try clear hb); (try clear hb2); (try clear hk); (try clear hi)))
  have n0_ := Aside0.mk (blk_drew BK174.out)
  have n1_ := Aside0.mk (below_drew1 HB.out)
  clear BK174
  clear HB
  have BK174 := n0_
  have HB := n1_
  clear n0_ n1_
  refine start_ (n := 19) (S := fun w' => w'.cell? ⟨gb174, 0, none⟩ = some (.int .i64 a0_0) ∧ w'.cell? ⟨gb174, 1, none⟩ = some (.int .i64 a0_1) ∧ w'.cell? ⟨gb174, 2, none⟩ = some (.int .i64 a0_2) ∧ w'.cell? ⟨gb174, 3, none⟩ = some (.int .i64 a0_3) ∧ w'.cell? ⟨gb174, 4, none⟩ = some (.int .i64 a0_4) ∧ w'.cell? ⟨gb174, 5, none⟩ = some (.int .i64 a0_5) ∧ w'.cell? ⟨gb174, 6, none⟩ = some (.int .i64 a0_6)) (ds := []) (bs_ 0 19) (by kernel_rfl) rfl rfl ⟨(blk_cell BK174.out 0).trans rfl, (blk_cell BK174.out 1).trans rfl, (blk_cell BK174.out 2).trans rfl, (blk_cell BK174.out 3).trans rfl, (blk_cell BK174.out 4).trans rfl, (blk_cell BK174.out 5).trans rfl, (blk_cell BK174.out 6).trans rfl⟩ (fun hHeld => ?_); refine with_tabW moment_Stamp.tab3 moment_Stamp.bits3 (fun HT_ HW_ => ?_)
  generalize w7.drew = w8 at BK174 HB hHeld ⊢
  refine pu_ 3 (some 9) ?_ #[false, false, false, true, false, false, false, false, false, false, false, false, false, false, false, false, false, false, false] rfl rfl (any_of HT_.out (by kernel_rfl)) (fun _ _ _ h => h) (y_ (by rfl) ?_) ?_ ?_ ?_
  rotate_left
  ·intro w'
   go_simp
   with_reducible rfl
  rotate_left
  ·simp only [Act.put, s1_, s2_, s3_, i64_w, i32_w]
   rfl
  refine pu_ 7 (some 13) ?_ #[false, false, false, true, false, false, false, true, false, false, false, false, false, false, false, false, false, false, false] rfl rfl (any_of HT_.out (by kernel_rfl)) (fun _ _ _ h => h) (y_ (by rfl) ?_) ?_ ?_ ?_
  rotate_left
  ·intro w'
   go_simp
   with_reducible rfl
  rotate_left
  ·simp only [Act.put, s1_, s2_, s3_, i64_w, i32_w]
   rfl
  refine pu_ 11 (some 17) ?_ #[false, false, false, true, false, false, false, true, false, false, false, true, false, false, false, false, false, false, false] rfl rfl (any_of HT_.out (by kernel_rfl)) (fun _ _ _ h => h) (y_ (by rfl) ?_) ?_ ?_ ?_
  rotate_left
  ·intro w'
   go_simp
   with_reducible rfl
  rotate_left
  ·simp only [Act.put, s1_, s2_, s3_, i64_w, i32_w]
   rfl
  refine pu_ 14 (some 20) ?_ #[false, false, false, true, false, false, false, true, false, false, false, true, false, false, true, false, false, false, false] rfl rfl (any_of HT_.out (by kernel_rfl)) (fun _ _ _ h => h) (y_ (by rfl) ?_) ?_ ?_ ?_
  rotate_left
  ·intro w'
   go_simp
   with_reducible rfl
  rotate_left
  ·simp only [Act.put, s1_, s2_, s3_, i64_w, i32_w]
   rfl
  refine take_ (i := 0) (N := some 6) (v := ?_) (a' := ?_) #[true, false, false, true, false, false, false, true, false, false, false, true, false, false, true, false, false, false, false] rfl rfl (take_ofW HT_.out HW_.out (by kernel_rfl)) (fun _ _ _ h => h) (Or.inl ⟨by rfl, ?_⟩) hHeld ?_ ?_
  rotate_left
  ·rintro w' ⟨s0, s1, s2, s3, s4, s5, s6⟩
   go_simp
   with_reducible rfl
  rotate_left
  ·simp only [Act.put, s1_, s2_, s3_, i64_w, i32_w]
   rfl
  refine take_ (i := 4) (N := some 10) (v := ?_) (a' := ?_) #[true, false, false, true, true, false, false, true, false, false, false, true, false, false, true, false, false, false, false] rfl rfl (take_ofW HT_.out HW_.out (by kernel_rfl)) (fun _ _ _ h => h) (Or.inl ⟨by rfl, ?_⟩) hHeld ?_ ?_
  rotate_left
  ·rintro w' ⟨s0, s1, s2, s3, s4, s5, s6⟩
   go_simp
   with_reducible rfl
  rotate_left
  ·simp only [Act.put, s1_, s2_, s3_, i64_w, i32_w]
   rfl
  refine pu_ 5 (some 11) ?_ #[true, false, false, true, true, true, false, true, false, false, false, true, false, false, true, false, false, false, false] rfl rfl (any_of HT_.out (by kernel_rfl)) (fun _ _ _ h => h) (y_ (by rfl) ?_) ?_ ?_ ?_
  rotate_left
  ·intro w'
   go_simp
   with_reducible rfl
  rotate_left
  ·simp only [Act.put, s1_, s2_, s3_, i64_w, i32_w]
   rfl
  refine take_ (i := 8) (N := some 14) (v := ?_) (a' := ?_) #[true, false, false, true, true, true, false, true, true, false, false, true, false, false, true, false, false, false, false] rfl rfl (take_ofW HT_.out HW_.out (by kernel_rfl)) (fun _ _ _ h => h) (Or.inl ⟨by rfl, ?_⟩) hHeld ?_ ?_
  rotate_left
  ·rintro w' ⟨s0, s1, s2, s3, s4, s5, s6⟩
   go_simp
   with_reducible rfl
  rotate_left
  ·simp only [Act.put, s1_, s2_, s3_, i64_w, i32_w]
   rfl
  refine pu_ 9 (some 15) ?_ #[true, false, false, true, true, true, false, true, true, true, false, true, false, false, true, false, false, false, false] rfl rfl (any_of HT_.out (by kernel_rfl)) (fun _ _ _ h => h) (y_ (by rfl) ?_) ?_ ?_ ?_
  rotate_left
  ·intro w'
   go_simp
   with_reducible rfl
  rotate_left
  ·simp only [Act.put, s1_, s2_, s3_, i64_w, i32_w]
   rfl
  refine take_ (i := 12) (N := some 18) (v := ?_) (a' := ?_) #[true, false, false, true, true, true, false, true, true, true, false, true, true, false, true, false, false, false, false] rfl rfl (take_ofW HT_.out HW_.out (by kernel_rfl)) (fun _ _ _ h => h) (Or.inl ⟨by rfl, ?_⟩) hHeld ?_ ?_
  rotate_left
  ·rintro w' ⟨s0, s1, s2, s3, s4, s5, s6⟩
   go_simp
   with_reducible rfl
  rotate_left
  ·simp only [Act.put, s1_, s2_, s3_, i64_w, i32_w]
   rfl
  refine take_ (i := 15) (N := some 21) (v := ?_) (a' := ?_) #[true, false, false, true, true, true, false, true, true, true, false, true, true, false, true, true, false, false, false] rfl rfl (take_ofW HT_.out HW_.out (by kernel_rfl)) (fun _ _ _ h => h) (Or.inl ⟨by rfl, ?_⟩) hHeld ?_ ?_
  rotate_left
  ·rintro w' ⟨s0, s1, s2, s3, s4, s5, s6⟩
   go_simp
   with_reducible rfl
  rotate_left
  ·simp only [Act.put, s1_, s2_, s3_, i64_w, i32_w]
   rfl
  refine pu_ 16 (some 22) ?_ #[true, false, false, true, true, true, false, true, true, true, false, true, true, false, true, true, true, false, false] rfl rfl (any_of HT_.out (by kernel_rfl)) (fun _ _ _ h => h) (y_ (by rfl) ?_) ?_ ?_ ?_
  rotate_left
  ·intro w'
   go_simp
   with_reducible rfl
  rotate_left
  ·simp only [Act.put, s1_, s2_, s3_, i64_w, i32_w]
   rfl
  refine one_ (i := 1) (N := some 7) #[true, true, false, true, true, true, false, true, true, true, false, true, true, false, true, true, true, false, false] rfl rfl (one_of HT_.out (by kernel_rfl)) (by decide) (fun K hK => ?_)
  refine goes_ Tryd.func20 (by kernel_rfl) rfl #[.agg #[.int .i64 a0_0, .int .i64 a0_1, .int .i64 a0_2, .int .i64 a0_3, .int .i64 a0_4, .int .i64 a0_5, .int .i64 a0_6]] (by rfl) rfl rfl (by (try simp only [List.map_toArray, List.map_cons, List.map_nil]); first | done | rfl | (simp only [List.length_drop, List.length_take]; rfl)) ?_
  with_reducible refine (moment_Days.calls k a0_0 a0_1 a0_2 a0_3 a0_4 a0_5 a0_6 t176 _ A4.out (by first | exact laid_below HL_.out (by repeat (first | (with_reducible first | exact HB.out | apply below_alloc | apply pw_below_drewN | apply below_drew1) | exact HB.out)) | exact laid_drawn HL_.out (by repeat (first | exact Drawn0.refl _ | apply Drawn0.step)))).mono ?_
  rintro e w9 ⟨rfl, hb⟩
  refine ⟨_, rfl, ?_⟩
  have n0_ := Aside0.mk (blk_below (g := gb174) (o := .cells #[.int .i64 a0_0, .int .i64 a0_1, .int .i64 a0_2, .int .i64 a0_3, .int .i64 a0_4, .int .i64 a0_5, .int .i64 a0_6] 23 (0, 0)) (by (with_reducible repeat (first | refine blk_drewN ?_ _ | refine blk_drew ?_ | refine blk_alloc ?_ _)); exact BK174.out) hb)
  have n1_ := Aside0.mk (below_step (by repeat (first | (with_reducible first | exact HB.out | apply below_alloc | apply pw_below_drewN | apply below_drew1 | refine below_set ?_ GE174.out) | exact HB.out)) hb)
  clear BK174
  clear HB
  have BK174 := n0_
  have HB := n1_
  clear n0_ n1_
  (try clear hb)
  (try clear hb2)
  (try clear hk)
  (try clear hi)
  refine hK.out _ _ ⟨(blk_cell BK174.out 0).trans rfl, (blk_cell BK174.out 1).trans rfl, (blk_cell BK174.out 2).trans rfl, (blk_cell BK174.out 3).trans rfl, (blk_cell BK174.out 4).trans rfl, (blk_cell BK174.out 5).trans rfl, (blk_cell BK174.out 6).trans rfl⟩ (fun hHeld => ?_)
  clear hK K
  refine norm_ (a' := ?_) ?_ ?_
  rotate_left
  ·show Act.put _ (some 7) _ = _
   simp only [Act.put, s1_, s2_, s3_, i64_w, i32_w]
   rfl
  refine pu_ 2 (some 8) ?_ #[true, true, true, true, true, true, false, true, true, true, false, true, true, false, true, true, true, false, false] rfl rfl (any_of HT_.out (by kernel_rfl)) (fun _ _ _ h => h) (y_ (by rfl) ?_) ?_ ?_ ?_
  rotate_left
  ·intro w'
   go_simp
   with_reducible rfl
  rotate_left
  ·simp only [Act.put, s1_, s2_, s3_, i64_w, i32_w]
   rfl
  refine pu_ 6 (some 12) ?_ #[true, true, true, true, true, true, true, true, true, true, false, true, true, false, true, true, true, false, false] rfl rfl (any_of HT_.out (by kernel_rfl)) (fun _ _ _ h => h) (y_ (by rfl) ?_) ?_ ?_ ?_
  rotate_left
  ·intro w'
   go_simp
   with_reducible rfl
  rotate_left
  ·simp only [Act.put, s1_, s2_, s3_, i64_w, i32_w]
   rfl
  refine pu_ 10 (some 16) ?_ #[true, true, true, true, true, true, true, true, true, true, true, true, true, false, true, true, true, false, false] rfl rfl (any_of HT_.out (by kernel_rfl)) (fun _ _ _ h => h) (y_ (by rfl) ?_) ?_ ?_ ?_
  rotate_left
  ·intro w'
   go_simp
   with_reducible rfl
  rotate_left
  ·simp only [Act.put, s1_, s2_, s3_, i64_w, i32_w]
   rfl
  refine pu_ 13 (some 19) ?_ (bs_ 17 2) rfl rfl (any_of HT_.out (by kernel_rfl)) (fun _ _ _ h => h) (y_ (by rfl) ?_) ?_ ?_ ?_
  rotate_left
  ·intro w'
   go_simp
   with_reducible rfl
  rotate_left
  ·simp only [Act.put, s1_, s2_, s3_, i64_w, i32_w]
   rfl
  refine pu_ 17 (some 23) ?_ (bs_ 18 1) rfl rfl (any_of HT_.out (by kernel_rfl)) (fun _ _ _ h => h) (y_ (by rfl) ?_) ?_ ?_ ?_
  rotate_left
  ·intro w'
   go_simp
   with_reducible rfl
  rotate_left
  ·simp only [Act.put, s1_, s2_, s3_, i64_w, i32_w]
   rfl
  refine pu_ 18 (some 2) ?_ (bs_ 19 0) rfl rfl (any_of HT_.out (by kernel_rfl)) (fun _ _ _ h => h) (y_ (by rfl) ?_) ?_ ?_ ?_
  rotate_left
  ·intro w'
   go_simp
   with_reducible rfl
  rotate_left
  ·simp only [Act.put, s1_, s2_, s3_, i64_w, i32_w]
   rfl
  refine done_ (done_of HT_.out (by kernel_rfl)) ?_
  try go_wp2
  go_ret
  exact ⟨by first | rfl | (simp [errW_none, errW_some] <;> rfl) | (simp [*, errW_none, errW_some] <;> rfl), by repeat (first | (with_reducible first | exact HB.out | apply below_alloc | apply pw_below_drewN | apply below_drew1 | refine below_set ?_ GE174.out) | exact HB.out)⟩
 ·replace c3 := Bool.eq_false_iff.mpr c3
  subst c3
  have H1 : (some 0) = some r := by rw [if_neg (show ¬ (false = true) by decide)] at H; exact H
  clear H
  have H := H1
  clear H1
  obtain rfl := Option.some.inj H
  go_enter Tryd.func22, Tryd.ntmps22
  go_wp2_with (first | ((with_reducible refine gate_dst (N := 1) rfl ?_); refine box_event ?hg (N := 1) ?hd (cs := #[.int .i64 a0_0, .int .i64 a0_1, .int .i64 a0_2, .int .i64 a0_3, .int .i64 a0_4, .int .i64 a0_5, .int .i64 a0_6]) (t := 23) ?hr ?_; (case hd => rfl); (case hg => rfl); (case hr => first | (go_simp; done) | (go_simp; rfl)); intro gb174 hg w10 hbox hb; have n0_ := Aside0.mk (below_step (by repeat (first | (with_reducible first | exact HB.out | apply below_alloc | apply pw_below_drewN | apply below_drew1) | exact HB.out)) hb); have n1_ := Aside0.mk (hbox); have n2_ := Aside0.mk ((by rw [hg]; exact (below_size (by repeat (first | (with_reducible first | exact HB.out | apply below_alloc | apply pw_below_drewN | apply below_drew1) | exact HB.out))) : w.heap.size ≤ gb174)); have n3_ := Aside0.mk ((by rw [hg]; exact (below_size (by repeat (first | (with_reducible first | exact HB.out | apply below_alloc | apply pw_below_drewN | apply below_drew1) | exact HB.out))) : w.heap.size ≤ gb174)); clear HB; have HB := n0_; have BK174 := n1_; have GW174 := n2_; have GE174 := n3_; clear n0_ n1_ n2_ n3_; clear hb hbox hg; have hcz11_0 : w10.cell? ⟨gb174, 0, none⟩ = some (.int .i64 a0_0) := (blk_cell BK174.out 0).trans rfl; have hcz11_1 : w10.cell? ⟨gb174, 1, none⟩ = some (.int .i64 a0_1) := (blk_cell BK174.out 1).trans rfl; have hcz11_2 : w10.cell? ⟨gb174, 2, none⟩ = some (.int .i64 a0_2) := (blk_cell BK174.out 2).trans rfl; have hcz11_3 : w10.cell? ⟨gb174, 3, none⟩ = some (.int .i64 a0_3) := (blk_cell BK174.out 3).trans rfl; have hcz11_4 : w10.cell? ⟨gb174, 4, none⟩ = some (.int .i64 a0_4) := (blk_cell BK174.out 4).trans rfl; have hcz11_5 : w10.cell? ⟨gb174, 5, none⟩ = some (.int .i64 a0_5) := (blk_cell BK174.out 5).trans rfl; have hcz11_6 : w10.cell? ⟨gb174, 6, none⟩ = some (.int .i64 a0_6) := (blk_cell BK174.out 6).trans rfl; have hfz11_0 := blk_frozen BK174.out 0; have hfz11_1 := blk_frozen BK174.out 1; have hfz11_2 := blk_frozen BK174.out 2; have hfz11_3 := blk_frozen BK174.out 3; have hfz11_4 := blk_frozen BK174.out 4; have hfz11_5 := blk_frozen BK174.out 5; have hfz11_6 := blk_frozen BK174.out 6) | ((with_reducible refine gate_callee (f := 19) rfl ?_); refine goesL_ (some 4) rfl rfl Tryd.func19 (by kernel_rfl) rfl #[.agg #[.int .i64 a0_0, .int .i64 a0_1, .int .i64 a0_2, .int .i64 a0_3, .int .i64 a0_4, .int .i64 a0_5, .int .i64 a0_6]] rfl (by (try simp only [List.map_toArray, List.map_cons, List.map_nil]); first | done | rfl | (simp only [List.length_drop, List.length_take]; rfl)) ?_; (with_reducible refine (moment_Valid.calls a0_0 a0_1 a0_2 a0_3 a0_4 a0_5 a0_6 false _ A2.out (by first | exact laid_below HL_.out (by repeat (first | (with_reducible first | exact HB.out | apply below_alloc | apply pw_below_drewN | apply below_drew1) | exact HB.out)) | exact laid_drawn HL_.out (by repeat (first | exact Drawn0.refl _ | apply Drawn0.step)))).mono ?_); rintro e w12 ⟨rfl, hb⟩; refine ⟨_, rfl, ?_⟩; have n0_ := Aside0.mk (blk_below (g := gb174) (o := .cells #[.int .i64 a0_0, .int .i64 a0_1, .int .i64 a0_2, .int .i64 a0_3, .int .i64 a0_4, .int .i64 a0_5, .int .i64 a0_6] 23 (0, 0)) (by (with_reducible repeat (first | refine blk_drewN ?_ _ | refine blk_drew ?_ | refine blk_alloc ?_ _)); exact BK174.out) hb); have n1_ := Aside0.mk (below_step (by repeat (first | (with_reducible first | exact HB.out | apply below_alloc | apply pw_below_drewN | apply below_drew1 | refine below_set ?_ GE174.out) | exact HB.out)) hb); clear BK174; clear HB; have BK174 := n0_; have HB := n1_; clear n0_ n1_; (try clear hb); (try clear hb2); (try clear hk); (try clear hi)))
  go_ret
  exact ⟨by first | rfl | (simp [errW_none, errW_some] <;> rfl) | (simp [*, errW_none, errW_some] <;> rfl), by repeat (first | (with_reducible first | exact HB.out | apply below_alloc | apply pw_below_drewN | apply below_drew1 | refine below_set ?_ GE174.out) | exact HB.out)⟩
end Go.Proofs.YtjlchnmpebdggaaDoor.Mo
end
section
namespace Go.Proofs.YtjlchnmpebdggaaDoor.Mo
open Go.RowKit Go.Proofs.YtjlchnmpebdggaaDoorW.PrintWords
def isDig (c : UInt8) : Bool := decide (48 ≤ c.toNat) && decide (c.toNat ≤ 57)
def dstep (n : Int) (c : UInt8) : Int := 10 * n + ((c.toNat : Int) - 48)
def dval (l : List UInt8) : Int := l.foldl dstep 0
def digitsP (s : ByteArray) : Int × Bool := if 1 ≤ s.size ∧ s.size ≤ 4 ∧ s.data.toList.all isDig = true then (dval s.data.toList, true) else (0, false)
theorem isDig_iff (c : UInt8) : isDig c = true ↔ 48 ≤ c.toNat ∧ c.toNat ≤ 57 := by simp [isDig]
theorem toList_len (s : ByteArray) : s.data.toList.length = s.size := by rw [Array.length_toList]; rfl
theorem bt_get (s : ByteArray) (i : Nat) (h : i < s.data.toList.length) : bt s (i : Int) = ((s.data.toList[i]).toNat : Int) := by
  have h2 : i < s.size := by rw [← toList_len]; exact h
  unfold bt
  rw [Int.toNat_natCast, dif_pos h2]
  rfl
theorem dval_snoc (l : List UInt8) (c : UInt8) : dval (l ++ [c]) = dstep (dval l) c := by simp [dval, List.foldl_append]
theorem dfold_bound : ∀ (l : List UInt8) (n : Int) (j : Nat), l.all isDig = true → 0 ≤ n → n < 10 ^ j → 0 ≤ l.foldl dstep n ∧ l.foldl dstep n < 10 ^ (j + l.length)
  | [], n, j, _, h0, h1 => ⟨h0, h1⟩
  | c :: l, n, j, h, h0, h1 => by
    rw [List.all_cons, Bool.and_eq_true] at h
    obtain ⟨h3, h4⟩ := (isDig_iff c).1 h.1
    have hp : (10 : Int) ^ (j + 1) = 10 ^ j * 10 := Int.pow_succ ..
    have := dfold_bound l (dstep n c) (j + 1) h.2 (by unfold dstep; omega) (by unfold dstep; omega)
    rw [List.foldl_cons, List.length_cons, show j + (l.length + 1) = j + 1 + l.length from by omega]
    exact this
theorem dval_bound (l : List UInt8) (h : l.all isDig = true) : 0 ≤ dval l ∧ dval l < 10 ^ l.length := by
  have := dfold_bound l 0 0 h (by decide) (by decide)
  rwa [Nat.zero_add] at this
theorem digit_step (n : Int) (c : UInt8) (h0 : 0 ≤ n) (h1 : n < 1000000000000) (h2 : 48 ≤ c.toNat) (h3 : c.toNat ≤ 57) :
    wrap64 ((wrap64 (10 * n)) + (((c.toNat : Int) - 48) % 256)) = dstep n c := by
  rw [IntWalk.wrap64_in (10 * n) ⟨by omega, by omega⟩, Int.emod_eq_of_lt (by omega) (by omega), IntWalk.wrap64_in _ ⟨by omega, by omega⟩]
  rfl
theorem next_step (i : Nat) (h : i < 1000000000000000) : wrap64 ((i : Int) + 1) = ((i + 1 : Nat) : Int) := by
  rw [IntWalk.wrap64_in _ ⟨by omega, by omega⟩]; omega
theorem digits_l0 (s : ByteArray) (hs : s.size ≤ 4) (d : Nat) : ∀ (k i : Nat), i ≤ s.size → s.size - i = d → d < k → (s.data.toList.take i).all isDig = true →
    moment_digits.l0 k s (dval (s.data.toList.take i)) (s.size : Int) (i : Int) = if (s.data.toList.drop i).all isDig = true then some (dval s.data.toList, true) else some (0, false) := by
  induction d with
  | zero =>
    intro k i hi hd hk ha
    obtain ⟨k, rfl⟩ : ∃ m, k = m + 1 := ⟨k - 1, by omega⟩
    have e : i = s.size := by omega
    subst e
    have hl := toList_len s
    simp only [moment_digits.l0]
    rw [if_neg (by omega), if_pos (by rw [List.drop_of_length_le (by omega)]; rfl), List.take_of_length_le (by omega)]
  | succ d ih =>
    intro k i hi hd hk ha
    obtain ⟨k, rfl⟩ : ∃ m, k = m + 1 := ⟨k - 1, by omega⟩
    have hl := toList_len s
    have hlt : i < s.data.toList.length := by omega
    have hb := bt_get s i hlt
    have h8 := (s.data.toList[i]).toNat_lt
    have hdr : s.data.toList.drop i = s.data.toList[i] :: s.data.toList.drop (i + 1) := List.drop_eq_getElem_cons hlt
    have htk : s.data.toList.take (i + 1) = s.data.toList.take i ++ [s.data.toList[i]] := by rw [List.take_succ_eq_append_getElem hlt]
    obtain ⟨b1, b2⟩ := dval_bound _ ha
    rw [List.length_take, Nat.min_eq_left (by omega)] at b2
    have b3 : dval (s.data.toList.take i) < 10000 := by
      have : (10 : Int) ^ i ≤ 10 ^ 4 := by
        have h4 : i = 0 ∨ i = 1 ∨ i = 2 ∨ i = 3 := by omega
        rcases h4 with rfl | rfl | rfl | rfl <;> decide
      omega
    simp only [moment_digits.l0]
    rw [if_pos (by omega), if_pos (by omega), if_pos (by omega), hb, hdr]
    generalize hc : s.data.toList[i] = c at *
    by_cases c1 : c.toNat < 48
    · rw [if_pos (by omega), if_neg (by simp [isDig]; omega)]
    · rw [if_neg (by omega)]
      by_cases c2 : c.toNat > 57
      · rw [if_pos (by omega), if_neg (by simp [isDig]; omega)]
      · rw [if_neg (by omega)]
        have hdig : isDig c = true := (isDig_iff c).2 ⟨by omega, by omega⟩
        have e1 : wrap64 ((wrap64 (10 * dval (s.data.toList.take i))) + (((c.toNat : Int) - 48) % 256)) = dval (s.data.toList.take (i + 1)) := by
          rw [htk, dval_snoc, digit_step _ _ b1 (by omega) (by omega) (by omega)]
        rw [e1, next_step i (by omega), ih k (i + 1) (by omega) (by omega) (by omega) (by rw [htk, List.all_append, ha]; simp [hdig])]
        simp only [List.all_cons, hdig, Bool.true_and]
theorem digits_f (k : Nat) (hk : 7 ≤ k) (s : ByteArray) : moment_digits.f k s = some (digitsP s) := by
  have hl := toList_len s
  unfold moment_digits.f
  obtain ⟨k, rfl⟩ : ∃ m, k = m + 1 := ⟨k - 1, by omega⟩
  by_cases h0 : s.toList = []
  · have hz : s.size = 0 := by rw [ByteArray.toList_eq] at h0; rw [← hl, h0]; rfl
    rw [if_pos h0]
    simp only [moment_digits.j0]
    unfold digitsP
    rw [if_pos trivial, if_neg (by omega)]
  · have hz : s.size ≠ 0 := by
      intro h; apply h0; rw [ByteArray.toList_eq]; exact List.eq_nil_of_length_eq_zero (by omega)
    rw [if_neg h0]
    simp only [moment_digits.j0]
    by_cases h4 : s.size > 4
    · rw [if_pos (by exact decide_eq_true (by omega))]
      unfold digitsP
      rw [if_neg (by omega)]
    · rw [if_neg (by intro h; have := of_decide_eq_true h; omega)]
      have := digits_l0 s (by omega) s.size k 0 (by omega) (by omega) (by omega) rfl
      simp only [List.take_zero, List.drop_zero] at this
      rw [show ((0 : Nat) : Int) = 0 from rfl] at this
      have e0 : dval [] = 0 := rfl
      rw [e0] at this
      rw [this]
      unfold digitsP
      by_cases ha : s.data.toList.all isDig = true
      · rw [if_pos ha, if_pos ⟨by omega, by omega, ha⟩]
      · rw [if_neg ha, if_neg (fun h => ha h.2.2)]
end Go.Proofs.YtjlchnmpebdggaaDoor.Mo
end
section
namespace Go.Proofs.YtjlchnmpebdggaaDoor.Mo
open Go.RowKit Go.Proofs.YtjlchnmpebdggaaDoorW.PrintWords
theorem w64 (n : Int) (h0 : -1000000000000000 ≤ n) (h1 : n ≤ 1000000000000000) : wrap64 n = n := IntWalk.wrap64_in _ ⟨by omega, by omega⟩
theorem month_cases {m : Int} (h1 : 1 ≤ m) (h2 : m ≤ 12) : m = 1 ∨ m = 2 ∨ m = 3 ∨ m = 4 ∨ m = 5 ∨ m = 6 ∨ m = 7 ∨ m = 8 ∨ m = 9 ∨ m = 10 ∨ m = 11 ∨ m = 12 := by omega
theorem length_range (y m : Int) (h1 : 1 ≤ m) (h2 : m ≤ 12) : 28 ≤ lengthP y m ∧ lengthP y m ≤ 31 := by
  unfold lengthP
  rcases month_cases h1 h2 with rfl | rfl | rfl | rfl | rfl | rfl | rfl | rfl | rfl | rfl | rfl | rfl <;> split <;> decide
def dby (y : Int) : Int := 365 * (y - 1) + (y - 1) / 4 - (y - 1) / 100 + (y - 1) / 400
def cumN (y : Int) : Nat → Int
  | 0 => 0
  | n + 1 => cumN y n + lengthP y ((n : Int) + 1)
theorem cumN_range (y : Int) : ∀ n : Nat, n ≤ 12 → 0 ≤ cumN y n ∧ cumN y n ≤ 31 * n
  | 0, _ => by unfold cumN; omega
  | n + 1, h => by
    have h1 := cumN_range y n (by omega)
    have h2 := length_range y ((n : Int) + 1) (by omega) (by omega)
    unfold cumN
    omega
def daysP (y m d : Int) : Int := dby y + cumN y (m - 1).toNat + d - 1 - 719162
theorem cum_step (y : Int) (j : Nat) (hj : 1 ≤ j) : cumN y j = cumN y (j - 1) + lengthP y (j : Int) := by
  obtain ⟨q, rfl⟩ : ∃ q, j = q + 1 := ⟨j - 1, by omega⟩
  have e : cumN y (q + 1) = cumN y q + lengthP y ((q : Int) + 1) := rfl
  rw [e, show q + 1 - 1 = q from rfl, show ((q + 1 : Nat) : Int) = (q : Int) + 1 from by omega]
theorem valid_facts {y m d h mi s z : Int} (hv : validB y m d h mi s z = true) : (1 ≤ y ∧ y ≤ 9999 ∧ 1 ≤ m ∧ m ≤ 12 ∧ 1 ≤ d ∧ d ≤ lengthP y m) ∧ (0 ≤ h ∧ h ≤ 23 ∧ 0 ≤ mi ∧ mi ≤ 59 ∧ 0 ≤ s ∧ s ≤ 59 ∧ -1439 ≤ z ∧ z ≤ 1439) :=
  ⟨(isDay_iff y m d).1 ((valid_iff y m d h mi s z).1 hv).1, (time_iff h mi s z).1 ((valid_iff y m d h mi s z).1 hv).2⟩
def daysV (y m d h mi s z : Int) : Int := if validB y m d h mi s z = true then daysP y m d else 0
end Go.Proofs.YtjlchnmpebdggaaDoor.Mo
end
section
namespace Go.Proofs.YtjlchnmpebdggaaDoor.Mo
open Go.RowKit Go.Proofs.YtjlchnmpebdggaaDoorW.PrintWords
theorem set7 {w : World} {g t : Nat} {a0 a1 a2 a3 a4 a5 a6 : Value} (h : w.heap[g]? = some (.cells #[a0, a1, a2, a3, a4, a5, a6] t (0, 0))) (b0 b1 b2 b3 b4 b5 b6 : Value) :
    (((((((w.setCell ⟨g, 0, none⟩ b0).setCell ⟨g, 1, none⟩ b1).setCell ⟨g, 2, none⟩ b2).setCell ⟨g, 3, none⟩ b3).setCell ⟨g, 4, none⟩ b4).setCell ⟨g, 5, none⟩ b5).setCell ⟨g, 6, none⟩ b6).heap[g]? = some (.cells #[b0, b1, b2, b3, b4, b5, b6] t (0, 0)) ∧
    ∀ (B : Nat) (w0 : World), Below B w0 w → B ≤ g → Below B w0 (((((((w.setCell ⟨g, 0, none⟩ b0).setCell ⟨g, 1, none⟩ b1).setCell ⟨g, 2, none⟩ b2).setCell ⟨g, 3, none⟩ b3).setCell ⟨g, 4, none⟩ b4).setCell ⟨g, 5, none⟩ b5).setCell ⟨g, 6, none⟩ b6) := by
  have h1 := blk_put (cs' := #[b0, a1, a2, a3, a4, a5, a6]) h 0 b0 rfl
  have h2 := blk_put (cs' := #[b0, b1, a2, a3, a4, a5, a6]) h1 1 b1 rfl
  have h3 := blk_put (cs' := #[b0, b1, b2, a3, a4, a5, a6]) h2 2 b2 rfl
  have h4 := blk_put (cs' := #[b0, b1, b2, b3, a4, a5, a6]) h3 3 b3 rfl
  have h5 := blk_put (cs' := #[b0, b1, b2, b3, b4, a5, a6]) h4 4 b4 rfl
  have h6 := blk_put (cs' := #[b0, b1, b2, b3, b4, b5, a6]) h5 5 b5 rfl
  have h7 := blk_put (cs' := #[b0, b1, b2, b3, b4, b5, b6]) h6 6 b6 rfl
  exact ⟨h7, fun B w0 hb hB => ((((((hb.setCell (p := ⟨g, 0, none⟩) hB b0).setCell (p := ⟨g, 1, none⟩) hB b1).setCell (p := ⟨g, 2, none⟩) hB b2).setCell (p := ⟨g, 3, none⟩) hB b3).setCell (p := ⟨g, 4, none⟩) hB b4).setCell (p := ⟨g, 5, none⟩) hB b5).setCell (p := ⟨g, 6, none⟩) hB b6⟩
theorem cells7 {w : World} {g t : Nat} {a0 a1 a2 a3 a4 a5 a6 : Value} (h : w.heap[g]? = some (.cells #[a0, a1, a2, a3, a4, a5, a6] t (0, 0))) :
    (w.cell? ⟨g, 0, none⟩ = some a0 ∧ w.cell? ⟨g, 1, none⟩ = some a1 ∧ w.cell? ⟨g, 2, none⟩ = some a2 ∧ w.cell? ⟨g, 3, none⟩ = some a3 ∧ w.cell? ⟨g, 4, none⟩ = some a4 ∧ w.cell? ⟨g, 5, none⟩ = some a5 ∧ w.cell? ⟨g, 6, none⟩ = some a6) ∧
    ∀ i, w.frozen? ⟨g, i, none⟩ = false :=
  ⟨⟨cell_of_row w g 0 _ _ _ h, cell_of_row w g 1 _ _ _ h, cell_of_row w g 2 _ _ _ h, cell_of_row w g 3 _ _ _ h, cell_of_row w g 4 _ _ _ h, cell_of_row w g 5 _ _ _ h, cell_of_row w g 6 _ _ _ h⟩, fun i => frozen_of_row w g i _ _ h⟩
end Go.Proofs.YtjlchnmpebdggaaDoor.Mo
end
section
namespace Go.Proofs.YtjlchnmpebdggaaDoor.Mo
open Go.RowKit Go.Proofs.YtjlchnmpebdggaaDoorW.PrintWords
def clockT (h mi se zz : Int) (sign : ByteArray) : ByteArray := twoP h ++ ⟨#[58]⟩ ++ twoP mi ++ ⟨#[58]⟩ ++ twoP se ++ ⟨#[32]⟩ ++ sign ++ twoP (zz / 60) ++ twoP (zz % 60)
def clockP (h mi se z : Int) : ByteArray := if z < 0 then clockT h mi se (-z) ⟨#[45]⟩ else clockT h mi se z ⟨#[43]⟩
theorem two_calls (n : Int) (w : World) : Calls Tryd.prog 87 #[.int .i64 n] w fun e w' => e = .returned (.string (twoP n)) ∧ Below w.heap.size w w' := moment_two.calls n _ w (two_f n)
theorem clockT_size (h mi se zz : Int) (sign : ByteArray) (hs : sign.size = 1) : (clockT h mi se zz sign).size = 14 := by
  unfold clockT
  simp only [ByteArray.size_append, twoP_size, hs]
  rfl
theorem clockP_size (h mi se z : Int) : (clockP h mi se z).size = 14 := by
  unfold clockP; split <;> exact clockT_size _ _ _ _ _ rfl
set_option maxHeartbeats 4000000 in
set_option maxRecDepth 100000 in
theorem clock_calls (y mo d h mi se z : Int) (w : World) (h0 : -1439 ≤ z) (h1 : z ≤ 1439) :
    Calls Tryd.prog 64 #[.agg #[.int .i64 y, .int .i64 mo, .int .i64 d, .int .i64 h, .int .i64 mi, .int .i64 se, .int .i64 z]] w fun e w' => e = .returned (.string (clockP h mi se z)) ∧ Below w.heap.size w w' := by
  have t1 := two_calls h
  have t2 := two_calls mi
  have t3 := two_calls se
  have s1 := twoP_size h
  have s2 := twoP_size mi
  have s3 := twoP_size se
  by_cases hz : z < 0
  · skip
    have hp : clockP h mi se z = twoP h ++ ⟨#[58]⟩ ++ twoP mi ++ ⟨#[58]⟩ ++ twoP se ++ ⟨#[32]⟩ ++ ⟨#[45]⟩ ++ twoP ((-z) / 60) ++ twoP ((-z) % 60) := by unfold clockP; rw [if_pos hz]; rfl
    have d1 : decide (z < 0) = true := decide_eq_true hz
    have z0 : 0 ≤ (-z) := by omega
    have z1 : (-z) ≤ 1439 := by omega
    have t4 := two_calls ((-z) / 60)
    have t5 := two_calls ((-z) % 60)
    have s4 := twoP_size ((-z) / 60)
    have s5 := twoP_size ((-z) % 60)
    generalize twoP h = a1 at *
    generalize twoP mi = a2 at *
    generalize twoP se = a3 at *
    generalize twoP ((-z) / 60) = a4 at *
    generalize twoP ((-z) % 60) = a5 at *
    have T1 := Lib.hid t1
    have T2 := Lib.hid t2
    have T3 := Lib.hid t3
    have T4 := Lib.hid t4
    have T5 := Lib.hid t5
    have HP := Lib.hid hp
    clear t1 t2 t3 t4 t5 hp
    go_enter Tryd.func64, Tryd.ntmps64
    go_wp2_with fail
    go_quiet (fail)
    go_wp2_with fail
    have m3 : ((w.alloc (.cells #[.int .i64 y, .int .i64 mo, .int .i64 d, .int .i64 h, .int .i64 mi, .int .i64 se, .int .i64 z] 23)).drewN nq).cell? ⟨w.heap.size, 3, none⟩ = some (.int .i64 h) := by go_simp
    have m4 : ((w.alloc (.cells #[.int .i64 y, .int .i64 mo, .int .i64 d, .int .i64 h, .int .i64 mi, .int .i64 se, .int .i64 z] 23)).drewN nq).cell? ⟨w.heap.size, 4, none⟩ = some (.int .i64 mi) := by go_simp
    have m5 : ((w.alloc (.cells #[.int .i64 y, .int .i64 mo, .int .i64 d, .int .i64 h, .int .i64 mi, .int .i64 se, .int .i64 z] 23)).drewN nq).cell? ⟨w.heap.size, 5, none⟩ = some (.int .i64 se) := by go_simp
    have hB : Below w.heap.size w ((w.alloc (.cells #[.int .i64 y, .int .i64 mo, .int .i64 d, .int .i64 h, .int .i64 mi, .int .i64 se, .int .i64 z] 23)).drewN nq) := pw_below_drewN (below_alloc (Below.refl _ w) _) nq
    generalize (w.alloc (.cells #[.int .i64 y, .int .i64 mo, .int .i64 d, .int .i64 h, .int .i64 mi, .int .i64 se, .int .i64 z] 23)).drewN nq = w1 at *
    have HB := Lib.hid hB
    clear hB
    generalize -z = zz at *
    have hq1 : zz.tdiv 60 = zz / 60 := Int.tdiv_eq_ediv_of_nonneg z0
    have hq2 : zz.tmod 60 = zz % 60 := Int.tmod_eq_emod_of_nonneg z0
    have hq3 : IntKind.i64.wrap (zz / 60) = zz / 60 := IntWalk.i64_in _ ⟨by omega, by omega⟩
    have hq4 : IntKind.i64.wrap (zz % 60) = zz % 60 := IntWalk.i64_in _ ⟨by omega, by omega⟩
    go_region_held3 (fun w' => w'.cell? ⟨w.heap.size, 3, none⟩ = some (.int .i64 h) ∧ w'.cell? ⟨w.heap.size, 4, none⟩ = some (.int .i64 mi) ∧ w'.cell? ⟨w.heap.size, 5, none⟩ = some (.int .i64 se)) (go_keep) ((first | (go_at_call 87; (with_reducible refine (T1.out _).mono ?_); rintro e w2 ⟨rfl, hb⟩; have n0_ := Lib.hid (below_step (by repeat (first | (with_reducible exact HB.out) | (with_reducible apply below_drew) | (with_reducible apply pw_below_drewN) | exact HB.out)) hb); clear HB; have HB := n0_; clear n0_; have k3 := pw_cell_below hb (a := ⟨w.heap.size, 3, none⟩) (v := .int .i64 h) (by first | assumption | go_simp); have k4 := pw_cell_below hb (a := ⟨w.heap.size, 4, none⟩) (v := .int .i64 mi) (by first | assumption | go_simp); have k5 := pw_cell_below hb (a := ⟨w.heap.size, 5, none⟩) (v := .int .i64 se) (by first | assumption | go_simp); clear hb) | (go_at_call 87; (with_reducible refine (T2.out _).mono ?_); rintro e w3 ⟨rfl, hb⟩; have n0_ := Lib.hid (below_step (by repeat (first | (with_reducible exact HB.out) | (with_reducible apply below_drew) | (with_reducible apply pw_below_drewN) | exact HB.out)) hb); clear HB; have HB := n0_; clear n0_; have k3 := pw_cell_below hb (a := ⟨w.heap.size, 3, none⟩) (v := .int .i64 h) (by first | assumption | go_simp); have k4 := pw_cell_below hb (a := ⟨w.heap.size, 4, none⟩) (v := .int .i64 mi) (by first | assumption | go_simp); have k5 := pw_cell_below hb (a := ⟨w.heap.size, 5, none⟩) (v := .int .i64 se) (by first | assumption | go_simp); clear hb) | (go_at_call 87; (with_reducible refine (T3.out _).mono ?_); rintro e w4 ⟨rfl, hb⟩; have n0_ := Lib.hid (below_step (by repeat (first | (with_reducible exact HB.out) | (with_reducible apply below_drew) | (with_reducible apply pw_below_drewN) | exact HB.out)) hb); clear HB; have HB := n0_; clear n0_; have k3 := pw_cell_below hb (a := ⟨w.heap.size, 3, none⟩) (v := .int .i64 h) (by first | assumption | go_simp); have k4 := pw_cell_below hb (a := ⟨w.heap.size, 4, none⟩) (v := .int .i64 mi) (by first | assumption | go_simp); have k5 := pw_cell_below hb (a := ⟨w.heap.size, 5, none⟩) (v := .int .i64 se) (by first | assumption | go_simp); clear hb) | (go_at_call 87; (with_reducible refine (T4.out _).mono ?_); rintro e w5 ⟨rfl, hb⟩; have n0_ := Lib.hid (below_step (by repeat (first | (with_reducible exact HB.out) | (with_reducible apply below_drew) | (with_reducible apply pw_below_drewN) | exact HB.out)) hb); clear HB; have HB := n0_; clear n0_; have k3 := pw_cell_below hb (a := ⟨w.heap.size, 3, none⟩) (v := .int .i64 h) (by first | assumption | go_simp); have k4 := pw_cell_below hb (a := ⟨w.heap.size, 4, none⟩) (v := .int .i64 mi) (by first | assumption | go_simp); have k5 := pw_cell_below hb (a := ⟨w.heap.size, 5, none⟩) (v := .int .i64 se) (by first | assumption | go_simp); clear hb) | (go_at_call 87; (with_reducible refine (T5.out _).mono ?_); rintro e w6 ⟨rfl, hb⟩; have n0_ := Lib.hid (below_step (by repeat (first | (with_reducible exact HB.out) | (with_reducible apply below_drew) | (with_reducible apply pw_below_drewN) | exact HB.out)) hb); clear HB; have HB := n0_; clear n0_; have k3 := pw_cell_below hb (a := ⟨w.heap.size, 3, none⟩) (v := .int .i64 h) (by first | assumption | go_simp); have k4 := pw_cell_below hb (a := ⟨w.heap.size, 4, none⟩) (v := .int .i64 mi) (by first | assumption | go_simp); have k5 := pw_cell_below hb (a := ⟨w.heap.size, 5, none⟩) (v := .int .i64 se) (by first | assumption | go_simp); clear hb)))
    all_goals go_wp2
    all_goals go_ret
    all_goals exact ⟨by rw [HP.out]; rfl, HB.out⟩
  · skip
    have hp : clockP h mi se z = twoP h ++ ⟨#[58]⟩ ++ twoP mi ++ ⟨#[58]⟩ ++ twoP se ++ ⟨#[32]⟩ ++ ⟨#[43]⟩ ++ twoP (z / 60) ++ twoP (z % 60) := by unfold clockP; rw [if_neg hz]; rfl
    have d1 : decide (z < 0) = false := decide_eq_false hz
    have z0 : 0 ≤ z := by omega
    have z1 : z ≤ 1439 := by omega
    have t4 := two_calls (z / 60)
    have t5 := two_calls (z % 60)
    have s4 := twoP_size (z / 60)
    have s5 := twoP_size (z % 60)
    generalize twoP h = a1 at *
    generalize twoP mi = a2 at *
    generalize twoP se = a3 at *
    generalize twoP (z / 60) = a4 at *
    generalize twoP (z % 60) = a5 at *
    have T1 := Lib.hid t1
    have T2 := Lib.hid t2
    have T3 := Lib.hid t3
    have T4 := Lib.hid t4
    have T5 := Lib.hid t5
    have HP := Lib.hid hp
    clear t1 t2 t3 t4 t5 hp
    go_enter Tryd.func64, Tryd.ntmps64
    go_wp2_with fail
    go_quiet (fail)
    go_wp2_with fail
    have m3 : ((w.alloc (.cells #[.int .i64 y, .int .i64 mo, .int .i64 d, .int .i64 h, .int .i64 mi, .int .i64 se, .int .i64 z] 23)).drewN nq).cell? ⟨w.heap.size, 3, none⟩ = some (.int .i64 h) := by go_simp
    have m4 : ((w.alloc (.cells #[.int .i64 y, .int .i64 mo, .int .i64 d, .int .i64 h, .int .i64 mi, .int .i64 se, .int .i64 z] 23)).drewN nq).cell? ⟨w.heap.size, 4, none⟩ = some (.int .i64 mi) := by go_simp
    have m5 : ((w.alloc (.cells #[.int .i64 y, .int .i64 mo, .int .i64 d, .int .i64 h, .int .i64 mi, .int .i64 se, .int .i64 z] 23)).drewN nq).cell? ⟨w.heap.size, 5, none⟩ = some (.int .i64 se) := by go_simp
    have hB : Below w.heap.size w ((w.alloc (.cells #[.int .i64 y, .int .i64 mo, .int .i64 d, .int .i64 h, .int .i64 mi, .int .i64 se, .int .i64 z] 23)).drewN nq) := pw_below_drewN (below_alloc (Below.refl _ w) _) nq
    generalize (w.alloc (.cells #[.int .i64 y, .int .i64 mo, .int .i64 d, .int .i64 h, .int .i64 mi, .int .i64 se, .int .i64 z] 23)).drewN nq = w1 at *
    have HB := Lib.hid hB
    clear hB
    have hq1 : z.tdiv 60 = z / 60 := Int.tdiv_eq_ediv_of_nonneg z0
    have hq2 : z.tmod 60 = z % 60 := Int.tmod_eq_emod_of_nonneg z0
    have hq3 : IntKind.i64.wrap (z / 60) = z / 60 := IntWalk.i64_in _ ⟨by omega, by omega⟩
    have hq4 : IntKind.i64.wrap (z % 60) = z % 60 := IntWalk.i64_in _ ⟨by omega, by omega⟩
    go_region_held3 (fun w' => w'.cell? ⟨w.heap.size, 3, none⟩ = some (.int .i64 h) ∧ w'.cell? ⟨w.heap.size, 4, none⟩ = some (.int .i64 mi) ∧ w'.cell? ⟨w.heap.size, 5, none⟩ = some (.int .i64 se)) (go_keep) ((first | (go_at_call 87; (with_reducible refine (T1.out _).mono ?_); rintro e w2 ⟨rfl, hb⟩; have n0_ := Lib.hid (below_step (by repeat (first | (with_reducible exact HB.out) | (with_reducible apply below_drew) | (with_reducible apply pw_below_drewN) | exact HB.out)) hb); clear HB; have HB := n0_; clear n0_; have k3 := pw_cell_below hb (a := ⟨w.heap.size, 3, none⟩) (v := .int .i64 h) (by first | assumption | go_simp); have k4 := pw_cell_below hb (a := ⟨w.heap.size, 4, none⟩) (v := .int .i64 mi) (by first | assumption | go_simp); have k5 := pw_cell_below hb (a := ⟨w.heap.size, 5, none⟩) (v := .int .i64 se) (by first | assumption | go_simp); clear hb) | (go_at_call 87; (with_reducible refine (T2.out _).mono ?_); rintro e w3 ⟨rfl, hb⟩; have n0_ := Lib.hid (below_step (by repeat (first | (with_reducible exact HB.out) | (with_reducible apply below_drew) | (with_reducible apply pw_below_drewN) | exact HB.out)) hb); clear HB; have HB := n0_; clear n0_; have k3 := pw_cell_below hb (a := ⟨w.heap.size, 3, none⟩) (v := .int .i64 h) (by first | assumption | go_simp); have k4 := pw_cell_below hb (a := ⟨w.heap.size, 4, none⟩) (v := .int .i64 mi) (by first | assumption | go_simp); have k5 := pw_cell_below hb (a := ⟨w.heap.size, 5, none⟩) (v := .int .i64 se) (by first | assumption | go_simp); clear hb) | (go_at_call 87; (with_reducible refine (T3.out _).mono ?_); rintro e w4 ⟨rfl, hb⟩; have n0_ := Lib.hid (below_step (by repeat (first | (with_reducible exact HB.out) | (with_reducible apply below_drew) | (with_reducible apply pw_below_drewN) | exact HB.out)) hb); clear HB; have HB := n0_; clear n0_; have k3 := pw_cell_below hb (a := ⟨w.heap.size, 3, none⟩) (v := .int .i64 h) (by first | assumption | go_simp); have k4 := pw_cell_below hb (a := ⟨w.heap.size, 4, none⟩) (v := .int .i64 mi) (by first | assumption | go_simp); have k5 := pw_cell_below hb (a := ⟨w.heap.size, 5, none⟩) (v := .int .i64 se) (by first | assumption | go_simp); clear hb) | (go_at_call 87; (with_reducible refine (T4.out _).mono ?_); rintro e w5 ⟨rfl, hb⟩; have n0_ := Lib.hid (below_step (by repeat (first | (with_reducible exact HB.out) | (with_reducible apply below_drew) | (with_reducible apply pw_below_drewN) | exact HB.out)) hb); clear HB; have HB := n0_; clear n0_; have k3 := pw_cell_below hb (a := ⟨w.heap.size, 3, none⟩) (v := .int .i64 h) (by first | assumption | go_simp); have k4 := pw_cell_below hb (a := ⟨w.heap.size, 4, none⟩) (v := .int .i64 mi) (by first | assumption | go_simp); have k5 := pw_cell_below hb (a := ⟨w.heap.size, 5, none⟩) (v := .int .i64 se) (by first | assumption | go_simp); clear hb) | (go_at_call 87; (with_reducible refine (T5.out _).mono ?_); rintro e w6 ⟨rfl, hb⟩; have n0_ := Lib.hid (below_step (by repeat (first | (with_reducible exact HB.out) | (with_reducible apply below_drew) | (with_reducible apply pw_below_drewN) | exact HB.out)) hb); clear HB; have HB := n0_; clear n0_; have k3 := pw_cell_below hb (a := ⟨w.heap.size, 3, none⟩) (v := .int .i64 h) (by first | assumption | go_simp); have k4 := pw_cell_below hb (a := ⟨w.heap.size, 4, none⟩) (v := .int .i64 mi) (by first | assumption | go_simp); have k5 := pw_cell_below hb (a := ⟨w.heap.size, 5, none⟩) (v := .int .i64 se) (by first | assumption | go_simp); clear hb)))
    all_goals go_wp2
    all_goals go_ret
    all_goals exact ⟨by rw [HP.out]; rfl, HB.out⟩
def moment_clock.f (_y _mo _d h mi se z : Int) : Option ByteArray := if -1439 ≤ z ∧ z ≤ 1439 then some (clockP h mi se z) else none
theorem moment_clock.calls (a0_0 a0_1 a0_2 a0_3 a0_4 a0_5 a0_6 : Int) (r : ByteArray) (w : World) (h : moment_clock.f a0_0 a0_1 a0_2 a0_3 a0_4 a0_5 a0_6 = some r) :
    Calls Tryd.prog 64 #[.agg #[.int .i64 a0_0, .int .i64 a0_1, .int .i64 a0_2, .int .i64 a0_3, .int .i64 a0_4, .int .i64 a0_5, .int .i64 a0_6]] w fun e w' => e = .returned (.string r) ∧ Below w.heap.size w w' := by
  unfold moment_clock.f at h
  by_cases hz : -1439 ≤ a0_6 ∧ a0_6 ≤ 1439
  · rw [if_pos hz] at h
    obtain rfl := Option.some.inj h
    exact clock_calls _ _ _ _ _ _ _ w hz.1 hz.2
  · rw [if_neg hz] at h
    exact absurd h (by simp)
end Go.Proofs.YtjlchnmpebdggaaDoor.Mo
end
section
namespace Go.Proofs.YtjlchnmpebdggaaDoor.Mo
open Go.RowKit Go.Proofs.YtjlchnmpebdggaaDoorW.PrintWords
def internalT (y m d h mi s z : Int) : ByteArray := padP d ++ dashP y m ++ ⟨#[32]⟩ ++ clockP h mi s z
def printInternalP (y m d h mi s z : Int) : ByteArray × Int := if refuseP y m d h mi s z = 0 then (internalT y m d h mi s z, 0) else (⟨#[]⟩, refuseP y m d h mi s z)
theorem dashP_size (y m : Int) (h1 : 1 ≤ m) (h2 : m ≤ 12) : (dashP y m).size = 9 := by
  unfold dashP
  rw [ByteArray.size_append, ByteArray.size_append, ByteArray.size_append, month_size _ (by omega), fourP_size]
  rfl
theorem refuse_zero {y m d h mi s z : Int} (hr : refuseP y m d h mi s z = 0) : isDayB y m d = true ∧ validB y m d h mi s z = true := by
  unfold refuseP at hr
  split at hr
  · split at hr
    · exact ⟨‹_›, ‹_›⟩
    · exact absurd hr (by decide)
  · exact absurd hr (by decide)
set_option maxHeartbeats 4000000 in
set_option maxRecDepth 100000 in
theorem printInternal_calls (y m d h mi s z : Int) (w : World) (hL : Laid w) :
    Calls Tryd.prog 29 #[.agg #[.int .i64 y, .int .i64 m, .int .i64 d, .int .i64 h, .int .i64 mi, .int .i64 s, .int .i64 z]] w fun e w' => e = .returned (.tuple #[.string (printInternalP y m d h mi s z).1, .int .i64 (printInternalP y m d h mi s z).2]) ∧ Below w.heap.size w w' := by
  have HL := Lib.hid (laid_below hL (below_alloc (Below.refl _ w) (.cells #[.int .i64 y, .int .i64 m, .int .i64 d, .int .i64 h, .int .i64 mi, .int .i64 s, .int .i64 z] 23)))
  have HR := Lib.hid (refused_f y m d h mi s z)
  by_cases hr : refuseP y m d h mi s z = 0
  · obtain ⟨hd, hv⟩ := refuse_zero hr
    have hdd := (isDay_iff y m d).1 hd
    have htt := (time_iff h mi s z).1 ((valid_iff y m d h mi s z).1 hv).2
    have hp : printInternalP y m d h mi s z = (internalT y m d h mi s z, 0) := if_pos hr
    rw [hp]
    have hpl := plain_f d
    have hds := dashP_size y m (by omega) (by omega)
    have hda : moment_dashed.f y m d h mi s z = some (dashP y m) := if_pos ⟨by omega, by omega⟩
    have hck : moment_clock.f y m d h mi s z = some (clockP h mi s z) := if_pos ⟨by omega, by omega⟩
    have hcs := clockP_size h mi s z
    rw [hr] at HR
    have HPL := Lib.hid hpl
    have HDA := Lib.hid hda
    have HCK := Lib.hid hck
    have hps := plainP_size d
    have HI : Hid (internalT y m d h mi s z = (if (plainP d).size = 1 then (⟨#[32]⟩ : ByteArray) ++ plainP d else plainP d) ++ dashP y m ++ ⟨#[32]⟩ ++ clockP h mi s z) := Lib.hid rfl
    generalize plainP d = pd at *
    generalize dashP y m = da at *
    generalize clockP h mi s z = ck at *
    clear hL hr hd hv hdd htt hp hpl hda hck
    have arm : True := trivial
    rcases hps with h1 | h2
    · have e : Hid (internalT y m d h mi s z = (⟨#[32]⟩ : ByteArray) ++ pd ++ da ++ ⟨#[32]⟩ ++ ck) := Lib.hid (by rw [HI.out, if_pos h1])
      clear HI
      go_enter Tryd.func29, Tryd.ntmps29
      go_wp2_with fail
      refine (moment_refused.calls _ _ _ _ _ _ _ 0 _ HR.out HL.out).mono ?_
      rintro e1 w1 ⟨rfl, hb1⟩
      have HB1 := Lib.hid (below_step (below_alloc (Below.refl _ w) _) hb1)
      have hbx := (hb1.block w.heap.size (by simp)).trans (heap_alloc_new w _)
      obtain ⟨⟨c0, c1, c2, c3, c4, c5, c6⟩, _⟩ := cells7 hbx
      have HBX := Lib.hid hbx
      clear hb1 hbx
      go_wp2_with fail
      refine (moment_plain.calls _ pd _ HPL.out).mono ?_
      rintro e1 w2 ⟨rfl, hb1⟩
      have HB := Lib.hid (below_step HB1.out hb1)
      have hbx := (hb1.block w.heap.size (blk_lt HBX.out)).trans HBX.out
      clear c0 c1 c2 c3 c4 c5 c6 HB1 HBX
      obtain ⟨⟨c0, c1, c2, c3, c4, c5, c6⟩, _⟩ := cells7 hbx
      clear hb1 hbx
      go_wp2_with fail
      go_region_held3 (fun w' => w'.cell? ⟨w.heap.size, 0, none⟩ = some (.int .i64 y) ∧ w'.cell? ⟨w.heap.size, 1, none⟩ = some (.int .i64 m) ∧ w'.cell? ⟨w.heap.size, 2, none⟩ = some (.int .i64 d) ∧ w'.cell? ⟨w.heap.size, 3, none⟩ = some (.int .i64 h) ∧ w'.cell? ⟨w.heap.size, 4, none⟩ = some (.int .i64 mi) ∧ w'.cell? ⟨w.heap.size, 5, none⟩ = some (.int .i64 s) ∧ w'.cell? ⟨w.heap.size, 6, none⟩ = some (.int .i64 z)) (go_keep) ((first | (go_at_call 50; (with_reducible refine (moment_dashed.calls y m d h mi s z _ _ HDA.out).mono ?_); rintro e1 w3 ⟨rfl, hb⟩; have n0_ := Lib.hid (below_step (by repeat (first | (with_reducible exact HB.out) | (with_reducible apply below_drew) | (with_reducible apply pw_below_drewN) | exact HB.out)) hb); clear HB; have HB := n0_; clear n0_; have k0 := pw_cell_below hb (a := ⟨w.heap.size, 0, none⟩) (v := .int .i64 y) (by first | assumption | go_simp); have k1 := pw_cell_below hb (a := ⟨w.heap.size, 1, none⟩) (v := .int .i64 m) (by first | assumption | go_simp); have k2 := pw_cell_below hb (a := ⟨w.heap.size, 2, none⟩) (v := .int .i64 d) (by first | assumption | go_simp); have k3 := pw_cell_below hb (a := ⟨w.heap.size, 3, none⟩) (v := .int .i64 h) (by first | assumption | go_simp); have k4 := pw_cell_below hb (a := ⟨w.heap.size, 4, none⟩) (v := .int .i64 mi) (by first | assumption | go_simp); have k5 := pw_cell_below hb (a := ⟨w.heap.size, 5, none⟩) (v := .int .i64 s) (by first | assumption | go_simp); have k6 := pw_cell_below hb (a := ⟨w.heap.size, 6, none⟩) (v := .int .i64 z) (by first | assumption | go_simp); clear hb) | (go_at_call 64; (with_reducible refine (moment_clock.calls y m d h mi s z _ _ HCK.out).mono ?_); rintro e1 w4 ⟨rfl, hb⟩; have n0_ := Lib.hid (below_step (by repeat (first | (with_reducible exact HB.out) | (with_reducible apply below_drew) | (with_reducible apply pw_below_drewN) | exact HB.out)) hb); clear HB; have HB := n0_; clear n0_; have k0 := pw_cell_below hb (a := ⟨w.heap.size, 0, none⟩) (v := .int .i64 y) (by first | assumption | go_simp); have k1 := pw_cell_below hb (a := ⟨w.heap.size, 1, none⟩) (v := .int .i64 m) (by first | assumption | go_simp); have k2 := pw_cell_below hb (a := ⟨w.heap.size, 2, none⟩) (v := .int .i64 d) (by first | assumption | go_simp); have k3 := pw_cell_below hb (a := ⟨w.heap.size, 3, none⟩) (v := .int .i64 h) (by first | assumption | go_simp); have k4 := pw_cell_below hb (a := ⟨w.heap.size, 4, none⟩) (v := .int .i64 mi) (by first | assumption | go_simp); have k5 := pw_cell_below hb (a := ⟨w.heap.size, 5, none⟩) (v := .int .i64 s) (by first | assumption | go_simp); have k6 := pw_cell_below hb (a := ⟨w.heap.size, 6, none⟩) (v := .int .i64 z) (by first | assumption | go_simp); clear hb)))
      all_goals go_wp2
      all_goals go_ret2
      all_goals exact ⟨by rw [e.out]; rfl, HB.out⟩
    · have e : Hid (internalT y m d h mi s z = pd ++ da ++ ⟨#[32]⟩ ++ ck) := Lib.hid (by rw [HI.out, if_neg (by omega)])
      clear HI
      go_enter Tryd.func29, Tryd.ntmps29
      go_wp2_with fail
      refine (moment_refused.calls _ _ _ _ _ _ _ 0 _ HR.out HL.out).mono ?_
      rintro e1 w1 ⟨rfl, hb1⟩
      have HB1 := Lib.hid (below_step (below_alloc (Below.refl _ w) _) hb1)
      have hbx := (hb1.block w.heap.size (by simp)).trans (heap_alloc_new w _)
      obtain ⟨⟨c0, c1, c2, c3, c4, c5, c6⟩, _⟩ := cells7 hbx
      have HBX := Lib.hid hbx
      clear hb1 hbx
      go_wp2_with fail
      refine (moment_plain.calls _ pd _ HPL.out).mono ?_
      rintro e1 w2 ⟨rfl, hb1⟩
      have HB := Lib.hid (below_step HB1.out hb1)
      have hbx := (hb1.block w.heap.size (blk_lt HBX.out)).trans HBX.out
      clear c0 c1 c2 c3 c4 c5 c6 HB1 HBX
      obtain ⟨⟨c0, c1, c2, c3, c4, c5, c6⟩, _⟩ := cells7 hbx
      clear hb1 hbx
      go_wp2_with fail
      go_region_held3 (fun w' => w'.cell? ⟨w.heap.size, 0, none⟩ = some (.int .i64 y) ∧ w'.cell? ⟨w.heap.size, 1, none⟩ = some (.int .i64 m) ∧ w'.cell? ⟨w.heap.size, 2, none⟩ = some (.int .i64 d) ∧ w'.cell? ⟨w.heap.size, 3, none⟩ = some (.int .i64 h) ∧ w'.cell? ⟨w.heap.size, 4, none⟩ = some (.int .i64 mi) ∧ w'.cell? ⟨w.heap.size, 5, none⟩ = some (.int .i64 s) ∧ w'.cell? ⟨w.heap.size, 6, none⟩ = some (.int .i64 z)) (go_keep) ((first | (go_at_call 50; (with_reducible refine (moment_dashed.calls y m d h mi s z _ _ HDA.out).mono ?_); rintro e1 w3 ⟨rfl, hb⟩; have n0_ := Lib.hid (below_step (by repeat (first | (with_reducible exact HB.out) | (with_reducible apply below_drew) | (with_reducible apply pw_below_drewN) | exact HB.out)) hb); clear HB; have HB := n0_; clear n0_; have k0 := pw_cell_below hb (a := ⟨w.heap.size, 0, none⟩) (v := .int .i64 y) (by first | assumption | go_simp); have k1 := pw_cell_below hb (a := ⟨w.heap.size, 1, none⟩) (v := .int .i64 m) (by first | assumption | go_simp); have k2 := pw_cell_below hb (a := ⟨w.heap.size, 2, none⟩) (v := .int .i64 d) (by first | assumption | go_simp); have k3 := pw_cell_below hb (a := ⟨w.heap.size, 3, none⟩) (v := .int .i64 h) (by first | assumption | go_simp); have k4 := pw_cell_below hb (a := ⟨w.heap.size, 4, none⟩) (v := .int .i64 mi) (by first | assumption | go_simp); have k5 := pw_cell_below hb (a := ⟨w.heap.size, 5, none⟩) (v := .int .i64 s) (by first | assumption | go_simp); have k6 := pw_cell_below hb (a := ⟨w.heap.size, 6, none⟩) (v := .int .i64 z) (by first | assumption | go_simp); clear hb) | (go_at_call 64; (with_reducible refine (moment_clock.calls y m d h mi s z _ _ HCK.out).mono ?_); rintro e1 w4 ⟨rfl, hb⟩; have n0_ := Lib.hid (below_step (by repeat (first | (with_reducible exact HB.out) | (with_reducible apply below_drew) | (with_reducible apply pw_below_drewN) | exact HB.out)) hb); clear HB; have HB := n0_; clear n0_; have k0 := pw_cell_below hb (a := ⟨w.heap.size, 0, none⟩) (v := .int .i64 y) (by first | assumption | go_simp); have k1 := pw_cell_below hb (a := ⟨w.heap.size, 1, none⟩) (v := .int .i64 m) (by first | assumption | go_simp); have k2 := pw_cell_below hb (a := ⟨w.heap.size, 2, none⟩) (v := .int .i64 d) (by first | assumption | go_simp); have k3 := pw_cell_below hb (a := ⟨w.heap.size, 3, none⟩) (v := .int .i64 h) (by first | assumption | go_simp); have k4 := pw_cell_below hb (a := ⟨w.heap.size, 4, none⟩) (v := .int .i64 mi) (by first | assumption | go_simp); have k5 := pw_cell_below hb (a := ⟨w.heap.size, 5, none⟩) (v := .int .i64 s) (by first | assumption | go_simp); have k6 := pw_cell_below hb (a := ⟨w.heap.size, 6, none⟩) (v := .int .i64 z) (by first | assumption | go_simp); clear hb)))
      all_goals go_wp2
      all_goals go_ret2
      all_goals exact ⟨by rw [e.out]; rfl, HB.out⟩
  · have hp : printInternalP y m d h mi s z = (⟨#[]⟩, refuseP y m d h mi s z) := if_neg hr
    rw [hp]
    generalize refuseP y m d h mi s z = q at *
    have hq : (q != 0) = true := by rw [bne_iff_ne]; exact hr
    clear hL hp hr
    go_enter Tryd.func29, Tryd.ntmps29
    go_wp2_with fail
    refine (moment_refused.calls _ _ _ _ _ _ _ q _ HR.out HL.out).mono ?_
    rintro e1 w1 ⟨rfl, hb1⟩
    have HB1 := Lib.hid (below_step (below_alloc (Below.refl _ w) _) hb1)
    clear hb1
    go_wp2
    go_ret2
    exact ⟨rfl, HB1.out⟩
def moment_PrintInternal.f (y m d h mi s z : Int) : Option (ByteArray × Int) := some (printInternalP y m d h mi s z)
theorem moment_PrintInternal.calls (a0_0 a0_1 a0_2 a0_3 a0_4 a0_5 a0_6 : Int) (r1 : ByteArray) (r2 : Int) (w : World) (h : moment_PrintInternal.f a0_0 a0_1 a0_2 a0_3 a0_4 a0_5 a0_6 = some (r1, r2)) (hL : Laid w) :
    Calls Tryd.prog 29 #[.agg #[.int .i64 a0_0, .int .i64 a0_1, .int .i64 a0_2, .int .i64 a0_3, .int .i64 a0_4, .int .i64 a0_5, .int .i64 a0_6]] w fun e w' => e = .returned (.tuple #[.string r1, .int .i64 r2]) ∧ Below w.heap.size w w' := by
  have h := Option.some.inj h
  have h2 := printInternal_calls a0_0 a0_1 a0_2 a0_3 a0_4 a0_5 a0_6 w hL
  rw [h] at h2
  exact h2
end Go.Proofs.YtjlchnmpebdggaaDoor.Mo
end
section
namespace Go.Proofs.YtjlchnmpebdggaaDoor.Mo
open Go.RowKit Go.Proofs.YtjlchnmpebdggaaDoorW.PrintWords
theorem str_app (l m : List Int) : strOfNums l ++ strOfNums m = strOfNums (l ++ m) := by
  apply ByteArray.ext
  apply Array.toList_inj.1
  rw [ByteArray.data_append, Array.toList_append, strOfNums_data, strOfNums_data, strOfNums_data, List.map_append]
def digP (n : Int) : ByteArray := strOfNums [48 + n]
theorem twoP_dig (n : Int) (h0 : 0 ≤ n) (h1 : n ≤ 99) : twoP n = digP (n / 10) ++ digP (n % 10) := by
  unfold twoP digP
  rw [str_app, Int.tmod_eq_emod_of_nonneg h0, Int.tdiv_eq_ediv_of_nonneg h0, w64 (n / 10) (by omega) (by omega), w64 (48 + n / 10) (by omega) (by omega), w64 (48 + n % 10) (by omega) (by omega), Int.emod_eq_of_lt (by omega) (by omega), Int.emod_eq_of_lt (by omega) (by omega)]
  rfl
end Go.Proofs.YtjlchnmpebdggaaDoor.Mo
end
