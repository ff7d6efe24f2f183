import Derived.Test.YtjlchnmpebdggaaDoorInt2
import Derived.Test.YtjlchnmpebdggaaDoorInt7
import Derived.Test.YtjlchnmpebdggaaDoorInt12
import Derived.Test.YtjlchnmpebdggaaDoorInt9
import Derived.Test.YtjlchnmpebdggaaDoorInt10
import Derived.Test.YtjlchnmpebdggaaDoorRows
import Derived.ProofKit
import Derived.LaidMore
import Derived.OpenShut
import Derived.Stop.Joined
section
-- PRINTED by a driver of print.py
namespace Go.Proofs.YtjlchnmpebdggaaDoor.Mo
open Go.RowKit Go.Proofs.YtjlchnmpebdggaaDoorW.PrintWords Go.Proofs.YtjlchnmpebdggaaDoorW.PrintLast Go.Proofs.YtjlchnmpebdggaaDoorW.PrintMore
attribute [local go_sem] max2_int min2_int max_two min_two max_three min_three max_four min_four   -- for this text's walks alone
set_option linter.unusedVariables false
set_option linter.unusedSimpArgs false
attribute [local go_sem high] eqA23
def postbaglaw2_MomentInternals.f (k : Nat) (a0 : ByteArray) (a1_0 : Int) (a1_1 : Int) (a1_2 : Int) (a1_3 : Int) (a1_4 : Int) (a1_5 : Int) (a1_6 : Int) (a2 : ByteArray) : Option (Bool) := (postbaglaw2_known.f).bind fun t216 => (if t216 = true then ((postbaglaw2_internal.f k a0 a1_0 a1_1 a1_2 a1_3 a1_4 a1_5 a1_6).bind fun t217 => (if t217 = true then ((postbaglaw2_internal.f k a2 a1_0 a1_1 a1_2 a1_3 a1_4 a1_5 a1_6).bind fun t218 => (if t218 = true then ((postbaglaw2_internal.f k a0 a1_0 a1_1 a1_2 a1_3 a1_4 a1_5 a1_6).bind fun t219 => (some t219)) else (some false))) else (some false))) else (some false))
set_option maxHeartbeats 8000000 in
set_option maxRecDepth 100000 in
theorem postbaglaw2_MomentInternals.calls (k : Nat) (a0 : ByteArray) (a1_0 : Int) (a1_1 : Int) (a1_2 : Int) (a1_3 : Int) (a1_4 : Int) (a1_5 : Int) (a1_6 : Int) (a2 : ByteArray) (r : Bool) (w : World) (h : postbaglaw2_MomentInternals.f k a0 a1_0 a1_1 a1_2 a1_3 a1_4 a1_5 a1_6 a2 = some r) (hL_ : Laid w) :
  Calls Tryd.prog 3 #[.string a0, .agg #[.int .i64 a1_0, .int .i64 a1_1, .int .i64 a1_2, .int .i64 a1_3, .int .i64 a1_4, .int .i64 a1_5, .int .i64 a1_6], .string a2] w fun e w' => e = .returned (.bool r) ∧ Below w.heap.size w w' := by
 have HL_ := Aside0.mk hL_
 clear hL_
 have hu23 := Tryd.underlying23
 have HB := Aside0.mk (Below.refl w.heap.size w)
 have H : ((postbaglaw2_known.f).bind fun t216 => (if t216 = true then ((postbaglaw2_internal.f k a0 a1_0 a1_1 a1_2 a1_3 a1_4 a1_5 a1_6).bind fun t217 => (if t217 = true then ((postbaglaw2_internal.f k a2 a1_0 a1_1 a1_2 a1_3 a1_4 a1_5 a1_6).bind fun t218 => (if t218 = true then ((postbaglaw2_internal.f k a0 a1_0 a1_1 a1_2 a1_3 a1_4 a1_5 a1_6).bind fun t219 => (some t219)) else (some false))) else (some false))) else (some false))) = some r := h
 clear h
 replace H := Option.bind_eq_some_iff.mp H
 obtain ⟨t216, A40, H⟩ := H
 replace H : (if t216 = true then ((postbaglaw2_internal.f k a0 a1_0 a1_1 a1_2 a1_3 a1_4 a1_5 a1_6).bind fun t217 => (if t217 = true then ((postbaglaw2_internal.f k a2 a1_0 a1_1 a1_2 a1_3 a1_4 a1_5 a1_6).bind fun t218 => (if t218 = true then ((postbaglaw2_internal.f k a0 a1_0 a1_1 a1_2 a1_3 a1_4 a1_5 a1_6).bind fun t219 => (some t219)) else (some false))) else (some false))) else (some false)) = some r := H
 have A4 := Aside0.mk A40
 clear A40
 by_cases c5 : t216 = true
 ·subst c5
  have H1 : ((postbaglaw2_internal.f k a0 a1_0 a1_1 a1_2 a1_3 a1_4 a1_5 a1_6).bind fun t217 => (if t217 = true then ((postbaglaw2_internal.f k a2 a1_0 a1_1 a1_2 a1_3 a1_4 a1_5 a1_6).bind fun t218 => (if t218 = true then ((postbaglaw2_internal.f k a0 a1_0 a1_1 a1_2 a1_3 a1_4 a1_5 a1_6).bind fun t219 => (some t219)) else (some false))) else (some false))) = some r := by rw [if_pos rfl] at H; exact H
  clear H
  have H := H1
  clear H1
  replace H := Option.bind_eq_some_iff.mp H
  obtain ⟨t217, A60, H⟩ := H
  replace H : (if t217 = true then ((postbaglaw2_internal.f k a2 a1_0 a1_1 a1_2 a1_3 a1_4 a1_5 a1_6).bind fun t218 => (if t218 = true then ((postbaglaw2_internal.f k a0 a1_0 a1_1 a1_2 a1_3 a1_4 a1_5 a1_6).bind fun t219 => (some t219)) else (some false))) else (some false)) = some r := H
  have A6 := Aside0.mk A60
  clear A60
  by_cases c7 : t217 = true
  ·subst c7
   have H1 : ((postbaglaw2_internal.f k a2 a1_0 a1_1 a1_2 a1_3 a1_4 a1_5 a1_6).bind fun t218 => (if t218 = true then ((postbaglaw2_internal.f k a0 a1_0 a1_1 a1_2 a1_3 a1_4 a1_5 a1_6).bind fun t219 => (some t219)) else (some false))) = some r := by rw [if_pos rfl] at H; exact H
   clear H
   have H := H1
   clear H1
   replace H := Option.bind_eq_some_iff.mp H
   obtain ⟨t218, A80, H⟩ := H
   replace H : (if t218 = true then ((postbaglaw2_internal.f k a0 a1_0 a1_1 a1_2 a1_3 a1_4 a1_5 a1_6).bind fun t219 => (some t219)) else (some false)) = some r := H
   have A8 := Aside0.mk A80
   clear A80
   by_cases c9 : t218 = true
   ·subst c9
    have H1 : ((postbaglaw2_internal.f k a0 a1_0 a1_1 a1_2 a1_3 a1_4 a1_5 a1_6).bind fun t219 => (some t219)) = some r := by rw [if_pos rfl] at H; exact H
    clear H
    have H := H1
    clear H1
    replace H := Option.bind_eq_some_iff.mp H
    obtain ⟨t219, A100, H⟩ := H
    replace H : (some t219) = some r := H
    have A10 := Aside0.mk A100
    clear A100
    obtain rfl := Option.some.inj H
    obtain rfl : true = t219 := Option.some.inj (A6.out.symm.trans A10.out)
    go_enter Tryd.func3, Tryd.ntmps3
    go_wp2_with (first | ((with_reducible refine gate_dst (N := 4) rfl ?_); refine box_event ?hg (N := 4) ?hd (cs := #[.int .i64 a1_0, .int .i64 a1_1, .int .i64 a1_2, .int .i64 a1_3, .int .i64 a1_4, .int .i64 a1_5, .int .i64 a1_6]) (t := 23) ?hr ?_; (case hd => rfl); (case hg => rfl); (case hr => first | (go_simp; done) | (go_simp; rfl)); intro gb215 hg w11 hbox hb; have n0_ := Aside0.mk (below_step (by repeat (first | (with_reducible first | exact HB.out | apply below_alloc | apply pw_below_drewN | apply below_drew1) | exact HB.out)) hb); have n1_ := Aside0.mk (hbox); have n2_ := Aside0.mk ((by rw [hg]; exact (below_size (by repeat (first | (with_reducible first | exact HB.out | apply below_alloc | apply pw_below_drewN | apply below_drew1) | exact HB.out))) : w.heap.size ≤ gb215)); have n3_ := Aside0.mk ((by rw [hg]; exact (below_size (by repeat (first | (with_reducible first | exact HB.out | apply below_alloc | apply pw_below_drewN | apply below_drew1) | exact HB.out))) : w.heap.size ≤ gb215)); clear HB; have HB := n0_; have BK215 := n1_; have GW215 := n2_; have GE215 := n3_; clear n0_ n1_ n2_ n3_; clear hb hbox hg) | ((with_reducible refine gate_callee (f := 15) rfl ?_); refine goesL_ (some 7) rfl rfl Tryd.func15 (by kernel_rfl) rfl #[] rfl (by (try simp only [List.map_toArray, List.map_cons, List.map_nil]); first | done | rfl | (simp only [List.length_drop, List.length_take]; rfl)) ?_; (with_reducible refine (postbaglaw2_known.calls  true _ A4.out (by first | exact laid_below HL_.out (by repeat (first | (with_reducible first | exact HB.out | apply below_alloc | apply pw_below_drewN | apply below_drew1) | exact HB.out)) | exact laid_drawn HL_.out (by repeat (first | exact Drawn0.refl _ | apply Drawn0.step)))).mono ?_); rintro e w12 ⟨rfl, hb⟩; refine ⟨_, rfl, ?_⟩; have n0_ := Aside0.mk (blk_below (g := gb215) (o := .cells #[.int .i64 a1_0, .int .i64 a1_1, .int .i64 a1_2, .int .i64 a1_3, .int .i64 a1_4, .int .i64 a1_5, .int .i64 a1_6] 23 (0, 0)) (by (with_reducible repeat (first | refine blk_drewN ?_ _ | refine blk_drew ?_ | refine blk_alloc ?_ _)); exact BK215.out) hb); have n1_ := Aside0.mk (below_step (by repeat (first | (with_reducible first | exact HB.out | apply below_alloc | apply pw_below_drewN | apply below_drew1 | refine below_set ?_ GE215.out) | exact HB.out)) hb); clear BK215; clear HB; have BK215 := n0_; have HB := n1_; clear n0_ n1_; (try clear hb); (try clear hb2); (try clear hk); (try clear hi); have hcz13_0 : w12.cell? ⟨gb215, 0, none⟩ = some (.int .i64 a1_0) := (blk_cell BK215.out 0).trans rfl; have hcz13_1 : w12.cell? ⟨gb215, 1, none⟩ = some (.int .i64 a1_1) := (blk_cell BK215.out 1).trans rfl; have hcz13_2 : w12.cell? ⟨gb215, 2, none⟩ = some (.int .i64 a1_2) := (blk_cell BK215.out 2).trans rfl; have hcz13_3 : w12.cell? ⟨gb215, 3, none⟩ = some (.int .i64 a1_3) := (blk_cell BK215.out 3).trans rfl; have hcz13_4 : w12.cell? ⟨gb215, 4, none⟩ = some (.int .i64 a1_4) := (blk_cell BK215.out 4).trans rfl; have hcz13_5 : w12.cell? ⟨gb215, 5, none⟩ = some (.int .i64 a1_5) := (blk_cell BK215.out 5).trans rfl; have hcz13_6 : w12.cell? ⟨gb215, 6, none⟩ = some (.int .i64 a1_6) := (blk_cell BK215.out 6).trans rfl; have hfz13_0 := blk_frozen BK215.out 0; have hfz13_1 := blk_frozen BK215.out 1; have hfz13_2 := blk_frozen BK215.out 2; have hfz13_3 := blk_frozen BK215.out 3; have hfz13_4 := blk_frozen BK215.out 4; have hfz13_5 := blk_frozen BK215.out 5; have hfz13_6 := blk_frozen BK215.out 6) | (go_at_call 16; (with_reducible refine (postbaglaw2_internal.calls k a0 a1_0 a1_1 a1_2 a1_3 a1_4 a1_5 a1_6 true _ A6.out (by first | exact laid_below HL_.out (by repeat (first | (with_reducible first | exact HB.out | apply below_alloc | apply pw_below_drewN | apply below_drew1) | exact HB.out)) | exact laid_drawn HL_.out (by repeat (first | exact Drawn0.refl _ | apply Drawn0.step)))).mono ?_); rintro e w14 ⟨rfl, hb⟩; have n0_ := Aside0.mk (blk_below (g := gb215) (o := .cells #[.int .i64 a1_0, .int .i64 a1_1, .int .i64 a1_2, .int .i64 a1_3, .int .i64 a1_4, .int .i64 a1_5, .int .i64 a1_6] 23 (0, 0)) (by (with_reducible repeat (first | refine blk_drewN ?_ _ | refine blk_drew ?_ | refine blk_alloc ?_ _)); exact BK215.out) hb); have n1_ := Aside0.mk (below_step (by repeat (first | (with_reducible first | exact HB.out | apply below_alloc | apply pw_below_drewN | apply below_drew1 | refine below_set ?_ GE215.out) | exact HB.out)) hb); clear BK215; clear HB; have BK215 := n0_; have HB := n1_; clear n0_ n1_; (try clear hb); (try clear hb2); (try clear hk); (try clear hi); have hcz15_0 : w14.cell? ⟨gb215, 0, none⟩ = some (.int .i64 a1_0) := (blk_cell BK215.out 0).trans rfl; have hcz15_1 : w14.cell? ⟨gb215, 1, none⟩ = some (.int .i64 a1_1) := (blk_cell BK215.out 1).trans rfl; have hcz15_2 : w14.cell? ⟨gb215, 2, none⟩ = some (.int .i64 a1_2) := (blk_cell BK215.out 2).trans rfl; have hcz15_3 : w14.cell? ⟨gb215, 3, none⟩ = some (.int .i64 a1_3) := (blk_cell BK215.out 3).trans rfl; have hcz15_4 : w14.cell? ⟨gb215, 4, none⟩ = some (.int .i64 a1_4) := (blk_cell BK215.out 4).trans rfl; have hcz15_5 : w14.cell? ⟨gb215, 5, none⟩ = some (.int .i64 a1_5) := (blk_cell BK215.out 5).trans rfl; have hcz15_6 : w14.cell? ⟨gb215, 6, none⟩ = some (.int .i64 a1_6) := (blk_cell BK215.out 6).trans rfl; have hfz15_0 := blk_frozen BK215.out 0; have hfz15_1 := blk_frozen BK215.out 1; have hfz15_2 := blk_frozen BK215.out 2; have hfz15_3 := blk_frozen BK215.out 3; have hfz15_4 := blk_frozen BK215.out 4; have hfz15_5 := blk_frozen BK215.out 5; have hfz15_6 := blk_frozen BK215.out 6) | (go_at_call 16; (with_reducible refine (postbaglaw2_internal.calls k a2 a1_0 a1_1 a1_2 a1_3 a1_4 a1_5 a1_6 true _ A8.out (by first | exact laid_below HL_.out (by repeat (first | (with_reducible first | exact HB.out | apply below_alloc | apply pw_below_drewN | apply below_drew1) | exact HB.out)) | exact laid_drawn HL_.out (by repeat (first | exact Drawn0.refl _ | apply Drawn0.step)))).mono ?_); rintro e w16 ⟨rfl, hb⟩; have n0_ := Aside0.mk (blk_below (g := gb215) (o := .cells #[.int .i64 a1_0, .int .i64 a1_1, .int .i64 a1_2, .int .i64 a1_3, .int .i64 a1_4, .int .i64 a1_5, .int .i64 a1_6] 23 (0, 0)) (by (with_reducible repeat (first | refine blk_drewN ?_ _ | refine blk_drew ?_ | refine blk_alloc ?_ _)); exact BK215.out) hb); have n1_ := Aside0.mk (below_step (by repeat (first | (with_reducible first | exact HB.out | apply below_alloc | apply pw_below_drewN | apply below_drew1 | refine below_set ?_ GE215.out) | exact HB.out)) hb); clear BK215; clear HB; have BK215 := n0_; have HB := n1_; clear n0_ n1_; (try clear hb); (try clear hb2); (try clear hk); (try clear hi); have hcz17_0 : w16.cell? ⟨gb215, 0, none⟩ = some (.int .i64 a1_0) := (blk_cell BK215.out 0).trans rfl; have hcz17_1 : w16.cell? ⟨gb215, 1, none⟩ = some (.int .i64 a1_1) := (blk_cell BK215.out 1).trans rfl; have hcz17_2 : w16.cell? ⟨gb215, 2, none⟩ = some (.int .i64 a1_2) := (blk_cell BK215.out 2).trans rfl; have hcz17_3 : w16.cell? ⟨gb215, 3, none⟩ = some (.int .i64 a1_3) := (blk_cell BK215.out 3).trans rfl; have hcz17_4 : w16.cell? ⟨gb215, 4, none⟩ = some (.int .i64 a1_4) := (blk_cell BK215.out 4).trans rfl; have hcz17_5 : w16.cell? ⟨gb215, 5, none⟩ = some (.int .i64 a1_5) := (blk_cell BK215.out 5).trans rfl; have hcz17_6 : w16.cell? ⟨gb215, 6, none⟩ = some (.int .i64 a1_6) := (blk_cell BK215.out 6).trans rfl; have hfz17_0 := blk_frozen BK215.out 0; have hfz17_1 := blk_frozen BK215.out 1; have hfz17_2 := blk_frozen BK215.out 2; have hfz17_3 := blk_frozen BK215.out 3; have hfz17_4 := blk_frozen BK215.out 4; have hfz17_5 := blk_frozen BK215.out 5; have hfz17_6 := blk_frozen BK215.out 6) | (go_at_call 16; (with_reducible refine (postbaglaw2_internal.calls k a0 a1_0 a1_1 a1_2 a1_3 a1_4 a1_5 a1_6 t219 _ A10.out (by first | exact laid_below HL_.out (by repeat (first | (with_reducible first | exact HB.out | apply below_alloc | apply pw_below_drewN | apply below_drew1) | exact HB.out)) | exact laid_drawn HL_.out (by repeat (first | exact Drawn0.refl _ | apply Drawn0.step)))).mono ?_); rintro e w18 ⟨rfl, hb⟩; have n0_ := Aside0.mk (blk_below (g := gb215) (o := .cells #[.int .i64 a1_0, .int .i64 a1_1, .int .i64 a1_2, .int .i64 a1_3, .int .i64 a1_4, .int .i64 a1_5, .int .i64 a1_6] 23 (0, 0)) (by (with_reducible repeat (first | refine blk_drewN ?_ _ | refine blk_drew ?_ | refine blk_alloc ?_ _)); exact BK215.out) hb); have n1_ := Aside0.mk (below_step (by repeat (first | (with_reducible first | exact HB.out | apply below_alloc | apply pw_below_drewN | apply below_drew1 | refine below_set ?_ GE215.out) | exact HB.out)) hb); clear BK215; clear HB; have BK215 := n0_; have HB := n1_; clear n0_ n1_; (try clear hb); (try clear hb2); (try clear hk); (try clear hi)))
    go_ret
    exact ⟨by first | rfl | (simp [errW_none, errW_some] <;> rfl) | (simp [*, errW_none, errW_some] <;> rfl), by repeat (first | (with_reducible first | exact HB.out | apply below_alloc | apply pw_below_drewN | apply below_drew1 | refine below_set ?_ GE215.out) | exact HB.out)⟩
   ·replace c9 := Bool.eq_false_iff.mpr c9
    subst c9
    have H1 : (some false) = some r := by rw [if_neg (show ¬ (false = true) by decide)] at H; exact H
    clear H
    have H := H1
    clear H1
    obtain rfl := Option.some.inj H
    go_enter Tryd.func3, Tryd.ntmps3
    go_wp2_with (first | ((with_reducible refine gate_dst (N := 4) rfl ?_); refine box_event ?hg (N := 4) ?hd (cs := #[.int .i64 a1_0, .int .i64 a1_1, .int .i64 a1_2, .int .i64 a1_3, .int .i64 a1_4, .int .i64 a1_5, .int .i64 a1_6]) (t := 23) ?hr ?_; (case hd => rfl); (case hg => rfl); (case hr => first | (go_simp; done) | (go_simp; rfl)); intro gb215 hg w19 hbox hb; have n0_ := Aside0.mk (below_step (by repeat (first | (with_reducible first | exact HB.out | apply below_alloc | apply pw_below_drewN | apply below_drew1) | exact HB.out)) hb); have n1_ := Aside0.mk (hbox); have n2_ := Aside0.mk ((by rw [hg]; exact (below_size (by repeat (first | (with_reducible first | exact HB.out | apply below_alloc | apply pw_below_drewN | apply below_drew1) | exact HB.out))) : w.heap.size ≤ gb215)); have n3_ := Aside0.mk ((by rw [hg]; exact (below_size (by repeat (first | (with_reducible first | exact HB.out | apply below_alloc | apply pw_below_drewN | apply below_drew1) | exact HB.out))) : w.heap.size ≤ gb215)); clear HB; have HB := n0_; have BK215 := n1_; have GW215 := n2_; have GE215 := n3_; clear n0_ n1_ n2_ n3_; clear hb hbox hg) | ((with_reducible refine gate_callee (f := 15) rfl ?_); refine goesL_ (some 7) rfl rfl Tryd.func15 (by kernel_rfl) rfl #[] rfl (by (try simp only [List.map_toArray, List.map_cons, List.map_nil]); first | done | rfl | (simp only [List.length_drop, List.length_take]; rfl)) ?_; (with_reducible refine (postbaglaw2_known.calls  true _ A4.out (by first | exact laid_below HL_.out (by repeat (first | (with_reducible first | exact HB.out | apply below_alloc | apply pw_below_drewN | apply below_drew1) | exact HB.out)) | exact laid_drawn HL_.out (by repeat (first | exact Drawn0.refl _ | apply Drawn0.step)))).mono ?_); rintro e w20 ⟨rfl, hb⟩; refine ⟨_, rfl, ?_⟩; have n0_ := Aside0.mk (blk_below (g := gb215) (o := .cells #[.int .i64 a1_0, .int .i64 a1_1, .int .i64 a1_2, .int .i64 a1_3, .int .i64 a1_4, .int .i64 a1_5, .int .i64 a1_6] 23 (0, 0)) (by (with_reducible repeat (first | refine blk_drewN ?_ _ | refine blk_drew ?_ | refine blk_alloc ?_ _)); exact BK215.out) hb); have n1_ := Aside0.mk (below_step (by repeat (first | (with_reducible first | exact HB.out | apply below_alloc | apply pw_below_drewN | apply below_drew1 | refine below_set ?_ GE215.out) | exact HB.out)) hb); clear BK215; clear HB; have BK215 := n0_; have HB := n1_; clear n0_ n1_; (try clear hb); (try clear hb2); (try clear hk); (try clear hi); have hcz21_0 : w20.cell? ⟨gb215, 0, none⟩ = some (.int .i64 a1_0) := (blk_cell BK215.out 0).trans rfl; have hcz21_1 : w20.cell? ⟨gb215, 1, none⟩ = some (.int .i64 a1_1) := (blk_cell BK215.out 1).trans rfl; have hcz21_2 : w20.cell? ⟨gb215, 2, none⟩ = some (.int .i64 a1_2) := (blk_cell BK215.out 2).trans rfl; have hcz21_3 : w20.cell? ⟨gb215, 3, none⟩ = some (.int .i64 a1_3) := (blk_cell BK215.out 3).trans rfl; have hcz21_4 : w20.cell? ⟨gb215, 4, none⟩ = some (.int .i64 a1_4) := (blk_cell BK215.out 4).trans rfl; have hcz21_5 : w20.cell? ⟨gb215, 5, none⟩ = some (.int .i64 a1_5) := (blk_cell BK215.out 5).trans rfl; have hcz21_6 : w20.cell? ⟨gb215, 6, none⟩ = some (.int .i64 a1_6) := (blk_cell BK215.out 6).trans rfl; have hfz21_0 := blk_frozen BK215.out 0; have hfz21_1 := blk_frozen BK215.out 1; have hfz21_2 := blk_frozen BK215.out 2; have hfz21_3 := blk_frozen BK215.out 3; have hfz21_4 := blk_frozen BK215.out 4; have hfz21_5 := blk_frozen BK215.out 5; have hfz21_6 := blk_frozen BK215.out 6) | (go_at_call 16; (with_reducible refine (postbaglaw2_internal.calls k a0 a1_0 a1_1 a1_2 a1_3 a1_4 a1_5 a1_6 true _ A6.out (by first | exact laid_below HL_.out (by repeat (first | (with_reducible first | exact HB.out | apply below_alloc | apply pw_below_drewN | apply below_drew1) | exact HB.out)) | exact laid_drawn HL_.out (by repeat (first | exact Drawn0.refl _ | apply Drawn0.step)))).mono ?_); rintro e w22 ⟨rfl, hb⟩; have n0_ := Aside0.mk (blk_below (g := gb215) (o := .cells #[.int .i64 a1_0, .int .i64 a1_1, .int .i64 a1_2, .int .i64 a1_3, .int .i64 a1_4, .int .i64 a1_5, .int .i64 a1_6] 23 (0, 0)) (by (with_reducible repeat (first | refine blk_drewN ?_ _ | refine blk_drew ?_ | refine blk_alloc ?_ _)); exact BK215.out) hb); have n1_ := Aside0.mk (below_step (by repeat (first | (with_reducible first | exact HB.out | apply below_alloc | apply pw_below_drewN | apply below_drew1 | refine below_set ?_ GE215.out) | exact HB.out)) hb); clear BK215; clear HB; have BK215 := n0_; have HB := n1_; clear n0_ n1_; (try clear hb); (try clear hb2); (try clear hk); (try clear hi); have hcz23_0 : w22.cell? ⟨gb215, 0, none⟩ = some (.int .i64 a1_0) := (blk_cell BK215.out 0).trans rfl; have hcz23_1 : w22.cell? ⟨gb215, 1, none⟩ = some (.int .i64 a1_1) := (blk_cell BK215.out 1).trans rfl; have hcz23_2 : w22.cell? ⟨gb215, 2, none⟩ = some (.int .i64 a1_2) := (blk_cell BK215.out 2).trans rfl; have hcz23_3 : w22.cell? ⟨gb215, 3, none⟩ = some (.int .i64 a1_3) := (blk_cell BK215.out 3).trans rfl; have hcz23_4 : w22.cell? ⟨gb215, 4, none⟩ = some (.int .i64 a1_4) := (blk_cell BK215.out 4).trans rfl; have hcz23_5 : w22.cell? ⟨gb215, 5, none⟩ = some (.int .i64 a1_5) := (blk_cell BK215.out 5).trans rfl; have hcz23_6 : w22.cell? ⟨gb215, 6, none⟩ = some (.int .i64 a1_6) := (blk_cell BK215.out 6).trans rfl; have hfz23_0 := blk_frozen BK215.out 0; have hfz23_1 := blk_frozen BK215.out 1; have hfz23_2 := blk_frozen BK215.out 2; have hfz23_3 := blk_frozen BK215.out 3; have hfz23_4 := blk_frozen BK215.out 4; have hfz23_5 := blk_frozen BK215.out 5; have hfz23_6 := blk_frozen BK215.out 6) | (go_at_call 16; (with_reducible refine (postbaglaw2_internal.calls k a2 a1_0 a1_1 a1_2 a1_3 a1_4 a1_5 a1_6 false _ A8.out (by first | exact laid_below HL_.out (by repeat (first | (with_reducible first | exact HB.out | apply below_alloc | apply pw_below_drewN | apply below_drew1) | exact HB.out)) | exact laid_drawn HL_.out (by repeat (first | exact Drawn0.refl _ | apply Drawn0.step)))).mono ?_); rintro e w24 ⟨rfl, hb⟩; have n0_ := Aside0.mk (blk_below (g := gb215) (o := .cells #[.int .i64 a1_0, .int .i64 a1_1, .int .i64 a1_2, .int .i64 a1_3, .int .i64 a1_4, .int .i64 a1_5, .int .i64 a1_6] 23 (0, 0)) (by (with_reducible repeat (first | refine blk_drewN ?_ _ | refine blk_drew ?_ | refine blk_alloc ?_ _)); exact BK215.out) hb); have n1_ := Aside0.mk (below_step (by repeat (first | (with_reducible first | exact HB.out | apply below_alloc | apply pw_below_drewN | apply below_drew1 | refine below_set ?_ GE215.out) | exact HB.out)) hb); clear BK215; clear HB; have BK215 := n0_; have HB := n1_; clear n0_ n1_; (try clear hb); (try clear hb2); (try clear hk); (try clear hi)))
    go_ret
    exact ⟨by first | rfl | (simp [errW_none, errW_some] <;> rfl) | (simp [*, errW_none, errW_some] <;> rfl), by repeat (first | (with_reducible first | exact HB.out | apply below_alloc | apply pw_below_drewN | apply below_drew1 | refine below_set ?_ GE215.out) | exact HB.out)⟩
  ·replace c7 := Bool.eq_false_iff.mpr c7
   subst c7
   have H1 : (some false) = some r := by rw [if_neg (show ¬ (false = true) by decide)] at H; exact H
   clear H
   have H := H1
   clear H1
   obtain rfl := Option.some.inj H
   go_enter Tryd.func3, Tryd.ntmps3
   go_wp2_with (first | ((with_reducible refine gate_dst (N := 4) rfl ?_); refine box_event ?hg (N := 4) ?hd (cs := #[.int .i64 a1_0, .int .i64 a1_1, .int .i64 a1_2, .int .i64 a1_3, .int .i64 a1_4, .int .i64 a1_5, .int .i64 a1_6]) (t := 23) ?hr ?_; (case hd => rfl); (case hg => rfl); (case hr => first | (go_simp; done) | (go_simp; rfl)); intro gb215 hg w25 hbox hb; have n0_ := Aside0.mk (below_step (by repeat (first | (with_reducible first | exact HB.out | apply below_alloc | apply pw_below_drewN | apply below_drew1) | exact HB.out)) hb); have n1_ := Aside0.mk (hbox); have n2_ := Aside0.mk ((by rw [hg]; exact (below_size (by repeat (first | (with_reducible first | exact HB.out | apply below_alloc | apply pw_below_drewN | apply below_drew1) | exact HB.out))) : w.heap.size ≤ gb215)); have n3_ := Aside0.mk ((by rw [hg]; exact (below_size (by repeat (first | (with_reducible first | exact HB.out | apply below_alloc | apply pw_below_drewN | apply below_drew1) | exact HB.out))) : w.heap.size ≤ gb215)); clear HB; have HB := n0_; have BK215 := n1_; have GW215 := n2_; have GE215 := n3_; clear n0_ n1_ n2_ n3_; clear hb hbox hg) | ((with_reducible refine gate_callee (f := 15) rfl ?_); refine goesL_ (some 7) rfl rfl Tryd.func15 (by kernel_rfl) rfl #[] rfl (by (try simp only [List.map_toArray, List.map_cons, List.map_nil]); first | done | rfl | (simp only [List.length_drop, List.length_take]; rfl)) ?_; (with_reducible refine (postbaglaw2_known.calls  true _ A4.out (by first | exact laid_below HL_.out (by repeat (first | (with_reducible first | exact HB.out | apply below_alloc | apply pw_below_drewN | apply below_drew1) | exact HB.out)) | exact laid_drawn HL_.out (by repeat (first | exact Drawn0.refl _ | apply Drawn0.step)))).mono ?_); rintro e w26 ⟨rfl, hb⟩; refine ⟨_, rfl, ?_⟩; have n0_ := Aside0.mk (blk_below (g := gb215) (o := .cells #[.int .i64 a1_0, .int .i64 a1_1, .int .i64 a1_2, .int .i64 a1_3, .int .i64 a1_4, .int .i64 a1_5, .int .i64 a1_6] 23 (0, 0)) (by (with_reducible repeat (first | refine blk_drewN ?_ _ | refine blk_drew ?_ | refine blk_alloc ?_ _)); exact BK215.out) hb); have n1_ := Aside0.mk (below_step (by repeat (first | (with_reducible first | exact HB.out | apply below_alloc | apply pw_below_drewN | apply below_drew1 | refine below_set ?_ GE215.out) | exact HB.out)) hb); clear BK215; clear HB; have BK215 := n0_; have HB := n1_; clear n0_ n1_; (try clear hb); (try clear hb2); (try clear hk); (try clear hi); have hcz27_0 : w26.cell? ⟨gb215, 0, none⟩ = some (.int .i64 a1_0) := (blk_cell BK215.out 0).trans rfl; have hcz27_1 : w26.cell? ⟨gb215, 1, none⟩ = some (.int .i64 a1_1) := (blk_cell BK215.out 1).trans rfl; have hcz27_2 : w26.cell? ⟨gb215, 2, none⟩ = some (.int .i64 a1_2) := (blk_cell BK215.out 2).trans rfl; have hcz27_3 : w26.cell? ⟨gb215, 3, none⟩ = some (.int .i64 a1_3) := (blk_cell BK215.out 3).trans rfl; have hcz27_4 : w26.cell? ⟨gb215, 4, none⟩ = some (.int .i64 a1_4) := (blk_cell BK215.out 4).trans rfl; have hcz27_5 : w26.cell? ⟨gb215, 5, none⟩ = some (.int .i64 a1_5) := (blk_cell BK215.out 5).trans rfl; have hcz27_6 : w26.cell? ⟨gb215, 6, none⟩ = some (.int .i64 a1_6) := (blk_cell BK215.out 6).trans rfl; have hfz27_0 := blk_frozen BK215.out 0; have hfz27_1 := blk_frozen BK215.out 1; have hfz27_2 := blk_frozen BK215.out 2; have hfz27_3 := blk_frozen BK215.out 3; have hfz27_4 := blk_frozen BK215.out 4; have hfz27_5 := blk_frozen BK215.out 5; have hfz27_6 := blk_frozen BK215.out 6) | (go_at_call 16; (with_reducible refine (postbaglaw2_internal.calls k a0 a1_0 a1_1 a1_2 a1_3 a1_4 a1_5 a1_6 false _ A6.out (by first | exact laid_below HL_.out (by repeat (first | (with_reducible first | exact HB.out | apply below_alloc | apply pw_below_drewN | apply below_drew1) | exact HB.out)) | exact laid_drawn HL_.out (by repeat (first | exact Drawn0.refl _ | apply Drawn0.step)))).mono ?_); rintro e w28 ⟨rfl, hb⟩; have n0_ := Aside0.mk (blk_below (g := gb215) (o := .cells #[.int .i64 a1_0, .int .i64 a1_1, .int .i64 a1_2, .int .i64 a1_3, .int .i64 a1_4, .int .i64 a1_5, .int .i64 a1_6] 23 (0, 0)) (by (with_reducible repeat (first | refine blk_drewN ?_ _ | refine blk_drew ?_ | refine blk_alloc ?_ _)); exact BK215.out) hb); have n1_ := Aside0.mk (below_step (by repeat (first | (with_reducible first | exact HB.out | apply below_alloc | apply pw_below_drewN | apply below_drew1 | refine below_set ?_ GE215.out) | exact HB.out)) hb); clear BK215; clear HB; have BK215 := n0_; have HB := n1_; clear n0_ n1_; (try clear hb); (try clear hb2); (try clear hk); (try clear hi)))
   go_ret
   exact ⟨by first | rfl | (simp [errW_none, errW_some] <;> rfl) | (simp [*, errW_none, errW_some] <;> rfl), by repeat (first | (with_reducible first | exact HB.out | apply below_alloc | apply pw_below_drewN | apply below_drew1 | refine below_set ?_ GE215.out) | exact HB.out)⟩
 ·replace c5 := Bool.eq_false_iff.mpr c5
  subst c5
  have H1 : (some false) = some r := by rw [if_neg (show ¬ (false = true) by decide)] at H; exact H
  clear H
  have H := H1
  clear H1
  obtain rfl := Option.some.inj H
  go_enter Tryd.func3, Tryd.ntmps3
  go_wp2_with (first | ((with_reducible refine gate_dst (N := 4) rfl ?_); refine box_event ?hg (N := 4) ?hd (cs := #[.int .i64 a1_0, .int .i64 a1_1, .int .i64 a1_2, .int .i64 a1_3, .int .i64 a1_4, .int .i64 a1_5, .int .i64 a1_6]) (t := 23) ?hr ?_; (case hd => rfl); (case hg => rfl); (case hr => first | (go_simp; done) | (go_simp; rfl)); intro gb215 hg w29 hbox hb; have n0_ := Aside0.mk (below_step (by repeat (first | (with_reducible first | exact HB.out | apply below_alloc | apply pw_below_drewN | apply below_drew1) | exact HB.out)) hb); have n1_ := Aside0.mk (hbox); have n2_ := Aside0.mk ((by rw [hg]; exact (below_size (by repeat (first | (with_reducible first | exact HB.out | apply below_alloc | apply pw_below_drewN | apply below_drew1) | exact HB.out))) : w.heap.size ≤ gb215)); have n3_ := Aside0.mk ((by rw [hg]; exact (below_size (by repeat (first | (with_reducible first | exact HB.out | apply below_alloc | apply pw_below_drewN | apply below_drew1) | exact HB.out))) : w.heap.size ≤ gb215)); clear HB; have HB := n0_; have BK215 := n1_; have GW215 := n2_; have GE215 := n3_; clear n0_ n1_ n2_ n3_; clear hb hbox hg) | ((with_reducible refine gate_callee (f := 15) rfl ?_); refine goesL_ (some 7) rfl rfl Tryd.func15 (by kernel_rfl) rfl #[] rfl (by (try simp only [List.map_toArray, List.map_cons, List.map_nil]); first | done | rfl | (simp only [List.length_drop, List.length_take]; rfl)) ?_; (with_reducible refine (postbaglaw2_known.calls  false _ A4.out (by first | exact laid_below HL_.out (by repeat (first | (with_reducible first | exact HB.out | apply below_alloc | apply pw_below_drewN | apply below_drew1) | exact HB.out)) | exact laid_drawn HL_.out (by repeat (first | exact Drawn0.refl _ | apply Drawn0.step)))).mono ?_); rintro e w30 ⟨rfl, hb⟩; refine ⟨_, rfl, ?_⟩; have n0_ := Aside0.mk (blk_below (g := gb215) (o := .cells #[.int .i64 a1_0, .int .i64 a1_1, .int .i64 a1_2, .int .i64 a1_3, .int .i64 a1_4, .int .i64 a1_5, .int .i64 a1_6] 23 (0, 0)) (by (with_reducible repeat (first | refine blk_drewN ?_ _ | refine blk_drew ?_ | refine blk_alloc ?_ _)); exact BK215.out) hb); have n1_ := Aside0.mk (below_step (by repeat (first | (with_reducible first | exact HB.out | apply below_alloc | apply pw_below_drewN | apply below_drew1 | refine below_set ?_ GE215.out) | exact HB.out)) hb); clear BK215; clear HB; have BK215 := n0_; have HB := n1_; clear n0_ n1_; (try clear hb); (try clear hb2); (try clear hk); (try clear hi)))
  go_ret
  exact ⟨by first | rfl | (simp [errW_none, errW_some] <;> rfl) | (simp [*, errW_none, errW_some] <;> rfl), by repeat (first | (with_reducible first | exact HB.out | apply below_alloc | apply pw_below_drewN | apply below_drew1 | refine below_set ?_ GE215.out) | exact HB.out)⟩
end Go.Proofs.YtjlchnmpebdggaaDoor.Mo
end
section
namespace Go.Proofs.YtjlchnmpebdggaaDoor.Mo
open Go.RowKit Go.Proofs.YtjlchnmpebdggaaDoorW.PrintWords
theorem str_app (l m : List Int) : strOfNums l ++ strOfNums m = strOfNums (l ++ m) := by
  apply ByteArray.ext
  apply Array.toList_inj.1
  rw [ByteArray.data_append, Array.toList_append, strOfNums_data, strOfNums_data, strOfNums_data, List.map_append]
def digP (n : Int) : ByteArray := strOfNums [48 + n]
theorem digP_size (n : Int) : (digP n).size = 1 := rfl
theorem dig_open (n : Int) (h0 : 0 ≤ n) : strOfNums [(wrap64 (48 + (Int.tmod n 10))) % 256] = digP (n % 10) := by
  rw [Int.tmod_eq_emod_of_nonneg h0, w64 (48 + n % 10) (by omega) (by omega), Int.emod_eq_of_lt (by omega) (by omega)]
  rfl
theorem twoP_dig (n : Int) (h0 : 0 ≤ n) (h1 : n ≤ 99) : twoP n = digP (n / 10) ++ digP (n % 10) := by
  unfold twoP digP
  rw [str_app, Int.tmod_eq_emod_of_nonneg h0, Int.tdiv_eq_ediv_of_nonneg h0, w64 (n / 10) (by omega) (by omega), w64 (48 + n / 10) (by omega) (by omega), w64 (48 + n % 10) (by omega) (by omega), Int.emod_eq_of_lt (by omega) (by omega), Int.emod_eq_of_lt (by omega) (by omega)]
  rfl
theorem text_more (k : Nat) (n least : Int) (s : ByteArray) (h0 : 0 ≤ n) (h1 : n ≤ 1000000) (hs : s.size ≤ 1000000) (hm : 0 < n ∨ (s.size : Int) < least) :
    postbagref2_text.l0 (k + 1) n least s = postbagref2_text.l0 k (n / 10) least (digP (n % 10) ++ s) := by
  simp only [postbagref2_text.l0, Option.bind_some]
  rw [dig_open n h0, Int.tdiv_eq_ediv_of_nonneg h0, w64 (n / 10) (by omega) (by omega), digP_size]
  by_cases h : n > 0
  · rw [if_pos h, if_pos (by omega)]
  · rw [if_neg h, if_pos (by omega), if_pos (by omega)]
theorem text_end (k : Nat) (least : Int) (s : ByteArray) (hm : least ≤ (s.size : Int)) : postbagref2_text.l0 (k + 1) 0 least s = some s := by
  simp only [postbagref2_text.l0]
  rw [if_neg (by omega), if_neg (by omega)]
theorem empty_size : (⟨#[]⟩ : ByteArray).size = 0 := rfl
theorem app_empty (s : ByteArray) : s ++ (⟨#[]⟩ : ByteArray) = s := by
  apply ByteArray.ext
  rw [ByteArray.data_append]
  exact Array.append_empty
theorem text_two (k : Nat) (hk : 10 ≤ k) (n : Int) (h0 : 0 ≤ n) (h1 : n ≤ 99) : postbagref2_text.f k n 2 = some (twoP n) := by
  obtain ⟨k, rfl⟩ : ∃ q, k = q + 3 := ⟨k - 3, by omega⟩
  unfold postbagref2_text.f
  have s1 : (digP (n % 10) ++ (⟨#[]⟩ : ByteArray)).size = 1 := by rw [app_empty, digP_size]
  rw [text_more (k + 2) n 2 _ h0 (by omega) (by rw [empty_size]; omega) (.inr (by rw [empty_size]; omega)),
    text_more (k + 1) (n / 10) 2 _ (by omega) (by omega) (by omega) (.inr (by omega)), show n / 10 / 10 = 0 from by omega, show n / 10 % 10 = n / 10 from by omega,
    text_end k 2 _ (by rw [ByteArray.size_append, s1, digP_size]; omega), app_empty, twoP_dig n h0 h1]
theorem text_one (k : Nat) (hk : 10 ≤ k) (n : Int) (h0 : 1 ≤ n) (h1 : n ≤ 99) : postbagref2_text.f k n 1 = some (plainP n) := by
  obtain ⟨k, rfl⟩ : ∃ q, k = q + 3 := ⟨k - 3, by omega⟩
  unfold postbagref2_text.f
  have s1 : (digP (n % 10) ++ (⟨#[]⟩ : ByteArray)).size = 1 := by rw [app_empty, digP_size]
  rw [text_more (k + 2) n 1 _ (by omega) (by omega) (by rw [empty_size]; omega) (.inl (by omega))]
  have hb : bt (twoP n) 0 = 48 + n / 10 := by
    rw [twoP_dig n (by omega) h1]
    unfold digP
    rw [str_app]
    have h9 : n / 10 = 0 ∨ n / 10 = 1 ∨ n / 10 = 2 ∨ n / 10 = 3 ∨ n / 10 = 4 ∨ n / 10 = 5 ∨ n / 10 = 6 ∨ n / 10 = 7 ∨ n / 10 = 8 ∨ n / 10 = 9 := by omega
    rcases h9 with h | h | h | h | h | h | h | h | h | h <;> rw [h] <;> rfl
  unfold plainP
  rw [hb]
  by_cases hn : n / 10 = 0
  · rw [hn, text_end (k + 1) 1 _ (by rw [s1]; omega), if_pos (by omega), app_empty, twoP_dig n (by omega) h1]
    congr 1
  · rw [text_more (k + 1) (n / 10) 1 _ (by omega) (by omega) (by omega) (.inl (by omega)), show n / 10 / 10 = 0 from by omega, show n / 10 % 10 = n / 10 from by omega,
      text_end k 1 _ (by rw [ByteArray.size_append, s1, digP_size]; omega), if_neg (by omega), app_empty, twoP_dig n (by omega) h1]
theorem text_four (k : Nat) (hk : 10 ≤ k) (n : Int) (h0 : 0 ≤ n) (h1 : n ≤ 9999) : postbagref2_text.f k n 4 = some (fourP n) := by
  obtain ⟨k, rfl⟩ : ∃ q, k = q + 5 := ⟨k - 5, by omega⟩
  unfold postbagref2_text.f
  have s1 : (digP (n % 10) ++ (⟨#[]⟩ : ByteArray)).size = 1 := by rw [app_empty, digP_size]
  have s2 : (digP (n / 10 % 10) ++ (digP (n % 10) ++ (⟨#[]⟩ : ByteArray))).size = 2 := by rw [ByteArray.size_append, s1, digP_size]
  have s3 : (digP (n / 10 / 10 % 10) ++ (digP (n / 10 % 10) ++ (digP (n % 10) ++ (⟨#[]⟩ : ByteArray)))).size = 3 := by rw [ByteArray.size_append, s2, digP_size]
  rw [text_more (k + 4) n 4 _ h0 (by omega) (by rw [empty_size]; omega) (.inr (by rw [empty_size]; omega)),
    text_more (k + 3) (n / 10) 4 _ (by omega) (by omega) (by omega) (.inr (by omega)),
    text_more (k + 2) (n / 10 / 10) 4 _ (by omega) (by omega) (by omega) (.inr (by omega)),
    text_more (k + 1) (n / 10 / 10 / 10) 4 _ (by omega) (by omega) (by omega) (.inr (by omega)),
    show n / 10 / 10 / 10 / 10 = 0 from by omega, text_end k 4 _ (by rw [ByteArray.size_append, s3, digP_size]; omega), app_empty]
  unfold fourP
  rw [Int.tdiv_eq_ediv_of_nonneg h0, Int.tmod_eq_emod_of_nonneg h0, w64 (n / 100) (by omega) (by omega), twoP_dig (n / 100) (by omega) (by omega), twoP_dig (n % 100) (by omega) (by omega),
    show n / 100 / 10 = n / 10 / 10 / 10 % 10 from by omega, show n / 100 % 10 = n / 10 / 10 % 10 from by omega, show n % 100 / 10 = n / 10 % 10 from by omega, show n % 100 % 10 = n % 10 from by omega]
  simp only [ByteArray.append_assoc]
def largeM : ByteArray := ⟨#[74, 97, 110, 70, 101, 98, 77, 97, 114, 65, 112, 114, 77, 97, 121, 74, 117, 110, 74, 117, 108, 65, 117, 103, 83, 101, 112, 79, 99, 116, 78, 111, 118, 68, 101, 99]⟩
theorem large_month (m : Int) (h1 : 1 ≤ m) (h2 : m ≤ 12) : largeM.extract ((wrap64 ((wrap64 (3 * m)) - 3)) : Int).toNat ((wrap64 (3 * m)) : Int).toNat = monthL.getD (m - 1).toNat ⟨#[]⟩ := by
  rw [w64 (3 * m) (by omega) (by omega), w64 (3 * m - 3) (by omega) (by omega)]
  rcases month_cases h1 h2 with rfl | rfl | rfl | rfl | rfl | rfl | rfl | rfl | rfl | rfl | rfl | rfl <;> (apply ByteArray.ext; apply Array.toList_inj.1; rfl)
theorem month_getD_size (m : Int) (h1 : 1 ≤ m) (h2 : m ≤ 12) : (monthL.getD (m - 1).toNat ⟨#[]⟩).size = 3 := month_size _ (by omega)
end Go.Proofs.YtjlchnmpebdggaaDoor.Mo
end
section
namespace Go.Proofs.YtjlchnmpebdggaaDoor.Mo
open Go.RowKit Go.Proofs.YtjlchnmpebdggaaDoorW.PrintWords
def zoneB (zz : Int) (sign : ByteArray) : ByteArray := sign ++ twoP (zz / 60) ++ twoP (zz % 60)
theorem zone_ref (k : Nat) (hk : 10 ≤ k) (z : Int) (h0 : -1439 ≤ z) (h1 : z ≤ 1439) : postbagref2_zone.f k z = some (if z < 0 then zoneB (-z) ⟨#[45]⟩ else zoneB z ⟨#[43]⟩) := by
  unfold postbagref2_zone.f zoneB
  have e1 : (⟨#[45]⟩ : ByteArray).size = 1 := rfl
  have e2 : (⟨#[43]⟩ : ByteArray).size = 1 := rfl
  by_cases hz : z < 0
  · rw [if_pos hz, if_pos hz, w64 (-z) (by omega) (by omega), Int.tdiv_eq_ediv_of_nonneg (by omega), Int.tmod_eq_emod_of_nonneg (by omega), w64 (-z / 60) (by omega) (by omega), text_two k hk (-z / 60) (by omega) (by omega), text_two k hk (-z % 60) (by omega) (by omega), Option.bind_some, Option.bind_some]
    have a1 := twoP_size (-z / 60)
    have a2 := twoP_size (-z % 60)
    rw [if_pos (by omega), if_pos (by rw [ByteArray.size_append]; omega)]
  · rw [if_neg hz, if_neg hz, Int.tdiv_eq_ediv_of_nonneg (by omega), Int.tmod_eq_emod_of_nonneg (by omega), w64 (z / 60) (by omega) (by omega), text_two k hk (z / 60) (by omega) (by omega), text_two k hk (z % 60) (by omega) (by omega), Option.bind_some, Option.bind_some]
    have a1 := twoP_size (z / 60)
    have a2 := twoP_size (z % 60)
    rw [if_pos (by omega), if_pos (by rw [ByteArray.size_append]; omega)]
theorem zoneB_size (zz : Int) (sign : ByteArray) : (zoneB zz sign).size = sign.size + 4 := by
  unfold zoneB
  rw [ByteArray.size_append, ByteArray.size_append, twoP_size, twoP_size]
theorem clock_ref (k : Nat) (hk : 10 ≤ k) (y m d h mi s z : Int) (ht : timeB h mi s z = true) : postbagref2_clock.f k y m d h mi s z = some (clockP h mi s z) := by
  obtain ⟨b1, b2, b3, b4, b5, b6, b7, b8⟩ := (time_iff _ _ _ _).1 ht
  have e1 : (⟨#[58]⟩ : ByteArray).size = 1 := rfl
  have e2 : (⟨#[32]⟩ : ByteArray).size = 1 := rfl
  have e3 : (⟨#[45]⟩ : ByteArray).size = 1 := rfl
  have e4 : (⟨#[43]⟩ : ByteArray).size = 1 := rfl
  have hq : (if z < 0 then zoneB (-z) ⟨#[45]⟩ else zoneB z ⟨#[43]⟩).size = 5 := by split <;> (rw [zoneB_size]; omega)
  have hc : clockP h mi s z = ((((((twoP h ++ (⟨#[58]⟩ : ByteArray)) ++ twoP mi) ++ (⟨#[58]⟩ : ByteArray)) ++ twoP s) ++ (⟨#[32]⟩ : ByteArray)) ++ (if z < 0 then zoneB (-z) ⟨#[45]⟩ else zoneB z ⟨#[43]⟩)) := by
    unfold clockP
    split <;> (unfold clockT zoneB; simp only [ByteArray.append_assoc])
  rw [hc]
  unfold postbagref2_clock.f
  rw [text_two k hk h b1 (by omega), text_two k hk mi b3 (by omega), text_two k hk s b5 (by omega), zone_ref k hk z b7 b8]
  have a1 := twoP_size h
  have a2 := twoP_size mi
  have a3 := twoP_size s
  generalize (if z < 0 then zoneB (-z) ⟨#[45]⟩ else zoneB z ⟨#[43]⟩) = q at *
  generalize twoP h = t1 at *
  generalize twoP mi = t2 at *
  generalize twoP s = t3 at *
  repeat first
    | rw [Option.bind_some]
    | rw [if_pos (by (try simp only [ByteArray.size_append]); omega)]
theorem may_ref (k : Nat) (hk : 1 ≤ k) (y m d h mi s z : Int) : postbagref2_may.f k y m d h mi s z = some (refuseP y m d h mi s z) := by
  unfold postbagref2_may.f refuseP
  rw [isDay_ref k hk, Option.bind_some, valid_ref k hk, Option.bind_some]
  cases isDayB y m d <;> cases validB y m d h mi s z <;> rfl
theorem plain_ten (d : Int) (h1 : 1 ≤ d) (h2 : d ≤ 99) : (plainP d).size = if d < 10 then 1 else 2 := by
  have hb : bt (twoP d) 0 = 48 + d / 10 := by
    rw [twoP_dig d (by omega) h2]
    unfold digP
    rw [str_app]
    have h9 : d / 10 = 0 ∨ d / 10 = 1 ∨ d / 10 = 2 ∨ d / 10 = 3 ∨ d / 10 = 4 ∨ d / 10 = 5 ∨ d / 10 = 6 ∨ d / 10 = 7 ∨ d / 10 = 8 ∨ d / 10 = 9 := by omega
    rcases h9 with h | h | h | h | h | h | h | h | h | h <;> rw [h] <;> rfl
  have h2s := twoP_size d
  unfold plainP
  rw [hb]
  by_cases hd : d < 10
  · rw [if_pos (by omega), if_pos hd, ByteArray.size_extract, h2s]; rfl
  · rw [if_neg (by omega), if_neg hd, h2s]
set_option maxHeartbeats 2000000 in
theorem printInternal_ref (k : Nat) (hk : 20 ≤ k) (y m d h mi s z : Int) : postbagref2_PrintInternal.f k y m d h mi s z = some (printInternalP y m d h mi s z) := by
  unfold postbagref2_PrintInternal.f printInternalP
  rw [may_ref k (by omega), Option.bind_some]
  by_cases hr : refuseP y m d h mi s z = 0
  · obtain ⟨hd, hv⟩ := refuse_zero hr
    obtain ⟨a1, a2, a3, a4, a5, a6⟩ := (isDay_iff _ _ _).1 hd
    have ht := ((valid_iff _ _ _ _ _ _ _).1 hv).2
    have hl := length_range y m a3 a4
    have hM := large_month m a3 a4
    unfold largeM at hM
    have hm3 := month_getD_size m a3 a4
    have e1 : (⟨#[45]⟩ : ByteArray).size = 1 := rfl
    have e2 : (⟨#[32]⟩ : ByteArray).size = 1 := rfl
    have w1 : wrap64 (3 * m) = 3 * m := w64 _ (by omega) (by omega)
    have w2 : wrap64 (3 * m - 3) = 3 * m - 3 := w64 _ (by omega) (by omega)
    have hp := plain_ten d a5 (by omega)
    have hk4 := clockP_size h mi s z
    rw [if_pos hr, if_pos hr, text_one k (by omega) d a5 (by omega), Option.bind_some, hM, text_four k (by omega) y (by omega) a2, clock_ref k (by omega) y m d h mi s z ht, w1, w2]
    have h4 := fourP_size y
    have hT : internalT y m d h mi s z = padP d ++ ((⟨#[45]⟩ : ByteArray) ++ monthL.getD (m - 1).toNat ⟨#[]⟩ ++ (⟨#[45]⟩ : ByteArray) ++ fourP y) ++ ⟨#[32]⟩ ++ clockP h mi s z := rfl
    rw [hT]
    generalize monthL.getD (m - 1).toNat ⟨#[]⟩ = mn at *
    generalize clockP h mi s z = ck at *
    generalize fourP y = fy at *
    clear hT hM
    by_cases c10 : d < 10
    · rw [if_pos c10] at hp
      have hpad : padP d = (⟨#[32]⟩ : ByteArray) ++ plainP d := by unfold padP; rw [if_pos hp]
      rw [if_pos c10, hpad]
      generalize plainP d = pd at *
      repeat first
        | rw [Option.bind_some]
        | rw [if_pos (by (try simp only [ByteArray.size_append]); omega)]
      simp only [ByteArray.append_assoc]
    · rw [if_neg c10] at hp
      have hpad : padP d = plainP d := by unfold padP; rw [if_neg (by omega)]
      rw [if_neg c10, hpad]
      generalize plainP d = pd at *
      repeat first
        | rw [Option.bind_some]
        | rw [if_pos (by (try simp only [ByteArray.size_append]); omega)]
      simp only [ByteArray.append_assoc]
  · rw [if_neg hr, if_neg hr]
theorem readInternal_some (s : ByteArray) : ∃ r, moment_ReadInternal.f s = some r := by
  unfold moment_ReadInternal.f
  by_cases hf : formI s
  · rw [if_pos hf, read_f]; exact ⟨_, rfl⟩
  · rw [if_neg hf]; exact ⟨_, rfl⟩
theorem internal_true (k : Nat) (hk : 20 ≤ k) (s : ByteArray) (y m d h mi se z : Int) : postbaglaw2_internal.f k s y m d h mi se z = some true := by
  unfold postbaglaw2_internal.f postbagref2_ReadInternal.f moment_PrintInternal.f
  obtain ⟨R, hR⟩ := readInternal_some s
  rw [hR, Option.bind_some, Option.bind_some, Option.bind_some, printInternal_ref k hk, Option.bind_some]
  generalize printInternalP y m d h mi se z = Q
  rw [if_pos (by simp)]
  unfold postbaglaw2_num.f
  rw [Option.bind_some, if_pos rfl, if_pos rfl, Option.bind_some]
  simp
theorem internals_true (k : Nat) (hk : 20 ≤ k) (s t : ByteArray) (y m d h mi se z : Int) : postbaglaw2_MomentInternals.f k s y m d h mi se z t = some true := by
  unfold postbaglaw2_MomentInternals.f postbaglaw2_known.f
  rw [Option.bind_some, if_pos rfl, internal_true k hk s, Option.bind_some, if_pos rfl, internal_true k hk t, Option.bind_some, if_pos rfl, Option.bind_some]
end Go.Proofs.YtjlchnmpebdggaaDoor.Mo
end
section
namespace Go.Proofs.YtjlchnmpebdggaaDoor.Pure
open Go.Proofs.YtjlchnmpebdggaaDoor.Mo
theorem MomentInternals (a : ByteArray) (x : S23) (b : ByteArray) {P Q R : Prop} (_ : P) (_ : Q) (_ : R) : ∃ k, postbaglaw2_MomentInternals.f k a x.f0 x.f1 x.f2 x.f3 x.f4 x.f5 x.f6 b = some true :=
  ⟨20, internals_true 20 (by decide) a b _ _ _ _ _ _ _⟩
end Go.Proofs.YtjlchnmpebdggaaDoor.Pure
end
section
namespace Go.Proofs.YtjlchnmpebdggaaDoor.Mo
open Go.ChangeShapes Go.WideShapes Go.ChangeAt Go.RowKit
theorem gLengths : Tryd.prog.globalNamed "postbag/moment.lengths" = some 0 := by kernel_rfl
theorem tLengths : (Tryd.prog.globals[0]?).map (·.type) = some 86 := by kernel_rfl
theorem door_met (os : Os) (args : Array Value) : laidMetH Tryd.prog [("postbag/moment.lengths", Rows.laid_postbag_moment_lengths)] ((World.doorLaid Tryd.prog 400 os).forCall (fun _ _ => 0) ⟨#[], args, []⟩).memory :=
  laidMetH_of_parts3 (fuel := 8) (laidMet_of_run' 8 (by kernel_rfl) (by kernel_rfl)) (by kernel_rfl) (by kernel_rfl)
theorem of_laid {W : World} (h : laidMetH Tryd.prog [("postbag/moment.lengths", Rows.laid_postbag_moment_lengths)] W) : Laid W := by
  rw [MakeChecks.laidMetH_plain _ _ _ (by kernel_rfl)] at h
  obtain ⟨ps, ⟨g1, t1, cs1, f1, p1, q1, hg1, ht1, hv1, hd1, _, _⟩, _, _⟩ := h
  obtain rfl := Option.some.inj (gLengths.symm.trans hg1)
  obtain rfl := Option.some.inj (tLengths.symm.trans ht1)
  obtain ⟨xs, m1, rfl, hx1, hlen, hn3, hel⟩ := DataW.trod_array Tryd.underlying86 hd1
  have c3 : Tryd.prog.cellsOf 3 = 1 := by kernel_rfl
  simp only [Prod.mk.injEq, Rows.laid_postbag_moment_lengths, DataW.agg.injEq] at hx1
  have hcell : ∀ j, j < 12 → W.cell? ⟨0, j, none⟩ = some (.int .i64 (monthDays.getD j 0)) := by
    intro j hj
    have hj1 : j < xs.length := by omega
    have he := hel j hj
    rw [List.getElem?_eq_getElem hj1] at he
    obtain ⟨k, e1, e2, _⟩ := DataW.trod_int Tryd.underlying3 he
    have e3 : (xs.map (·.1))[j]? = some (.lit (.int .i64 k)) := by rw [List.getElem?_map, List.getElem?_eq_getElem hj1, e2]; rfl
    rw [← hx1.1] at e3
    have hk : k = monthDays.getD j 0 := by
      have hc : j = 0 ∨ j = 1 ∨ j = 2 ∨ j = 3 ∨ j = 4 ∨ j = 5 ∨ j = 6 ∨ j = 7 ∨ j = 8 ∨ j = 9 ∨ j = 10 ∨ j = 11 := by omega
      rcases hc with rfl | rfl | rfl | rfl | rfl | rfl | rfl | rfl | rfl | rfl | rfl | rfl <;> (simp at e3; rw [← e3]; rfl)
    rw [World.var?_cell hg1 hv1 j]
    rw [c3, Nat.mul_one] at e1
    have e4 : (cs1.toList.drop j)[0]? = some (.int .i64 k) := by
      have := congrArg (fun l => l[0]?) e1
      simpa [List.getElem?_take] using this
    rw [List.getElem?_drop, Nat.add_zero, Array.getElem?_toList] at e4
    rw [e4, hk]
  refine ⟨?_, hcell⟩
  have := hcell 0 (by omega)
  exact World.block_lt_of_cell? W ⟨0, 0, none⟩ this
end Go.Proofs.YtjlchnmpebdggaaDoor.Mo
end
