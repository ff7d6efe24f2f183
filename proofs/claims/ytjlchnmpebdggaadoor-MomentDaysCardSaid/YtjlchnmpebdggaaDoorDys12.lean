import Derived.Test.YtjlchnmpebdggaaDoorDys2
import Derived.Test.YtjlchnmpebdggaaDoorDys7
import Derived.Test.YtjlchnmpebdggaaDoorDys11
import Derived.Test.YtjlchnmpebdggaaDoorDys3
import Derived.Test.YtjlchnmpebdggaaDoorDys8
import Derived.Test.YtjlchnmpebdggaaDoorDys10
import Derived.Test.YtjlchnmpebdggaaDoorDys6
import Derived.Test.YtjlchnmpebdggaaDoorDys4
import Derived.Test.YtjlchnmpebdggaaDoorDys9
import Derived.Test.YtjlchnmpebdggaaDoorRows
import Derived.ProofKit
import Derived.LaidMore
import Derived.OpenShut
import Derived.Stop.Joined
section
-- PRINTED by a driver of print.py
namespace Go.Proofs.YtjlchnmpebdggaaDoor.Mo
open Go.RowKit Go.Proofs.YtjlchnmpebdggaaDoorW.PrintWords Go.Proofs.YtjlchnmpebdggaaDoorW.PrintLast Go.Proofs.YtjlchnmpebdggaaDoorW.PrintMore
attribute [local go_sem] max2_int min2_int max_two min_two max_three min_three max_four min_four   -- for this text's walks alone
set_option linter.unusedVariables false
set_option linter.unusedSimpArgs false
def postbaglaw2_MomentDays.f (k : Nat) (a0 : ByteArray) (a1_0 : Int) (a1_1 : Int) (a1_2 : Int) (a1_3 : Int) (a1_4 : Int) (a1_5 : Int) (a1_6 : Int) (a2 : ByteArray) : Option (Bool) := (postbaglaw2_known.f).bind fun t644 => (if t644 = true then ((postbaglaw2_day.f k a0 a1_0 a1_1 a1_2 a1_3 a1_4 a1_5 a1_6).bind fun t645 => (if t645 = true then ((postbaglaw2_day.f k a2 a1_0 a1_1 a1_2 a1_3 a1_4 a1_5 a1_6).bind fun t646 => (if t646 = true then ((postbaglaw2_day.f k a0 a1_0 a1_1 a1_2 a1_3 a1_4 a1_5 a1_6).bind fun t647 => (some t647)) else (some false))) else (some false))) else (some false))
set_option maxHeartbeats 8000000 in
set_option maxRecDepth 100000 in
theorem postbaglaw2_MomentDays.calls (k : Nat) (a0 : ByteArray) (a1_0 : Int) (a1_1 : Int) (a1_2 : Int) (a1_3 : Int) (a1_4 : Int) (a1_5 : Int) (a1_6 : Int) (a2 : ByteArray) (r : Bool) (w : World) (h : postbaglaw2_MomentDays.f k a0 a1_0 a1_1 a1_2 a1_3 a1_4 a1_5 a1_6 a2 = some r) (hL_ : Laid w) :
  Calls Tryd.prog 8 #[.string a0, .agg #[.int .i64 a1_0, .int .i64 a1_1, .int .i64 a1_2, .int .i64 a1_3, .int .i64 a1_4, .int .i64 a1_5, .int .i64 a1_6], .string a2] w fun e w' => e = .returned (.bool r) ∧ Below w.heap.size w w' := by
 have HL_ := Aside0.mk hL_
 clear hL_
 have hu23 := Tryd.underlying23
 have HB := Aside0.mk (Below.refl w.heap.size w)
 have H : ((postbaglaw2_known.f).bind fun t644 => (if t644 = true then ((postbaglaw2_day.f k a0 a1_0 a1_1 a1_2 a1_3 a1_4 a1_5 a1_6).bind fun t645 => (if t645 = true then ((postbaglaw2_day.f k a2 a1_0 a1_1 a1_2 a1_3 a1_4 a1_5 a1_6).bind fun t646 => (if t646 = true then ((postbaglaw2_day.f k a0 a1_0 a1_1 a1_2 a1_3 a1_4 a1_5 a1_6).bind fun t647 => (some t647)) else (some false))) else (some false))) else (some false))) = some r := h
 clear h
 replace H := Option.bind_eq_some_iff.mp H
 obtain ⟨t644, A40, H⟩ := H
 replace H : (if t644 = true then ((postbaglaw2_day.f k a0 a1_0 a1_1 a1_2 a1_3 a1_4 a1_5 a1_6).bind fun t645 => (if t645 = true then ((postbaglaw2_day.f k a2 a1_0 a1_1 a1_2 a1_3 a1_4 a1_5 a1_6).bind fun t646 => (if t646 = true then ((postbaglaw2_day.f k a0 a1_0 a1_1 a1_2 a1_3 a1_4 a1_5 a1_6).bind fun t647 => (some t647)) else (some false))) else (some false))) else (some false)) = some r := H
 have A4 := Aside0.mk A40
 clear A40
 by_cases c5 : t644 = true
 ·subst c5
  have H1 : ((postbaglaw2_day.f k a0 a1_0 a1_1 a1_2 a1_3 a1_4 a1_5 a1_6).bind fun t645 => (if t645 = true then ((postbaglaw2_day.f k a2 a1_0 a1_1 a1_2 a1_3 a1_4 a1_5 a1_6).bind fun t646 => (if t646 = true then ((postbaglaw2_day.f k a0 a1_0 a1_1 a1_2 a1_3 a1_4 a1_5 a1_6).bind fun t647 => (some t647)) else (some false))) else (some false))) = some r := by rw [if_pos rfl] at H; exact H
  clear H
  have H := H1
  clear H1
  replace H := Option.bind_eq_some_iff.mp H
  obtain ⟨t645, A60, H⟩ := H
  replace H : (if t645 = true then ((postbaglaw2_day.f k a2 a1_0 a1_1 a1_2 a1_3 a1_4 a1_5 a1_6).bind fun t646 => (if t646 = true then ((postbaglaw2_day.f k a0 a1_0 a1_1 a1_2 a1_3 a1_4 a1_5 a1_6).bind fun t647 => (some t647)) else (some false))) else (some false)) = some r := H
  have A6 := Aside0.mk A60
  clear A60
  by_cases c7 : t645 = true
  ·subst c7
   have H1 : ((postbaglaw2_day.f k a2 a1_0 a1_1 a1_2 a1_3 a1_4 a1_5 a1_6).bind fun t646 => (if t646 = true then ((postbaglaw2_day.f k a0 a1_0 a1_1 a1_2 a1_3 a1_4 a1_5 a1_6).bind fun t647 => (some t647)) else (some false))) = some r := by rw [if_pos rfl] at H; exact H
   clear H
   have H := H1
   clear H1
   replace H := Option.bind_eq_some_iff.mp H
   obtain ⟨t646, A80, H⟩ := H
   replace H : (if t646 = true then ((postbaglaw2_day.f k a0 a1_0 a1_1 a1_2 a1_3 a1_4 a1_5 a1_6).bind fun t647 => (some t647)) else (some false)) = some r := H
   have A8 := Aside0.mk A80
   clear A80
   by_cases c9 : t646 = true
   ·subst c9
    have H1 : ((postbaglaw2_day.f k a0 a1_0 a1_1 a1_2 a1_3 a1_4 a1_5 a1_6).bind fun t647 => (some t647)) = some r := by rw [if_pos rfl] at H; exact H
    clear H
    have H := H1
    clear H1
    replace H := Option.bind_eq_some_iff.mp H
    obtain ⟨t647, A100, H⟩ := H
    replace H : (some t647) = some r := H
    have A10 := Aside0.mk A100
    clear A100
    obtain rfl := Option.some.inj H
    obtain rfl : true = t647 := Option.some.inj (A6.out.symm.trans A10.out)
    go_enter Tryd.func8, Tryd.ntmps8
    go_wp2_with (first | ((with_reducible refine gate_dst (N := 4) rfl ?_); refine box_event ?hg (N := 4) ?hd (cs := #[.int .i64 a1_0, .int .i64 a1_1, .int .i64 a1_2, .int .i64 a1_3, .int .i64 a1_4, .int .i64 a1_5, .int .i64 a1_6]) (t := 23) ?hr ?_; (case hd => rfl); (case hg => rfl); (case hr => first | (go_simp; done) | (go_simp; rfl)); intro gb643 hg w11 hbox hb; have n0_ := Aside0.mk (below_step (by repeat (first | (with_reducible first | exact HB.out | apply below_alloc | apply pw_below_drewN | apply below_drew1 | refine below_set ?_ GW643.out) | exact HB.out)) hb); have n1_ := Aside0.mk (hbox); have n2_ := Aside0.mk ((by rw [hg]; exact (below_size (by repeat (first | (with_reducible first | exact HB.out | apply below_alloc | apply pw_below_drewN | apply below_drew1 | refine below_set ?_ GW643.out) | exact HB.out))) : w.heap.size ≤ gb643)); have n3_ := Aside0.mk ((by rw [hg]; exact (below_size (by repeat (first | (with_reducible first | exact HB.out | apply below_alloc | apply pw_below_drewN | apply below_drew1 | refine below_set ?_ GW643.out) | exact HB.out))) : w.heap.size ≤ gb643)); clear HB; have HB := n0_; have BK643 := n1_; have GW643 := n2_; have GE643 := n3_; clear n0_ n1_ n2_ n3_; clear hb hbox hg) | ((with_reducible refine gate_callee (f := 15) rfl ?_); refine goesL_ (some 7) rfl rfl Tryd.func15 (by kernel_rfl) rfl #[] rfl (by (try simp only [List.map_toArray, List.map_cons, List.map_nil]); first | done | rfl | (simp only [List.length_drop, List.length_take]; rfl)) ?_; (with_reducible refine (postbaglaw2_known.calls  true _ A4.out (by first | exact laid_below HL_.out (by repeat (first | (with_reducible first | exact HB.out | apply below_alloc | apply pw_below_drewN | apply below_drew1 | refine below_set ?_ GW643.out) | exact HB.out)) | exact laid_drawn HL_.out (by repeat (first | exact Drawn0.refl _ | apply Drawn0.step)))).mono ?_); rintro e w12 ⟨rfl, hb⟩; refine ⟨_, rfl, ?_⟩; have n0_ := Aside0.mk (blk_below (g := gb643) (o := .cells #[.int .i64 a1_0, .int .i64 a1_1, .int .i64 a1_2, .int .i64 a1_3, .int .i64 a1_4, .int .i64 a1_5, .int .i64 a1_6] 23 (0, 0)) (by (with_reducible repeat (first | refine blk_drewN ?_ _ | refine blk_drew ?_ | refine blk_alloc ?_ _)); exact BK643.out) hb); have n1_ := Aside0.mk (below_step (by repeat (first | (with_reducible first | exact HB.out | apply below_alloc | apply pw_below_drewN | apply below_drew1 | refine below_set ?_ GE643.out) | exact HB.out)) hb); clear BK643; clear HB; have BK643 := n0_; have HB := n1_; clear n0_ n1_; (try clear hb); (try clear hb2); (try clear hk); (try clear hi); have hcz13_0 : w12.cell? ⟨gb643, 0, none⟩ = some (.int .i64 a1_0) := (blk_cell BK643.out 0).trans rfl; have hcz13_1 : w12.cell? ⟨gb643, 1, none⟩ = some (.int .i64 a1_1) := (blk_cell BK643.out 1).trans rfl; have hcz13_2 : w12.cell? ⟨gb643, 2, none⟩ = some (.int .i64 a1_2) := (blk_cell BK643.out 2).trans rfl; have hcz13_3 : w12.cell? ⟨gb643, 3, none⟩ = some (.int .i64 a1_3) := (blk_cell BK643.out 3).trans rfl; have hcz13_4 : w12.cell? ⟨gb643, 4, none⟩ = some (.int .i64 a1_4) := (blk_cell BK643.out 4).trans rfl; have hcz13_5 : w12.cell? ⟨gb643, 5, none⟩ = some (.int .i64 a1_5) := (blk_cell BK643.out 5).trans rfl; have hcz13_6 : w12.cell? ⟨gb643, 6, none⟩ = some (.int .i64 a1_6) := (blk_cell BK643.out 6).trans rfl; have hfz13_0 := blk_frozen BK643.out 0; have hfz13_1 := blk_frozen BK643.out 1; have hfz13_2 := blk_frozen BK643.out 2; have hfz13_3 := blk_frozen BK643.out 3; have hfz13_4 := blk_frozen BK643.out 4; have hfz13_5 := blk_frozen BK643.out 5; have hfz13_6 := blk_frozen BK643.out 6) | (go_at_call 28; (with_reducible refine (postbaglaw2_day.calls k a0 a1_0 a1_1 a1_2 a1_3 a1_4 a1_5 a1_6 true _ A6.out (by first | exact laid_below HL_.out (by repeat (first | (with_reducible first | exact HB.out | apply below_alloc | apply pw_below_drewN | apply below_drew1 | refine below_set ?_ GW643.out) | exact HB.out)) | exact laid_drawn HL_.out (by repeat (first | exact Drawn0.refl _ | apply Drawn0.step)))).mono ?_); rintro e w14 ⟨rfl, hb⟩; have n0_ := Aside0.mk (blk_below (g := gb643) (o := .cells #[.int .i64 a1_0, .int .i64 a1_1, .int .i64 a1_2, .int .i64 a1_3, .int .i64 a1_4, .int .i64 a1_5, .int .i64 a1_6] 23 (0, 0)) (by (with_reducible repeat (first | refine blk_drewN ?_ _ | refine blk_drew ?_ | refine blk_alloc ?_ _)); exact BK643.out) hb); have n1_ := Aside0.mk (below_step (by repeat (first | (with_reducible first | exact HB.out | apply below_alloc | apply pw_below_drewN | apply below_drew1 | refine below_set ?_ GE643.out) | exact HB.out)) hb); clear BK643; clear HB; have BK643 := n0_; have HB := n1_; clear n0_ n1_; (try clear hb); (try clear hb2); (try clear hk); (try clear hi); have hcz15_0 : w14.cell? ⟨gb643, 0, none⟩ = some (.int .i64 a1_0) := (blk_cell BK643.out 0).trans rfl; have hcz15_1 : w14.cell? ⟨gb643, 1, none⟩ = some (.int .i64 a1_1) := (blk_cell BK643.out 1).trans rfl; have hcz15_2 : w14.cell? ⟨gb643, 2, none⟩ = some (.int .i64 a1_2) := (blk_cell BK643.out 2).trans rfl; have hcz15_3 : w14.cell? ⟨gb643, 3, none⟩ = some (.int .i64 a1_3) := (blk_cell BK643.out 3).trans rfl; have hcz15_4 : w14.cell? ⟨gb643, 4, none⟩ = some (.int .i64 a1_4) := (blk_cell BK643.out 4).trans rfl; have hcz15_5 : w14.cell? ⟨gb643, 5, none⟩ = some (.int .i64 a1_5) := (blk_cell BK643.out 5).trans rfl; have hcz15_6 : w14.cell? ⟨gb643, 6, none⟩ = some (.int .i64 a1_6) := (blk_cell BK643.out 6).trans rfl; have hfz15_0 := blk_frozen BK643.out 0; have hfz15_1 := blk_frozen BK643.out 1; have hfz15_2 := blk_frozen BK643.out 2; have hfz15_3 := blk_frozen BK643.out 3; have hfz15_4 := blk_frozen BK643.out 4; have hfz15_5 := blk_frozen BK643.out 5; have hfz15_6 := blk_frozen BK643.out 6) | (go_at_call 28; (with_reducible refine (postbaglaw2_day.calls k a2 a1_0 a1_1 a1_2 a1_3 a1_4 a1_5 a1_6 true _ A8.out (by first | exact laid_below HL_.out (by repeat (first | (with_reducible first | exact HB.out | apply below_alloc | apply pw_below_drewN | apply below_drew1 | refine below_set ?_ GW643.out) | exact HB.out)) | exact laid_drawn HL_.out (by repeat (first | exact Drawn0.refl _ | apply Drawn0.step)))).mono ?_); rintro e w16 ⟨rfl, hb⟩; have n0_ := Aside0.mk (blk_below (g := gb643) (o := .cells #[.int .i64 a1_0, .int .i64 a1_1, .int .i64 a1_2, .int .i64 a1_3, .int .i64 a1_4, .int .i64 a1_5, .int .i64 a1_6] 23 (0, 0)) (by (with_reducible repeat (first | refine blk_drewN ?_ _ | refine blk_drew ?_ | refine blk_alloc ?_ _)); exact BK643.out) hb); have n1_ := Aside0.mk (below_step (by repeat (first | (with_reducible first | exact HB.out | apply below_alloc | apply pw_below_drewN | apply below_drew1 | refine below_set ?_ GE643.out) | exact HB.out)) hb); clear BK643; clear HB; have BK643 := n0_; have HB := n1_; clear n0_ n1_; (try clear hb); (try clear hb2); (try clear hk); (try clear hi); have hcz17_0 : w16.cell? ⟨gb643, 0, none⟩ = some (.int .i64 a1_0) := (blk_cell BK643.out 0).trans rfl; have hcz17_1 : w16.cell? ⟨gb643, 1, none⟩ = some (.int .i64 a1_1) := (blk_cell BK643.out 1).trans rfl; have hcz17_2 : w16.cell? ⟨gb643, 2, none⟩ = some (.int .i64 a1_2) := (blk_cell BK643.out 2).trans rfl; have hcz17_3 : w16.cell? ⟨gb643, 3, none⟩ = some (.int .i64 a1_3) := (blk_cell BK643.out 3).trans rfl; have hcz17_4 : w16.cell? ⟨gb643, 4, none⟩ = some (.int .i64 a1_4) := (blk_cell BK643.out 4).trans rfl; have hcz17_5 : w16.cell? ⟨gb643, 5, none⟩ = some (.int .i64 a1_5) := (blk_cell BK643.out 5).trans rfl; have hcz17_6 : w16.cell? ⟨gb643, 6, none⟩ = some (.int .i64 a1_6) := (blk_cell BK643.out 6).trans rfl; have hfz17_0 := blk_frozen BK643.out 0; have hfz17_1 := blk_frozen BK643.out 1; have hfz17_2 := blk_frozen BK643.out 2; have hfz17_3 := blk_frozen BK643.out 3; have hfz17_4 := blk_frozen BK643.out 4; have hfz17_5 := blk_frozen BK643.out 5; have hfz17_6 := blk_frozen BK643.out 6) | (go_at_call 28; (with_reducible refine (postbaglaw2_day.calls k a0 a1_0 a1_1 a1_2 a1_3 a1_4 a1_5 a1_6 t647 _ A10.out (by first | exact laid_below HL_.out (by repeat (first | (with_reducible first | exact HB.out | apply below_alloc | apply pw_below_drewN | apply below_drew1 | refine below_set ?_ GW643.out) | exact HB.out)) | exact laid_drawn HL_.out (by repeat (first | exact Drawn0.refl _ | apply Drawn0.step)))).mono ?_); rintro e w18 ⟨rfl, hb⟩; have n0_ := Aside0.mk (blk_below (g := gb643) (o := .cells #[.int .i64 a1_0, .int .i64 a1_1, .int .i64 a1_2, .int .i64 a1_3, .int .i64 a1_4, .int .i64 a1_5, .int .i64 a1_6] 23 (0, 0)) (by (with_reducible repeat (first | refine blk_drewN ?_ _ | refine blk_drew ?_ | refine blk_alloc ?_ _)); exact BK643.out) hb); have n1_ := Aside0.mk (below_step (by repeat (first | (with_reducible first | exact HB.out | apply below_alloc | apply pw_below_drewN | apply below_drew1 | refine below_set ?_ GE643.out) | exact HB.out)) hb); clear BK643; clear HB; have BK643 := n0_; have HB := n1_; clear n0_ n1_; (try clear hb); (try clear hb2); (try clear hk); (try clear hi)))
    go_ret
    exact ⟨by first | rfl | (simp [errW_none, errW_some] <;> rfl) | (simp [*, errW_none, errW_some] <;> rfl), by repeat (first | (with_reducible first | exact HB.out | apply below_alloc | apply pw_below_drewN | apply below_drew1 | refine below_set ?_ GE643.out) | exact HB.out)⟩
   ·replace c9 := Bool.eq_false_iff.mpr c9
    subst c9
    have H1 : (some false) = some r := by rw [if_neg (show ¬ (false = true) by decide)] at H; exact H
    clear H
    have H := H1
    clear H1
    obtain rfl := Option.some.inj H
    go_enter Tryd.func8, Tryd.ntmps8
    go_wp2_with (first | ((with_reducible refine gate_dst (N := 4) rfl ?_); refine box_event ?hg (N := 4) ?hd (cs := #[.int .i64 a1_0, .int .i64 a1_1, .int .i64 a1_2, .int .i64 a1_3, .int .i64 a1_4, .int .i64 a1_5, .int .i64 a1_6]) (t := 23) ?hr ?_; (case hd => rfl); (case hg => rfl); (case hr => first | (go_simp; done) | (go_simp; rfl)); intro gb643 hg w19 hbox hb; have n0_ := Aside0.mk (below_step (by repeat (first | (with_reducible first | exact HB.out | apply below_alloc | apply pw_below_drewN | apply below_drew1 | refine below_set ?_ GW643.out) | exact HB.out)) hb); have n1_ := Aside0.mk (hbox); have n2_ := Aside0.mk ((by rw [hg]; exact (below_size (by repeat (first | (with_reducible first | exact HB.out | apply below_alloc | apply pw_below_drewN | apply below_drew1 | refine below_set ?_ GW643.out) | exact HB.out))) : w.heap.size ≤ gb643)); have n3_ := Aside0.mk ((by rw [hg]; exact (below_size (by repeat (first | (with_reducible first | exact HB.out | apply below_alloc | apply pw_below_drewN | apply below_drew1 | refine below_set ?_ GW643.out) | exact HB.out))) : w.heap.size ≤ gb643)); clear HB; have HB := n0_; have BK643 := n1_; have GW643 := n2_; have GE643 := n3_; clear n0_ n1_ n2_ n3_; clear hb hbox hg) | ((with_reducible refine gate_callee (f := 15) rfl ?_); refine goesL_ (some 7) rfl rfl Tryd.func15 (by kernel_rfl) rfl #[] rfl (by (try simp only [List.map_toArray, List.map_cons, List.map_nil]); first | done | rfl | (simp only [List.length_drop, List.length_take]; rfl)) ?_; (with_reducible refine (postbaglaw2_known.calls  true _ A4.out (by first | exact laid_below HL_.out (by repeat (first | (with_reducible first | exact HB.out | apply below_alloc | apply pw_below_drewN | apply below_drew1 | refine below_set ?_ GW643.out) | exact HB.out)) | exact laid_drawn HL_.out (by repeat (first | exact Drawn0.refl _ | apply Drawn0.step)))).mono ?_); rintro e w20 ⟨rfl, hb⟩; refine ⟨_, rfl, ?_⟩; have n0_ := Aside0.mk (blk_below (g := gb643) (o := .cells #[.int .i64 a1_0, .int .i64 a1_1, .int .i64 a1_2, .int .i64 a1_3, .int .i64 a1_4, .int .i64 a1_5, .int .i64 a1_6] 23 (0, 0)) (by (with_reducible repeat (first | refine blk_drewN ?_ _ | refine blk_drew ?_ | refine blk_alloc ?_ _)); exact BK643.out) hb); have n1_ := Aside0.mk (below_step (by repeat (first | (with_reducible first | exact HB.out | apply below_alloc | apply pw_below_drewN | apply below_drew1 | refine below_set ?_ GE643.out) | exact HB.out)) hb); clear BK643; clear HB; have BK643 := n0_; have HB := n1_; clear n0_ n1_; (try clear hb); (try clear hb2); (try clear hk); (try clear hi); have hcz21_0 : w20.cell? ⟨gb643, 0, none⟩ = some (.int .i64 a1_0) := (blk_cell BK643.out 0).trans rfl; have hcz21_1 : w20.cell? ⟨gb643, 1, none⟩ = some (.int .i64 a1_1) := (blk_cell BK643.out 1).trans rfl; have hcz21_2 : w20.cell? ⟨gb643, 2, none⟩ = some (.int .i64 a1_2) := (blk_cell BK643.out 2).trans rfl; have hcz21_3 : w20.cell? ⟨gb643, 3, none⟩ = some (.int .i64 a1_3) := (blk_cell BK643.out 3).trans rfl; have hcz21_4 : w20.cell? ⟨gb643, 4, none⟩ = some (.int .i64 a1_4) := (blk_cell BK643.out 4).trans rfl; have hcz21_5 : w20.cell? ⟨gb643, 5, none⟩ = some (.int .i64 a1_5) := (blk_cell BK643.out 5).trans rfl; have hcz21_6 : w20.cell? ⟨gb643, 6, none⟩ = some (.int .i64 a1_6) := (blk_cell BK643.out 6).trans rfl; have hfz21_0 := blk_frozen BK643.out 0; have hfz21_1 := blk_frozen BK643.out 1; have hfz21_2 := blk_frozen BK643.out 2; have hfz21_3 := blk_frozen BK643.out 3; have hfz21_4 := blk_frozen BK643.out 4; have hfz21_5 := blk_frozen BK643.out 5; have hfz21_6 := blk_frozen BK643.out 6) | (go_at_call 28; (with_reducible refine (postbaglaw2_day.calls k a0 a1_0 a1_1 a1_2 a1_3 a1_4 a1_5 a1_6 true _ A6.out (by first | exact laid_below HL_.out (by repeat (first | (with_reducible first | exact HB.out | apply below_alloc | apply pw_below_drewN | apply below_drew1 | refine below_set ?_ GW643.out) | exact HB.out)) | exact laid_drawn HL_.out (by repeat (first | exact Drawn0.refl _ | apply Drawn0.step)))).mono ?_); rintro e w22 ⟨rfl, hb⟩; have n0_ := Aside0.mk (blk_below (g := gb643) (o := .cells #[.int .i64 a1_0, .int .i64 a1_1, .int .i64 a1_2, .int .i64 a1_3, .int .i64 a1_4, .int .i64 a1_5, .int .i64 a1_6] 23 (0, 0)) (by (with_reducible repeat (first | refine blk_drewN ?_ _ | refine blk_drew ?_ | refine blk_alloc ?_ _)); exact BK643.out) hb); have n1_ := Aside0.mk (below_step (by repeat (first | (with_reducible first | exact HB.out | apply below_alloc | apply pw_below_drewN | apply below_drew1 | refine below_set ?_ GE643.out) | exact HB.out)) hb); clear BK643; clear HB; have BK643 := n0_; have HB := n1_; clear n0_ n1_; (try clear hb); (try clear hb2); (try clear hk); (try clear hi); have hcz23_0 : w22.cell? ⟨gb643, 0, none⟩ = some (.int .i64 a1_0) := (blk_cell BK643.out 0).trans rfl; have hcz23_1 : w22.cell? ⟨gb643, 1, none⟩ = some (.int .i64 a1_1) := (blk_cell BK643.out 1).trans rfl; have hcz23_2 : w22.cell? ⟨gb643, 2, none⟩ = some (.int .i64 a1_2) := (blk_cell BK643.out 2).trans rfl; have hcz23_3 : w22.cell? ⟨gb643, 3, none⟩ = some (.int .i64 a1_3) := (blk_cell BK643.out 3).trans rfl; have hcz23_4 : w22.cell? ⟨gb643, 4, none⟩ = some (.int .i64 a1_4) := (blk_cell BK643.out 4).trans rfl; have hcz23_5 : w22.cell? ⟨gb643, 5, none⟩ = some (.int .i64 a1_5) := (blk_cell BK643.out 5).trans rfl; have hcz23_6 : w22.cell? ⟨gb643, 6, none⟩ = some (.int .i64 a1_6) := (blk_cell BK643.out 6).trans rfl; have hfz23_0 := blk_frozen BK643.out 0; have hfz23_1 := blk_frozen BK643.out 1; have hfz23_2 := blk_frozen BK643.out 2; have hfz23_3 := blk_frozen BK643.out 3; have hfz23_4 := blk_frozen BK643.out 4; have hfz23_5 := blk_frozen BK643.out 5; have hfz23_6 := blk_frozen BK643.out 6) | (go_at_call 28; (with_reducible refine (postbaglaw2_day.calls k a2 a1_0 a1_1 a1_2 a1_3 a1_4 a1_5 a1_6 false _ A8.out (by first | exact laid_below HL_.out (by repeat (first | (with_reducible first | exact HB.out | apply below_alloc | apply pw_below_drewN | apply below_drew1 | refine below_set ?_ GW643.out) | exact HB.out)) | exact laid_drawn HL_.out (by repeat (first | exact Drawn0.refl _ | apply Drawn0.step)))).mono ?_); rintro e w24 ⟨rfl, hb⟩; have n0_ := Aside0.mk (blk_below (g := gb643) (o := .cells #[.int .i64 a1_0, .int .i64 a1_1, .int .i64 a1_2, .int .i64 a1_3, .int .i64 a1_4, .int .i64 a1_5, .int .i64 a1_6] 23 (0, 0)) (by (with_reducible repeat (first | refine blk_drewN ?_ _ | refine blk_drew ?_ | refine blk_alloc ?_ _)); exact BK643.out) hb); have n1_ := Aside0.mk (below_step (by repeat (first | (with_reducible first | exact HB.out | apply below_alloc | apply pw_below_drewN | apply below_drew1 | refine below_set ?_ GE643.out) | exact HB.out)) hb); clear BK643; clear HB; have BK643 := n0_; have HB := n1_; clear n0_ n1_; (try clear hb); (try clear hb2); (try clear hk); (try clear hi)))
    go_ret
    exact ⟨by first | rfl | (simp [errW_none, errW_some] <;> rfl) | (simp [*, errW_none, errW_some] <;> rfl), by repeat (first | (with_reducible first | exact HB.out | apply below_alloc | apply pw_below_drewN | apply below_drew1 | refine below_set ?_ GE643.out) | exact HB.out)⟩
  ·replace c7 := Bool.eq_false_iff.mpr c7
   subst c7
   have H1 : (some false) = some r := by rw [if_neg (show ¬ (false = true) by decide)] at H; exact H
   clear H
   have H := H1
   clear H1
   obtain rfl := Option.some.inj H
   go_enter Tryd.func8, Tryd.ntmps8
   go_wp2_with (first | ((with_reducible refine gate_dst (N := 4) rfl ?_); refine box_event ?hg (N := 4) ?hd (cs := #[.int .i64 a1_0, .int .i64 a1_1, .int .i64 a1_2, .int .i64 a1_3, .int .i64 a1_4, .int .i64 a1_5, .int .i64 a1_6]) (t := 23) ?hr ?_; (case hd => rfl); (case hg => rfl); (case hr => first | (go_simp; done) | (go_simp; rfl)); intro gb643 hg w25 hbox hb; have n0_ := Aside0.mk (below_step (by repeat (first | (with_reducible first | exact HB.out | apply below_alloc | apply pw_below_drewN | apply below_drew1 | refine below_set ?_ GW643.out) | exact HB.out)) hb); have n1_ := Aside0.mk (hbox); have n2_ := Aside0.mk ((by rw [hg]; exact (below_size (by repeat (first | (with_reducible first | exact HB.out | apply below_alloc | apply pw_below_drewN | apply below_drew1 | refine below_set ?_ GW643.out) | exact HB.out))) : w.heap.size ≤ gb643)); have n3_ := Aside0.mk ((by rw [hg]; exact (below_size (by repeat (first | (with_reducible first | exact HB.out | apply below_alloc | apply pw_below_drewN | apply below_drew1 | refine below_set ?_ GW643.out) | exact HB.out))) : w.heap.size ≤ gb643)); clear HB; have HB := n0_; have BK643 := n1_; have GW643 := n2_; have GE643 := n3_; clear n0_ n1_ n2_ n3_; clear hb hbox hg) | ((with_reducible refine gate_callee (f := 15) rfl ?_); refine goesL_ (some 7) rfl rfl Tryd.func15 (by kernel_rfl) rfl #[] rfl (by (try simp only [List.map_toArray, List.map_cons, List.map_nil]); first | done | rfl | (simp only [List.length_drop, List.length_take]; rfl)) ?_; (with_reducible refine (postbaglaw2_known.calls  true _ A4.out (by first | exact laid_below HL_.out (by repeat (first | (with_reducible first | exact HB.out | apply below_alloc | apply pw_below_drewN | apply below_drew1 | refine below_set ?_ GW643.out) | exact HB.out)) | exact laid_drawn HL_.out (by repeat (first | exact Drawn0.refl _ | apply Drawn0.step)))).mono ?_); rintro e w26 ⟨rfl, hb⟩; refine ⟨_, rfl, ?_⟩; have n0_ := Aside0.mk (blk_below (g := gb643) (o := .cells #[.int .i64 a1_0, .int .i64 a1_1, .int .i64 a1_2, .int .i64 a1_3, .int .i64 a1_4, .int .i64 a1_5, .int .i64 a1_6] 23 (0, 0)) (by (with_reducible repeat (first | refine blk_drewN ?_ _ | refine blk_drew ?_ | refine blk_alloc ?_ _)); exact BK643.out) hb); have n1_ := Aside0.mk (below_step (by repeat (first | (with_reducible first | exact HB.out | apply below_alloc | apply pw_below_drewN | apply below_drew1 | refine below_set ?_ GE643.out) | exact HB.out)) hb); clear BK643; clear HB; have BK643 := n0_; have HB := n1_; clear n0_ n1_; (try clear hb); (try clear hb2); (try clear hk); (try clear hi); have hcz27_0 : w26.cell? ⟨gb643, 0, none⟩ = some (.int .i64 a1_0) := (blk_cell BK643.out 0).trans rfl; have hcz27_1 : w26.cell? ⟨gb643, 1, none⟩ = some (.int .i64 a1_1) := (blk_cell BK643.out 1).trans rfl; have hcz27_2 : w26.cell? ⟨gb643, 2, none⟩ = some (.int .i64 a1_2) := (blk_cell BK643.out 2).trans rfl; have hcz27_3 : w26.cell? ⟨gb643, 3, none⟩ = some (.int .i64 a1_3) := (blk_cell BK643.out 3).trans rfl; have hcz27_4 : w26.cell? ⟨gb643, 4, none⟩ = some (.int .i64 a1_4) := (blk_cell BK643.out 4).trans rfl; have hcz27_5 : w26.cell? ⟨gb643, 5, none⟩ = some (.int .i64 a1_5) := (blk_cell BK643.out 5).trans rfl; have hcz27_6 : w26.cell? ⟨gb643, 6, none⟩ = some (.int .i64 a1_6) := (blk_cell BK643.out 6).trans rfl; have hfz27_0 := blk_frozen BK643.out 0; have hfz27_1 := blk_frozen BK643.out 1; have hfz27_2 := blk_frozen BK643.out 2; have hfz27_3 := blk_frozen BK643.out 3; have hfz27_4 := blk_frozen BK643.out 4; have hfz27_5 := blk_frozen BK643.out 5; have hfz27_6 := blk_frozen BK643.out 6) | (go_at_call 28; (with_reducible refine (postbaglaw2_day.calls k a0 a1_0 a1_1 a1_2 a1_3 a1_4 a1_5 a1_6 false _ A6.out (by first | exact laid_below HL_.out (by repeat (first | (with_reducible first | exact HB.out | apply below_alloc | apply pw_below_drewN | apply below_drew1 | refine below_set ?_ GW643.out) | exact HB.out)) | exact laid_drawn HL_.out (by repeat (first | exact Drawn0.refl _ | apply Drawn0.step)))).mono ?_); rintro e w28 ⟨rfl, hb⟩; have n0_ := Aside0.mk (blk_below (g := gb643) (o := .cells #[.int .i64 a1_0, .int .i64 a1_1, .int .i64 a1_2, .int .i64 a1_3, .int .i64 a1_4, .int .i64 a1_5, .int .i64 a1_6] 23 (0, 0)) (by (with_reducible repeat (first | refine blk_drewN ?_ _ | refine blk_drew ?_ | refine blk_alloc ?_ _)); exact BK643.out) hb); have n1_ := Aside0.mk (below_step (by repeat (first | (with_reducible first | exact HB.out | apply below_alloc | apply pw_below_drewN | apply below_drew1 | refine below_set ?_ GE643.out) | exact HB.out)) hb); clear BK643; clear HB; have BK643 := n0_; have HB := n1_; clear n0_ n1_; (try clear hb); (try clear hb2); (try clear hk); (try clear hi)))
   go_ret
   exact ⟨by first | rfl | (simp [errW_none, errW_some] <;> rfl) | (simp [*, errW_none, errW_some] <;> rfl), by repeat (first | (with_reducible first | exact HB.out | apply below_alloc | apply pw_below_drewN | apply below_drew1 | refine below_set ?_ GE643.out) | exact HB.out)⟩
 ·replace c5 := Bool.eq_false_iff.mpr c5
  subst c5
  have H1 : (some false) = some r := by rw [if_neg (show ¬ (false = true) by decide)] at H; exact H
  clear H
  have H := H1
  clear H1
  obtain rfl := Option.some.inj H
  go_enter Tryd.func8, Tryd.ntmps8
  go_wp2_with (first | ((with_reducible refine gate_dst (N := 4) rfl ?_); refine box_event ?hg (N := 4) ?hd (cs := #[.int .i64 a1_0, .int .i64 a1_1, .int .i64 a1_2, .int .i64 a1_3, .int .i64 a1_4, .int .i64 a1_5, .int .i64 a1_6]) (t := 23) ?hr ?_; (case hd => rfl); (case hg => rfl); (case hr => first | (go_simp; done) | (go_simp; rfl)); intro gb643 hg w29 hbox hb; have n0_ := Aside0.mk (below_step (by repeat (first | (with_reducible first | exact HB.out | apply below_alloc | apply pw_below_drewN | apply below_drew1 | refine below_set ?_ GW643.out) | exact HB.out)) hb); have n1_ := Aside0.mk (hbox); have n2_ := Aside0.mk ((by rw [hg]; exact (below_size (by repeat (first | (with_reducible first | exact HB.out | apply below_alloc | apply pw_below_drewN | apply below_drew1 | refine below_set ?_ GW643.out) | exact HB.out))) : w.heap.size ≤ gb643)); have n3_ := Aside0.mk ((by rw [hg]; exact (below_size (by repeat (first | (with_reducible first | exact HB.out | apply below_alloc | apply pw_below_drewN | apply below_drew1 | refine below_set ?_ GW643.out) | exact HB.out))) : w.heap.size ≤ gb643)); clear HB; have HB := n0_; have BK643 := n1_; have GW643 := n2_; have GE643 := n3_; clear n0_ n1_ n2_ n3_; clear hb hbox hg) | ((with_reducible refine gate_callee (f := 15) rfl ?_); refine goesL_ (some 7) rfl rfl Tryd.func15 (by kernel_rfl) rfl #[] rfl (by (try simp only [List.map_toArray, List.map_cons, List.map_nil]); first | done | rfl | (simp only [List.length_drop, List.length_take]; rfl)) ?_; (with_reducible refine (postbaglaw2_known.calls  false _ A4.out (by first | exact laid_below HL_.out (by repeat (first | (with_reducible first | exact HB.out | apply below_alloc | apply pw_below_drewN | apply below_drew1 | refine below_set ?_ GW643.out) | exact HB.out)) | exact laid_drawn HL_.out (by repeat (first | exact Drawn0.refl _ | apply Drawn0.step)))).mono ?_); rintro e w30 ⟨rfl, hb⟩; refine ⟨_, rfl, ?_⟩; have n0_ := Aside0.mk (blk_below (g := gb643) (o := .cells #[.int .i64 a1_0, .int .i64 a1_1, .int .i64 a1_2, .int .i64 a1_3, .int .i64 a1_4, .int .i64 a1_5, .int .i64 a1_6] 23 (0, 0)) (by (with_reducible repeat (first | refine blk_drewN ?_ _ | refine blk_drew ?_ | refine blk_alloc ?_ _)); exact BK643.out) hb); have n1_ := Aside0.mk (below_step (by repeat (first | (with_reducible first | exact HB.out | apply below_alloc | apply pw_below_drewN | apply below_drew1 | refine below_set ?_ GE643.out) | exact HB.out)) hb); clear BK643; clear HB; have BK643 := n0_; have HB := n1_; clear n0_ n1_; (try clear hb); (try clear hb2); (try clear hk); (try clear hi)))
  go_ret
  exact ⟨by first | rfl | (simp [errW_none, errW_some] <;> rfl) | (simp [*, errW_none, errW_some] <;> rfl), by repeat (first | (with_reducible first | exact HB.out | apply below_alloc | apply pw_below_drewN | apply below_drew1 | refine below_set ?_ GE643.out) | exact HB.out)⟩
end Go.Proofs.YtjlchnmpebdggaaDoor.Mo
end
section
namespace Go.Proofs.YtjlchnmpebdggaaDoor.Mo
open Go.RowKit Go.Proofs.YtjlchnmpebdggaaDoorW.PrintWords Go.Proofs.YtjlchnmpebdggaaDoorW.PrintLast Go.Proofs.YtjlchnmpebdggaaDoorW.PrintMore
attribute [local go_sem] max2_int min2_int max_two min_two max_three min_three max_four min_four   -- for this text's walks alone
set_option linter.unusedVariables false
set_option linter.unusedSimpArgs false
end Go.Proofs.YtjlchnmpebdggaaDoor.Mo
end
section
namespace Go.Proofs.YtjlchnmpebdggaaDoor.Mo
open Go.RowKit Go.Proofs.YtjlchnmpebdggaaDoorW.PrintWords
theorem w64 (n : Int) (h0 : -1000000000000000 ≤ n) (h1 : n ≤ 1000000000000000) : wrap64 n = n := IntWalk.wrap64_in _ ⟨by omega, by omega⟩
theorem month_cases {m : Int} (h1 : 1 ≤ m) (h2 : m ≤ 12) : m = 1 ∨ m = 2 ∨ m = 3 ∨ m = 4 ∨ m = 5 ∨ m = 6 ∨ m = 7 ∨ m = 8 ∨ m = 9 ∨ m = 10 ∨ m = 11 ∨ m = 12 := by omega
theorem length_range (y m : Int) (h1 : 1 ≤ m) (h2 : m ≤ 12) : 28 ≤ lengthP y m ∧ lengthP y m ≤ 31 := by
  unfold lengthP
  rcases month_cases h1 h2 with rfl | rfl | rfl | rfl | rfl | rfl | rfl | rfl | rfl | rfl | rfl | rfl <;> split <;> decide
theorem leap_ref (y : Int) : postbagref2_leap.f y = some (leapB y) := by
  unfold postbagref2_leap.f leapB
  by_cases h1 : y.tmod 4 = 0
  · by_cases h2 : y.tmod 100 = 0 <;> simp [h1, h2]
  · simp [h1]
theorem length_ref (k : Nat) (hk : 1 ≤ k) (y m : Int) (h1 : 1 ≤ m) (h2 : m ≤ 12) : postbagref2_length.f k y m = some (lengthP y m) := by
  obtain ⟨k, rfl⟩ : ∃ n, k = n + 1 := ⟨k - 1, by omega⟩
  unfold postbagref2_length.f lengthP
  cases hl : leapB y <;> rcases month_cases h1 h2 with rfl | rfl | rfl | rfl | rfl | rfl | rfl | rfl | rfl | rfl | rfl | rfl <;> simp [postbagref2_length.j0, leap_ref, hl, monthDays]
theorem isDay_ref (k : Nat) (hk : 1 ≤ k) (y m d h mi s z : Int) : postbagref2_IsDay.f k y m d h mi s z = some (isDayB y m d) := by
  unfold postbagref2_IsDay.f
  have hf : ∀ (p : Prop), (isDayB y m d = true → ¬ p) → p → isDayB y m d = false := fun p h1 h2 => Bool.eq_false_iff.2 (fun h => h1 h h2)
  have hi := isDay_iff y m d
  by_cases h1 : y < 1
  · rw [if_pos h1, hf (y < 1) (fun q => by have := hi.1 q; omega) h1]
  · rw [if_neg h1]
    by_cases h2 : y > 9999
    · rw [if_pos h2, hf (y > 9999) (fun q => by have := hi.1 q; omega) h2]
    · rw [if_neg h2]
      by_cases h3 : m < 1
      · rw [if_pos h3, hf (m < 1) (fun q => by have := hi.1 q; omega) h3]
      · rw [if_neg h3]
        by_cases h4 : m > 12
        · rw [if_pos h4, hf (m > 12) (fun q => by have := hi.1 q; omega) h4]
        · rw [if_neg h4]
          by_cases h5 : d < 1
          · rw [if_pos h5, hf (d < 1) (fun q => by have := hi.1 q; omega) h5]
          · rw [if_neg h5, length_ref k hk y m (by omega) (by omega)]
            simp only [Option.bind_some]
            congr 1
            unfold isDayB
            apply decide_eq_decide.2
            exact ⟨fun q => ⟨by omega, by omega, by omega, by omega, by omega, q⟩, fun q => q.2.2.2.2.2⟩
end Go.Proofs.YtjlchnmpebdggaaDoor.Mo
end
section
namespace Go.Proofs.YtjlchnmpebdggaaDoor.Mo
open Go.RowKit Go.Proofs.YtjlchnmpebdggaaDoorW.PrintWords
theorem count_l0 (s : ByteArray) (hs : s.size ≤ 4) (d : Nat) : ∀ (k i : Nat), i ≤ s.size → s.size - i = d → 2 * d + 2 < k → (s.data.toList.take i).all isDig = true →
    postbagref2_count.l0 k s (dval (s.data.toList.take i)) (i : Int) = if (s.data.toList.drop i).all isDig = true then some (dval s.data.toList, decide (1 ≤ s.size)) else some (0, false) := by
  induction d with
  | zero =>
    intro k i hi hd hk ha
    obtain ⟨k, rfl⟩ : ∃ m, k = m + 2 := ⟨k - 2, by omega⟩
    have e : i = s.size := by omega
    subst e
    have hl := toList_len s
    simp only [postbagref2_count.l0]
    rw [if_neg (by omega)]
    simp only [postbagref2_count.j1]
    have hdn : (s.data.toList.drop s.size).all isDig = true := by rw [List.drop_of_length_le (by omega)]; rfl
    rw [if_neg (by decide), if_pos hdn, List.take_of_length_le (by omega)]
    by_cases h0 : (s.size : Int) > 0
    · rw [if_pos h0, decide_eq_true (by omega), decide_eq_true (by omega)]
    · rw [if_neg h0, decide_eq_false (by omega)]
  | succ d ih =>
    intro k i hi hd hk ha
    obtain ⟨k, rfl⟩ : ∃ m, k = m + 2 := ⟨k - 2, by omega⟩
    have hl := toList_len s
    have hlt : i < s.data.toList.length := by omega
    have hb := bt_get s i hlt
    have h8 := (s.data.toList[i]).toNat_lt
    have hdr : s.data.toList.drop i = s.data.toList[i] :: s.data.toList.drop (i + 1) := List.drop_eq_getElem_cons hlt
    have htk : s.data.toList.take (i + 1) = s.data.toList.take i ++ [s.data.toList[i]] := by rw [List.take_succ_eq_append_getElem hlt]
    obtain ⟨b1, b2⟩ := dval_bound _ ha
    rw [List.length_take, Nat.min_eq_left (by omega)] at b2
    have b3 : dval (s.data.toList.take i) < 10000 := by
      have : (10 : Int) ^ i ≤ 10 ^ 4 := by
        have h4 : i = 0 ∨ i = 1 ∨ i = 2 ∨ i = 3 := by omega
        rcases h4 with rfl | rfl | rfl | rfl <;> decide
      omega
    simp only [postbagref2_count.l0]
    rw [if_pos (by omega), decide_eq_true (by omega)]
    simp only [postbagref2_count.j1]
    rw [if_pos trivial, if_pos (by omega), if_pos (by omega), hb, hdr]
    generalize hc : s.data.toList[i] = c at *
    by_cases c1 : c.toNat < 48
    · rw [if_pos (by omega), if_neg (by simp [isDig]; omega)]
    · rw [if_neg (by omega)]
      by_cases c2 : c.toNat > 57
      · rw [if_pos (by omega), if_neg (by simp [isDig]; omega)]
      · rw [if_neg (by omega)]
        have hdig : isDig c = true := (isDig_iff c).2 ⟨by omega, by omega⟩
        have e1 : wrap64 ((wrap64 (10 * dval (s.data.toList.take i))) + (((c.toNat : Int) - 48) % 256)) = dval (s.data.toList.take (i + 1)) := by
          rw [htk, dval_snoc, digit_step _ _ b1 (by omega) (by omega) (by omega)]
        rw [e1, next_step i (by omega), ih k (i + 1) (by omega) (by omega) (by omega) (by rw [htk, List.all_append, ha]; simp [hdig])]
        simp only [List.all_cons, hdig, Bool.true_and]
theorem count_f (k : Nat) (hk : 20 ≤ k) (s : ByteArray) (hs : s.size ≤ 4) : postbagref2_count.f k s = some (digitsP s) := by
  have hl := toList_len s
  unfold postbagref2_count.f
  have := count_l0 s hs s.size k 0 (by omega) (by omega) (by omega) rfl
  simp only [List.take_zero, List.drop_zero] at this
  rw [show ((0 : Nat) : Int) = 0 from rfl] at this
  have e0 : dval [] = 0 := rfl
  rw [e0] at this
  rw [this]
  unfold digitsP
  by_cases ha : s.data.toList.all isDig = true
  · rw [if_pos ha]
    by_cases h1 : 1 ≤ s.size
    · rw [if_pos ⟨h1, hs, ha⟩, decide_eq_true h1]
    · rw [if_neg (fun h => h1 h.1), decide_eq_false h1]
      have hz : s.data.toList = [] := List.eq_nil_of_length_eq_zero (by omega)
      rw [hz]
      rfl
  · rw [if_neg ha, if_neg (fun h => ha h.2.2)]
def low (c : UInt8) : UInt8 := if 65 ≤ c ∧ c ≤ 90 then c + 32 else c
def lowerP (s : ByteArray) : ByteArray := ⟨(s.data.toList.map low).toArray⟩
set_option maxRecDepth 20000 in
theorem low_up : ∀ c : UInt8, low (up c) = low c ∧ up (low c) = up c := by
  intro c
  have h : ∀ n : Fin 256, low (up (UInt8.ofNat n.val)) = low (UInt8.ofNat n.val) ∧ up (low (UInt8.ofNat n.val)) = up (UInt8.ofNat n.val) := by decide
  have := h ⟨c.toNat, c.toNat_lt⟩
  simpa using this
set_option maxRecDepth 20000 in
theorem low_toNat (c : UInt8) : ((low c).toNat : Int) = if 65 ≤ c.toNat ∧ c.toNat ≤ 90 then ((c.toNat : Int) + 32) % 256 else (c.toNat : Int) := by
  have h : ∀ n : Fin 256, ((low (UInt8.ofNat n.val)).toNat : Int) = if 65 ≤ (UInt8.ofNat n.val).toNat ∧ (UInt8.ofNat n.val).toNat ≤ 90 then (((UInt8.ofNat n.val).toNat : Int) + 32) % 256 else ((UInt8.ofNat n.val).toNat : Int) := by decide
  have := h ⟨c.toNat, c.toNat_lt⟩
  simpa using this
theorem map_low_up (l : List UInt8) : (l.map up).map low = l.map low := by rw [List.map_map]; exact List.map_congr_left fun c _ => (low_up c).1
theorem map_up_low (l : List UInt8) : (l.map low).map up = l.map up := by rw [List.map_map]; exact List.map_congr_left fun c _ => (low_up c).2
theorem same_case (x t : ByteArray) : (lowerP x).toList = (lowerP t).toList ↔ (upperP x).toList = (upperP t).toList := by
  simp only [ByteArray.toList_eq]
  show x.data.toList.map low = t.data.toList.map low ↔ x.data.toList.map up = t.data.toList.map up
  constructor
  · intro h; rw [← map_up_low, h, map_up_low]
  · intro h; rw [← map_low_up, h, map_low_up]
theorem lower_l0 (s : ByteArray) (hs : s.size ≤ 140737488351232) (d : Nat) : ∀ (k i : Nat), i ≤ s.size → s.size - i = d → d < k →
    postbagref2_lower.l0 k s ((s.data.toList.take i).map fun c => ((low c).toNat : Int)) (i : Int) = some (lowerP s) := by
  induction d with
  | zero =>
    intro k i hi hd hk
    obtain ⟨k, rfl⟩ : ∃ m, k = m + 1 := ⟨k - 1, by omega⟩
    have e : i = s.size := by omega
    subst e
    have hl := toList_len s
    simp only [postbagref2_lower.l0]
    rw [if_neg (by omega), List.take_of_length_le (by omega)]
    congr 1
    apply ByteArray.ext
    apply Array.toList_inj.1
    rw [strOfNums_data, List.map_map]
    show _ = s.data.toList.map low
    exact List.map_congr_left fun c _ => by show UInt8.ofNat ((low c).toNat : Int).toNat = low c; rw [Int.toNat_natCast]; exact UInt8.ofNat_toNat
  | succ d ih =>
    intro k i hi hd hk
    obtain ⟨k, rfl⟩ : ∃ m, k = m + 1 := ⟨k - 1, by omega⟩
    have hl := toList_len s
    have hlt : i < s.data.toList.length := by omega
    have hb := bt_get s i hlt
    have h8 := (s.data.toList[i]).toNat_lt
    have htk : s.data.toList.take (i + 1) = s.data.toList.take i ++ [s.data.toList[i]] := by rw [List.take_succ_eq_append_getElem hlt]
    have hlen : ((s.data.toList.take i).map fun c => ((low c).toNat : Int)).length < 140737488355328 := by rw [List.length_map, List.length_take]; omega
    have hnext := ih k (i + 1) (by omega) (by omega) (by omega)
    rw [htk, List.map_append] at hnext
    have hw : wrap64 ((i : Int) + 1) = ((i + 1 : Nat) : Int) := by rw [IntWalk.wrap64_in _ ⟨by omega, by omega⟩]; omega
    have hlo := low_toNat (s.data.toList[i])
    simp only [postbagref2_lower.l0]
    rw [if_pos (by omega), if_pos (by omega), hb, hw]
    generalize hc : s.data.toList[i] = c at *
    rw [if_pos hlen, if_pos hlen]
    have hm : List.map (fun c => ((low c).toNat : Int)) [c] = [((low c).toNat : Int)] := rfl
    rw [hm] at hnext
    by_cases c1 : (c.toNat : Int) ≥ 65
    · rw [if_pos c1]
      by_cases c2 : (c.toNat : Int) ≤ 90
      · rw [if_pos c2]
        rw [if_pos ⟨by omega, by omega⟩] at hlo
        rw [← hlo]
        exact hnext
      · rw [if_neg c2]
        rw [if_neg (by omega)] at hlo
        rw [← hlo]
        exact hnext
    · rw [if_neg c1]
      rw [if_neg (by omega)] at hlo
      rw [← hlo]
      exact hnext
theorem lower_f (k : Nat) (s : ByteArray) (hs : s.size ≤ 140737488351232) (hk : s.size < k) : postbagref2_lower.f k s = some (lowerP s) := by
  unfold postbagref2_lower.f
  have := lower_l0 s hs s.size k 0 (by omega) (by omega) hk
  simpa using this
theorem among_l0 (N t : ByteArray) (L : List ByteArray) (hL : L.length ≤ 100) (hn : N.size = 3 * L.length) (hx : ∀ i (h : i < L.length), (N.extract (3 * i) (3 * i + 3)).toList = (lowerP L[i]).toList) (d : Nat) :
    ∀ (k i : Nat), i ≤ L.length → L.length - i = d → d < k → postbagref2_among.l0 k N (lowerP t) (i : Int) = some (placeP t (L.drop i) i + 1) := by
  induction d with
  | zero =>
    intro k i hi hd hk
    obtain ⟨k, rfl⟩ : ∃ m, k = m + 1 := ⟨k - 1, by omega⟩
    have e : i = L.length := by omega
    subst e
    simp only [postbagref2_among.l0]
    rw [w64 (3 * _) (by omega) (by omega), if_neg (by omega), List.drop_of_length_le (Nat.le_refl _)]
    rfl
  | succ d ih =>
    intro k i hi hd hk
    obtain ⟨k, rfl⟩ : ∃ m, k = m + 1 := ⟨k - 1, by omega⟩
    have hlt : i < L.length := by omega
    have hdr : L.drop i = L[i] :: L.drop (i + 1) := List.drop_eq_getElem_cons hlt
    simp only [postbagref2_among.l0]
    rw [w64 (3 * (i : Int)) (by omega) (by omega), w64 (3 * (i : Int) + 3) (by omega) (by omega), w64 ((i : Int) + 1) (by omega) (by omega)]
    rw [if_pos (by omega), if_pos (by omega), if_pos (by omega), if_pos (by omega)]
    rw [show (3 * (i : Int)).toNat = 3 * i from by omega, show (3 * (i : Int) + 3).toNat = 3 * i + 3 from by omega, hx i hlt, hdr]
    unfold placeP
    by_cases hc : (lowerP L[i]).toList = (lowerP t).toList
    · rw [if_pos hc, if_pos ((same_case _ _).1 hc)]
    · rw [if_neg hc, if_neg (fun h => hc ((same_case _ _).2 h))]
      have := ih k (i + 1) (by omega) (by omega) (by omega)
      rw [show (i : Int) + 1 = ((i + 1 : Nat) : Int) from by omega]
      exact this
def lowMonths : ByteArray := ⟨#[106, 97, 110, 102, 101, 98, 109, 97, 114, 97, 112, 114, 109, 97, 121, 106, 117, 110, 106, 117, 108, 97, 117, 103, 115, 101, 112, 111, 99, 116, 110, 111, 118, 100, 101, 99]⟩
theorem months_low : ∀ i (h : i < monthL.length), (lowMonths.extract (3 * i) (3 * i + 3)).toList = (lowerP monthL[i]).toList := by
  intro i h
  have h2 : i < 12 := h
  have : i = 0 ∨ i = 1 ∨ i = 2 ∨ i = 3 ∨ i = 4 ∨ i = 5 ∨ i = 6 ∨ i = 7 ∨ i = 8 ∨ i = 9 ∨ i = 10 ∨ i = 11 := by omega
  simp only [ByteArray.toList_eq]
  rcases this with rfl | rfl | rfl | rfl | rfl | rfl | rfl | rfl | rfl | rfl | rfl | rfl <;> rfl
theorem among_months (k : Nat) (t : ByteArray) (ht : t.size ≤ 140737488351232) (hk : t.size + 20 < k) : postbagref2_among.f k lowMonths t = some (placeP t monthL 0 + 1) := by
  unfold postbagref2_among.f
  rw [lower_f k t ht (by omega), Option.bind_some]
  exact among_l0 lowMonths t monthL (by decide) rfl months_low 12 k 0 (by omega) rfl (by omega)
end Go.Proofs.YtjlchnmpebdggaaDoor.Mo
end
section
namespace Go.Proofs.YtjlchnmpebdggaaDoor.Mo
open Go.RowKit Go.Proofs.YtjlchnmpebdggaaDoorW.PrintWords
def toldP (y m d h mi s z : Int) (ok : Bool) : Int × Int × Int × Int × Int × Int × Int × Int :=
  if ok = true then (if isDayB y m d = true then (y, m, d, h, mi, s, z, 0) else (0, 0, 0, 0, 0, 0, 0, 21)) else (0, 0, 0, 0, 0, 0, 0, 20)
theorem read_f (y m d h mi s z : Int) (ok : Bool) : moment_read.f y m d h mi s z ok = some (toldP y m d h mi s z ok) := by
  unfold moment_read.f toldP
  rw [isDay_f, Option.bind_some]
  cases ok <;> cases isDayB y m d <;> rfl
theorem told_f (k : Nat) (hk : 1 ≤ k) (y m d h mi s z : Int) (ok : Bool) : postbagref2_told.f k y m d h mi s z ok = some (toldP y m d h mi s z ok) := by
  unfold postbagref2_told.f toldP
  rw [isDay_ref k hk, Option.bind_some]
  cases ok <;> cases isDayB y m d <;> rfl
theorem toldP_no (y m d h mi s z : Int) : toldP y m d h mi s z false = (0, 0, 0, 0, 0, 0, 0, 20) := rfl
theorem day_ref (k : Nat) (hk : 60 ≤ k) (t s : ByteArray) (ht : t.size ≤ 4) :
    postbagref2_day.f k t s = some (if s.size = 9 ∧ bt s 0 = 45 ∧ bt s 4 = 45 then ((digitsP (s.extract 5 9)).1, placeP (s.extract 1 4) monthL 0 + 1, (digitsP t).1, 0, 0, 0, 0, (digitsP t).2 && ((digitsP (s.extract 5 9)).2 && decide (0 ≤ placeP (s.extract 1 4) monthL 0))) else (0, 0, 0, 0, 0, 0, 0, false)) := by
  obtain ⟨k, rfl⟩ : ∃ q, k = q + 1 := ⟨k - 1, by omega⟩
  unfold postbagref2_day.f
  by_cases h9 : s.size = 9
  · rw [if_pos (by omega), if_pos (by omega)]
    by_cases h0 : bt s 0 = 45
    · rw [if_pos h0, if_pos (by omega)]
      by_cases h4 : bt s 4 = 45
      · rw [if_pos ⟨h9, h0, h4⟩, h4]
        simp only [postbagref2_day.j0]
        have e1 : (s.extract 1 4).size = 3 := by rw [ByteArray.size_extract, h9]; rfl
        have e2 : (s.extract 5 9).size = 4 := by rw [ByteArray.size_extract, h9]; rfl
        have ha := among_months k (s.extract 1 4) (by omega) (by omega)
        unfold lowMonths at ha
        rw [if_neg (by decide), count_f k (by omega) t ht, Option.bind_some, if_pos (by omega), if_pos (by omega), ha, Option.bind_some, if_pos (by omega), h9, count_f k (by omega) _ (by omega), Option.bind_some]
        have hr := placeP_range (s.extract 1 4) monthL 0
        generalize placeP (s.extract 1 4) monthL 0 = p at *
        have hp : decide (p + 1 > 0) = decide (0 ≤ p) := by rw [decide_eq_decide]; omega
        rw [hp]
        cases (digitsP t).2 <;> cases (digitsP (s.extract 5 9)).2 <;> rfl
      · rw [if_neg (fun h => h4 h.2.2)]
        simp only [postbagref2_day.j0]
        rw [if_pos (by simpa using h4)]
    · rw [if_neg h0, if_neg (fun h => h0 h.2.1)]
      simp only [postbagref2_day.j0]
      rw [if_pos trivial]
  · rw [if_neg (by omega), if_neg (fun h => h9 h.1)]
    simp only [postbagref2_day.j0]
    rw [if_pos trivial]
def readDayP (s : ByteArray) : Int × Int × Int × Int × Int × Int × Int × Int :=
  if s.size = 10 ∨ s.size = 11 then
    toldP (dayP (digitsP (s.extract 0 (s.size - 9))).1 (s.extract (s.size - 9) s.size)).1 (dayP (digitsP (s.extract 0 (s.size - 9))).1 (s.extract (s.size - 9) s.size)).2.1
      (dayP (digitsP (s.extract 0 (s.size - 9))).1 (s.extract (s.size - 9) s.size)).2.2.1 0 0 0 0 ((digitsP (s.extract 0 (s.size - 9))).2 && (dayP (digitsP (s.extract 0 (s.size - 9))).1 (s.extract (s.size - 9) s.size)).2.2.2)
  else (0, 0, 0, 0, 0, 0, 0, 20)
theorem readDay_f (k : Nat) (hk : 60 ≤ k) (s : ByteArray) (hs : s.size ≤ 140737488351232) : moment_ReadDay.f k s = some (readDayP s) := by
  obtain ⟨k, rfl⟩ : ∃ q, k = q + 1 := ⟨k - 1, by omega⟩
  have hw : wrap64 ((s.size : Int) - 9) = (s.size : Int) - 9 := w64 _ (by omega) (by omega)
  unfold moment_ReadDay.f readDayP
  rw [hw]
  have hgo : (s.size = 10 ∨ s.size = 11) → moment_ReadDay.j0 (k + 1) s ((s.size : Int) - 9) false = some (toldP (dayP (digitsP (s.extract 0 (s.size - 9))).1 (s.extract (s.size - 9) s.size)).1 (dayP (digitsP (s.extract 0 (s.size - 9))).1 (s.extract (s.size - 9) s.size)).2.1
      (dayP (digitsP (s.extract 0 (s.size - 9))).1 (s.extract (s.size - 9) s.size)).2.2.1 0 0 0 0 ((digitsP (s.extract 0 (s.size - 9))).2 && (dayP (digitsP (s.extract 0 (s.size - 9))).1 (s.extract (s.size - 9) s.size)).2.2.2)) := by
    intro h
    simp only [moment_ReadDay.j0]
    rw [if_neg (by decide), if_pos (by omega), if_pos (by omega), show ((s.size : Int) - 9).toNat = s.size - 9 from by omega, digits_f k (by omega), Option.bind_some]
    generalize digitsP (s.extract 0 (s.size - 9)) = D
    unfold moment_day.f
    rw [Option.bind_some]
    generalize dayP D.1 (s.extract (s.size - 9) s.size) = E
    cases hd : D.2
    · rw [if_neg (by decide), read_f, Option.bind_some, Bool.false_and]
    · rw [if_pos rfl, read_f, Option.bind_some, Bool.true_and]
  by_cases h1 : s.size = 10
  · rw [if_pos (by omega), if_pos (.inl h1)]
    exact hgo (.inl h1)
  · rw [if_neg (by omega)]
    by_cases h2 : s.size = 11
    · rw [if_pos (.inr h2), show (((s.size : Int) - 9) != 2) = false from by rw [bne_eq_false_iff_eq]; omega]
      exact hgo (.inr h2)
    · rw [if_neg (by omega), show (((s.size : Int) - 9) != 2) = true from by rw [bne_iff_ne]; omega]
      simp only [moment_ReadDay.j0]
      rw [if_pos trivial, read_f]
      rfl
theorem readDay_ref (k : Nat) (hk : 80 ≤ k) (s : ByteArray) (hs : s.size ≤ 140737488351232) : postbagref2_ReadDay.f k s = some (readDayP s) := by
  obtain ⟨k, rfl⟩ : ∃ q, k = q + 1 := ⟨k - 1, by omega⟩
  have hw : wrap64 ((s.size : Int) - 9) = (s.size : Int) - 9 := w64 _ (by omega) (by omega)
  unfold postbagref2_ReadDay.f readDayP
  rw [hw]
  by_cases h1 : s.size = 10 ∨ s.size = 11
  · rw [if_neg (by omega), if_pos h1, show decide ((s.size : Int) - 9 > 2) = false from decide_eq_false (by omega)]
    simp only [postbagref2_ReadDay.j0]
    have e1 : (s.extract 0 (s.size - 9)).size ≤ 4 := by rw [ByteArray.size_extract]; omega
    rw [if_neg (by decide), if_pos (by omega), if_pos (by omega), show ((s.size : Int) - 9).toNat = s.size - 9 from by omega, day_ref k (by omega) _ _ e1, Option.bind_some]
    generalize s.extract 0 (s.size - 9) = A
    generalize s.extract (s.size - 9) s.size = B
    unfold dayP
    by_cases hc : B.size = 9 ∧ bt B 0 = 45 ∧ bt B 4 = 45
    · rw [if_pos hc, if_pos hc, told_f k (by omega), Option.bind_some]
    · rw [if_neg hc, if_neg hc, told_f k (by omega), Option.bind_some, Bool.and_false, toldP_no]
  · rw [if_neg h1]
    by_cases h2 : (s.size : Int) - 9 < 1
    · rw [if_pos h2]
      simp only [postbagref2_ReadDay.j0]
      rw [if_pos trivial]
    · rw [if_neg h2, show decide ((s.size : Int) - 9 > 2) = true from decide_eq_true (by omega)]
      simp only [postbagref2_ReadDay.j0]
      rw [if_pos trivial]
end Go.Proofs.YtjlchnmpebdggaaDoor.Mo
end
section
namespace Go.Proofs.YtjlchnmpebdggaaDoor.Mo
open Go.RowKit Go.Proofs.YtjlchnmpebdggaaDoorW.PrintWords
theorem str_app (l m : List Int) : strOfNums l ++ strOfNums m = strOfNums (l ++ m) := by
  apply ByteArray.ext
  apply Array.toList_inj.1
  rw [ByteArray.data_append, Array.toList_append, strOfNums_data, strOfNums_data, strOfNums_data, List.map_append]
def digP (n : Int) : ByteArray := strOfNums [48 + n]
theorem digP_size (n : Int) : (digP n).size = 1 := rfl
theorem dig_open (n : Int) (h0 : 0 ≤ n) : strOfNums [(wrap64 (48 + (Int.tmod n 10))) % 256] = digP (n % 10) := by
  rw [Int.tmod_eq_emod_of_nonneg h0, w64 (48 + n % 10) (by omega) (by omega), Int.emod_eq_of_lt (by omega) (by omega)]
  rfl
theorem twoP_dig (n : Int) (h0 : 0 ≤ n) (h1 : n ≤ 99) : twoP n = digP (n / 10) ++ digP (n % 10) := by
  unfold twoP digP
  rw [str_app, Int.tmod_eq_emod_of_nonneg h0, Int.tdiv_eq_ediv_of_nonneg h0, w64 (n / 10) (by omega) (by omega), w64 (48 + n / 10) (by omega) (by omega), w64 (48 + n % 10) (by omega) (by omega), Int.emod_eq_of_lt (by omega) (by omega), Int.emod_eq_of_lt (by omega) (by omega)]
  rfl
theorem text_more (k : Nat) (n least : Int) (s : ByteArray) (h0 : 0 ≤ n) (h1 : n ≤ 1000000) (hs : s.size ≤ 1000000) (hm : 0 < n ∨ (s.size : Int) < least) :
    postbagref2_text.l0 (k + 1) n least s = postbagref2_text.l0 k (n / 10) least (digP (n % 10) ++ s) := by
  simp only [postbagref2_text.l0, Option.bind_some]
  rw [dig_open n h0, Int.tdiv_eq_ediv_of_nonneg h0, w64 (n / 10) (by omega) (by omega), digP_size]
  by_cases h : n > 0
  · rw [if_pos h, if_pos (by omega)]
  · rw [if_neg h, if_pos (by omega), if_pos (by omega)]
theorem text_end (k : Nat) (least : Int) (s : ByteArray) (hm : least ≤ (s.size : Int)) : postbagref2_text.l0 (k + 1) 0 least s = some s := by
  simp only [postbagref2_text.l0]
  rw [if_neg (by omega), if_neg (by omega)]
theorem empty_size : (⟨#[]⟩ : ByteArray).size = 0 := rfl
theorem app_empty (s : ByteArray) : s ++ (⟨#[]⟩ : ByteArray) = s := by
  apply ByteArray.ext
  rw [ByteArray.data_append]
  exact Array.append_empty
theorem text_one (k : Nat) (hk : 10 ≤ k) (n : Int) (h0 : 1 ≤ n) (h1 : n ≤ 99) : postbagref2_text.f k n 1 = some (plainP n) := by
  obtain ⟨k, rfl⟩ : ∃ q, k = q + 3 := ⟨k - 3, by omega⟩
  unfold postbagref2_text.f
  have s1 : (digP (n % 10) ++ (⟨#[]⟩ : ByteArray)).size = 1 := by rw [app_empty, digP_size]
  rw [text_more (k + 2) n 1 _ (by omega) (by omega) (by rw [empty_size]; omega) (.inl (by omega))]
  have hb : bt (twoP n) 0 = 48 + n / 10 := by
    rw [twoP_dig n (by omega) h1]
    unfold digP
    rw [str_app]
    have h9 : n / 10 = 0 ∨ n / 10 = 1 ∨ n / 10 = 2 ∨ n / 10 = 3 ∨ n / 10 = 4 ∨ n / 10 = 5 ∨ n / 10 = 6 ∨ n / 10 = 7 ∨ n / 10 = 8 ∨ n / 10 = 9 := by omega
    rcases h9 with h | h | h | h | h | h | h | h | h | h <;> rw [h] <;> rfl
  unfold plainP
  rw [hb]
  by_cases hn : n / 10 = 0
  · rw [hn, text_end (k + 1) 1 _ (by rw [s1]; omega), if_pos (by omega), app_empty, twoP_dig n (by omega) h1]
    congr 1
  · rw [text_more (k + 1) (n / 10) 1 _ (by omega) (by omega) (by omega) (.inl (by omega)), show n / 10 / 10 = 0 from by omega, show n / 10 % 10 = n / 10 from by omega,
      text_end k 1 _ (by rw [ByteArray.size_append, s1, digP_size]; omega), if_neg (by omega), app_empty, twoP_dig n (by omega) h1]
theorem text_four (k : Nat) (hk : 10 ≤ k) (n : Int) (h0 : 0 ≤ n) (h1 : n ≤ 9999) : postbagref2_text.f k n 4 = some (fourP n) := by
  obtain ⟨k, rfl⟩ : ∃ q, k = q + 5 := ⟨k - 5, by omega⟩
  unfold postbagref2_text.f
  have s1 : (digP (n % 10) ++ (⟨#[]⟩ : ByteArray)).size = 1 := by rw [app_empty, digP_size]
  have s2 : (digP (n / 10 % 10) ++ (digP (n % 10) ++ (⟨#[]⟩ : ByteArray))).size = 2 := by rw [ByteArray.size_append, s1, digP_size]
  have s3 : (digP (n / 10 / 10 % 10) ++ (digP (n / 10 % 10) ++ (digP (n % 10) ++ (⟨#[]⟩ : ByteArray)))).size = 3 := by rw [ByteArray.size_append, s2, digP_size]
  rw [text_more (k + 4) n 4 _ h0 (by omega) (by rw [empty_size]; omega) (.inr (by rw [empty_size]; omega)),
    text_more (k + 3) (n / 10) 4 _ (by omega) (by omega) (by omega) (.inr (by omega)),
    text_more (k + 2) (n / 10 / 10) 4 _ (by omega) (by omega) (by omega) (.inr (by omega)),
    text_more (k + 1) (n / 10 / 10 / 10) 4 _ (by omega) (by omega) (by omega) (.inr (by omega)),
    show n / 10 / 10 / 10 / 10 = 0 from by omega, text_end k 4 _ (by rw [ByteArray.size_append, s3, digP_size]; omega), app_empty]
  unfold fourP
  rw [Int.tdiv_eq_ediv_of_nonneg h0, Int.tmod_eq_emod_of_nonneg h0, w64 (n / 100) (by omega) (by omega), twoP_dig (n / 100) (by omega) (by omega), twoP_dig (n % 100) (by omega) (by omega),
    show n / 100 / 10 = n / 10 / 10 / 10 % 10 from by omega, show n / 100 % 10 = n / 10 / 10 % 10 from by omega, show n % 100 / 10 = n / 10 % 10 from by omega, show n % 100 % 10 = n % 10 from by omega]
  simp only [ByteArray.append_assoc]
def largeM : ByteArray := ⟨#[74, 97, 110, 70, 101, 98, 77, 97, 114, 65, 112, 114, 77, 97, 121, 74, 117, 110, 74, 117, 108, 65, 117, 103, 83, 101, 112, 79, 99, 116, 78, 111, 118, 68, 101, 99]⟩
theorem large_month (m : Int) (h1 : 1 ≤ m) (h2 : m ≤ 12) : largeM.extract ((wrap64 ((wrap64 (3 * m)) - 3)) : Int).toNat ((wrap64 (3 * m)) : Int).toNat = monthL.getD (m - 1).toNat ⟨#[]⟩ := by
  rw [w64 (3 * m) (by omega) (by omega), w64 (3 * m - 3) (by omega) (by omega)]
  rcases month_cases h1 h2 with rfl | rfl | rfl | rfl | rfl | rfl | rfl | rfl | rfl | rfl | rfl | rfl <;> (apply ByteArray.ext; apply Array.toList_inj.1; rfl)
theorem month_getD_size (m : Int) (h1 : 1 ≤ m) (h2 : m ≤ 12) : (monthL.getD (m - 1).toNat ⟨#[]⟩).size = 3 := month_size _ (by omega)
end Go.Proofs.YtjlchnmpebdggaaDoor.Mo
end
section
namespace Go.Proofs.YtjlchnmpebdggaaDoor.Mo
open Go.RowKit Go.Proofs.YtjlchnmpebdggaaDoorW.PrintWords
def printDayP (y m d : Int) : ByteArray × Int := if isDayB y m d = true then (plainP d ++ dashP y m, 0) else (⟨#[]⟩, 21)
theorem printDay_f (y m d h mi s z : Int) : moment_PrintDay.f y m d h mi s z = some (printDayP y m d) := by
  unfold moment_PrintDay.f printDayP
  rw [isDay_f, Option.bind_some]
  by_cases hd : isDayB y m d = true
  · obtain ⟨a1, a2, a3, a4, a5, a6⟩ := (isDay_iff _ _ _).1 hd
    have hp := plainP_size d
    have hs := dashP_size y m a3 a4
    rw [if_pos hd, if_pos hd, plain_f, Option.bind_some]
    unfold moment_dashed.f
    rw [if_pos ⟨a3, a4⟩, Option.bind_some, if_pos (by omega)]
  · rw [if_neg hd, if_neg hd]
theorem printDay_ref (k : Nat) (hk : 20 ≤ k) (y m d h mi s z : Int) : postbagref2_PrintDay.f k y m d h mi s z = some (printDayP y m d) := by
  unfold postbagref2_PrintDay.f printDayP
  rw [isDay_ref k (by omega), Option.bind_some]
  by_cases hd : isDayB y m d = true
  · obtain ⟨a1, a2, a3, a4, a5, a6⟩ := (isDay_iff _ _ _).1 hd
    have hl := length_range y m a3 a4
    have hp := plainP_size d
    have hM := large_month m a3 a4
    unfold largeM at hM
    have hm3 := month_getD_size m a3 a4
    have e1 : (⟨#[45]⟩ : ByteArray).size = 1 := rfl
    have w1 : wrap64 (3 * m) = 3 * m := w64 _ (by omega) (by omega)
    have w2 : wrap64 (3 * m - 3) = 3 * m - 3 := w64 _ (by omega) (by omega)
    rw [if_pos hd, if_pos hd, text_one k (by omega) d a5 (by omega), Option.bind_some, if_pos (by omega), hM, text_four k (by omega) y (by omega) a2]
    generalize hmn : monthL.getD (m - 1).toNat ⟨#[]⟩ = mn at *
    have h4 := fourP_size y
    have hdash : dashP y m = (⟨#[45]⟩ : ByteArray) ++ mn ++ (⟨#[45]⟩ : ByteArray) ++ fourP y := by unfold dashP; rw [hmn]
    rw [hdash]
    generalize plainP d = pd at *
    generalize fourP y = fy at *
    rw [w1, w2, if_pos (by omega), if_pos (by omega), if_pos (by omega), if_pos (by rw [ByteArray.size_append]; omega), if_pos (by rw [ByteArray.size_append, ByteArray.size_append]; omega), Option.bind_some,
      if_pos (by rw [ByteArray.size_append, ByteArray.size_append, ByteArray.size_append]; omega)]
    simp only [ByteArray.append_assoc]
  · rw [if_neg hd, if_neg hd]
theorem day_true (k : Nat) (hk : 80 ≤ k) (s : ByteArray) (hs : s.size ≤ 140737488351232) (y m d h mi se z : Int) : postbaglaw2_day.f k s y m d h mi se z = some true := by
  unfold postbaglaw2_day.f
  rw [readDay_f k (by omega) s hs, Option.bind_some, readDay_ref k hk s hs, Option.bind_some, printDay_f, Option.bind_some, printDay_ref k (by omega), Option.bind_some]
  generalize readDayP s = R
  generalize printDayP y m d = Q
  rw [if_pos (by simp)]
  unfold postbaglaw2_num.f
  rw [Option.bind_some, if_pos rfl, if_pos rfl, Option.bind_some]
  simp
theorem days_true (k : Nat) (hk : 80 ≤ k) (s t : ByteArray) (hs : s.size ≤ 140737488351232) (ht : t.size ≤ 140737488351232) (y m d h mi se z : Int) : postbaglaw2_MomentDays.f k s y m d h mi se z t = some true := by
  unfold postbaglaw2_MomentDays.f postbaglaw2_known.f
  rw [Option.bind_some, if_pos rfl, day_true k hk s hs, Option.bind_some, if_pos rfl, day_true k hk t ht, Option.bind_some, if_pos rfl, Option.bind_some]
end Go.Proofs.YtjlchnmpebdggaaDoor.Mo
end
section
namespace Go.Proofs.YtjlchnmpebdggaaDoor.Pure
open Go.Proofs.YtjlchnmpebdggaaDoor.Mo
theorem MomentDays (a : ByteArray) (x : S23) (b : ByteArray) {P : Prop} (ha : a.size ≤ 140737488351232) (_ : P) (hb : b.size ≤ 140737488351232) : ∃ k, postbaglaw2_MomentDays.f k a x.f0 x.f1 x.f2 x.f3 x.f4 x.f5 x.f6 b = some true :=
  ⟨80, days_true 80 (by decide) a b ha hb _ _ _ _ _ _ _⟩
end Go.Proofs.YtjlchnmpebdggaaDoor.Pure
end
section
namespace Go.Proofs.YtjlchnmpebdggaaDoor.Mo
open Go.ChangeShapes Go.WideShapes Go.ChangeAt Go.RowKit
theorem gLengths : Tryd.prog.globalNamed "postbag/moment.lengths" = some 0 := by kernel_rfl
theorem tLengths : (Tryd.prog.globals[0]?).map (·.type) = some 86 := by kernel_rfl
theorem door_met (os : Os) (args : Array Value) : laidMetH Tryd.prog [("postbag/moment.lengths", Rows.laid_postbag_moment_lengths)] ((World.doorLaid Tryd.prog 400 os).forCall (fun _ _ => 0) ⟨#[], args, []⟩).memory :=
  laidMetH_of_parts3 (fuel := 8) (laidMet_of_run' 8 (by kernel_rfl) (by kernel_rfl)) (by kernel_rfl) (by kernel_rfl)
theorem of_laid {W : World} (h : laidMetH Tryd.prog [("postbag/moment.lengths", Rows.laid_postbag_moment_lengths)] W) : Laid W := by
  rw [MakeChecks.laidMetH_plain _ _ _ (by kernel_rfl)] at h
  obtain ⟨ps, ⟨g1, t1, cs1, f1, p1, q1, hg1, ht1, hv1, hd1, _, _⟩, _, _⟩ := h
  obtain rfl := Option.some.inj (gLengths.symm.trans hg1)
  obtain rfl := Option.some.inj (tLengths.symm.trans ht1)
  obtain ⟨xs, m1, rfl, hx1, hlen, hn3, hel⟩ := DataW.trod_array Tryd.underlying86 hd1
  have c3 : Tryd.prog.cellsOf 3 = 1 := by kernel_rfl
  simp only [Prod.mk.injEq, Rows.laid_postbag_moment_lengths, DataW.agg.injEq] at hx1
  have hcell : ∀ j, j < 12 → W.cell? ⟨0, j, none⟩ = some (.int .i64 (monthDays.getD j 0)) := by
    intro j hj
    have hj1 : j < xs.length := by omega
    have he := hel j hj
    rw [List.getElem?_eq_getElem hj1] at he
    obtain ⟨k, e1, e2, _⟩ := DataW.trod_int Tryd.underlying3 he
    have e3 : (xs.map (·.1))[j]? = some (.lit (.int .i64 k)) := by rw [List.getElem?_map, List.getElem?_eq_getElem hj1, e2]; rfl
    rw [← hx1.1] at e3
    have hk : k = monthDays.getD j 0 := by
      have hc : j = 0 ∨ j = 1 ∨ j = 2 ∨ j = 3 ∨ j = 4 ∨ j = 5 ∨ j = 6 ∨ j = 7 ∨ j = 8 ∨ j = 9 ∨ j = 10 ∨ j = 11 := by omega
      rcases hc with rfl | rfl | rfl | rfl | rfl | rfl | rfl | rfl | rfl | rfl | rfl | rfl <;> (simp at e3; rw [← e3]; rfl)
    rw [World.var?_cell hg1 hv1 j]
    rw [c3, Nat.mul_one] at e1
    have e4 : (cs1.toList.drop j)[0]? = some (.int .i64 k) := by
      have := congrArg (fun l => l[0]?) e1
      simpa [List.getElem?_take] using this
    rw [List.getElem?_drop, Nat.add_zero, Array.getElem?_toList] at e4
    rw [e4, hk]
  refine ⟨?_, hcell⟩
  have := hcell 0 (by omega)
  exact World.block_lt_of_cell? W ⟨0, 0, none⟩ this
end Go.Proofs.YtjlchnmpebdggaaDoor.Mo
end
